/- Contracts of the functions that draw a statement's inputs out of its code: whatever they are, they lie in memory of the call's own. -/
import Derived.Test.YtopccpnkokdmiaaDrawC
import Derived.Test.YtopccpnkokdmiaaCopy
import Derived.Test.YtopccpnkokdmiaaDrawL
import Derived.Test.YtopccpnkokdmiaaStretch
namespace Go.Proofs.Ytopccpnkokdmiaa
open Go.RowKit
set_option linter.unusedVariables false
set_option linter.unusedSimpArgs false

theorem wf_u8_bounds {n : Int} (h : (Lit.int .u8 n).wf = true) : 0 ≤ n ∧ n ≤ 255 := by
  simpa [Lit.wf, IntKind.min, IntKind.max, IntKind.signed, IntKind.bits] using h
theorem rd8_of_isRow {w : World} {a : Option Addr} {len cap : Nat} {zs : List Int} (h : IsRow .u8 w a len cap zs) : Rd8 w a len cap (zs.take len) := by
  rcases h with ⟨rfl, rfl, rfl, rfl⟩ | ⟨x, rfl, hl, hm, hz, hcell, hwz⟩
  · exact ⟨rfl, Nat.le_refl _, by simp [maxLen], fun j => by simp [nth], fun h => absurd h (by omega)⟩
  · refine ⟨by rw [List.length_take]; omega, hl, hm, fun j => ?_, fun hn => ?_⟩
    · by_cases hj : j < (zs.take len).length
      · exact wf_u8_bounds (hwz _ (List.mem_of_mem_take (nth_mem hj)))
      · rw [nth_out (by omega)]; omega
    obtain ⟨b, off, spot⟩ := x
    have hc := hcell 0 (by omega)
    have hspot : spot = none := by simpa [Addr.add] using World.cell?_spot hc
    subst hspot
    refine ⟨b, off, rfl, fun j hj => ?_⟩
    have hcj := hcell j (by omega)
    rw [nth_take zs len j hj]
    rw [show (⟨b, off, none⟩ : Addr).add j = ⟨b, off + j, none⟩ from ?_] at hcj
    · exact hcj
    · unfold Addr.add
      split
      · rename_i h0
        subst h0
        rfl
      · rfl
theorem from_d (A : Option Addr) (n c : Nat) (bs : List Int) (w : World) (h : Rd8 w A n c bs) (hn : n ≤ 4096) :
    Calls Try.prog 118 #[.slice A n c] w fun e w' => ∃ g, e = .returned (.pointer (some ⟨g, 0, none⟩)) ∧ w.heap.size ≤ g ∧ Sd w' g A n c bs ∧ Below w.heap.size w w' :=
  (l01From_any A n c bs w h hn).mono fun _ _ ⟨g, he, hg, hs, hb⟩ => ⟨g, he, hg, ⟨h.below hb, hs⟩, hb⟩
theorem below_src {w w1 w2 : World} {g : Nat} (h : Below w.heap.size w w1) (hg : w1.grownBy w2 (some g)) (hl : w.heap.size ≤ g) : Below w.heap.size w w2 :=
  h.grown hg h.size (fun k hk => by simp at hk; omega)
/-- a list comes out -/
def OutL (w : World) (most : Nat) (e : Ending) (w' : World) : Prop :=
  ∃ (A' : Option Addr) (m c' : Nat) (zs : List Int), e = .returned (.slice A' m c') ∧ m ≤ most ∧ Own w' w.heap.size A' m c' zs ∧ Below w.heap.size w w'
/-- a list and a number come out -/
def OutLN (w : World) (most : Nat) (e : Ending) (w' : World) : Prop :=
  ∃ (A' : Option Addr) (m c' : Nat) (zs : List Int) (x : Int), e = .returned (.tuple #[.slice A' m c', .int .i64 x]) ∧ m ≤ most ∧ (-9223372036854775808 ≤ x ∧ x ≤ 9223372036854775807) ∧ Own w' w.heap.size A' m c' zs ∧ Below w.heap.size w w'
def OutNL (w : World) (most : Nat) (e : Ending) (w' : World) : Prop :=
  ∃ (A' : Option Addr) (m c' : Nat) (zs : List Int) (x : Int), e = .returned (.tuple #[.int .i64 x, .slice A' m c']) ∧ m ≤ most ∧ (-9223372036854775808 ≤ x ∧ x ≤ 9223372036854775807) ∧ Own w' w.heap.size A' m c' zs ∧ Below w.heap.size w w'
def OutN (w : World) (e : Ending) (w' : World) : Prop :=
  ∃ (x : Int), e = .returned (.int .i64 x) ∧ (-9223372036854775808 ≤ x ∧ x ≤ 9223372036854775807) ∧ Below w.heap.size w w'
/-- two lists come out -/
def OutLL (w : World) (most : Nat) (e : Ending) (w' : World) : Prop :=
  ∃ (A' : Option Addr) (m c' : Nat) (zs : List Int) (B' : Option Addr) (l d' : Nat) (ys : List Int), e = .returned (.tuple #[.slice A' m c', .slice B' l d']) ∧ m ≤ most ∧ l ≤ most ∧ Own w' w.heap.size A' m c' zs ∧ Own w' w.heap.size B' l d' ys ∧ Below w.heap.size w w'

theorem likeInts_any (A B : Option Addr) (n m c d : Nat) (xs ys : List Int) (w : World) (hx : Rd w A n c xs) (hy : Rd w B m d ys) :
    Calls Try.prog 71 #[.slice A n c, .slice B m d] w fun e w' => e = .returned (.bool (eqB xs ys)) ∧ ∃ k, w' = w.drewN k := by
  have hlx := hx.le
  have hly := hy.le
  have hcx := hx.cap
  have hcy := hy.cap
  by_cases hnm : n = m
  · subst hnm
    have t1 : ((n : Int) != (n : Int)) = false := by simp
    go_enter Try.func71, Try.ntmps71
    go_wp2
    go_loopw [5] (fun i wr => ∃ k r : Nat, k ≤ n ∧ i = .int .i64 k ∧ wr = w.drewN r ∧ Hid (xs.take k = ys.take k)) (fun i _ => n - (intOf i).toNat)
    case atStart => exact ⟨0, 0, Nat.zero_le _, rfl, rfl, rfl⟩
    case round =>
      obtain ⟨k, r, hk, rfl, rfl, hh⟩ := hrel
      by_cases hlt : k < n
      · obtain ⟨b, off, rfl, hb, hc⟩ := hx.at_ (by omega)
        obtain ⟨b', off', rfl, hb', hc'⟩ := hy.at_ (by omega)
        have hck := hc k hlt
        have hck' := hc' k hlt
        have z1 : (0 : Int) ≤ (k : Int) := by omega
        have z2 : (k : Int) < (n : Int) := by omega
        clear hc hc'
        by_cases he : nth xs k = nth ys k
        · have ht : (nth xs k != nth ys k) = false := by simp [he]
          have hstep : Hid (xs.take (k + 1) = ys.take (k + 1)) := by
            show _ = _
            rw [take_snoc xs k (by omega), take_snoc ys k (by omega), hh.out, he]
          clear he
          go_wp2
          go_quiet (fail)
          go_wp2
          go_roundw
          case rel => exact ⟨k + 1, _, by omega, by go_num, rfl, hstep⟩
          case measure => simp [intOf]; omega
        · have ht : (nth xs k != nth ys k) = true := by simp [he]
          have hfin : Hid (eqB xs ys = false) := eqB_no (fun e => he (by rw [e]))
          clear he
          go_wp2
          go_quiet (fail)
          go_wp2
          go_ret
          exact ⟨ret_bool hfin.out.symm, _, by first | rfl | exact World.drewN_drewN _ _ _⟩
      · obtain rfl : k = n := by omega
        have hfin : Hid (eqB xs ys = true) := by
          have e := hh.out
          rw [List.take_of_length_le (by omega), List.take_of_length_le (by omega)] at e
          exact eqB_yes e
        clear hh
        go_wp2
        go_ret
        exact ⟨ret_bool hfin.out.symm, _, rfl⟩
  · have t1 : ((n : Int) != (m : Int)) = true := by simp; omega
    have hfin : Hid (eqB xs ys = false) := eqB_no (fun e => hnm (by have := congrArg List.length e; omega))
    clear hnm
    go_enter Try.func71, Try.ntmps71
    go_wp2
    go_ret
    exact ⟨ret_bool hfin.out.symm, 0, rfl⟩
theorem likeInts_b (A B : Option Addr) (n m c d : Nat) (xs ys : List Int) (w : World) (hx : Rd w A n c xs) (hy : Rd w B m d ys) :
    Calls Try.prog 71 #[.slice A n c, .slice B m d] w fun e w' => e = .returned (.bool (eqB xs ys)) ∧ Below w.heap.size w w' :=
  (likeInts_any A B n m c d xs ys w hx hy).mono fun _ _ ⟨he, k, hk⟩ => ⟨he, by rw [hk]; exact below_drewN (Below.refl _ _) _⟩
theorem big_any (A : Option Addr) (n c : Nat) (bs : List Int) (w : World) (h : Rd8 w A n c bs) :
    Calls Try.prog 67 #[.slice A n c] w fun e w' => e = .returned (.bool (decide (4096 < n))) ∧ w = w' := by
  have hc := h.cap
  go_enter Try.func67, Try.ntmps67
  by_cases hb : 4096 < n
  · have t : decide (4096 < n) = true := by simpa using hb
    go_wp2
    go_ret
    exact ⟨by simp [go_sem, t]; omega, rfl⟩
  · have t : decide (4096 < n) = false := by simpa using hb
    go_wp2
    go_ret
    exact ⟨by simp [go_sem, t]; omega, rfl⟩
theorem DrawVoteEdges_d (A : Option Addr) (n c : Nat) (bs : List Int) (w : World) (h : Rd8 w A n c bs) (hn : n ≤ 4096) :
    Calls Try.prog 69 #[.slice A n c] w (OutL w 1048576) := by
  go_enter Try.func69, Try.ntmps69
  go_wp2_with fail
  refine (from_d _ _ _ _ _ h hn).mono ?_
  rintro e w1 ⟨g, rfl, hg, h1, b1⟩
  go_wp2_with fail
  refine (l21Draw_d _ _ _ _ _ _ h1).mono ?_
  rintro e w2 ⟨A2, m2, c2, zs, rfl, hm2, own2, h2, g2⟩
  go_wp2_with fail
  go_ret
  exact ⟨_, _, _, _, rfl, hm2, own2.mono b1.size, below_src b1 g2 hg⟩
theorem DrawOnesInWindow_d (A : Option Addr) (n c : Nat) (bs : List Int) (w : World) (h : Rd8 w A n c bs) (hn : n ≤ 4096) :
    Calls Try.prog 68 #[.slice A n c] w (OutLN w 1048576) := by
  go_enter Try.func68, Try.ntmps68
  go_wp2_with fail
  refine (from_d _ _ _ _ _ h hn).mono ?_
  rintro e w1 ⟨g, rfl, hg, h1, b1⟩
  go_wp2_with fail
  refine (l21Draw_d _ _ _ _ _ _ h1).mono ?_
  rintro e w2 ⟨A2, m2, c2, zs, rfl, hm2, own2, h2, g2⟩
  go_wp2_with fail
  refine (next_d _ _ _ _ _ _ _ h2).mono ?_
  rintro e w3 ⟨x, rfl, x0, x1, h3, g3⟩
  have xm : x < (m2 : Int) + 1 := x1 (by omega)
  clear x1
  go_wp2_with fail
  refine (next_d _ _ _ _ _ _ _ h3).mono ?_
  rintro e w4 ⟨y, rfl, y0, y1, h4, g4⟩
  have ym : y < 20 := y1 (by omega)
  clear y1
  go_wp2_with fail
  go_ret2
  exact ⟨_, _, _, _, _, rfl, hm2, by omega, ((own2.mono b1.size).next h2 g3).next h3 g4, below_src b1 (grown_trans (grown_trans g2 g3) g4) hg⟩
theorem DrawVoteSamples_d (A : Option Addr) (n c : Nat) (bs : List Int) (w : World) (h : Rd8 w A n c bs) (hn : n ≤ 4096) :
    Calls Try.prog 70 #[.slice A n c] w (OutL w 1048576) := by
  go_enter Try.func70, Try.ntmps70
  go_wp2_with fail
  refine (from_d _ _ _ _ _ h hn).mono ?_
  rintro e w1 ⟨g, rfl, hg, h1, b1⟩
  go_wp2_with fail
  refine (l21Draw_d _ _ _ _ _ _ h1).mono ?_
  rintro e w2 ⟨A2, m2, c2, zs, rfl, hm2, own2, h2, g2⟩
  go_wp2_with fail
  go_ret
  exact ⟨_, _, _, _, rfl, by omega, own2.mono b1.size, below_src b1 g2 hg⟩
theorem DrawFallingEdges_d (A : Option Addr) (n c : Nat) (bs : List Int) (w : World) (h : Rd8 w A n c bs) (hn : n ≤ 4096) :
    Calls Try.prog 87 #[.slice A n c] w (OutL w 1048576) := by
  go_enter Try.func87, Try.ntmps87
  go_wp2_with fail
  refine (from_d _ _ _ _ _ h hn).mono ?_
  rintro e w1 ⟨g, rfl, hg, h1, b1⟩
  go_wp2_with fail
  refine (l21Draw_d _ _ _ _ _ _ h1).mono ?_
  rintro e w2 ⟨A2, m2, c2, zs, rfl, hm2, own2, h2, g2⟩
  go_wp2_with fail
  go_ret
  exact ⟨_, _, _, _, rfl, by omega, own2.mono b1.size, below_src b1 g2 hg⟩
theorem DrawRunLengths_d (A : Option Addr) (n c : Nat) (bs : List Int) (w : World) (h : Rd8 w A n c bs) (hn : n ≤ 4096) :
    Calls Try.prog 72 #[.slice A n c] w (OutL w 1048576) := by
  go_enter Try.func72, Try.ntmps72
  go_wp2_with fail
  refine (from_d _ _ _ _ _ h hn).mono ?_
  rintro e w1 ⟨g, rfl, hg, h1, b1⟩
  go_wp2_with fail
  refine (l01DrawBits_d _ _ _ _ _ _ _ h1 (by omega) (by omega)).mono ?_
  rintro e w2 ⟨A2, m2, c2, zs, rfl, hm2, own2, h2, g2⟩
  go_wp2_with fail
  go_ret
  exact ⟨_, _, _, _, rfl, by omega, own2.mono b1.size, below_src b1 g2 hg⟩
set_option maxHeartbeats 1600000 in
theorem DrawFromRuns_d (A : Option Addr) (n c : Nat) (bs : List Int) (w : World) (h : Rd8 w A n c bs) (hn : n ≤ 4096) :
    Calls Try.prog 73 #[.slice A n c] w (OutNL w 1048576) := by
  go_enter Try.func73, Try.ntmps73
  go_wp2_with fail
  refine (from_d _ _ _ _ _ h hn).mono ?_
  rintro e w1 ⟨g, rfl, hg, h1, b1⟩
  have hu := hide h1.1.under
  have HB := hide b1
  have hl := h1.lt
  go_wp2_with fail
  refine (next_d _ _ _ _ _ _ _ (h1.below ((Below.refl _ _).alloc (Nat.le_refl _) _))).mono ?_
  rintro e w2 ⟨x, rfl, x0, x1, h2, g2⟩
  have xm : x < 7 := x1 (by omega)
  have G2 := hide (grown_trans (grown_alloc w1 _ _) g2)
  have O2 := hide ((Own.empty w1 (Nat.le_refl _)).next (h1.below ((Below.refl _ _).alloc (Nat.le_refl _) _)) g2)
  clear x1 g2 h1 b1
  go_wp2_with fail
  go_loopw [5, 6] (fun s i wr => ∃ (k : Nat) (j : Int) (A' : Option Addr) (c' : Nat) (zs : List Int), s = .slice A' k c' ∧ i = .int .i64 j ∧ 0 ≤ j ∧ (k : Int) + j ≤ 7 ∧ Own wr w1.heap.size A' k c' zs ∧ Sd wr g A n c bs ∧ w1.grownBy wr (some g)) (fun _ i _ => (intOf i).toNat)
  case atStart => exact ⟨0, x, _, _, _, rfl, rfl, x0, by omega, O2.out, h2, G2.out⟩
  case round =>
    obtain ⟨k, j, A', c', zs, rfl, rfl, hj0, hj, hown, hsd, hg2⟩ := hrel
    by_cases hlt : 0 < j
    · go_wp2_with fail
      refine (next_d _ _ _ _ _ _ _ hsd).mono ?_
      rintro e w3 ⟨y, rfl, y0, y1, h3, g3⟩
      have ym : y < 12 := y1 (by omega)
      have o3 := hown.next hsd g3
      have g4 := grown_trans hg2 g3
      have hsz : w1.heap.size ≤ w3.heap.size := g4.size
      clear y1 g3 hown hsd hg2 h2
      go_wp2_with (at_builtin; refine append_new rfl _ _ rfl w1.heap.size rfl o3 _ [1 + y] 1 rfl (I64.one (by omega) (by omega)) rfl rfl (by omega) hsz ?_; intro A2 c2 w4 own4 gr4)
      have h4 := h3.own hu.out o3 gr4
      have g5 := grown_own g4 o3 (Nat.le_refl _) gr4
      go_roundw
      case rel => exact ⟨k + 1, j - 1, A2, c2, _, rfl, rfl, by omega, by omega, own4, h4, g5⟩
      case measure => simp [intOf]; omega
    · go_wp2_with fail
      refine (next_d _ _ _ _ _ _ _ hsd).mono ?_
      rintro e w3 ⟨z, rfl, z0, z1, h3, g3⟩
      have o3 := hown.next hsd g3
      have g4 := grown_trans hg2 g3
      have hsz : w1.heap.size ≤ w3.heap.size := g4.size
      clear z1 g3 hown hsd hg2 h2
      by_cases e0 : z = 0
      · subst e0
        go_wp2_with fail
        refine (next_d _ _ _ _ _ _ _ (h3.below ((Below.refl _ _).alloc (Nat.le_refl _) _))).mono ?_
        rintro e w4 ⟨y, rfl, y0, y1, h4, g5⟩
        obtain ⟨y, rfl⟩ := Int.eq_ofNat_of_zero_le y0
        have ym : y < 4 := by have := y1 (by omega); omega
        have lit := (Own.lit w3 hsz #[.int .i64 0, .int .i64 (-1), .int .i64 8192, .int .i64 8193] [0, -1, 8192, 8193] rfl (by intro z hz; simp at hz; omega) 4 rfl (by omega)).next (h3.below ((Below.refl _ _).alloc (Nat.le_refl _) _)) g5
        have hcell := lit.cell (k := y) ym
        have hi := lit.i64.get y
        have o4 := (o3.alloc _).next (h3.below ((Below.refl _ _).alloc (Nat.le_refl _) _)) g5
        have g6 := grown_trans (grown_trans g4 (grown_alloc w3 _ _)) g5
        have hsz4 : w1.heap.size ≤ w4.heap.size := g6.size
        clear y1 g5 o3 h3 g4 lit hsz
        go_wp2_with (at_builtin; refine append_new rfl _ _ rfl w1.heap.size rfl o4 _ [nth [0, -1, 8192, 8193] y] 1 rfl (I64.one hi.1 hi.2) rfl rfl (by omega) hsz4 ?_; intro A2 c2 w5 own5 gr5)
        have h5 := h4.own hu.out o4 gr5
        have g7 := grown_own g6 o4 (Nat.le_refl _) gr5
        clear o4 h4 g6 gr5 hcell hi hsz4
        go_wp2_with fail
        refine (next_d _ _ _ _ _ _ _ h5).mono ?_
        rintro e w6 ⟨u, rfl, u0, u1, h6, g8⟩
        have um : u < 2 := u1 (by omega)
        clear u1
        go_wp2_with fail
        refine (next_d _ _ _ _ _ _ _ h6).mono ?_
        rintro e w7 ⟨v, rfl, v0, v1, h7, g9⟩
        have vm : v < 24 := v1 (by omega)
        clear v1
        go_wp2_with fail
        go_ret2
        exact ⟨_, _, _, _, _, rfl, by omega, by omega, ((own5.mono HB.out.size).next h5 g8).next h6 g9, below_src HB.out (grown_trans (grown_trans g7 g8) g9) hg⟩
      · have f0 : (z == 0) = false := by simpa using e0
        go_wp2_with fail
        refine (next_d _ _ _ _ _ _ _ h3).mono ?_
        rintro e w6 ⟨u, rfl, u0, u1, h6, g8⟩
        have um : u < 2 := u1 (by omega)
        clear u1
        go_wp2_with fail
        refine (next_d _ _ _ _ _ _ _ h6).mono ?_
        rintro e w7 ⟨v, rfl, v0, v1, h7, g9⟩
        have vm : v < 24 := v1 (by omega)
        clear v1
        go_wp2_with fail
        go_ret2
        exact ⟨_, _, _, _, _, rfl, by omega, by omega, ((o3.mono HB.out.size).next h3 g8).next h6 g9, below_src HB.out (grown_trans (grown_trans g4 g8) g9) hg⟩
set_option maxHeartbeats 800000 in
theorem DrawIdleSamples_d (A : Option Addr) (n c : Nat) (bs : List Int) (w : World) (h : Rd8 w A n c bs) (hn : n ≤ 4096) :
    Calls Try.prog 74 #[.slice A n c] w (OutN w) := by
  go_enter Try.func74, Try.ntmps74
  go_wp2_with fail
  refine (from_d _ _ _ _ _ h hn).mono ?_
  rintro e w1 ⟨g, rfl, hg, h1, b1⟩
  have HB := hide b1
  have hl := h1.lt
  clear b1
  go_wp2_with fail
  refine (next_d _ _ _ _ _ _ _ h1).mono ?_
  rintro e w2 ⟨x, rfl, x0, x1, h2, g2⟩
  have xm : x < 50 := x1 (by omega)
  clear x1
  go_wp2_with fail
  refine (next_d _ _ _ _ _ _ _ (h2.below ((Below.refl _ _).alloc (Nat.le_refl _) _))).mono ?_
  rintro e w4 ⟨y, rfl, y0, y1, h4, g5⟩
  obtain ⟨y, rfl⟩ := Int.eq_ofNat_of_zero_le y0
  have ym : y < 5 := by have := y1 (by omega); omega
  have lit := (Own.lit w2 (Nat.le_refl _) #[.int .i64 x, .int .i64 (-1), .int .i64 0, .int .i64 8192, .int .i64 8193] [x, -1, 0, 8192, 8193] rfl (by intro z hz; simp at hz; omega) 5 rfl (by omega)).next (h2.below ((Below.refl _ _).alloc (Nat.le_refl _) _)) g5
  have hcell := lit.cell (k := y) ym
  have hi := lit.i64.get y
  have G6 := hide (grown_trans (grown_trans g2 (grown_alloc w2 _ _)) g5)
  clear y1 g5 g2 lit
  go_wp2_with fail
  go_ret
  exact ⟨_, rfl, hi, below_src HB.out G6.out hg⟩
set_option maxHeartbeats 800000 in
theorem DrawStretchedSamples_d (A : Option Addr) (n c : Nat) (bs : List Int) (w : World) (h : Rd8 w A n c bs) (hn : n ≤ 4096) :
    Calls Try.prog 75 #[.slice A n c] w (OutLL w 1048576) := by
  go_enter Try.func75, Try.ntmps75
  go_wp2_with fail
  refine (from_d _ _ _ _ _ h hn).mono ?_
  rintro e w1 ⟨g, rfl, hg, h1, b1⟩
  have HB := hide b1
  have hl := h1.lt
  clear b1
  go_wp2_with fail
  refine (l18Draw_d _ _ _ _ _ _ h1).mono ?_
  rintro e w2 ⟨A2, m2, c2, zs, rfl, hm2, own2, h2, g2⟩
  go_wp2_with fail
  refine (next_d _ _ _ _ _ _ _ h2).mono ?_
  rintro e w3 ⟨z, rfl, z0, z1, h3, g3⟩
  have o3 := hide ((own2.mono HB.out.size).next h2 g3)
  have g4 := hide (grown_trans g2 g3)
  clear z1 own2 h2 g2 g3
  by_cases e0 : z = 0
  · subst e0
    go_wp2_with fail
    refine (next_d _ _ _ _ _ _ _ h3).mono ?_
    rintro e w4 ⟨y, rfl, y0, y1, h4, g5⟩
    obtain ⟨y, rfl⟩ := Int.eq_ofNat_of_zero_le y0
    have ym : y < 260 := by have := y1 (by omega); omega
    have e8 : (910 + (y : Int)) = ((910 + y : Nat) : Int) := by omega
    have hmk : ∀ W : World, (Instr.makeSlice 25 (.int .i64 (910 + (y : Int))) (.int .i64 (910 + (y : Int)))).run Try.prog W = .ok (.slice (some ⟨W.heap.size, 0, none⟩) (910 + y) (910 + y)) (W.alloc (.cells (madeCells #[.int .i64 0] (910 + y)) 2)) := by
      rw [e8]
      exact run_make_row' (P := Try.prog) 25 2 (.int .i64 0) 8 Try.underlying25 info_i64 rfl .i64 .i64 (910 + y) (by omega) (by omega)
    have g6 := hide (grown_trans g4.out g5)
    have hs : w.heap.size ≤ w4.heap.size := Nat.le_trans HB.out.size g6.out.size
    have om := hide ((Own.made w4 (n := 910 + y) (by omega)).mono hs)
    clear y1 e8 g5
    go_wp2_with fail
    refine (l20DrawWidths_d _ _ _ _ _ _ _ (h4.below ((Below.refl _ _).alloc (Nat.le_refl _) _)) (by omega) (by omega)).mono ?_
    rintro e w5 ⟨A5, m5, c5, ws, rfl, hm5, own5, h5, g7⟩
    have o5 := om.out.next (h4.below ((Below.refl _ _).alloc (Nat.le_refl _) _)) g7
    have g8 := grown_trans (grown_trans g6.out (grown_alloc w4 _ _)) g7
    clear hmk
    go_wp2_with fail
    go_ret2
    exact ⟨_, _, _, _, _, _, _, _, rfl, by omega, by omega, o5, own5.mono (by simp; omega), below_src HB.out g8 hg⟩
  · have f0 : (z == 0) = false := by simpa using e0
    go_wp2_with fail
    refine (l20DrawWidths_d _ _ _ _ _ _ _ h3 (by omega) (by omega)).mono ?_
    rintro e w5 ⟨A5, m5, c5, ws, rfl, hm5, own5, h5, g7⟩
    have o5 := o3.out.next h3 g7
    have hs : w.heap.size ≤ w3.heap.size := Nat.le_trans HB.out.size g4.out.size
    go_wp2_with fail
    go_ret2
    exact ⟨_, _, _, _, _, _, _, _, rfl, by omega, by omega, o5, own5.mono hs, below_src HB.out (grown_trans g4.out g7) hg⟩
theorem DrawSlipOf_d (A : Option Addr) (n c : Nat) (bs : List Int) (w : World) (h : Rd8 w A n c bs) (hn : n ≤ 4096) :
    Calls Try.prog 76 #[.slice A n c] w (OutL w 1048576) := by
  go_enter Try.func76, Try.ntmps76
  go_wp2_with fail
  refine (from_d _ _ _ _ _ h hn).mono ?_
  rintro e w1 ⟨g, rfl, hg, h1, b1⟩
  go_wp2_with fail
  refine (next_d _ _ _ _ _ _ _ h1).mono ?_
  rintro e w2 ⟨x, rfl, x0, x1, h2, g2⟩
  have xm : x < 20 := x1 (by omega)
  clear x1
  go_wp2_with fail
  refine (l20DrawWidths_d _ _ _ _ _ _ _ h2 (by omega) (by omega)).mono ?_
  rintro e w5 ⟨A5, m5, c5, ws, rfl, hm5, own5, h5, g7⟩
  go_wp2_with fail
  go_ret
  exact ⟨_, _, _, _, rfl, by omega, own5.mono (Nat.le_trans b1.size g2.size), below_src b1 (grown_trans g2 g7) hg⟩
theorem DrawMiddleSamples_d (A : Option Addr) (n c : Nat) (bs : List Int) (w : World) (h : Rd8 w A n c bs) (hn : n ≤ 4096) :
    Calls Try.prog 77 #[.slice A n c] w (OutL w 1048576) := by
  go_enter Try.func77, Try.ntmps77
  go_wp2_with fail
  refine (from_d _ _ _ _ _ h hn).mono ?_
  rintro e w1 ⟨g, rfl, hg, h1, b1⟩
  go_wp2_with fail
  refine (next_d _ _ _ _ _ _ _ h1).mono ?_
  rintro e w2 ⟨z, rfl, z0, z1, h2, g2⟩
  clear z1
  by_cases e0 : z = 0
  · subst e0
    go_wp2_with fail
    refine (l01DrawBits_d _ _ _ _ _ _ _ h2 (by omega) (by omega)).mono ?_
    rintro e w5 ⟨A5, m5, c5, ws, rfl, hm5, own5, h5, g7⟩
    go_wp2_with fail
    go_ret
    exact ⟨_, _, _, _, rfl, by omega, own5.mono (Nat.le_trans b1.size g2.size), below_src b1 (grown_trans g2 g7) hg⟩
  · have f0 : (z == 0) = false := by simpa using e0
    go_wp2_with fail
    refine (l18Draw_d _ _ _ _ _ _ h2).mono ?_
    rintro e w5 ⟨A5, m5, c5, ws, rfl, hm5, own5, h5, g7⟩
    go_wp2_with fail
    refine (sNominalSamples_c _ _ _ _ _ own5.rd (by omega)).mono ?_
    rintro e w6 ⟨A6, m6, c6, rfl, own6, bel6, hm6⟩
    go_wp2_with fail
    go_ret
    have g8 := grown_trans (grown_trans g2 g7) (grownBy_of_below bel6 (some g))
    exact ⟨_, _, _, _, rfl, by omega, own6.mono (Nat.le_trans b1.size (Nat.le_trans g2.size g7.size)), below_src b1 g8 hg⟩
end Go.Proofs.Ytopccpnkokdmiaa
