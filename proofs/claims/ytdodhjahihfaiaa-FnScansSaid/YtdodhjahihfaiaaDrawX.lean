/- Contracts of the functions that draw a statement's inputs out of its code: whatever they are, they lie in memory of the call's own. -/
import Derived.Test.YtdodhjahihfaiaaDrawC
import Derived.Test.YtdodhjahihfaiaaCopy
import Derived.Test.YtdodhjahihfaiaaDrawL
namespace Go.Proofs.Ytdodhjahihfaiaa
open Go.RowKit
set_option linter.unusedVariables false
set_option linter.unusedSimpArgs false

theorem wf_u8_bounds {n : Int} (h : (Lit.int .u8 n).wf = true) : 0 ≤ n ∧ n ≤ 255 := by
  simpa [Lit.wf, IntKind.min, IntKind.max, IntKind.signed, IntKind.bits] using h
theorem rd8_of_isRow {w : World} {a : Option Addr} {len cap : Nat} {zs : List Int} (h : IsRow .u8 w a len cap zs) : Rd8 w a len cap (zs.take len) := by
  rcases h with ⟨rfl, rfl, rfl, rfl⟩ | ⟨x, rfl, hl, hm, hz, hcell, hwz⟩
  · exact ⟨rfl, Nat.le_refl _, by simp [maxLen], fun j => by simp [nth], fun h => absurd h (by omega)⟩
  · refine ⟨by rw [List.length_take]; omega, hl, hm, fun j => ?_, fun hn => ?_⟩
    · by_cases hj : j < (zs.take len).length
      · exact wf_u8_bounds (hwz _ (List.mem_of_mem_take (nth_mem hj)))
      · rw [nth_out (by omega)]; omega
    obtain ⟨b, off, spot⟩ := x
    have hc := hcell 0 (by omega)
    have hspot : spot = none := by simpa [Addr.add] using World.cell?_spot hc
    subst hspot
    refine ⟨b, off, rfl, fun j hj => ?_⟩
    have hcj := hcell j (by omega)
    rw [nth_take zs len j hj]
    rw [show (⟨b, off, none⟩ : Addr).add j = ⟨b, off + j, none⟩ from ?_] at hcj
    · exact hcj
    · unfold Addr.add
      split
      · rename_i h0
        subst h0
        rfl
      · rfl
theorem from_d (A : Option Addr) (n c : Nat) (bs : List Int) (w : World) (h : Rd8 w A n c bs) (hn : n ≤ 4096) :
    Calls Try.prog 95 #[.slice A n c] w fun e w' => ∃ g, e = .returned (.pointer (some ⟨g, 0, none⟩)) ∧ w.heap.size ≤ g ∧ Sd w' g A n c bs ∧ Below w.heap.size w w' :=
  (l01From_any A n c bs w h hn).mono fun _ _ ⟨g, he, hg, hs, hb⟩ => ⟨g, he, hg, ⟨h.below hb, hs⟩, hb⟩
theorem below_src {w w1 w2 : World} {g : Nat} (h : Below w.heap.size w w1) (hg : w1.grownBy w2 (some g)) (hl : w.heap.size ≤ g) : Below w.heap.size w w2 :=
  h.grown hg h.size (fun k hk => by simp at hk; omega)
/-- a list comes out -/
def OutL (w : World) (most : Nat) (e : Ending) (w' : World) : Prop :=
  ∃ (A' : Option Addr) (m c' : Nat) (zs : List Int), e = .returned (.slice A' m c') ∧ m ≤ most ∧ Own w' w.heap.size A' m c' zs ∧ Below w.heap.size w w'
/-- a list and a number come out -/
def OutLN (w : World) (most : Nat) (e : Ending) (w' : World) : Prop :=
  ∃ (A' : Option Addr) (m c' : Nat) (zs : List Int) (x : Int), e = .returned (.tuple #[.slice A' m c', .int .i64 x]) ∧ m ≤ most ∧ (-9223372036854775808 ≤ x ∧ x ≤ 9223372036854775807) ∧ Own w' w.heap.size A' m c' zs ∧ Below w.heap.size w w'
def OutNL (w : World) (most : Nat) (e : Ending) (w' : World) : Prop :=
  ∃ (A' : Option Addr) (m c' : Nat) (zs : List Int) (x : Int), e = .returned (.tuple #[.int .i64 x, .slice A' m c']) ∧ m ≤ most ∧ (-9223372036854775808 ≤ x ∧ x ≤ 9223372036854775807) ∧ Own w' w.heap.size A' m c' zs ∧ Below w.heap.size w w'
def OutN (w : World) (e : Ending) (w' : World) : Prop :=
  ∃ (x : Int), e = .returned (.int .i64 x) ∧ (-9223372036854775808 ≤ x ∧ x ≤ 9223372036854775807) ∧ Below w.heap.size w w'
/-- two lists come out -/
def OutLL (w : World) (most : Nat) (e : Ending) (w' : World) : Prop :=
  ∃ (A' : Option Addr) (m c' : Nat) (zs : List Int) (B' : Option Addr) (l d' : Nat) (ys : List Int), e = .returned (.tuple #[.slice A' m c', .slice B' l d']) ∧ m ≤ most ∧ l ≤ most ∧ Own w' w.heap.size A' m c' zs ∧ Own w' w.heap.size B' l d' ys ∧ Below w.heap.size w w'

theorem likeInts_any (A B : Option Addr) (n m c d : Nat) (xs ys : List Int) (w : World) (hx : Rd w A n c xs) (hy : Rd w B m d ys) :
    Calls Try.prog 60 #[.slice A n c, .slice B m d] w fun e w' => e = .returned (.bool (eqB xs ys)) ∧ ∃ k, w' = w.drewN k := by
  have hlx := hx.le
  have hly := hy.le
  have hcx := hx.cap
  have hcy := hy.cap
  by_cases hnm : n = m
  · subst hnm
    have t1 : ((n : Int) != (n : Int)) = false := by simp
    go_enter Try.func60, Try.ntmps60
    go_wp2
    go_loopw [5] (fun i wr => ∃ k r : Nat, k ≤ n ∧ i = .int .i64 k ∧ wr = w.drewN r ∧ Hid (xs.take k = ys.take k)) (fun i _ => n - (intOf i).toNat)
    case atStart => exact ⟨0, 0, Nat.zero_le _, rfl, rfl, rfl⟩
    case round =>
      obtain ⟨k, r, hk, rfl, rfl, hh⟩ := hrel
      by_cases hlt : k < n
      · obtain ⟨b, off, rfl, hb, hc⟩ := hx.at_ (by omega)
        obtain ⟨b', off', rfl, hb', hc'⟩ := hy.at_ (by omega)
        have hck := hc k hlt
        have hck' := hc' k hlt
        have z1 : (0 : Int) ≤ (k : Int) := by omega
        have z2 : (k : Int) < (n : Int) := by omega
        clear hc hc'
        by_cases he : nth xs k = nth ys k
        · have ht : (nth xs k != nth ys k) = false := by simp [he]
          have hstep : Hid (xs.take (k + 1) = ys.take (k + 1)) := by
            show _ = _
            rw [take_snoc xs k (by omega), take_snoc ys k (by omega), hh.out, he]
          clear he
          go_wp2
          go_quiet (fail)
          go_wp2
          go_roundw
          case rel => exact ⟨k + 1, _, by omega, by go_num, rfl, hstep⟩
          case measure => simp [intOf]; omega
        · have ht : (nth xs k != nth ys k) = true := by simp [he]
          have hfin : Hid (eqB xs ys = false) := eqB_no (fun e => he (by rw [e]))
          clear he
          go_wp2
          go_quiet (fail)
          go_wp2
          go_ret
          exact ⟨ret_bool hfin.out.symm, _, by first | rfl | exact World.drewN_drewN _ _ _⟩
      · obtain rfl : k = n := by omega
        have hfin : Hid (eqB xs ys = true) := by
          have e := hh.out
          rw [List.take_of_length_le (by omega), List.take_of_length_le (by omega)] at e
          exact eqB_yes e
        clear hh
        go_wp2
        go_ret
        exact ⟨ret_bool hfin.out.symm, _, rfl⟩
  · have t1 : ((n : Int) != (m : Int)) = true := by simp; omega
    have hfin : Hid (eqB xs ys = false) := eqB_no (fun e => hnm (by have := congrArg List.length e; omega))
    clear hnm
    go_enter Try.func60, Try.ntmps60
    go_wp2
    go_ret
    exact ⟨ret_bool hfin.out.symm, 0, rfl⟩
theorem likeInts_b (A B : Option Addr) (n m c d : Nat) (xs ys : List Int) (w : World) (hx : Rd w A n c xs) (hy : Rd w B m d ys) :
    Calls Try.prog 60 #[.slice A n c, .slice B m d] w fun e w' => e = .returned (.bool (eqB xs ys)) ∧ Below w.heap.size w w' :=
  (likeInts_any A B n m c d xs ys w hx hy).mono fun _ _ ⟨he, k, hk⟩ => ⟨he, by rw [hk]; exact below_drewN (Below.refl _ _) _⟩
theorem big_any (A : Option Addr) (n c : Nat) (bs : List Int) (w : World) (h : Rd8 w A n c bs) :
    Calls Try.prog 57 #[.slice A n c] w fun e w' => e = .returned (.bool (decide (4096 < n))) ∧ w = w' := by
  have hc := h.cap
  go_enter Try.func57, Try.ntmps57
  by_cases hb : 4096 < n
  · have t : decide (4096 < n) = true := by simpa using hb
    go_wp2
    go_ret
    exact ⟨by simp [go_sem, t]; omega, rfl⟩
  · have t : decide (4096 < n) = false := by simpa using hb
    go_wp2
    go_ret
    exact ⟨by simp [go_sem, t]; omega, rfl⟩
theorem DrawBytesOfLine_d (A : Option Addr) (n c : Nat) (bs : List Int) (w : World) (h : Rd8 w A n c bs) (hn : n ≤ 4096) :
    Calls Try.prog 70 #[.slice A n c] w (OutL w 1048576) := by
  go_enter Try.func70, Try.ntmps70
  go_wp2_with fail
  refine (from_d _ _ _ _ _ h hn).mono ?_
  rintro e w1 ⟨g, rfl, hg, h1, b1⟩
  go_wp2_with fail
  refine (l18Draw_d _ _ _ _ _ _ h1).mono ?_
  rintro e w2 ⟨A2, m2, c2, zs, rfl, hm2, own2, h2, g2⟩
  go_wp2_with fail
  go_ret
  exact ⟨_, _, _, _, rfl, by omega, own2.mono b1.size, below_src b1 g2 hg⟩
theorem DrawFirstWrongCell_d (A : Option Addr) (n c : Nat) (bs : List Int) (w : World) (h : Rd8 w A n c bs) (hn : n ≤ 4096) :
    Calls Try.prog 68 #[.slice A n c] w (OutL w 1048576) := by
  go_enter Try.func68, Try.ntmps68
  go_wp2_with fail
  refine (from_d _ _ _ _ _ h hn).mono ?_
  rintro e w1 ⟨g, rfl, hg, h1, b1⟩
  go_wp2_with fail
  refine (l18Draw_d _ _ _ _ _ _ h1).mono ?_
  rintro e w2 ⟨A2, m2, c2, zs, rfl, hm2, own2, h2, g2⟩
  go_wp2_with fail
  go_ret
  exact ⟨_, _, _, _, rfl, by omega, own2.mono b1.size, below_src b1 g2 hg⟩
end Go.Proofs.Ytdodhjahihfaiaa
