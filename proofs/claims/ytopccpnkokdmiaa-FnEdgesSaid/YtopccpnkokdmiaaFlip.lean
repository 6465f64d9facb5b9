/- Contracts: a copy of a list, bits flipped, the indices at which two lists differ, the changed votes. -/
import Derived.Test.YtopccpnkokdmiaaVote
import Derived.Test.YtopccpnkokdmiaaRise
import Derived.Test.YtopccpnkokdmiaaEdges
import Derived.Test.YtopccpnkokdmiaaRepeat
import Derived.WalkSpells
namespace Go.Proofs.Ytopccpnkokdmiaa
open Go.RowKit
set_option linter.unusedVariables false
set_option linter.unusedSimpArgs false

theorem clone_any (A : Option Addr) (n c : Nat) (zs : List Int) (w : World) (h : Rd w A n c zs) (hn : n ≤ 1048576) :
    Calls Try.prog 125 #[.slice A n c] w fun e w' => ∃ A' c', e = .returned (.slice A' n c') ∧ Own w' w.heap.size A' n c' zs ∧ Below w.heap.size w w' := by
  have hlen := h.le
  have hcap := h.cap
  cases A with
  | none =>
    have hc := h.none0 rfl
    subst hc
    obtain rfl : n = 0 := by omega
    have hz : zs = [] := List.eq_nil_of_length_eq_zero h.len
    subst hz
    have e1 := Lib.run_eql_slice_nil (P := Try.prog)
    go_enter Try.func125, Try.ntmps125
    go_wp2
    go_ret
    exact ⟨none, 0, rfl, Own.nil _ _, Below.refl _ _⟩
  | some ad =>
    have e1 := Lib.run_eql_slice_nil (P := Try.prog)
    go_enter Try.func125, Try.ntmps125
    go_wp2_with (at_builtin; refine append_rd rfl _ _ rfl w.heap.size rfl (Own.empty w (Nat.le_refl _)) (h.below ((Below.refl _ _).alloc (Nat.le_refl _) _)) rfl (by omega) (by simp) ?_; intro A2 c2 w2 own2 gr2)
    go_ret
    refine ⟨A2, c2, ?_, by simpa using own2, below_own ((Below.refl _ _).alloc (Nat.le_refl _) _) (by simp) (Own.empty w (Nat.le_refl _)) (Nat.le_refl _) gr2⟩
    simp

/-- the first k indices flipped -/
def flipTo (zs ix : List Int) : Nat → List Int
  | 0 => zs
  | k + 1 => (flipTo zs ix k).set (nth ix k).toNat (1 - nth (flipTo zs ix k) (nth ix k).toNat)
theorem flipTo_succ (zs ix : List Int) (k : Nat) : flipTo zs ix (k + 1) = (flipTo zs ix k).set (nth ix k).toNat (1 - nth (flipTo zs ix k) (nth ix k).toNat) := rfl
theorem flipTo_len (zs ix : List Int) (k : Nat) : (flipTo zs ix k).length = zs.length := by
  induction k with
  | zero => rfl
  | succ k ih => rw [flipTo_succ, List.length_set, ih]
theorem allB_set {lo hi x : Int} {zs : List Int} (h : allB lo hi zs = true) (k : Nat) (h1 : lo ≤ x) (h2 : x ≤ hi) : allB lo hi (zs.set k x) = true := by
  rw [allB, List.all_eq_true] at h ⊢
  intro z hz
  rcases List.mem_or_eq_of_mem_set hz with hz | rfl
  · exact h z hz
  · simp [h1, h2]
theorem flipTo_bits {zs : List Int} (h : allB 0 1 zs = true) (ix : List Int) (k : Nat) : allB 0 1 (flipTo zs ix k) = true := by
  induction k with
  | zero => exact h
  | succ k ih =>
    have := bit_nth ih (nth ix k).toNat
    rw [flipTo_succ]
    exact allB_set ih _ (by omega) (by omega)
def flips (zs ix : List Int) : List Int := flipTo zs ix ix.length
def flC (zs ix : List Int) : Int := if bitsB zs then (if riseB zs.length ix then 0 else 2) else 1
def flR (zs ix : List Int) : List Int := if bitsB zs && riseB zs.length ix then flips zs ix else []
theorem fl_yes {zs ix : List Int} (h : bitsB zs = true) (hr : riseB zs.length ix = true) : flR zs ix = flips zs ix ∧ 0 = flC zs ix := by simp [flR, flC, h, hr]
theorem fl_range {zs ix : List Int} (h : bitsB zs = true) (hr : riseB zs.length ix = false) : flR zs ix = [] ∧ 2 = flC zs ix := by simp [flR, flC, h, hr]
theorem fl_no {zs ix : List Int} (h : bitsB zs = false) : flR zs ix = [] ∧ 1 = flC zs ix := by simp [flR, flC, h]

set_option maxHeartbeats 800000 in
theorem iFlipBits_c (A : Option Addr) (n c : Nat) (zs : List Int) (B : Option Addr) (m d : Nat) (ix : List Int) (w : World) (h : Rd w A n c zs) (g : Rd w B m d ix) (hn : n ≤ 1048576) (hm : m ≤ 1048576) :
    Calls Try.prog 80 #[.slice A n c, .slice B m d] w fun e w' => ∃ A' n' c', e = .returned (.tuple #[.slice A' n' c', .int .i64 (flC zs ix)]) ∧ Own w' w.heap.size A' n' c' (flR zs ix) ∧ Below w.heap.size w w' ∧ n' ≤ 1048576 := by
  have hlen := h.le
  have hcap := h.cap
  have glen := g.le
  have gcap := g.cap
  by_cases hb : bitsB zs = true
  · have hb8 := bits_len hb
    by_cases hr : riseB n ix = true
    · have HN := hide (fl_yes hb (by rw [h.len]; exact hr))
      have HR := hide (riseB_true hr)
      have HA := hide (bits_all hb)
      have gl := hide g.len
      go_enter Try.func80, Try.ntmps80
      go_wp2_with (first | (go_at_call 100; refine (iIsBits_any _ _ _ zs _ h).mono ?_; rintro e w' ⟨rfl, rfl⟩) | (go_at_call 95; refine (isRising_any _ _ _ ix _ _ g (by omega) (by omega)).mono ?_; rintro e w' ⟨rfl, rfl⟩) | (go_at_call 125; refine (clone_any _ _ _ zs _ h hn).mono ?_; rintro e w1 ⟨A1, c1, rfl, own1, bel1⟩))
      go_loopw [21] (fun i wr => ∃ k : Nat, k ≤ m ∧ i = .int .i64 k ∧ Own wr w.heap.size A1 n c1 (flipTo zs ix k) ∧ Below w.heap.size w wr) (fun i _ => m - (intOf i).toNat)
      case atStart => exact ⟨0, by omega, rfl, own1, bel1⟩
      case round =>
        obtain ⟨k, hk, rfl, hown, hbel⟩ := hrel
        by_cases hlt : k < m
        · obtain ⟨b', off', rfl, hbb', hc'⟩ := g.at_ (by omega)
          have hr3 := HR.out k (by omega)
          obtain ⟨t, ht⟩ := Int.eq_ofNat_of_zero_le hr3.1
          have htn : t < n := by have := hr3.2.1; omega
          have hcw := (hbel.cell (p := ⟨b', off' + k, none⟩) hbb').trans (hc' k hlt)
          rw [ht] at hcw
          rcases hown.form with ⟨_, h0', _⟩ | ⟨gg, rfl, hg1, hg2⟩
          · omega
          have hcell := hown.cell (k := t) htn
          have hfz := hown.frozen t
          have hbit := bit_nth (flipTo_bits HA.out ix k) t
          have hset := hown.set t (x := 1 - nth (flipTo zs ix k) t) (by omega) (by omega)
          have e : (flipTo zs ix k).set t (1 - nth (flipTo zs ix k) t) = flipTo zs ix (k + 1) := by
            have : (nth ix k).toNat = t := by omega
            rw [flipTo_succ, this]
          rw [e] at hset
          have hset' := hide hset
          have hbel' := hide (hbel.setCell (p := ⟨gg, t, none⟩) hg1 (.int .i64 (1 - nth (flipTo zs ix k) t)))
          clear hset hown hbel own1 e ht hr3 hc'
          go_wp2
          go_roundw
          case rel => exact ⟨k + 1, by omega, by go_num, hset'.out, hbel'.out⟩
          case measure => simp [intOf]; omega
        · obtain rfl : k = m := by omega
          have hfin : Own wr w.heap.size A1 n c1 (flR zs ix) := by rw [HN.out.1, flips, gl.out]; exact hown
          clear own1
          go_wp2
          go_ret2
          exact ⟨A1, n, c1, ret_sc HN.out.2, hfin, hbel, by omega⟩
    · have hr : riseB n ix = false := by simpa using hr
      have HN := hide (fl_range (zs := zs) (ix := ix) hb (by rw [h.len]; exact hr))
      go_enter Try.func80, Try.ntmps80
      go_wp2_with (first | (go_at_call 100; refine (iIsBits_any _ _ _ zs _ h).mono ?_; rintro e w' ⟨rfl, rfl⟩) | (go_at_call 95; refine (isRising_any _ _ _ ix _ _ g (by omega) (by omega)).mono ?_; rintro e w' ⟨rfl, rfl⟩))
      go_ret2
      exact ⟨none, 0, 0, ret_sc HN.out.2, by rw [HN.out.1]; exact Own.nil _ _, Below.refl _ _, by omega⟩
  · have hb : bitsB zs = false := by simpa using hb
    have HN := hide (fl_no (ix := ix) hb)
    go_enter Try.func80, Try.ntmps80
    go_wp2_with (first | (go_at_call 100; refine (iIsBits_any _ _ _ zs _ h).mono ?_; rintro e w' ⟨rfl, rfl⟩))
    go_ret2
    exact ⟨none, 0, 0, ret_sc HN.out.2, by rw [HN.out.1]; exact Own.nil _ _, Below.refl _ _, by omega⟩

/-- the lists differ at k -/
def pD (xs ys : List Int) (k : Nat) : Bool := decide (nth xs k ≠ nth ys k)
def diffs (xs ys : List Int) : List Int := edgG (pD xs ys) xs.length
theorem pD_yes {xs ys : List Int} {k : Nat} (h : ¬ nth xs k = nth ys k) : pD xs ys k = true := by simp [pD, h]
theorem pD_no {xs ys : List Int} {k : Nat} (h : nth xs k = nth ys k) : pD xs ys k = false := by simp [pD, h]
theorem differing_any (A B : Option Addr) (n c d : Nat) (xs ys : List Int) (w : World) (h : Rd w A n c xs) (g : Rd w B n d ys) (hn : n ≤ 1048576) :
    Calls Try.prog 117 #[.slice A n c, .slice B n d] w fun e w' => ∃ A' m c', e = .returned (.slice A' m c') ∧ Own w' w.heap.size A' m c' (diffs xs ys) ∧ Below w.heap.size w w' ∧ m ≤ n := by
  have hlen := h.le
  have hcap := h.cap
  have glen := g.le
  have gcap := g.cap
  go_enter Try.func117, Try.ntmps117
  go_wp2
  go_loopw [5, 10] (fun s i wr => ∃ (k m : Nat) (A' : Option Addr) (c' : Nat), k ≤ n ∧ m ≤ k ∧ s = .slice A' m c' ∧ i = .int .i64 k ∧ Own wr w.heap.size A' m c' (edgG (pD xs ys) k) ∧ Below w.heap.size w wr) (fun _ i _ => n - (intOf i).toNat)
  case atStart => exact ⟨0, 0, _, _, by omega, by omega, rfl, rfl, Own.empty w (Nat.le_refl _), (Below.refl _ _).alloc (Nat.le_refl _) _⟩
  case round =>
    obtain ⟨k, m, A', c', hk, hm, rfl, rfl, hown, hbel⟩ := hrel
    have hsz := hbel.size
    by_cases hlt : k < n
    · obtain ⟨b, off, rfl, hbb, hc⟩ := h.at_ (by omega)
      obtain ⟨b', off', rfl, hbb', hc'⟩ := g.at_ (by omega)
      have hck := (hbel.cell (p := ⟨b, off + k, none⟩) hbb).trans (hc k hlt)
      have hcw := (hbel.cell (p := ⟨b', off' + k, none⟩) hbb').trans (hc' k hlt)
      have z1 : (0 : Int) ≤ (k : Int) := by omega
      have z2 : (k : Int) < (n : Int) := by omega
      clear hc hc'
      by_cases he : nth xs k = nth ys k
      · have t1 : (nth xs k != nth ys k) = false := by simp [he]
        have hs : Own wr w.heap.size A' m c' (edgG (pD xs ys) (k + 1)) := by rw [edgG_no (pD_no he)]; exact hown
        clear he hown
        go_wp2
        go_quiet (fail)
        go_wp2
        go_roundw
        case rel => exact ⟨k + 1, m, A', c', by omega, by omega, rfl, by go_num, hs.drewN _, below_drewN hbel _⟩
        case measure => simp [intOf]; omega
      · have t1 : (nth xs k != nth ys k) = true := by simp [he]
        have hst := hide (edgG_yes (pD_yes he))
        clear he
        go_wp2
        go_quiet (fail)
        go_wp2_with (at_builtin; refine append_new rfl _ _ rfl w.heap.size rfl (hown.drewN _) _ [(k : Int)] 1 rfl (I64.one (by omega) (by omega)) rfl rfl (by omega) hsz ?_; intro A2 c2 w2 own2 gr2)
        have hb2 := below_mark (below_drewN hbel _) (hown.drewN _) (Nat.le_refl _) gr2
        rw [← hst.out] at own2
        go_roundw
        case rel => exact ⟨k + 1, m + 1, A2, c2, by omega, by omega, rfl, by go_num, own2, hb2⟩
        case measure => simp [intOf]; omega
    · obtain rfl : k = n := by omega
      have hfin : Own wr w.heap.size A' m c' (diffs xs ys) := by rw [diffs, h.len]; exact hown
      go_wp2
      go_ret
      exact ⟨A', m, c', rfl, hfin, hbel, hm⟩

set_option maxHeartbeats 800000 in
theorem l01Flip_any (A : Option Addr) (n c : Nat) (zs : List Int) (B : Option Addr) (m d : Nat) (ix : List Int) (w : World) (h : Rd w A n c zs) (g : Rd w B m d ix) (hn : n ≤ 1048576) (hm : m ≤ 1048576)
    (hb : allB 0 1 zs = true) (hr : RiseP n ix ix.length) :
    Calls Try.prog 135 #[.slice A n c, .slice B m d] w fun e w' => ∃ A' c', e = .returned (.slice A' n c') ∧ Own w' w.heap.size A' n c' (flips zs ix) ∧ Below w.heap.size w w' := by
  have hlen := h.le
  have hcap := h.cap
  have glen := g.le
  have gcap := g.cap
  have HR := hide hr
  have HA := hide hb
  have gl := hide g.len
  clear hr hb
  go_enter Try.func135, Try.ntmps135
  go_wp2_with (at_builtin; refine append_rd rfl _ _ rfl w.heap.size rfl (Own.empty w (Nat.le_refl _)) (h.below ((Below.refl _ _).alloc (Nat.le_refl _) _)) rfl (by omega) (by simp) ?_; intro A1 c1 w1 own1 gr1)
  have bel1 : Below w.heap.size w w1 := below_own ((Below.refl _ _).alloc (Nat.le_refl _) _) (by simp) (Own.empty w (Nat.le_refl _)) (Nat.le_refl _) gr1
  simp only [Nat.zero_add, List.nil_append] at own1
  clear gr1
  go_loopw [6] (fun i wr => ∃ k : Nat, k ≤ m ∧ i = .int .i64 k ∧ Own wr w.heap.size A1 n c1 (flipTo zs ix k) ∧ Below w.heap.size w wr) (fun i _ => m - (intOf i).toNat)
  case atStart => exact ⟨0, by omega, rfl, own1, bel1⟩
  case round =>
    obtain ⟨k, hk, rfl, hown, hbel⟩ := hrel
    by_cases hlt : k < m
    · obtain ⟨b', off', rfl, hbb', hc'⟩ := g.at_ (by omega)
      have hr3 := HR.out k (by omega)
      obtain ⟨t, ht⟩ := Int.eq_ofNat_of_zero_le hr3.1
      have htn : t < n := by have := hr3.2.1; omega
      have hcw := (hbel.cell (p := ⟨b', off' + k, none⟩) hbb').trans (hc' k hlt)
      rw [ht] at hcw
      rcases hown.form with ⟨_, h0', _⟩ | ⟨gg, rfl, hg1, hg2⟩
      · omega
      have hcell := hown.cell (k := t) htn
      have hfz := hown.frozen t
      have hbit := bit_nth (flipTo_bits HA.out ix k) t
      have e : (flipTo zs ix k).set t (1 - nth (flipTo zs ix k) t) = flipTo zs ix (k + 1) := by
        have : (nth ix k).toNat = t := by omega
        rw [flipTo_succ, this]
      have HE := hide e
      have HO := hide hown
      have HB := hide hbel
      have z1 : (0 : Int) ≤ (k : Int) := by omega
      have z2 : (k : Int) < (m : Int) := by omega
      have z3 : (0 : Int) ≤ (t : Int) := by omega
      have z4 : (t : Int) < (n : Int) := by omega
      have ew : IntKind.i64.wrap (1 - nth (flipTo zs ix k) t) = 1 - nth (flipTo zs ix k) t := IntWalk.i64_in _ (by omega)
      clear hown hbel own1 e ht hr3 hc'
      go_wp2
      go_region
      all_goals go_wp2
      all_goals go_roundw
      case rel => exact ⟨k + 1, by omega, by go_num, HE.out ▸ (HO.out.set t (by omega) (by omega)).drew, (HB.out.setCell (p := ⟨gg, t, none⟩) hg1 _).drew⟩
      case measure => simp [intOf]; omega
    · obtain rfl : k = m := by omega
      have hfin : Own wr w.heap.size A1 n c1 (flips zs ix) := by rw [flips, gl.out]; exact hown
      clear own1
      go_wp2
      go_ret
      exact ⟨A1, c1, rfl, hfin, hbel⟩
theorem l01Differ_any (A B : Option Addr) (n c d : Nat) (xs ys : List Int) (w : World) (h : Rd w A n c xs) (g : Rd w B n d ys) (hn : n ≤ 1048576) :
    Calls Try.prog 116 #[.slice A n c, .slice B n d] w fun e w' => ∃ A' m c', e = .returned (.slice A' m c') ∧ Own w' w.heap.size A' m c' (diffs xs ys) ∧ Below w.heap.size w w' ∧ m ≤ n := by
  have hlen := h.le
  have hcap := h.cap
  have glen := g.le
  have gcap := g.cap
  go_enter Try.func116, Try.ntmps116
  go_wp2
  go_loopw [5, 6] (fun s i wr => ∃ (k m : Nat) (A' : Option Addr) (c' : Nat), k ≤ n ∧ m ≤ k ∧ s = .slice A' m c' ∧ i = .int .i64 k ∧ Own wr w.heap.size A' m c' (edgG (pD xs ys) k) ∧ Below w.heap.size w wr) (fun _ i _ => n - (intOf i).toNat)
  case atStart => exact ⟨0, 0, _, _, by omega, by omega, rfl, rfl, Own.empty w (Nat.le_refl _), (Below.refl _ _).alloc (Nat.le_refl _) _⟩
  case round =>
    obtain ⟨k, m, A', c', hk, hm, rfl, rfl, hown, hbel⟩ := hrel
    have hsz := hbel.size
    by_cases hlt : k < n
    · obtain ⟨b, off, rfl, hbb, hc⟩ := h.at_ (by omega)
      obtain ⟨b', off', rfl, hbb', hc'⟩ := g.at_ (by omega)
      have hck := (hbel.cell (p := ⟨b, off + k, none⟩) hbb).trans (hc k hlt)
      have hcw := (hbel.cell (p := ⟨b', off' + k, none⟩) hbb').trans (hc' k hlt)
      have z1 : (0 : Int) ≤ (k : Int) := by omega
      have z2 : (k : Int) < (n : Int) := by omega
      clear hc hc'
      by_cases he : nth xs k = nth ys k
      · have t1 : (nth xs k != nth ys k) = false := by simp [he]
        have hs : Own wr w.heap.size A' m c' (edgG (pD xs ys) (k + 1)) := by rw [edgG_no (pD_no he)]; exact hown
        clear he hown
        go_wp2
        go_quiet (fail)
        go_wp2
        go_roundw
        case rel => exact ⟨k + 1, m, A', c', by omega, by omega, rfl, by go_num, hs.drewN _, below_drewN hbel _⟩
        case measure => simp [intOf]; omega
      · have t1 : (nth xs k != nth ys k) = true := by simp [he]
        have hst := hide (edgG_yes (pD_yes he))
        clear he
        go_wp2
        go_quiet (fail)
        go_wp2_with (at_builtin; refine append_new rfl _ _ rfl w.heap.size rfl (hown.drewN _) _ [(k : Int)] 1 rfl (I64.one (by omega) (by omega)) rfl rfl (by omega) hsz ?_; intro A2 c2 w2 own2 gr2)
        have hb2 := below_mark (below_drewN hbel _) (hown.drewN _) (Nat.le_refl _) gr2
        rw [← hst.out] at own2
        go_roundw
        case rel => exact ⟨k + 1, m + 1, A2, c2, by omega, by omega, rfl, by go_num, own2, hb2⟩
        case measure => simp [intOf]; omega
    · obtain rfl : k = n := by omega
      have hfin : Own wr w.heap.size A' m c' (diffs xs ys) := by rw [diffs, h.len]; exact hown
      go_wp2
      go_ret
      exact ⟨A', m, c', rfl, hfin, hbel, hm⟩


theorem sFlipBits_c (A : Option Addr) (n c : Nat) (zs : List Int) (B : Option Addr) (m d : Nat) (ix : List Int) (w : World) (h : Rd w A n c zs) (g : Rd w B m d ix) (hn : n ≤ 1048576) (hm : m ≤ 1048576) :
    Calls Try.prog 115 #[.slice A n c, .slice B m d] w fun e w' => ∃ A' n' c', e = .returned (.tuple #[.slice A' n' c', .int .i64 (flC zs ix)]) ∧ Own w' w.heap.size A' n' c' (flR zs ix) ∧ Below w.heap.size w w' ∧ n' ≤ 1048576 := by
  have hlen := h.le
  have hcap := h.cap
  have glen := g.le
  have gcap := g.cap
  by_cases hb : bitsB zs = true
  · have hb8 := bits_len hb
    by_cases hr : riseB n ix = true
    · have HN := hide (fl_yes hb (by rw [h.len]; exact hr))
      have HR := hide (riseB_true hr)
      have HA := hide (bits_all hb)
      go_enter Try.func115, Try.ntmps115
      go_wp2_with (first | (go_at_call 99; refine (sIsBits_any _ _ _ zs _ h).mono ?_; rintro e w' ⟨rfl, rfl⟩) | (go_at_call 93; refine (l01Rises_any _ _ _ ix _ _ g (by omega) (by omega)).mono ?_; rintro e w' ⟨rfl, r, rfl⟩) | (go_at_call 135; refine (l01Flip_any _ _ _ zs _ _ _ ix _ (h.drewN r) (g.drewN r) hn hm HA.out HR.out).mono ?_; rintro e w1 ⟨A1, c1, rfl, own1, bel1⟩))
      go_ret2
      exact ⟨A1, n, c1, ret_sc HN.out.2, by rw [HN.out.1]; exact own1, below_trans (below_drewN (Below.refl w.heap.size w) r) bel1, by omega⟩
    · have hr : riseB n ix = false := by simpa using hr
      have HN := hide (fl_range (zs := zs) (ix := ix) hb (by rw [h.len]; exact hr))
      go_enter Try.func115, Try.ntmps115
      go_wp2_with (first | (go_at_call 99; refine (sIsBits_any _ _ _ zs _ h).mono ?_; rintro e w' ⟨rfl, rfl⟩) | (go_at_call 93; refine (l01Rises_any _ _ _ ix _ _ g (by omega) (by omega)).mono ?_; rintro e w' ⟨rfl, r, rfl⟩))
      go_ret2
      exact ⟨none, 0, 0, ret_sc HN.out.2, by rw [HN.out.1]; exact Own.nil _ _, below_drewN (Below.refl _ _) _, by omega⟩
  · have hb : bitsB zs = false := by simpa using hb
    have HN := hide (fl_no (ix := ix) hb)
    go_enter Try.func115, Try.ntmps115
    go_wp2_with (first | (go_at_call 99; refine (sIsBits_any _ _ _ zs _ h).mono ?_; rintro e w' ⟨rfl, rfl⟩))
    go_ret2
    exact ⟨none, 0, 0, ret_sc HN.out.2, by rw [HN.out.1]; exact Own.nil _ _, Below.refl _ _, by omega⟩

/-- the indices at which the votes change -/
def cvR (zs ix : List Int) : List Int := if flC zs ix = 0 then diffs (votes zs) (votes (flips zs ix)) else []
theorem flC_cases (zs ix : List Int) : (flC zs ix = 0 ∧ bitsB zs = true ∧ flR zs ix = flips zs ix) ∨ (flC zs ix = 1 ∨ flC zs ix = 2) := by
  cases h : bitsB zs
  · right; left; simp [flC, h]
  · cases hr : riseB zs.length ix
    · right; right; simp [flC, h, hr]
    · left; simp [flC, flR, h, hr]
theorem votes_len (zs : List Int) : (votes zs).length = zs.length := votesTo_len zs _
theorem cvR_no {zs ix : List Int} (h : flC zs ix = 1 ∨ flC zs ix = 2) : cvR zs ix = [] := by rcases h with h | h <;> simp [cvR, h]
set_option maxHeartbeats 800000 in
theorem iChangedVotes_c (A : Option Addr) (n c : Nat) (zs : List Int) (B : Option Addr) (m d : Nat) (ix : List Int) (w : World) (h : Rd w A n c zs) (g : Rd w B m d ix) (hn : n ≤ 1048576) (hm : m ≤ 1048576) :
    Calls Try.prog 66 #[.slice A n c, .slice B m d] w fun e w' => ∃ A' n' c', e = .returned (.tuple #[.slice A' n' c', .int .i64 (flC zs ix)]) ∧ Own w' w.heap.size A' n' c' (cvR zs ix) ∧ Below w.heap.size w w' ∧ n' ≤ 1048576 := by
  have hlen := h.le
  have hcap := h.cap
  rcases flC_cases zs ix with ⟨hc, hb, hr⟩ | hc
  · have HC := hide hc
    have HR := hide hr
    have HB := hide (bits_all hb)
    have hcv : Hid (cvR zs ix = diffs (votes zs) (votes (flips zs ix))) := by
      show _ = _
      rw [cvR, if_pos hc]
    clear hr hc
    go_enter Try.func66, Try.ntmps66
    go_wp2_with fail
    refine (iFlipBits_c _ _ _ zs _ _ _ ix _ h g hn hm).mono ?_
    rintro e w1 ⟨A1, n1, c1, rfl, own1, bel1, hn1⟩
    rw [HR.out] at own1
    have hC0 := HC.out
    rw [hC0]
    clear hC0
    have hn1n : n1 = n := by
      have h1 := own1.len
      rw [flips, flipTo_len, h.len] at h1
      exact h1.symm
    subst hn1n
    go_wp2_with fail
    refine (vote_any _ _ _ zs _ (h.below bel1) HB.out hn).mono ?_
    rintro e w2 ⟨A2, c2, rfl, own2, bel2⟩
    go_wp2_with fail
    refine (vote_any _ _ _ (flips zs ix) _ (own1.below bel2).rd (flipTo_bits HB.out ix _) hn).mono ?_
    rintro e w3 ⟨A3, c3, rfl, own3, bel3⟩
    go_wp2_with fail
    refine (differing_any _ _ _ _ _ (votes zs) (votes (flips zs ix)) _ (own2.below bel3).rd own3.rd hn).mono ?_
    rintro e w4 ⟨A4, m4, c4, rfl, own4, bel4, hm4⟩
    have B3 := below_trans bel1 (below_trans bel2 bel3)
    go_wp2_with fail
    go_ret2
    exact ⟨A4, m4, c4, ret_sc HC.out.symm, by rw [hcv.out]; exact own4.mono B3.size, below_trans B3 bel4, by omega⟩
  · have hcv := hide (cvR_no hc)
    have t0 : (flC zs ix != 0) = true := by rcases hc with h | h <;> rw [h] <;> rfl
    clear hc
    go_enter Try.func66, Try.ntmps66
    go_wp2_with fail
    refine (iFlipBits_c _ _ _ zs _ _ _ ix _ h g hn hm).mono ?_
    rintro e w1 ⟨A1, n1, c1, rfl, own1, bel1, hn1⟩
    go_wp2_with fail
    go_ret2
    exact ⟨none, 0, 0, rfl, by rw [hcv.out]; exact Own.nil _ _, bel1, by omega⟩
set_option maxHeartbeats 800000 in
theorem sChangedVotes_c (A : Option Addr) (n c : Nat) (zs : List Int) (B : Option Addr) (m d : Nat) (ix : List Int) (w : World) (h : Rd w A n c zs) (g : Rd w B m d ix) (hn : n ≤ 1048576) (hm : m ≤ 1048576) :
    Calls Try.prog 65 #[.slice A n c, .slice B m d] w fun e w' => ∃ A' n' c', e = .returned (.tuple #[.slice A' n' c', .int .i64 (flC zs ix)]) ∧ Own w' w.heap.size A' n' c' (cvR zs ix) ∧ Below w.heap.size w w' ∧ n' ≤ 1048576 := by
  have hlen := h.le
  have hcap := h.cap
  rcases flC_cases zs ix with ⟨hc, hb, hr⟩ | hc
  · have HC := hide hc
    have HR := hide hr
    have HB := hide (bits_all hb)
    have hcv : Hid (cvR zs ix = diffs (votes zs) (votes (flips zs ix))) := by
      show _ = _
      rw [cvR, if_pos hc]
    clear hr hc
    go_enter Try.func65, Try.ntmps65
    go_wp2_with fail
    refine (sFlipBits_c _ _ _ zs _ _ _ ix _ h g hn hm).mono ?_
    rintro e w1 ⟨A1, n1, c1, rfl, own1, bel1, hn1⟩
    rw [HR.out] at own1
    have hC0 := HC.out
    rw [hC0]
    clear hC0
    have hn1n : n1 = n := by
      have h1 := own1.len
      rw [flips, flipTo_len, h.len] at h1
      exact h1.symm
    subst hn1n
    go_wp2_with fail
    refine (l21Vote_any _ _ _ zs _ (h.below bel1) HB.out hn).mono ?_
    rintro e w2 ⟨A2, c2, rfl, own2, bel2⟩
    go_wp2_with fail
    refine (l21Vote_any _ _ _ (flips zs ix) _ (own1.below bel2).rd (flipTo_bits HB.out ix _) hn).mono ?_
    rintro e w3 ⟨A3, c3, rfl, own3, bel3⟩
    go_wp2_with fail
    refine (l01Differ_any _ _ _ _ _ (votes zs) (votes (flips zs ix)) _ (own2.below bel3).rd own3.rd hn).mono ?_
    rintro e w4 ⟨A4, m4, c4, rfl, own4, bel4, hm4⟩
    have B3 := below_trans bel1 (below_trans bel2 bel3)
    go_wp2_with fail
    go_ret2
    exact ⟨A4, m4, c4, ret_sc HC.out.symm, by rw [hcv.out]; exact own4.mono B3.size, below_trans B3 bel4, by omega⟩
  · have hcv := hide (cvR_no hc)
    have t0 : (flC zs ix != 0) = true := by rcases hc with h | h <;> rw [h] <;> rfl
    clear hc
    go_enter Try.func65, Try.ntmps65
    go_wp2_with fail
    refine (sFlipBits_c _ _ _ zs _ _ _ ix _ h g hn hm).mono ?_
    rintro e w1 ⟨A1, n1, c1, rfl, own1, bel1, hn1⟩
    go_wp2_with fail
    go_ret2
    exact ⟨none, 0, 0, rfl, by rw [hcv.out]; exact Own.nil _ _, bel1, by omega⟩
end Go.Proofs.Ytopccpnkokdmiaa
