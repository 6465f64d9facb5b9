/- Contracts: falling and rising edges. -/
import Derived.Test.YtopccpnkokdmiaaMiddle
namespace Go.Proofs.Ytopccpnkokdmiaa
open Go.RowKit
set_option linter.unusedVariables false
set_option linter.unusedSimpArgs false

/-- the indices below k at which p holds -/
def edgG (p : Nat → Bool) : Nat → List Int
  | 0 => []
  | k + 1 => edgG p k ++ (if p k then [(k : Int)] else [])
theorem edgG_yes {p : Nat → Bool} {k : Nat} (h : p k = true) : edgG p (k + 1) = edgG p k ++ [(k : Int)] := by simp [edgG, h]
theorem edgG_no {p : Nat → Bool} {k : Nat} (h : p k = false) : edgG p (k + 1) = edgG p k := by simp [edgG, h]
theorem edgG_len (p : Nat → Bool) (k : Nat) : (edgG p k).length ≤ k := by
  induction k with
  | zero => exact Nat.le_refl _
  | succ k ih =>
    cases h : p k
    · rw [edgG_no h]; omega
    · rw [edgG_yes h, List.length_append, List.length_singleton]; omega
/-- the samples become v at k -/
def pV (zs : List Int) (v : Int) (k : Nat) : Bool := decide (0 < k) && (decide (nth zs (k - 1) ≠ v) && decide (nth zs k = v))
/-- the samples change at k -/
def pA (zs : List Int) (k : Nat) : Bool := decide (0 < k) && decide (nth zs (k - 1) ≠ nth zs k)
theorem pV_yes {zs : List Int} {v : Int} {k : Nat} (h0 : 1 ≤ k) (h1 : ¬ nth zs (k - 1) = v) (h2 : nth zs k = v) : pV zs v k = true := by
  have h : 0 < k := h0
  simp [pV, h, h1, h2]
theorem pV_no {zs : List Int} {v : Int} {k : Nat} (h : nth zs (k - 1) = v ∨ ¬ nth zs k = v) : pV zs v k = false := by
  rcases h with h | h <;> simp [pV, h]
theorem pA_yes {zs : List Int} {k : Nat} (h0 : 1 ≤ k) (h1 : ¬ nth zs k = nth zs (k - 1)) : pA zs k = true := by
  have h : 0 < k := h0
  have h1' : ¬ nth zs (k - 1) = nth zs k := fun e => h1 e.symm
  simp [pA, h, h1']
theorem pA_no {zs : List Int} {k : Nat} (h : nth zs k = nth zs (k - 1)) : pA zs k = false := by simp [pA, h]
theorem edgG_end {p : Nat → Bool} (h0 : p 0 = false) {k n : Nat} (h : k = n ∨ k = 1 ∧ n ≤ 1) : edgG p k = edgG p n := by
  rcases h with rfl | ⟨rfl, h⟩
  · rfl
  · rcases Nat.eq_zero_or_pos n with rfl | hn
    · exact edgG_no h0
    · obtain rfl : n = 1 := by omega
      rfl
theorem edg_one {p : Nat → Bool} (h0 : p 0 = false) : edgG p 1 = [] := edgG_no h0
theorem pV_zero (zs : List Int) (v : Int) : pV zs v 0 = false := by simp [pV]
theorem pA_zero (zs : List Int) : pA zs 0 = false := by simp [pA]
/-- all indices at which the samples become v -/
def edgV (zs : List Int) (v : Int) : List Int := edgG (pV zs v) zs.length
/-- all indices at which the samples change -/
def edgA (zs : List Int) : List Int := edgG (pA zs) zs.length

theorem edgesTo_any (A : Option Addr) (n c : Nat) (zs : List Int) (v : Int) (w : World) (h : Rd w A n c zs) (hn : n ≤ 1048576) :
    Calls Try.prog 104 #[.slice A n c, .int .i64 v] w fun e w' => ∃ A' m c', e = .returned (.slice A' m c') ∧ Own w' w.heap.size A' m c' (edgV zs v) ∧ Below w.heap.size w w' ∧ m ≤ n := by
  have hlen := h.le
  have hcap := h.cap
  go_enter Try.func104, Try.ntmps104
  go_wp2
  go_loopw [5, 6] (fun s i wr => ∃ (k m : Nat) (A' : Option Addr) (c' : Nat), 1 ≤ k ∧ (k ≤ n ∨ k = 1) ∧ m + 1 ≤ k ∧ s = .slice A' m c' ∧ i = .int .i64 k ∧ Own wr w.heap.size A' m c' (edgG (pV zs v) k) ∧ Below w.heap.size w wr) (fun _ i _ => n - (intOf i).toNat)
  case atStart => exact ⟨1, 0, _, _, by omega, by omega, by omega, rfl, rfl, by rw [edg_one (pV_zero zs v)]; exact Own.empty w (Nat.le_refl _), (Below.refl _ _).alloc (Nat.le_refl _) _⟩
  case round =>
    obtain ⟨k, m, A', c', h1, hk, hm, rfl, rfl, hown, hbel⟩ := hrel
    have hk' : k ≤ 1048577 := by omega
    have hsz := hbel.size
    by_cases hlt : k < n
    · obtain ⟨b, off, rfl, hbb, hc⟩ := h.at_ (by omega)
      have hck := (hbel.cell (p := ⟨b, off + k, none⟩) hbb).trans (hc k hlt)
      have hcp := (hbel.cell (p := ⟨b, off + (k - 1), none⟩) hbb).trans (hc (k - 1) (by omega))
      clear hc hk
      by_cases hp : nth zs (k - 1) = v
      · have t1 : (nth zs (k - 1) != v) = false := by simp [hp]
        have hs : Own wr w.heap.size A' m c' (edgG (pV zs v) (k + 1)) := by rw [edgG_no (pV_no (.inl hp))]; exact hown
        clear hp hown
        go_wp2
        go_roundw
        case rel => exact ⟨k + 1, m, A', c', by omega, by omega, by omega, rfl, by go_num, hs, hbel⟩
        case measure => simp [intOf]; omega
      · have t1 : (nth zs (k - 1) != v) = true := by simp [hp]
        by_cases hv : nth zs k = v
        · have t2 : (nth zs k == v) = true := by simp [hv]
          have hst := hide (edgG_yes (pV_yes h1 hp hv))
          clear hp hv
          go_wp2_with (at_builtin; refine append_new rfl _ _ rfl w.heap.size rfl hown _ [(k : Int)] 1 rfl (I64.one (by omega) (by omega)) rfl rfl (by omega) hsz ?_; intro A2 c2 w2 own2 gr2)
          have hb2 := below_mark hbel hown (Nat.le_refl _) gr2
          rw [← hst.out] at own2
          go_roundw
          case rel => exact ⟨k + 1, m + 1, A2, c2, by omega, by omega, by omega, rfl, by go_num, own2, hb2⟩
          case measure => simp [intOf]; omega
        · have t2 : (nth zs k == v) = false := by simp [hv]
          have hs : Own wr w.heap.size A' m c' (edgG (pV zs v) (k + 1)) := by rw [edgG_no (pV_no (.inr hv))]; exact hown
          clear hp hv hown
          go_wp2
          go_roundw
          case rel => exact ⟨k + 1, m, A', c', by omega, by omega, by omega, rfl, by go_num, hs, hbel⟩
          case measure => simp [intOf]; omega
    · have hfin : Own wr w.heap.size A' m c' (edgV zs v) := by
        rw [edgV, ← edgG_end (pV_zero zs v) (k := k) (n := zs.length) (by omega)]
        exact hown
      have hmn : m ≤ n := by
        have := hfin.len
        have := edgG_len (pV zs v) zs.length
        unfold edgV at *
        omega
      clear hk hown
      go_wp2
      go_ret
      exact ⟨A', m, c', rfl, hfin, hbel, hmn⟩

theorem l22Edges_to (A : Option Addr) (n c : Nat) (zs : List Int) (v : Int) (w : World) (h : Rd w A n c zs) (hn : n ≤ 1048576) (hv0 : 0 ≤ v) :
    Calls Try.prog 103 #[.slice A n c, .int .i64 v] w fun e w' => ∃ A' m c', e = .returned (.slice A' m c') ∧ Own w' w.heap.size A' m c' (edgV zs v) ∧ Below w.heap.size w w' ∧ m ≤ n := by
  have hlen := h.le
  have hcap := h.cap
  have t0 : decide (v < 0) = false := by simp; omega
  go_enter Try.func103, Try.ntmps103
  go_wp2
  go_loopw [5, 6] (fun s i wr => ∃ (k m : Nat) (A' : Option Addr) (c' : Nat), 1 ≤ k ∧ (k ≤ n ∨ k = 1) ∧ m + 1 ≤ k ∧ s = .slice A' m c' ∧ i = .int .i64 k ∧ Own wr w.heap.size A' m c' (edgG (pV zs v) k) ∧ Below w.heap.size w wr) (fun _ i _ => n - (intOf i).toNat)
  case atStart => exact ⟨1, 0, _, _, by omega, by omega, by omega, rfl, rfl, by rw [edg_one (pV_zero zs v)]; exact Own.empty w (Nat.le_refl _), (Below.refl _ _).alloc (Nat.le_refl _) _⟩
  case round =>
    obtain ⟨k, m, A', c', h1, hk, hm, rfl, rfl, hown, hbel⟩ := hrel
    have hk' : k ≤ 1048577 := by omega
    have hsz := hbel.size
    by_cases hlt : k < n
    · obtain ⟨b, off, rfl, hbb, hc⟩ := h.at_ (by omega)
      have hck := (hbel.cell (p := ⟨b, off + k, none⟩) hbb).trans (hc k hlt)
      have hcp := (hbel.cell (p := ⟨b, off + (k - 1), none⟩) hbb).trans (hc (k - 1) (by omega))
      have z1 : (0 : Int) ≤ (k : Int) := by omega
      have z2 : (k : Int) < (n : Int) := by omega
      have z3 : (0 : Int) ≤ (k : Int) - 1 := by omega
      have z4 : (k : Int) - 1 < (n : Int) := by omega
      clear hc hk
      by_cases hp : nth zs k = nth zs (k - 1)
      · have t1 : (nth zs k != nth zs (k - 1)) = false := by simp [hp]
        have hs : Own wr w.heap.size A' m c' (edgG (pV zs v) (k + 1)) := by
          rw [edgG_no (pV_no (by rw [hp]; exact Classical.em _))]; exact hown
        clear hp hown
        go_wp2
        go_quiet (fail)
        go_wp2
        go_roundw
        case rel => exact ⟨k + 1, m, A', c', by omega, by omega, by omega, rfl, by go_num, hs.drewN _, below_drewN hbel _⟩
        case measure => simp [intOf]; omega
      · have t1 : (nth zs k != nth zs (k - 1)) = true := by simp [hp]
        by_cases hv : nth zs k = v
        · have t2 : (nth zs k == v) = true := by simp [hv]
          have hst := hide (edgG_yes (pV_yes h1 (fun e => hp (hv.trans e.symm)) hv))
          clear hp hv
          go_wp2
          go_quiet (fail)
          go_wp2_with (at_builtin; refine append_new rfl _ _ rfl w.heap.size rfl (hown.drewN _) _ [(k : Int)] 1 rfl (I64.one (by omega) (by omega)) rfl rfl (by omega) hsz ?_; intro A2 c2 w2 own2 gr2)
          have hb2 := below_mark (below_drewN hbel _) (hown.drewN _) (Nat.le_refl _) gr2
          rw [← hst.out] at own2
          go_roundw
          case rel => exact ⟨k + 1, m + 1, A2, c2, by omega, by omega, by omega, rfl, by go_num, own2, hb2⟩
          case measure => simp [intOf]; omega
        · have t2 : (nth zs k == v) = false := by simp [hv]
          have hs : Own wr w.heap.size A' m c' (edgG (pV zs v) (k + 1)) := by rw [edgG_no (pV_no (.inr hv))]; exact hown
          clear hp hv hown
          go_wp2
          go_quiet (fail)
          go_wp2
          go_roundw
          case rel => exact ⟨k + 1, m, A', c', by omega, by omega, by omega, rfl, by go_num, hs.drewN _, below_drewN hbel _⟩
          case measure => simp [intOf]; omega
    · have hfin : Own wr w.heap.size A' m c' (edgV zs v) := by
        rw [edgV, ← edgG_end (pV_zero zs v) (k := k) (n := zs.length) (by omega)]
        exact hown
      have hmn : m ≤ n := by
        have := hfin.len
        have := edgG_len (pV zs v) zs.length
        unfold edgV at *
        omega
      clear hk hown
      go_wp2
      go_ret
      exact ⟨A', m, c', rfl, hfin, hbel, hmn⟩

def fallR (zs : List Int) : List Int := if bitsB zs then edgV zs 0 else []
def riseR (zs : List Int) : List Int := if bitsB zs then edgV zs 1 else []
theorem fallR_yes {zs : List Int} (h : bitsB zs = true) : fallR zs = edgV zs 0 := by simp [fallR, h]
theorem fallR_no {zs : List Int} (h : bitsB zs = false) : fallR zs = [] := by simp [fallR, h]
theorem riseR_yes {zs : List Int} (h : bitsB zs = true) : riseR zs = edgV zs 1 := by simp [riseR, h]
theorem riseR_no {zs : List Int} (h : bitsB zs = false) : riseR zs = [] := by simp [riseR, h]
theorem iFallingEdges_c (A : Option Addr) (n c : Nat) (zs : List Int) (w : World) (h : Rd w A n c zs) (hn : n ≤ 1048576) :
    Calls Try.prog 46 #[.slice A n c] w fun e w' => ∃ A' n' c', e = .returned (.tuple #[.slice A' n' c', .int .i64 (bitsC zs)]) ∧ Own w' w.heap.size A' n' c' (fallR zs) ∧ Below w.heap.size w w' ∧ n' ≤ 1048576 := by
  by_cases hb : bitsB zs = true
  · have hC := hide (bitsC_yes hb)
    have hR := hide (fallR_yes hb)
    go_enter Try.func46, Try.ntmps46
    go_wp2_with (first | (go_at_call 100; refine (iIsBits_any _ _ _ zs _ h).mono ?_; rintro e w' ⟨rfl, rfl⟩) | (go_at_call 104; refine (edgesTo_any _ _ _ zs _ _ h hn).mono ?_; rintro e w' ⟨A', m, c', rfl, own, bel, hm⟩))
    go_ret2
    exact ⟨A', m, c', ret_sc hC.out, by rw [hR.out]; exact own, bel, by omega⟩
  · have hb : bitsB zs = false := by simpa using hb
    have hC := hide (bitsC_no hb)
    have hR := hide (fallR_no hb)
    go_enter Try.func46, Try.ntmps46
    go_wp2_with (go_at_call 100; refine (iIsBits_any _ _ _ zs _ h).mono ?_; rintro e w' ⟨rfl, rfl⟩)
    go_ret2
    exact ⟨none, 0, 0, ret_sc hC.out, by rw [hR.out]; exact Own.nil _ _, Below.refl _ _, by omega⟩
theorem sFallingEdges_c (A : Option Addr) (n c : Nat) (zs : List Int) (w : World) (h : Rd w A n c zs) (hn : n ≤ 1048576) :
    Calls Try.prog 45 #[.slice A n c] w fun e w' => ∃ A' n' c', e = .returned (.tuple #[.slice A' n' c', .int .i64 (bitsC zs)]) ∧ Own w' w.heap.size A' n' c' (fallR zs) ∧ Below w.heap.size w w' ∧ n' ≤ 1048576 := by
  by_cases hb : bitsB zs = true
  · have hC := hide (bitsC_yes hb)
    have hR := hide (fallR_yes hb)
    go_enter Try.func45, Try.ntmps45
    go_wp2_with (first | (go_at_call 99; refine (sIsBits_any _ _ _ zs _ h).mono ?_; rintro e w' ⟨rfl, rfl⟩) | (go_at_call 103; refine (l22Edges_to _ _ _ zs _ _ h hn (by omega)).mono ?_; rintro e w' ⟨A', m, c', rfl, own, bel, hm⟩))
    go_ret2
    exact ⟨A', m, c', ret_sc hC.out, by rw [hR.out]; exact own, bel, by omega⟩
  · have hb : bitsB zs = false := by simpa using hb
    have hC := hide (bitsC_no hb)
    have hR := hide (fallR_no hb)
    go_enter Try.func45, Try.ntmps45
    go_wp2_with (go_at_call 99; refine (sIsBits_any _ _ _ zs _ h).mono ?_; rintro e w' ⟨rfl, rfl⟩)
    go_ret2
    exact ⟨none, 0, 0, ret_sc hC.out, by rw [hR.out]; exact Own.nil _ _, Below.refl _ _, by omega⟩
theorem iRisingEdges_c (A : Option Addr) (n c : Nat) (zs : List Int) (w : World) (h : Rd w A n c zs) (hn : n ≤ 1048576) :
    Calls Try.prog 48 #[.slice A n c] w fun e w' => ∃ A' n' c', e = .returned (.tuple #[.slice A' n' c', .int .i64 (bitsC zs)]) ∧ Own w' w.heap.size A' n' c' (riseR zs) ∧ Below w.heap.size w w' ∧ n' ≤ 1048576 := by
  by_cases hb : bitsB zs = true
  · have hC := hide (bitsC_yes hb)
    have hR := hide (riseR_yes hb)
    go_enter Try.func48, Try.ntmps48
    go_wp2_with (first | (go_at_call 100; refine (iIsBits_any _ _ _ zs _ h).mono ?_; rintro e w' ⟨rfl, rfl⟩) | (go_at_call 104; refine (edgesTo_any _ _ _ zs _ _ h hn).mono ?_; rintro e w' ⟨A', m, c', rfl, own, bel, hm⟩))
    go_ret2
    exact ⟨A', m, c', ret_sc hC.out, by rw [hR.out]; exact own, bel, by omega⟩
  · have hb : bitsB zs = false := by simpa using hb
    have hC := hide (bitsC_no hb)
    have hR := hide (riseR_no hb)
    go_enter Try.func48, Try.ntmps48
    go_wp2_with (go_at_call 100; refine (iIsBits_any _ _ _ zs _ h).mono ?_; rintro e w' ⟨rfl, rfl⟩)
    go_ret2
    exact ⟨none, 0, 0, ret_sc hC.out, by rw [hR.out]; exact Own.nil _ _, Below.refl _ _, by omega⟩
theorem sRisingEdges_c (A : Option Addr) (n c : Nat) (zs : List Int) (w : World) (h : Rd w A n c zs) (hn : n ≤ 1048576) :
    Calls Try.prog 47 #[.slice A n c] w fun e w' => ∃ A' n' c', e = .returned (.tuple #[.slice A' n' c', .int .i64 (bitsC zs)]) ∧ Own w' w.heap.size A' n' c' (riseR zs) ∧ Below w.heap.size w w' ∧ n' ≤ 1048576 := by
  by_cases hb : bitsB zs = true
  · have hC := hide (bitsC_yes hb)
    have hR := hide (riseR_yes hb)
    go_enter Try.func47, Try.ntmps47
    go_wp2_with (first | (go_at_call 99; refine (sIsBits_any _ _ _ zs _ h).mono ?_; rintro e w' ⟨rfl, rfl⟩) | (go_at_call 103; refine (l22Edges_to _ _ _ zs _ _ h hn (by omega)).mono ?_; rintro e w' ⟨A', m, c', rfl, own, bel, hm⟩))
    go_ret2
    exact ⟨A', m, c', ret_sc hC.out, by rw [hR.out]; exact own, bel, by omega⟩
  · have hb : bitsB zs = false := by simpa using hb
    have hC := hide (bitsC_no hb)
    have hR := hide (riseR_no hb)
    go_enter Try.func47, Try.ntmps47
    go_wp2_with (go_at_call 99; refine (sIsBits_any _ _ _ zs _ h).mono ?_; rintro e w' ⟨rfl, rfl⟩)
    go_ret2
    exact ⟨none, 0, 0, ret_sc hC.out, by rw [hR.out]; exact Own.nil _ _, Below.refl _ _, by omega⟩
end Go.Proofs.Ytopccpnkokdmiaa
