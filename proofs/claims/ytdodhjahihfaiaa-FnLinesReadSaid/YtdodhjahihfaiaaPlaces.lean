/- Contracts: the places of a line's bits, by the program and by the reference. -/
import Derived.Test.YtdodhjahihfaiaaShape
namespace Go.Proofs.Ytdodhjahihfaiaa
open Go.RowKit
set_option linter.unusedVariables false
set_option linter.unusedSimpArgs false

theorem placeB_zero (a p k : Nat) : placeB a p k 0 = [] := rfl
set_option maxHeartbeats 3200000 in
theorem sDataCells_c (A : Option Addr) (n c : Nat) (zs : List Int) (w : World) (h : Rd w A n c zs) (hn : n ≤ 1048576) :
    Calls Try.prog 53 #[.slice A n c] w fun e w' => ∃ A' m c', e = .returned (.tuple #[.slice A' m c', .int .i64 (lnC zs)]) ∧ Own w' w.heap.size A' m c' (lnW zs) ∧ Below w.heap.size w w' ∧ m ≤ 1048576 := by
  have hlen := h.le
  have hd := lnD_len zs
  go_enter Try.func53, Try.ntmps53
  go_wp2_with fail
  refine (l18Line_any _ _ _ zs _ h).mono ?_
  rintro e w1 ⟨A1, m, c1, rfl, own1, bel1, hm⟩
  by_cases hl : bitsB zs = true ∧ lineB zs = true
  · obtain ⟨h1, h2⟩ := bitsB_get hl.1
    have E := ln_yes hl.1 hl.2
    have t1 : (lnC zs != 0) = false := by simp [E.1]
    have EC := hide E.1
    have EW := hide E.2.2.2.2
    have hbd := line_bounds (zs := zs)
    have hm10 : 10 * m ≤ n := by have := own1.len; omega
    have hmK : m = lineK zs := by rw [lineK_len, ← E.2.2.2.1]; exact own1.len.symm
    rw [E.2.1, E.2.2.1]
    obtain ⟨a, ha⟩ : ∃ a, a = lineA zs := ⟨_, rfl⟩
    obtain ⟨p, hp⟩ : ∃ p, p = lineP zs := ⟨_, rfl⟩
    have LW := hide (show lineW zs = placesTo a p m by rw [lineW, ha, hp, hmK])
    rw [← ha, ← hp] at hbd ⊢
    clear E hmK ha hp
    go_wp2
    go_loopw [8, 9] (fun s i wr => ∃ (k : Nat) (A' : Option Addr) (c' : Nat), k ≤ m ∧ i = .int .i64 k ∧ s = .slice A' (8 * k) c' ∧ Own wr w.heap.size A' (8 * k) c' (placesTo a p k) ∧ Below w.heap.size w wr) (fun _ i _ => m - (intOf i).toNat)
    case atStart => exact ⟨0, _, _, by omega, rfl, rfl, (Own.empty w1 (B := w.heap.size) bel1.size), bel1.alloc bel1.size _⟩
    case round =>
      obtain ⟨k, A', c', hk, rfl, rfl, hown, hbel⟩ := hrel
      by_cases hlt : k < m
      · have hst := hide (placesTo_succ a p k)
        go_wp2
        go_loopw [8, 10] (fun s i wr => ∃ (j : Nat) (A' : Option Addr) (c' : Nat), j ≤ 8 ∧ i = .int .i64 j ∧ s = .slice A' (8 * k + j) c' ∧ Own wr w.heap.size A' (8 * k + j) c' (placesTo a p k ++ placeB a p k j) ∧ Below w.heap.size w wr) (fun _ i _ => 8 - (intOf i).toNat)
        case atStart => exact ⟨0, A', c', by omega, rfl, rfl, by simpa [placeB_zero] using hown, hbel⟩
        case round =>
          obtain ⟨j, A2, c2, hj, rfl, rfl, own2, bel2⟩ := hrel
          have hsz := bel2.size
          by_cases hj8 : j < 8
          · have hps := hide (placeB_succ a p k j)
            go_wp2_with (at_builtin; refine append_new rfl _ _ rfl w.heap.size rfl own2 _ [(a : Int) + (p : Int) + 1 + 10 * (k : Int) + 2 + (j : Int)] 1 rfl (I64.one (by omega) (by omega)) rfl rfl (by omega) hsz ?_; intro A3 c3 w3 own3 gr3)
            have hb3 := below_own bel2 hsz own2 (Nat.le_refl _) gr3
            rw [List.append_assoc, ← hps.out] at own3
            go_roundw
            case rel => exact ⟨j + 1, A3, c3, by omega, by go_num, rfl, own3, hb3⟩
            case measure => simp [intOf]; omega
          · obtain rfl : j = 8 := by omega
            rw [← hst.out] at own2
            go_wp2
            go_roundw
            case rel => exact ⟨k + 1, A2, c2, by omega, by go_num, rfl, own2, bel2⟩
            case measure => simp [intOf]; omega
      · obtain rfl : k = m := by omega
        go_wp2
        go_ret2
        exact ⟨_, _, _, ret_sc EC.out.symm, by rw [EW.out, LW.out]; exact hown, hbel, by omega⟩
  · have E : Hid (lnC zs ≠ 0 ∧ lnW zs = []) := by
      by_cases hz : bitsB zs = true
      · have hl2 : lineB zs = false := by
          cases e : lineB zs
          · rfl
          · exact absurd ⟨hz, e⟩ hl
        have := ln_no hz hl2
        exact ⟨by rw [this.1]; decide, this.2.2.2.2⟩
      · rw [Bool.not_eq_true] at hz
        have := ln_bad hz
        exact ⟨by rw [this.1]; decide, this.2.2.2.2⟩
    have t1 : (lnC zs != 0) = true := by simpa using E.out.1
    clear hl
    go_wp2
    go_ret2
    exact ⟨none, 0, 0, rfl, by rw [E.out.2]; exact Own.nil _ _, bel1, by omega⟩
set_option maxHeartbeats 3200000 in
theorem iDataCells_c (A : Option Addr) (n c : Nat) (zs : List Int) (w : World) (h : Rd w A n c zs) (hn : n ≤ 1048576) :
    Calls Try.prog 54 #[.slice A n c] w fun e w' => ∃ A' m c', e = .returned (.tuple #[.slice A' m c', .int .i64 (lnC zs)]) ∧ Own w' w.heap.size A' m c' (lnW zs) ∧ Below w.heap.size w w' ∧ m ≤ 1048576 := by
  have hlen := h.le
  have hd := lnD_len zs
  go_enter Try.func54, Try.ntmps54
  go_wp2_with fail
  refine (iShapeOfLine_c _ _ _ zs _ h hn).mono ?_
  rintro e w1 ⟨rfl, bel1⟩
  by_cases hl : bitsB zs = true ∧ lineB zs = true
  · obtain ⟨h1, h2⟩ := bitsB_get hl.1
    have E := ln_yes hl.1 hl.2
    have t1 : (lnC zs != 0) = false := by simp [E.1]
    have EC := hide E.1
    have EW := hide E.2.2.2.2
    have hbd := line_bounds (zs := zs)
    obtain ⟨m, hm⟩ : ∃ m, m = (lnD zs).length := ⟨_, rfl⟩
    have hm10 : 10 * m ≤ n := by omega
    have hmK : m = lineK zs := by rw [lineK_len, ← E.2.2.2.1]; exact hm
    rw [E.2.1, E.2.2.1, ← hm]
    obtain ⟨a, ha⟩ : ∃ a, a = lineA zs := ⟨_, rfl⟩
    obtain ⟨p, hp⟩ : ∃ p, p = lineP zs := ⟨_, rfl⟩
    have LW := hide (show lineW zs = placesTo a p m by rw [lineW, ha, hp, hmK])
    rw [← ha, ← hp] at hbd ⊢
    clear E hmK ha hp hm
    go_wp2
    go_loopw [8, 23] (fun s i wr => ∃ (k : Nat) (A' : Option Addr) (c' : Nat), k ≤ m ∧ i = .int .i64 k ∧ s = .slice A' (8 * k) c' ∧ Own wr w.heap.size A' (8 * k) c' (placesTo a p k) ∧ Below w.heap.size w wr) (fun _ i _ => m - (intOf i).toNat)
    case atStart => exact ⟨0, _, _, by omega, rfl, rfl, (Own.empty w1 (B := w.heap.size) bel1.size), bel1.alloc bel1.size _⟩
    case round =>
      obtain ⟨k, A', c', hk, rfl, rfl, hown, hbel⟩ := hrel
      by_cases hlt : k < m
      · have hst := hide (placesTo_succ a p k)
        go_wp2
        go_loopw [8, 26] (fun s i wr => ∃ (j : Nat) (A' : Option Addr) (c' : Nat), j ≤ 8 ∧ i = .int .i64 j ∧ s = .slice A' (8 * k + j) c' ∧ Own wr w.heap.size A' (8 * k + j) c' (placesTo a p k ++ placeB a p k j) ∧ Below w.heap.size w wr) (fun _ i _ => 8 - (intOf i).toNat)
        case atStart => exact ⟨0, A', c', by omega, rfl, rfl, by simpa [placeB_zero] using hown, hbel⟩
        case round =>
          obtain ⟨j, A2, c2, hj, rfl, rfl, own2, bel2⟩ := hrel
          have hsz := bel2.size
          by_cases hj8 : j < 8
          · have hps := hide (placeB_succ a p k j)
            go_wp2_with (at_builtin; refine append_new rfl _ _ rfl w.heap.size rfl own2 _ [(a : Int) + (p : Int) + 1 + 10 * (k : Int) + 2 + (j : Int)] 1 rfl (I64.one (by omega) (by omega)) rfl rfl (by omega) hsz ?_; intro A3 c3 w3 own3 gr3)
            have hb3 := below_own bel2 hsz own2 (Nat.le_refl _) gr3
            rw [List.append_assoc, ← hps.out] at own3
            go_roundw
            case rel => exact ⟨j + 1, A3, c3, by omega, by go_num, rfl, own3, hb3⟩
            case measure => simp [intOf]; omega
          · obtain rfl : j = 8 := by omega
            rw [← hst.out] at own2
            go_wp2
            go_roundw
            case rel => exact ⟨k + 1, A2, c2, by omega, by go_num, rfl, own2, bel2⟩
            case measure => simp [intOf]; omega
      · obtain rfl : k = m := by omega
        go_wp2
        go_ret2
        exact ⟨_, _, _, ret_sc EC.out.symm, by rw [EW.out, LW.out]; exact hown, hbel, by omega⟩
  · have E : Hid (lnC zs ≠ 0 ∧ lnW zs = []) := by
      by_cases hz : bitsB zs = true
      · have hl2 : lineB zs = false := by
          cases e : lineB zs
          · rfl
          · exact absurd ⟨hz, e⟩ hl
        have := ln_no hz hl2
        exact ⟨by rw [this.1]; decide, this.2.2.2.2⟩
      · rw [Bool.not_eq_true] at hz
        have := ln_bad hz
        exact ⟨by rw [this.1]; decide, this.2.2.2.2⟩
    have t1 : (lnC zs != 0) = true := by simpa using E.out.1
    clear hl
    go_wp2
    go_ret2
    exact ⟨none, 0, 0, rfl, by rw [E.out.2]; exact Own.nil _ _, bel1, by omega⟩
end Go.Proofs.Ytdodhjahihfaiaa
