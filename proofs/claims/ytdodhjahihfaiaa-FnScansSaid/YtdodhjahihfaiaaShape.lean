/- Contracts: a line's bytes, its shape and the places of its bits, by the program and by the reference. -/
import Derived.Test.YtdodhjahihfaiaaParse
import Derived.Test.YtdodhjahihfaiaaMoreMath
namespace Go.Proofs.Ytdodhjahihfaiaa
open Go.RowKit
set_option linter.unusedVariables false
set_option linter.unusedSimpArgs false

/-- the code of a line -/
def lnC (zs : List Int) : Int := if bitsB zs then (if lineB zs then 0 else 6) else 1
def lnA (zs : List Int) : Int := if lnC zs = 0 then (lineA zs : Int) else 0
def lnP (zs : List Int) : Int := if lnC zs = 0 then (lineP zs : Int) else 0
def lnD (zs : List Int) : List Int := if lnC zs = 0 then lineD zs else []
def lnW (zs : List Int) : List Int := if lnC zs = 0 then lineW zs else []
theorem ln_bad {zs : List Int} (h : bitsB zs = false) : lnC zs = 1 ∧ lnA zs = 0 ∧ lnP zs = 0 ∧ lnD zs = [] ∧ lnW zs = [] := by
  have : lnC zs = 1 := by simp [lnC, h]
  simp [lnA, lnP, lnD, lnW, this]
theorem ln_no {zs : List Int} (h : bitsB zs = true) (h2 : lineB zs = false) : lnC zs = 6 ∧ lnA zs = 0 ∧ lnP zs = 0 ∧ lnD zs = [] ∧ lnW zs = [] := by
  have : lnC zs = 6 := by simp [lnC, h, h2]
  simp [lnA, lnP, lnD, lnW, this]
theorem ln_yes {zs : List Int} (h : bitsB zs = true) (h2 : lineB zs = true) : lnC zs = 0 ∧ lnA zs = lineA zs ∧ lnP zs = lineP zs ∧ lnD zs = lineD zs ∧ lnW zs = lineW zs := by
  have : lnC zs = 0 := by simp [lnC, h, h2]
  simp [lnA, lnP, lnD, lnW, this]
theorem bitsB_get {zs : List Int} (h : bitsB zs = true) : zs.length ≤ 8192 ∧ allB 0 1 zs = true := by simpa [bitsB, upB] using h
theorem lnD_len (zs : List Int) : 10 * (lnD zs).length ≤ zs.length := by
  rw [lnD]
  split
  · rename_i h
    rw [lnC] at h
    split at h
    · split at h
      · rename_i h2
        have := rlD_len zs
        rw [(rl_yes h2).2.2] at this
        exact this
      · cases h
    · cases h
  · simp
theorem lineK_len (zs : List Int) : lineK zs = (lineD zs).length := by rw [lineD, datas_len]

theorem l18Line_any (A : Option Addr) (n c : Nat) (zs : List Int) (w : World) (h : Rd w A n c zs) :
    Calls Try.prog 89 #[.slice A n c] w fun e w' => ∃ A' m c', e = .returned (.tuple #[.int .i64 (lnA zs), .int .i64 (lnP zs), .slice A' m c', .int .i64 (lnC zs)]) ∧ Own w' w.heap.size A' m c' (lnD zs) ∧ Below w.heap.size w w' ∧ m ≤ 1048576 := by
  have hlen := h.le
  by_cases hz : bitsB zs = true
  · obtain ⟨h1, h2⟩ := bitsB_get hz
    go_enter Try.func89, Try.ntmps89
    by_cases hl : lineB zs = true
    · have E := hide (ln_yes hz hl)
      have R := hide (rl_yes hl)
      go_wp2_with (first | (go_at_call 82; refine (sIsBits_any _ _ _ _ _ h).mono ?_; rintro e w' ⟨rfl, rfl⟩) | (go_at_call 111; refine (l18Parse_any _ _ _ zs _ h (by omega) h2).mono ?_; rintro e w' ⟨A', m, c', rfl, hown, hbel, hm⟩))
      refine bodyPost_ret (results_tmp4 rfl _ _ _) rfl ?_
      refine ⟨A', m, c', ?_, by rw [E.out.2.2.2.1, ← R.out.2.2]; exact hown, hbel, hm⟩
      rw [E.out.1, E.out.2.1, E.out.2.2.1, R.out.1, R.out.2.1]
      rfl
    · rw [Bool.not_eq_true] at hl
      have E := hide (ln_no hz hl)
      go_wp2_with (first | (go_at_call 82; refine (sIsBits_any _ _ _ _ _ h).mono ?_; rintro e w' ⟨rfl, rfl⟩) | (go_at_call 111; refine (l18Parse_any _ _ _ zs _ h (by omega) h2).mono ?_; rintro e w' ⟨A', m, c', rfl, hown, hbel, hm⟩))
      refine bodyPost_ret (results_tmp4 rfl _ _ _) rfl ?_
      refine ⟨none, 0, 0, ?_, by rw [E.out.2.2.2.1]; exact Own.nil _ _, hbel, by omega⟩
      rw [E.out.1, E.out.2.1, E.out.2.2.1]
      rfl
  · rw [Bool.not_eq_true] at hz
    have E := hide (ln_bad hz)
    go_enter Try.func89, Try.ntmps89
    go_wp2_with (go_at_call 82; refine (sIsBits_any _ _ _ _ _ h).mono ?_; rintro e w' ⟨rfl, rfl⟩)
    refine bodyPost_ret (results_tmp4 rfl _ _ _) rfl ?_
    refine ⟨none, 0, 0, ?_, by rw [E.out.2.2.2.1]; exact Own.nil _ _, Below.refl _ _, by omega⟩
    rw [E.out.1, E.out.2.1, E.out.2.2.1]
    rfl
theorem sBytesOfLine_c (A : Option Addr) (n c : Nat) (zs : List Int) (w : World) (h : Rd w A n c zs) (hn : n ≤ 1048576) :
    Calls Try.prog 47 #[.slice A n c] w fun e w' => ∃ A' m c', e = .returned (.tuple #[.slice A' m c', .int .i64 (lnC zs)]) ∧ Own w' w.heap.size A' m c' (lnD zs) ∧ Below w.heap.size w w' ∧ m ≤ 1048576 := by
  go_enter Try.func47, Try.ntmps47
  go_wp2_with fail
  refine (l18Line_any _ _ _ zs _ h).mono ?_
  rintro e w' ⟨A', m, c', rfl, hown, hbel, hm⟩
  go_wp2
  go_ret2
  exact ⟨A', m, c', rfl, hown, hbel, hm⟩
theorem sShapeOfLine_c (A : Option Addr) (n c : Nat) (zs : List Int) (w : World) (h : Rd w A n c zs) (hn : n ≤ 1048576) :
    Calls Try.prog 43 #[.slice A n c] w fun e w' => e = .returned (.tuple #[.int .i64 (lnA zs), .int .i64 (lnP zs), .int .i64 ((lnD zs).length : Nat), .int .i64 (lnC zs)]) ∧ Below w.heap.size w w' := by
  go_enter Try.func43, Try.ntmps43
  go_wp2_with fail
  refine (l18Line_any _ _ _ zs _ h).mono ?_
  rintro e w' ⟨A', m, c', rfl, hown, hbel, hm⟩
  have L := hide hown.len
  go_wp2
  refine bodyPost_ret (results_tmp4 rfl _ _ _) rfl ?_
  refine ⟨?_, hbel⟩
  rw [L.out]
  rfl
theorem sIsLine_c (A : Option Addr) (n c : Nat) (zs : List Int) (w : World) (h : Rd w A n c zs) (hn : n ≤ 1048576) :
    Calls Try.prog 45 #[.slice A n c] w fun e w' => e = .returned (.bool (lnC zs == 0)) ∧ Below w.heap.size w w' := by
  go_enter Try.func45, Try.ntmps45
  go_wp2_with fail
  refine (l18Line_any _ _ _ zs _ h).mono ?_
  rintro e w' ⟨A', m, c', rfl, hown, hbel, hm⟩
  go_wp2
  go_ret
  exact ⟨rfl, hbel⟩
theorem iBytesOfLine_c (A : Option Addr) (n c : Nat) (zs : List Int) (w : World) (h : Rd w A n c zs) (hn : n ≤ 1048576) :
    Calls Try.prog 48 #[.slice A n c] w fun e w' => ∃ A' m c', e = .returned (.tuple #[.slice A' m c', .int .i64 (lnC zs)]) ∧ Own w' w.heap.size A' m c' (lnD zs) ∧ Below w.heap.size w w' ∧ m ≤ 1048576 := by
  have hlen := h.le
  by_cases hz : bitsB zs = true
  · obtain ⟨h1, h2⟩ := bitsB_get hz
    go_enter Try.func48, Try.ntmps48
    by_cases hl : lineB zs = true
    · have E := hide (ln_yes hz hl)
      have R := hide (rl_yes hl)
      go_wp2_with (first | (go_at_call 83; refine (iIsBits_any _ _ _ _ _ h).mono ?_; rintro e w' ⟨rfl, rfl⟩) | (go_at_call 90; refine (readLine_any _ _ _ zs _ h (by omega) h2).mono ?_; rintro e w' ⟨A', m, c', rfl, hown, hbel, hm⟩))
      go_ret2
      exact ⟨A', m, c', ret_sc E.out.1.symm, by rw [E.out.2.2.2.1, ← R.out.2.2]; exact hown, hbel, hm⟩
    · rw [Bool.not_eq_true] at hl
      have E := hide (ln_no hz hl)
      go_wp2_with (first | (go_at_call 83; refine (iIsBits_any _ _ _ _ _ h).mono ?_; rintro e w' ⟨rfl, rfl⟩) | (go_at_call 90; refine (readLine_any _ _ _ zs _ h (by omega) h2).mono ?_; rintro e w' ⟨A', m, c', rfl, hown, hbel, hm⟩))
      go_ret2
      exact ⟨none, 0, 0, ret_sc E.out.1.symm, by rw [E.out.2.2.2.1]; exact Own.nil _ _, hbel, by omega⟩
  · rw [Bool.not_eq_true] at hz
    have E := hide (ln_bad hz)
    go_enter Try.func48, Try.ntmps48
    go_wp2_with (go_at_call 83; refine (iIsBits_any _ _ _ _ _ h).mono ?_; rintro e w' ⟨rfl, rfl⟩)
    go_ret2
    exact ⟨none, 0, 0, ret_sc E.out.1.symm, by rw [E.out.2.2.2.1]; exact Own.nil _ _, Below.refl _ _, by omega⟩
theorem iIsLine_c (A : Option Addr) (n c : Nat) (zs : List Int) (w : World) (h : Rd w A n c zs) (hn : n ≤ 1048576) :
    Calls Try.prog 46 #[.slice A n c] w fun e w' => e = .returned (.bool (lnC zs == 0)) ∧ Below w.heap.size w w' := by
  go_enter Try.func46, Try.ntmps46
  go_wp2_with fail
  refine (iBytesOfLine_c _ _ _ zs _ h hn).mono ?_
  rintro e w' ⟨A', m, c', rfl, hown, hbel, hm⟩
  go_wp2
  go_ret
  exact ⟨rfl, hbel⟩
theorem iShapeOfLine_c (A : Option Addr) (n c : Nat) (zs : List Int) (w : World) (h : Rd w A n c zs) (hn : n ≤ 1048576) :
    Calls Try.prog 44 #[.slice A n c] w fun e w' => e = .returned (.tuple #[.int .i64 (lnA zs), .int .i64 (lnP zs), .int .i64 ((lnD zs).length : Nat), .int .i64 (lnC zs)]) ∧ Below w.heap.size w w' := by
  have hlen := h.le
  by_cases hz : bitsB zs = true
  · obtain ⟨h1, h2⟩ := bitsB_get hz
    go_enter Try.func44, Try.ntmps44
    by_cases hl : lineB zs = true
    · have E := hide (ln_yes hz hl)
      have R := hide (rl_yes hl)
      go_wp2_with (first | (go_at_call 83; refine (iIsBits_any _ _ _ _ _ h).mono ?_; rintro e w' ⟨rfl, rfl⟩) | (go_at_call 90; refine (readLine_any _ _ _ zs _ h (by omega) h2).mono ?_; rintro e w' ⟨A', m, c', rfl, hown, hbel, hm⟩))
      have L := hide hown.len
      refine bodyPost_ret (results_tmp4 rfl _ _ _) rfl ?_
      refine ⟨?_, hbel⟩
      rw [E.out.1, E.out.2.1, E.out.2.2.1, E.out.2.2.2.1, ← R.out.1, ← R.out.2.1, ← R.out.2.2, L.out]
      rfl
    · rw [Bool.not_eq_true] at hl
      have E := hide (ln_no hz hl)
      go_wp2_with (first | (go_at_call 83; refine (iIsBits_any _ _ _ _ _ h).mono ?_; rintro e w' ⟨rfl, rfl⟩) | (go_at_call 90; refine (readLine_any _ _ _ zs _ h (by omega) h2).mono ?_; rintro e w' ⟨A', m, c', rfl, hown, hbel, hm⟩))
      refine bodyPost_ret (results_tmp4 rfl _ _ _) rfl ?_
      refine ⟨?_, hbel⟩
      rw [E.out.1, E.out.2.1, E.out.2.2.1, E.out.2.2.2.1]
      rfl
  · rw [Bool.not_eq_true] at hz
    have E := hide (ln_bad hz)
    go_enter Try.func44, Try.ntmps44
    go_wp2_with (go_at_call 83; refine (iIsBits_any _ _ _ _ _ h).mono ?_; rintro e w' ⟨rfl, rfl⟩)
    refine bodyPost_ret (results_tmp4 rfl _ _ _) rfl ?_
    refine ⟨?_, Below.refl _ _⟩
    rw [E.out.1, E.out.2.1, E.out.2.2.1, E.out.2.2.2.1]
    rfl
end Go.Proofs.Ytdodhjahihfaiaa
