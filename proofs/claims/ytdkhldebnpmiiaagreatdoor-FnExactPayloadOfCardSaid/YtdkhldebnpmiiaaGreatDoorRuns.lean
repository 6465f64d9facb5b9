/- Contracts: the lengths of runs. -/
import Derived.Test.YtdkhldebnpmiiaaGreatDoorMiddle
namespace Go.Proofs.YtdkhldebnpmiiaaGreatDoor
open Go.RowKit
set_option linter.unusedVariables false
set_option linter.unusedSimpArgs false

/-- the last number of a list raised by one -/
def bump (l : List Int) : List Int := l.set (l.length - 1) (nth l (l.length - 1) + 1)
theorem bump_snoc (l : List Int) (x : Int) : bump (l ++ [x]) = l ++ [x + 1] := by
  have hl : (l ++ [x]).length - 1 = l.length := by simp
  have hn : nth (l ++ [x]) l.length = x := by
    rw [nth_eq (by simp)]
    simp
  rw [bump, hl, hn, List.set_append_right _ _ (Nat.le_refl _), Nat.sub_self, List.set_cons_zero]
theorem bump_len (l : List Int) : (bump l).length = l.length := by simp [bump]
/-- the lengths of the runs of the first k samples -/
def runsTo (zs : List Int) : Nat → List Int
  | 0 => []
  | k + 1 => if 0 < k ∧ nth zs k = nth zs (k - 1) then bump (runsTo zs k) else runsTo zs k ++ [1]
theorem runsTo_same {zs : List Int} {k : Nat} (h : 0 < k ∧ nth zs k = nth zs (k - 1)) : runsTo zs (k + 1) = bump (runsTo zs k) := by rw [runsTo, if_pos h]
theorem runsTo_new {zs : List Int} {k : Nat} (h : ¬ (0 < k ∧ nth zs k = nth zs (k - 1))) : runsTo zs (k + 1) = runsTo zs k ++ [1] := by rw [runsTo, if_neg h]
theorem runsTo_len (zs : List Int) (k : Nat) : (runsTo zs k).length ≤ k ∧ (0 < k → 0 < (runsTo zs k).length) := by
  induction k with
  | zero => exact ⟨Nat.le_refl _, fun h => absurd h (by omega)⟩
  | succ k ih =>
    by_cases h : 0 < k ∧ nth zs k = nth zs (k - 1)
    · rw [runsTo_same h, bump_len]
      have := ih.2 h.1
      omega
    · rw [runsTo_new h, List.length_append, List.length_singleton]
      omega
theorem runsTo_bounds (zs : List Int) (k : Nat) : ∀ z ∈ runsTo zs k, 1 ≤ z ∧ z ≤ k := by
  induction k with
  | zero => intro z hz; cases hz
  | succ k ih =>
    intro z hz
    by_cases h : 0 < k ∧ nth zs k = nth zs (k - 1)
    · rw [runsTo_same h] at hz
      rcases List.mem_or_eq_of_mem_set hz with hz | rfl
      · have := ih z hz; omega
      · have hl := (runsTo_len zs k).2 h.1
        have := ih _ (nth_mem (zs := runsTo zs k) (k := (runsTo zs k).length - 1) (by omega))
        omega
    · rw [runsTo_new h] at hz
      rcases List.mem_append.1 hz with hz | hz
      · have := ih z hz; omega
      · simp at hz
        omega
def runs (zs : List Int) : List Int := runsTo zs zs.length

theorem runsTo_last (zs : List Int) (k : Nat) (h : 0 < k) : 1 ≤ nth (runsTo zs k) ((runsTo zs k).length - 1) ∧ nth (runsTo zs k) ((runsTo zs k).length - 1) ≤ k :=
  runsTo_bounds zs k _ (nth_mem (by have := (runsTo_len zs k).2 h; omega))



def runR (zs : List Int) : List Int := if bitsB zs then runs zs else []
theorem runR_yes {zs : List Int} (h : bitsB zs = true) : runR zs = runs zs := by simp [runR, h]
theorem runR_no {zs : List Int} (h : bitsB zs = false) : runR zs = [] := by simp [runR, h]
end Go.Proofs.YtdkhldebnpmiiaaGreatDoor
