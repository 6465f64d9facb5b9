/- Contracts of toInt64S, eqInt64S, markInt64S, heldInt64S of the statements' package. -/
import Derived.Test.YtcbejjkbjompfaaBase
import Derived.Deep.OwnRows
namespace Go.Proofs.Ytcbejjkbjompfaa
open Go.RowKit
set_option linter.unusedVariables false
set_option linter.unusedSimpArgs false

theorem copy_step (zs : List Int) (n k : Nat) (h : zs.length = n) (hk : k < n) :
    (zs.take k ++ List.replicate (n - k) 0).set k (nth zs k) = zs.take (k + 1) ++ List.replicate (n - (k + 1)) 0 := by
  obtain ⟨m, hm⟩ : ∃ m, n - k = m + 1 := ⟨n - k - 1, by omega⟩
  have hm' : n - (k + 1) = m := by omega
  rw [hm, hm', List.replicate_succ, take_snoc zs k (by omega), List.append_assoc, List.singleton_append]
  have hl : (zs.take k).length = k := by rw [List.length_take]; omega
  rw [List.set_append_right _ _ (by omega), hl, Nat.sub_self, List.set_cons_zero]


/-- the two lists are one -/
def eqB (xs ys : List Int) : Bool := decide (xs = ys)
theorem eqB_yes {xs ys : List Int} (h : xs = ys) : eqB xs ys = true := by simp [eqB, h]
theorem eqB_no {xs ys : List Int} (h : ¬ xs = ys) : eqB xs ys = false := by simp [eqB, h]
theorem eqB_self (xs : List Int) : eqB xs xs = true := eqB_yes rfl


/-- k, k + 1, .. : n numbers -/
def marks (k : Int) (n : Nat) : List Int := (List.range n).map (fun (i : Nat) => k + (i : Int))
theorem marks_length (k : Int) (n : Nat) : (marks k n).length = n := by simp [marks]
theorem marks_nth (k : Int) (n j : Nat) (h : j < n) : nth (marks k n) j = k + j := by
  rw [nth_eq (by rw [marks_length]; exact h)]
  simp [marks]
theorem marks_succ (k : Int) (n : Nat) : marks k (n + 1) = marks k n ++ [k + n] := by simp [marks, List.range_succ]
theorem marks_step (k : Int) (zs : List Int) (n j : Nat) (hl : zs.length = n) (h : j < n) : (marks k j ++ zs.drop j).set j (k + j) = marks k (j + 1) ++ zs.drop (j + 1) := by
  rw [List.set_append_right _ _ (by rw [marks_length]; omega), marks_length, Nat.sub_self, List.drop_eq_getElem_cons (by omega), List.set_cons_zero, marks_succ, List.append_assoc, List.singleton_append]



end Go.Proofs.Ytcbejjkbjompfaa
