/- Contracts: widths, sums, SlipOf. -/
import Derived.Test.YtdkhldebnpmiiaaGreatDoorBits
import Derived.Test.YtdkhldebnpmiiaaGreatDoorCopy
namespace Go.Proofs.YtdkhldebnpmiiaaGreatDoor
open Go.RowKit
set_option linter.unusedVariables false
set_option linter.unusedSimpArgs false

/-- the sum of numbers -/
def sm (zs : List Int) : Int := zs.sum
theorem sm_nil : sm [] = 0 := rfl
theorem sm_append (a b : List Int) : sm (a ++ b) = sm a + sm b := by simp [sm, List.sum_append]
theorem sm_one (x : Int) : sm [x] = x := by simp [sm]
theorem sm_take (zs : List Int) (k : Nat) (h : k < zs.length) : sm (zs.take (k + 1)) = sm (zs.take k) + nth zs k := by rw [take_snoc zs k h, sm_append, sm_one]
theorem sm_bounds {lo hi : Int} {zs : List Int} (h : allB lo hi zs = true) (k : Nat) (hk : k ≤ zs.length) : lo * k ≤ sm (zs.take k) ∧ sm (zs.take k) ≤ hi * k := by
  induction k with
  | zero => simp [sm]
  | succ k ih =>
    have := ih (by omega)
    have hb := allB_get h k (by omega)
    rw [sm_take zs k (by omega), Int.natCast_add, Int.mul_add, Int.mul_add]
    omega
theorem upB_true {m : Nat} {lo hi : Int} {zs : List Int} (h : upB m lo hi zs = true) : zs.length ≤ m ∧ allB lo hi zs = true := by simpa [upB] using h
/-- at most 8192 numbers, each 7 to 9 -/
def widthsB (zs : List Int) : Bool := upB 8192 7 9 zs




/-- what SlipOf returns -/
def slipR (zs : List Int) : Int := if widthsB zs then sm zs - 8 * zs.length else 0
def slipC (zs : List Int) : Int := if widthsB zs then 0 else 2
theorem slip_yes {zs : List Int} (h : widthsB zs = true) : slipR zs = sm zs - 8 * zs.length ∧ slipC zs = 0 := by simp [slipR, slipC, h]
theorem slip_no {zs : List Int} (h : widthsB zs = false) : slipR zs = 0 ∧ slipC zs = 2 := by simp [slipR, slipC, h]
theorem allB_wide {lo hi lo' hi' : Int} {zs : List Int} (h : allB lo hi zs = true) (h1 : lo' ≤ lo) (h2 : hi ≤ hi') : allB lo' hi' zs = true := by
  rw [allB, List.all_eq_true] at h ⊢
  intro z hz
  have := h z hz
  simp at this ⊢
  omega


end Go.Proofs.YtdkhldebnpmiiaaGreatDoor
