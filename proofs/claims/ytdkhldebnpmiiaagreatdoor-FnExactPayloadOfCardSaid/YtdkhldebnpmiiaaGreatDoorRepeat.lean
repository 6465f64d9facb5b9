/- Contracts: a value appended many times; runs made into samples. -/
import Derived.Test.YtdkhldebnpmiiaaGreatDoorRuns
import Derived.Test.YtdkhldebnpmiiaaGreatDoorSlip
namespace Go.Proofs.YtdkhldebnpmiiaaGreatDoor
open Go.RowKit
set_option linter.unusedVariables false
set_option linter.unusedSimpArgs false

/-- a write into a row that lies from B on -/
theorem below_own {w w0 w' : World} {B B' n c : Nat} {A : Option Addr} {zs : List Int} (h : Below B w0 w) (hs : B ≤ w.heap.size) (ho : Own w B' A n c zs) (hB : B ≤ B') (hg : w.grownBy w' (Value.slice A n c).ownBlock) : Below B w0 w' :=
  h.grown hg hs (fun k hk => Nat.le_trans hB (ho.row.lt k hk).1)
theorem rep_succ (k : Nat) (x : Int) : List.replicate (k + 1) x = List.replicate k x ++ [x] := by rw [List.replicate_succ']



/-- the samples of the first k runs -/
def fromTo (f : Int) (ls : List Int) : Nat → List Int
  | 0 => []
  | k + 1 => fromTo f ls k ++ List.replicate (nth ls k).toNat (if k % 2 = 0 then f else 1 - f)
/-- the value of run k -/
def runV (f : Int) (k : Nat) : Int := if k % 2 = 0 then f else 1 - f
theorem runV_succ (f : Int) (k : Nat) : runV f (k + 1) = 1 - runV f k := by
  unfold runV
  by_cases h : k % 2 = 0
  · have : ¬ (k + 1) % 2 = 0 := by omega
    rw [if_pos h, if_neg this]
  · have : (k + 1) % 2 = 0 := by omega
    rw [if_neg h, if_pos this]; omega
theorem runV_bit {f : Int} (h0 : 0 ≤ f) (h1 : f ≤ 1) (k : Nat) : 0 ≤ runV f k ∧ runV f k ≤ 1 := by
  unfold runV; split <;> omega
theorem fromTo_succ (f : Int) (ls : List Int) (k : Nat) : fromTo f ls (k + 1) = fromTo f ls k ++ List.replicate (nth ls k).toNat (runV f k) := rfl
theorem fromTo_len {f : Int} {ls : List Int} {hi : Int} (h : allB 1 hi ls = true) (k : Nat) (hk : k ≤ ls.length) : ((fromTo f ls k).length : Int) = sm (ls.take k) := by
  induction k with
  | zero => simp [fromTo, sm]
  | succ k ih =>
    have hb := allB_get h k (by omega)
    rw [fromTo_succ, List.length_append, List.length_replicate, sm_take ls k (by omega), Int.natCast_add, ih (by omega)]
    omega
theorem sm_mono {ls : List Int} {hi : Int} (h : allB 1 hi ls = true) (k : Nat) (hk : k ≤ ls.length) : sm (ls.take k) ≤ sm ls := by
  obtain ⟨j, hj⟩ : ∃ j, ls.length = k + j := ⟨ls.length - k, by omega⟩
  induction j generalizing k with
  | zero => rw [List.take_of_length_le (by omega)]; exact Int.le_refl _
  | succ j ih =>
    have h1 := ih (k + 1) (by omega) (by omega)
    have hb := allB_get h k (by omega)
    rw [sm_take ls k (by omega)] at h1
    omega
/-- a first sample of 0 or 1, lengths of 1 to 8192 -/
def frOk (f : Int) (ls : List Int) : Bool := inB 0 1 f && allB 1 8192 ls
def frR (f : Int) (ls : List Int) : List Int := if frOk f ls && decide (sm ls ≤ 8192) then fromTo f ls ls.length else []
def frC (f : Int) (ls : List Int) : Int := if frOk f ls then (if sm ls ≤ 8192 then 0 else 3) else 2


end Go.Proofs.YtdkhldebnpmiiaaGreatDoor
