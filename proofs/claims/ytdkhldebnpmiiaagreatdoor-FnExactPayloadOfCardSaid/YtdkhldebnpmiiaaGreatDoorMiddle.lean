/- Contracts: MiddleSamples. -/
import Derived.Test.YtdkhldebnpmiiaaGreatDoorBits
import Derived.Test.YtdkhldebnpmiiaaGreatDoorCopy
import Derived.Test.YtdkhldebnpmiiaaGreatDoorAppend
namespace Go.Proofs.YtdkhldebnpmiiaaGreatDoor
open Go.RowKit
set_option linter.unusedVariables false
set_option linter.unusedSimpArgs false

/-- the code of a function that only asks for bits -/
def bitsC (zs : List Int) : Int := if bitsB zs then 0 else 1
theorem bitsC_yes {zs : List Int} (h : bitsB zs = true) : 0 = bitsC zs := by simp [bitsC, h]
theorem bitsC_no {zs : List Int} (h : bitsB zs = false) : 1 = bitsC zs := by simp [bitsC, h]
theorem bits_len {zs : List Int} (h : bitsB zs = true) : zs.length ≤ 8192 := by
  have : zs.length ≤ 8192 ∧ allB 0 1 zs = true := by simpa [bitsB, upB] using h
  exact this.1
theorem bits_all {zs : List Int} (h : bitsB zs = true) : allB 0 1 zs = true := by
  have : zs.length ≤ 8192 ∧ allB 0 1 zs = true := by simpa [bitsB, upB] using h
  exact this.2

/-- the first k middle samples -/
def mids (zs : List Int) (k : Nat) : List Int := (List.range k).map (fun (j : Nat) => nth zs (4 + 8 * j))
theorem mids_succ (zs : List Int) (k : Nat) : mids zs (k + 1) = mids zs k ++ [nth zs (4 + 8 * k)] := by simp [mids, List.range_succ]
def midR (zs : List Int) : List Int := if bitsB zs then mids zs ((zs.length + 3) / 8) else []
theorem midR_yes {zs : List Int} (h : bitsB zs = true) : midR zs = mids zs ((zs.length + 3) / 8) := by simp [midR, h]
theorem midR_no {zs : List Int} (h : bitsB zs = false) : midR zs = [] := by simp [midR, h]

end Go.Proofs.YtdkhldebnpmiiaaGreatDoor
