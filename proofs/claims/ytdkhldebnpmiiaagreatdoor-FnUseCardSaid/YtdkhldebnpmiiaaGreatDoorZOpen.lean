/- An argument of the type laws.Medl opened: how it lies in memory. -/
import Derived.Test.YtdkhldebnpmiiaaGreatDoorZBkA
import Derived.Test.YtdkhldebnpmiiaaGreatDoorZFacts
import Derived.OpenShut
import Derived.Lib.SmallJoins
import Derived.Deep.Slices
import Derived.ChangeSlices
namespace Go.Proofs.YtdkhldebnpmiiaaGreatDoor
open Go.ChangeShapes Go.WideShapes Go.ChangeAt Go.RowKit Go.Joins Go.Deep
set_option linter.unusedVariables false
set_option linter.unusedSimpArgs false
section
variable {H : Type} {enc : TypeId × Value → H} {W : World} {base : Nat} {held : Bool}
theorem c2 : Tryz.prog.cellsOf 2 = 1 := by kernel_rfl
theorem c9 : Tryz.prog.cellsOf 9 = 1 := by kernel_rfl
theorem c4 : Tryz.prog.cellsOf 4 = 1 := by kernel_rfl
end
end Go.Proofs.YtdkhldebnpmiiaaGreatDoor
