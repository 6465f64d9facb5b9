/- The walk of FnExactTransmissionSize: both functions come to the same result; the arguments stay; the result shares no memory. Written by genlaw.py. -/
import Derived.Test.YtdodhjahihfaiaaCopy
import Derived.Test.YtdodhjahihfaiaaTrans
namespace Go.Proofs.Ytdodhjahihfaiaa
open Go.RowKit
set_option linter.unusedVariables false
set_option linter.unusedSimpArgs false

set_option maxHeartbeats 1000000 in
set_option maxRecDepth 100000 in
theorem walkTransmissionSize (x0 : Int) (x1 : Int) (w : World) (hx0 : -9223372036854775808 ≤ x0 ∧ x0 ≤ 9223372036854775807) (hx1 : -9223372036854775808 ≤ x1 ∧ x1 ≤ 9223372036854775807) :
    Calls Try.prog 3 #[.int .i64 x0, .int .i64 x1] w fun e w' => e = .returned (.bool true) ∧ Below w.heap.size w w' := by
  have t1 : ((tsC x0 x1) != (tsC x0 x1)) = false := by simp
  have t2 : ((tsR x0 x1) != (tsR x0 x1)) = false := by simp
  go_enter Try.func3, Try.ntmps3
  go_wp2_with fail
  refine (sTransmissionSize_c x0 x1 _ hx0 hx1 ).mono ?_
  rintro e w1 ⟨rfl, b1⟩
  have B1 : Below w.heap.size w w1 := below_trans (Below.refl _ w) b1
  go_wp2_with fail
  refine (iTransmissionSize_c x0 x1 _ hx0 hx1 ).mono ?_
  rintro e w2 ⟨rfl, b2⟩
  have B2 : Below w.heap.size w w2 := below_trans (B1) b2
  go_wp2_with fail
  go_ret
  exact ⟨rfl, B2⟩
end Go.Proofs.Ytdodhjahihfaiaa
