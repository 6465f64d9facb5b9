/- The walk of FnExactIdleSamples: both functions come to the same result; the arguments stay; the result shares no memory. Written by genlaw.py. -/
import Derived.Test.YtopccpnkokdmiaaIdle
namespace Go.Proofs.Ytopccpnkokdmiaa
open Go.RowKit
set_option linter.unusedVariables false
set_option linter.unusedSimpArgs false

set_option maxHeartbeats 1000000 in
set_option maxRecDepth 100000 in
theorem walkIdleSamples (x0 : Int) (w : World) (hx0 : -9223372036854775808 ≤ x0 ∧ x0 ≤ 9223372036854775807) :
    Calls Try.prog 13 #[.int .i64 x0] w fun e w' => e = .returned (.bool true) ∧ Below w.heap.size w w' := by
  have t1 : ((idleC x0) != (idleC x0)) = false := by simp
  have e1 := eqB_self (idleR x0)
  go_enter Try.func13, Try.ntmps13
  go_wp2_with fail
  refine (sIdleSamples_c x0 _ hx0 ).mono ?_
  rintro e w1 ⟨Ar1, nr1, cr1, rfl, o1, b1, m1⟩
  have B1 : Below w.heap.size w w1 := below_trans (Below.refl _ w) b1
  go_wp2_with fail
  refine (iIdleSamples_c x0 _ hx0 ).mono ?_
  rintro e w2 ⟨Ar2, nr2, cr2, rfl, o2, b2, m2⟩
  have B2 : Below w.heap.size w w2 := below_trans (B1) b2
  go_wp2_with fail
  refine (eqInt64S_b _ _ _ _ _ _ (idleR x0) (idleR x0) _ o2.rd (o1.below b2).rd).mono ?_
  rintro e w3 ⟨rfl, b3⟩
  have B3 : Below w.heap.size w w3 := below_trans (B2) b3
  go_wp2_with fail
  refine (markInt64S_any _ _ _ _ _ _ _ (o2.below b3) (by omega) (by omega) (by omega)).mono ?_
  rintro e w4 ⟨rfl, o4, g4⟩
  have B4 : Below w.heap.size w w4 := below_mark (B3) (o2.below b3) (B1).size g4
  have p4W := (o1.below (below_trans b2 b3)).keepLo g4 (o2.below b3) (fun g hg => (o1.row.lt g hg).2)
  go_wp2_with fail
  refine (heldInt64S_b _ _ _ _ _ o4.rd (by omega) (by omega) (by omega)).mono ?_
  rintro e w5 ⟨rfl, b5⟩
  have B5 : Below w.heap.size w w5 := below_trans (B4) b5
  go_wp2_with fail
  refine (iIdleSamples_c x0 _ hx0 ).mono ?_
  rintro e w6 ⟨Ar6, nr6, cr6, rfl, o6, b6, m6⟩
  have B6 : Below w.heap.size w w6 := below_trans (B5) b6
  go_wp2_with fail
  refine (eqInt64S_b _ _ _ _ _ _ (idleR x0) (idleR x0) _ o6.rd (p4W.below (below_trans b5 b6)).rd).mono ?_
  rintro e w7 ⟨rfl, b7⟩
  have B7 : Below w.heap.size w w7 := below_trans (B6) b7
  go_wp2_with fail
  refine (heldInt64S_b _ _ _ _ _ (o4.below (below_trans (below_trans b5 b6) b7)).rd (by omega) (by omega) (by omega)).mono ?_
  rintro e w8 ⟨rfl, b8⟩
  have B8 : Below w.heap.size w w8 := below_trans (B7) b8
  go_wp2_with fail
  go_ret
  exact ⟨rfl, B8⟩
end Go.Proofs.Ytopccpnkokdmiaa
