/- The walk of FnExactFirstWrongCell: both functions come to the same result; the arguments stay; the result shares no memory. Written by genlaw.py. -/
import Derived.Test.YtdodhjahihfaiaaCopy
import Derived.Test.YtdodhjahihfaiaaScanK
namespace Go.Proofs.Ytdodhjahihfaiaa
open Go.RowKit
set_option linter.unusedVariables false
set_option linter.unusedSimpArgs false

set_option maxHeartbeats 1000000 in
set_option maxRecDepth 100000 in
theorem walkFirstWrongCell (A0 : Option Addr) (n0 c0 : Nat) (zs0 : List Int) (w : World) (h0 : Rd w A0 n0 c0 zs0) :
    Calls Try.prog 8 #[.slice A0 n0 c0] w fun e w' => e = .returned (.bool true) ∧ Below w.heap.size w w' := by
  have hl0 := h0.le
  have hc0 := h0.cap
  by_cases hn0 : 1048576 < n0
  · go_enter Try.func8, Try.ntmps8
    go_wp2
    go_ret
    exact ⟨rfl, Below.refl _ _⟩
  have t1 : ((fwC zs0) != (fwC zs0)) = false := by simp
  have t2 : ((fwV zs0) != (fwV zs0)) = false := by simp
  have ez0 := eqB_self zs0
  go_enter Try.func8, Try.ntmps8
  go_wp2_with fail
  refine (toInt64S_any _ _ _ zs0 _ (h0.below (Below.refl _ w)) (by omega)).mono ?_
  rintro e w1 ⟨g1, rfl, o1, b1⟩
  have B1 : Below w.heap.size w w1 := below_trans (Below.refl _ w) b1
  go_wp2_with fail
  refine (sFirstWrongCell_c _ _ _ zs0 _ o1.rd (by omega)).mono ?_
  rintro e w2 ⟨rfl, b2⟩
  have B2 : Below w.heap.size w w2 := below_trans (B1) b2
  go_wp2_with fail
  refine (toInt64S_any _ _ _ zs0 _ (h0.below (B2)) (by omega)).mono ?_
  rintro e w3 ⟨g3, rfl, o3, b3⟩
  have B3 : Below w.heap.size w w3 := below_trans (B2) b3
  go_wp2_with fail
  refine (iFirstWrongCell_c _ _ _ zs0 _ o3.rd (by omega)).mono ?_
  rintro e w4 ⟨rfl, b4⟩
  have B4 : Below w.heap.size w w4 := below_trans (B3) b4
  go_wp2_with fail
  refine (toInt64S_any _ _ _ zs0 _ (h0.below (B4)) (by omega)).mono ?_
  rintro e w5 ⟨g5, rfl, o5, b5⟩
  have B5 : Below w.heap.size w w5 := below_trans (B4) b5
  go_wp2_with fail
  refine (eqInt64S_b _ _ _ _ _ _ zs0 zs0 _ (o3.below (below_trans b4 b5)).rd o5.rd).mono ?_
  rintro e w6 ⟨rfl, b6⟩
  have B6 : Below w.heap.size w w6 := below_trans (B5) b6
  go_wp2_with fail
  go_ret
  exact ⟨rfl, B6⟩
end Go.Proofs.Ytdodhjahihfaiaa
