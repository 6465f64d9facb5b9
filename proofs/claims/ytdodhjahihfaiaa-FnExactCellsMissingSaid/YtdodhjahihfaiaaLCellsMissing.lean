/- The walk of FnExactCellsMissing: both functions come to the same result; the arguments stay; the result shares no memory. Written by genlaw.py. -/
import Derived.Test.YtdodhjahihfaiaaCopy
import Derived.Test.YtdodhjahihfaiaaScanN
namespace Go.Proofs.Ytdodhjahihfaiaa
open Go.RowKit
set_option linter.unusedVariables false
set_option linter.unusedSimpArgs false

set_option maxHeartbeats 1000000 in
set_option maxRecDepth 100000 in
theorem walkCellsMissing (A0 : Option Addr) (n0 c0 : Nat) (zs0 : List Int) (w : World) (h0 : Rd w A0 n0 c0 zs0) :
    Calls Try.prog 9 #[.slice A0 n0 c0] w fun e w' => e = .returned (.bool true) ∧ Below w.heap.size w w' := by
  have hl0 := h0.le
  have hc0 := h0.cap
  by_cases hn0 : 1048576 < n0
  · go_enter Try.func9, Try.ntmps9
    go_wp2
    go_ret
    exact ⟨rfl, Below.refl _ _⟩
  have t1 : ((msC zs0) != (msC zs0)) = false := by simp
  have e1 := eqB_self (msR zs0)
  have ez0 := eqB_self zs0
  go_enter Try.func9, Try.ntmps9
  go_wp2_with fail
  refine (toInt64S_any _ _ _ zs0 _ (h0.below (Below.refl _ w)) (by omega)).mono ?_
  rintro e w1 ⟨g1, rfl, o1, b1⟩
  have B1 : Below w.heap.size w w1 := below_trans (Below.refl _ w) b1
  go_wp2_with fail
  refine (sCellsMissing_c _ _ _ zs0 _ o1.rd (by omega)).mono ?_
  rintro e w2 ⟨Ar2, nr2, cr2, rfl, o2, b2, m2⟩
  have B2 : Below w.heap.size w w2 := below_trans (B1) b2
  go_wp2_with fail
  refine (toInt64S_any _ _ _ zs0 _ (h0.below (B2)) (by omega)).mono ?_
  rintro e w3 ⟨g3, rfl, o3, b3⟩
  have B3 : Below w.heap.size w w3 := below_trans (B2) b3
  go_wp2_with fail
  refine (iCellsMissing_c _ _ _ zs0 _ o3.rd (by omega)).mono ?_
  rintro e w4 ⟨Ar4, nr4, cr4, rfl, o4, b4, m4⟩
  have B4 : Below w.heap.size w w4 := below_trans (B3) b4
  go_wp2_with fail
  refine (eqInt64S_b _ _ _ _ _ _ (msR zs0) (msR zs0) _ o4.rd (o2.below (below_trans b3 b4)).rd).mono ?_
  rintro e w5 ⟨rfl, b5⟩
  have B5 : Below w.heap.size w w5 := below_trans (B4) b5
  go_wp2_with fail
  refine (toInt64S_any _ _ _ zs0 _ (h0.below (B5)) (by omega)).mono ?_
  rintro e w6 ⟨g6, rfl, o6, b6⟩
  have B6 : Below w.heap.size w w6 := below_trans (B5) b6
  go_wp2_with fail
  refine (eqInt64S_b _ _ _ _ _ _ zs0 zs0 _ (o3.below (below_trans (below_trans b4 b5) b6)).rd o6.rd).mono ?_
  rintro e w7 ⟨rfl, b7⟩
  have B7 : Below w.heap.size w w7 := below_trans (B6) b7
  go_wp2_with fail
  refine (markInt64S_any _ _ _ _ _ _ _ (o3.below (below_trans (below_trans (below_trans b4 b5) b6) b7)) (by omega) (by omega) (by omega)).mono ?_
  rintro e w8 ⟨rfl, o8, g8⟩
  have B8 : Below w.heap.size w w8 := below_mark (B7) (o3.below (below_trans (below_trans (below_trans b4 b5) b6) b7)) (B2).size g8
  have p8W := (o2.below (below_trans (below_trans (below_trans (below_trans b3 b4) b5) b6) b7)).keepLo g8 (o3.below (below_trans (below_trans (below_trans b4 b5) b6) b7)) (fun g hg => (o2.row.lt g hg).2)
  have p8G := (o4.below (below_trans (below_trans b5 b6) b7)).keepHi g8 (fun g hg => (o3.row.lt g hg).2)
  go_wp2_with fail
  refine (eqInt64S_b _ _ _ _ _ _ (msR zs0) (msR zs0) _ p8G.rd p8W.rd).mono ?_
  rintro e w9 ⟨rfl, b9⟩
  have B9 : Below w.heap.size w w9 := below_trans (B8) b9
  go_wp2_with fail
  refine (markInt64S_any _ _ _ _ _ _ _ (p8G.below b9) (by omega) (by omega) (by omega)).mono ?_
  rintro e w10 ⟨rfl, o10, g10⟩
  have B10 : Below w.heap.size w w10 := below_mark (B9) (p8G.below b9) (B3).size g10
  have p10W := (p8W.below b9).keepLo g10 (p8G.below b9) (fun g hg => ((o2.below b3).row.lt g hg).2)
  go_wp2_with fail
  refine (heldInt64S_b _ _ _ _ _ o10.rd (by omega) (by omega) (by omega)).mono ?_
  rintro e w11 ⟨rfl, b11⟩
  have B11 : Below w.heap.size w w11 := below_trans (B10) b11
  go_wp2_with fail
  refine (toInt64S_any _ _ _ zs0 _ (h0.below (B11)) (by omega)).mono ?_
  rintro e w12 ⟨g12, rfl, o12, b12⟩
  have B12 : Below w.heap.size w w12 := below_trans (B11) b12
  go_wp2_with fail
  refine (iCellsMissing_c _ _ _ zs0 _ o12.rd (by omega)).mono ?_
  rintro e w13 ⟨Ar13, nr13, cr13, rfl, o13, b13, m13⟩
  have B13 : Below w.heap.size w w13 := below_trans (B12) b13
  go_wp2_with fail
  refine (eqInt64S_b _ _ _ _ _ _ (msR zs0) (msR zs0) _ o13.rd (p10W.below (below_trans (below_trans b11 b12) b13)).rd).mono ?_
  rintro e w14 ⟨rfl, b14⟩
  have B14 : Below w.heap.size w w14 := below_trans (B13) b14
  go_wp2_with fail
  refine (heldInt64S_b _ _ _ _ _ (o10.below (below_trans (below_trans (below_trans b11 b12) b13) b14)).rd (by omega) (by omega) (by omega)).mono ?_
  rintro e w15 ⟨rfl, b15⟩
  have B15 : Below w.heap.size w w15 := below_trans (B14) b15
  go_wp2_with fail
  go_ret
  exact ⟨rfl, B15⟩
end Go.Proofs.Ytdodhjahihfaiaa
