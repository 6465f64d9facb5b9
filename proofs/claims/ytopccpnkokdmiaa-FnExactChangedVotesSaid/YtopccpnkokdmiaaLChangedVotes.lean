/- The walk of FnExactChangedVotes: both functions come to the same result; the arguments stay; the result shares no memory. Written by genlaw.py. -/
import Derived.Test.YtopccpnkokdmiaaFlip
namespace Go.Proofs.Ytopccpnkokdmiaa
open Go.RowKit
set_option linter.unusedVariables false
set_option linter.unusedSimpArgs false

set_option maxHeartbeats 1000000 in
set_option maxRecDepth 100000 in
theorem walkChangedVotes (A0 : Option Addr) (n0 c0 : Nat) (zs0 : List Int) (A1 : Option Addr) (n1 c1 : Nat) (zs1 : List Int) (w : World) (h0 : Rd w A0 n0 c0 zs0) (h1 : Rd w A1 n1 c1 zs1) :
    Calls Try.prog 19 #[.slice A0 n0 c0, .slice A1 n1 c1] w fun e w' => e = .returned (.bool true) ∧ Below w.heap.size w w' := by
  have hl0 := h0.le
  have hc0 := h0.cap
  have hl1 := h1.le
  have hc1 := h1.cap
  by_cases hn0 : 1048576 < n0
  · go_enter Try.func19, Try.ntmps19
    go_wp2
    go_ret
    exact ⟨rfl, Below.refl _ _⟩
  by_cases hn1 : 1048576 < n1
  · go_enter Try.func19, Try.ntmps19
    go_wp2
    go_ret
    exact ⟨rfl, Below.refl _ _⟩
  have t1 : ((flC zs0 zs1) != (flC zs0 zs1)) = false := by simp
  have e1 := eqB_self (cvR zs0 zs1)
  have ez0 := eqB_self zs0
  have ez1 := eqB_self zs1
  go_enter Try.func19, Try.ntmps19
  go_wp2_with fail
  refine (toInt64S_any _ _ _ zs0 _ (h0.below (Below.refl _ w)) (by omega)).mono ?_
  rintro e w1 ⟨g1, rfl, o1, b1⟩
  have B1 : Below w.heap.size w w1 := below_trans (Below.refl _ w) b1
  go_wp2_with fail
  refine (toInt64S_any _ _ _ zs1 _ (h1.below (B1)) (by omega)).mono ?_
  rintro e w2 ⟨g2, rfl, o2, b2⟩
  have B2 : Below w.heap.size w w2 := below_trans (B1) b2
  go_wp2_with fail
  refine (sChangedVotes_c _ _ _ zs0 _ _ _ zs1 _ (o1.below b2).rd o2.rd (by omega) (by omega)).mono ?_
  rintro e w3 ⟨Ar3, nr3, cr3, rfl, o3, b3, m3⟩
  have B3 : Below w.heap.size w w3 := below_trans (B2) b3
  go_wp2_with fail
  refine (toInt64S_any _ _ _ zs0 _ (h0.below (B3)) (by omega)).mono ?_
  rintro e w4 ⟨g4, rfl, o4, b4⟩
  have B4 : Below w.heap.size w w4 := below_trans (B3) b4
  go_wp2_with fail
  refine (toInt64S_any _ _ _ zs1 _ (h1.below (B4)) (by omega)).mono ?_
  rintro e w5 ⟨g5, rfl, o5, b5⟩
  have B5 : Below w.heap.size w w5 := below_trans (B4) b5
  go_wp2_with fail
  refine (iChangedVotes_c _ _ _ zs0 _ _ _ zs1 _ (o4.below b5).rd o5.rd (by omega) (by omega)).mono ?_
  rintro e w6 ⟨Ar6, nr6, cr6, rfl, o6, b6, m6⟩
  have B6 : Below w.heap.size w w6 := below_trans (B5) b6
  go_wp2_with fail
  refine (eqInt64S_b _ _ _ _ _ _ (cvR zs0 zs1) (cvR zs0 zs1) _ o6.rd (o3.below (below_trans (below_trans b4 b5) b6)).rd).mono ?_
  rintro e w7 ⟨rfl, b7⟩
  have B7 : Below w.heap.size w w7 := below_trans (B6) b7
  go_wp2_with fail
  refine (toInt64S_any _ _ _ zs0 _ (h0.below (B7)) (by omega)).mono ?_
  rintro e w8 ⟨g8, rfl, o8, b8⟩
  have B8 : Below w.heap.size w w8 := below_trans (B7) b8
  go_wp2_with fail
  refine (eqInt64S_b _ _ _ _ _ _ zs0 zs0 _ (o4.below (below_trans (below_trans (below_trans b5 b6) b7) b8)).rd o8.rd).mono ?_
  rintro e w9 ⟨rfl, b9⟩
  have B9 : Below w.heap.size w w9 := below_trans (B8) b9
  go_wp2_with fail
  refine (toInt64S_any _ _ _ zs1 _ (h1.below (B9)) (by omega)).mono ?_
  rintro e w10 ⟨g10, rfl, o10, b10⟩
  have B10 : Below w.heap.size w w10 := below_trans (B9) b10
  go_wp2_with fail
  refine (eqInt64S_b _ _ _ _ _ _ zs1 zs1 _ (o5.below (below_trans (below_trans (below_trans (below_trans b6 b7) b8) b9) b10)).rd o10.rd).mono ?_
  rintro e w11 ⟨rfl, b11⟩
  have B11 : Below w.heap.size w w11 := below_trans (B10) b11
  go_wp2_with fail
  refine (markInt64S_any _ _ _ _ _ _ _ (o4.below (below_trans (below_trans (below_trans (below_trans (below_trans (below_trans b5 b6) b7) b8) b9) b10) b11)) (by omega) (by omega) (by omega)).mono ?_
  rintro e w12 ⟨rfl, o12, g12⟩
  have B12 : Below w.heap.size w w12 := below_mark (B11) (o4.below (below_trans (below_trans (below_trans (below_trans (below_trans (below_trans b5 b6) b7) b8) b9) b10) b11)) (B3).size g12
  have p12W := (o3.below (below_trans (below_trans (below_trans (below_trans (below_trans (below_trans (below_trans b4 b5) b6) b7) b8) b9) b10) b11)).keepLo g12 (o4.below (below_trans (below_trans (below_trans (below_trans (below_trans (below_trans b5 b6) b7) b8) b9) b10) b11)) (fun g hg => (o3.row.lt g hg).2)
  have p12G := (o6.below (below_trans (below_trans (below_trans (below_trans b7 b8) b9) b10) b11)).keepHi g12 (fun g hg => ((o4.below b5).row.lt g hg).2)
  have p12x1 := (o5.below (below_trans (below_trans (below_trans (below_trans (below_trans b6 b7) b8) b9) b10) b11)).keepHi g12 (fun g hg => (o4.row.lt g hg).2)
  go_wp2_with fail
  refine (markInt64S_any _ _ _ _ _ _ _ p12x1 (by omega) (by omega) (by omega)).mono ?_
  rintro e w13 ⟨rfl, o13, g13⟩
  have B13 : Below w.heap.size w w13 := below_mark (B12) p12x1 (B4).size g13
  have p13W := p12W.keepLo g13 p12x1 (fun g hg => ((o3.below b4).row.lt g hg).2)
  have p13G := p12G.keepHi g13 (fun g hg => (o5.row.lt g hg).2)
  go_wp2_with fail
  refine (eqInt64S_b _ _ _ _ _ _ (cvR zs0 zs1) (cvR zs0 zs1) _ p13G.rd p13W.rd).mono ?_
  rintro e w14 ⟨rfl, b14⟩
  have B14 : Below w.heap.size w w14 := below_trans (B13) b14
  go_wp2_with fail
  refine (markInt64S_any _ _ _ _ _ _ _ (p13G.below b14) (by omega) (by omega) (by omega)).mono ?_
  rintro e w15 ⟨rfl, o15, g15⟩
  have B15 : Below w.heap.size w w15 := below_mark (B14) (p13G.below b14) (B5).size g15
  have p15W := (p13W.below b14).keepLo g15 (p13G.below b14) (fun g hg => ((o3.below (below_trans b4 b5)).row.lt g hg).2)
  go_wp2_with fail
  refine (heldInt64S_b _ _ _ _ _ o15.rd (by omega) (by omega) (by omega)).mono ?_
  rintro e w16 ⟨rfl, b16⟩
  have B16 : Below w.heap.size w w16 := below_trans (B15) b16
  go_wp2_with fail
  refine (toInt64S_any _ _ _ zs0 _ (h0.below (B16)) (by omega)).mono ?_
  rintro e w17 ⟨g17, rfl, o17, b17⟩
  have B17 : Below w.heap.size w w17 := below_trans (B16) b17
  go_wp2_with fail
  refine (toInt64S_any _ _ _ zs1 _ (h1.below (B17)) (by omega)).mono ?_
  rintro e w18 ⟨g18, rfl, o18, b18⟩
  have B18 : Below w.heap.size w w18 := below_trans (B17) b18
  go_wp2_with fail
  refine (iChangedVotes_c _ _ _ zs0 _ _ _ zs1 _ (o17.below b18).rd o18.rd (by omega) (by omega)).mono ?_
  rintro e w19 ⟨Ar19, nr19, cr19, rfl, o19, b19, m19⟩
  have B19 : Below w.heap.size w w19 := below_trans (B18) b19
  go_wp2_with fail
  refine (eqInt64S_b _ _ _ _ _ _ (cvR zs0 zs1) (cvR zs0 zs1) _ o19.rd (p15W.below (below_trans (below_trans (below_trans b16 b17) b18) b19)).rd).mono ?_
  rintro e w20 ⟨rfl, b20⟩
  have B20 : Below w.heap.size w w20 := below_trans (B19) b20
  go_wp2_with fail
  refine (heldInt64S_b _ _ _ _ _ (o15.below (below_trans (below_trans (below_trans (below_trans b16 b17) b18) b19) b20)).rd (by omega) (by omega) (by omega)).mono ?_
  rintro e w21 ⟨rfl, b21⟩
  have B21 : Below w.heap.size w w21 := below_trans (B20) b21
  go_wp2_with fail
  go_ret
  exact ⟨rfl, B21⟩
end Go.Proofs.Ytopccpnkokdmiaa
