/- The walk of the law FnExactChainTime. -/
import Derived.Test.YtdkhldebnpmiiaaGreatDoorChainT
import Derived.Test.YtdkhldebnpmiiaaGreatDoorBkH
import Derived.Test.YtdkhldebnpmiiaaGreatDoorBkB
namespace Go.Proofs.YtdkhldebnpmiiaaGreatDoor
open Go.RowKit
set_option linter.unusedVariables false
set_option linter.unusedSimpArgs false

set_option maxHeartbeats 6400000 in
theorem walkChainTime (v : Value) (m : Mdl) (a b c : Int) (w : World) (h : RdM w v m) (hq : Nms m) (hb : I64 [b, c]) :
    Calls Tryz.prog 9 #[v, .int .i64 a, .int .i64 b, .int .i64 c] w (TrueOut w) := by
  have HM := hide h
  obtain ⟨A1, n1, c1, A2, n2, c2, A3, n3, q3, rfl, h1, h2, h3⟩ := h
  obtain ⟨W0, hW0⟩ : ∃ W0, W0 = w.alloc (.cells #[.int .i64 m.id, .slice A1 n1 c1, .slice A2 n2 c2, .slice A3 n3 q3] 38) := ⟨_, rfl⟩
  have F0 : At W0 w.heap.size 38 #[.int .i64 m.id, .slice A1 n1 c1, .slice A2 n2 c2, .slice A3 n3 q3] := by rw [hW0]; exact At.fresh _ _ _
  have BA := hide (show Below w.heap.size w W0 by rw [hW0]; exact (Below.refl _ _).alloc (Nat.le_refl _) _)
  have HM0 := hide (HM.out.below BA.out)
  have HF := hide F0
  have d0 := F0.cell 0
  have d1 := F0.cell 1
  have d2 := F0.cell 2
  have d3 := F0.cell 3
  simp at d0 d1 d2 d3
  have HW := hide hW0
  clear hW0 F0 h1 h2 h3 HM
  go_enter Tryz.func9, Tryz.ntmps9
  go_wp2_with fail
  rw [← HW.out]
  go_at_call 18
  (with_reducible refine (szMedl_any _ m _ HM0.out hq).mono ?_)
  rintro ee w1 ⟨r, rfl, hr, b1⟩
  have B1 := hide b1
  clear b1 d0 d1 d2 d3
  have F := HF.out.keep B1.out
  have d0 := F.cell 0
  have d1 := F.cell 1
  have d2 := F.cell 2
  have d3 := F.cell 3
  simp at d0 d1 d2 d3
  clear F
  rcases hr with hr | ⟨hr, sm⟩
  · have t1 : decide (r < 0) = true := decide_eq_true hr
    clear hr
    go_wp2
    go_ret
    exact ⟨rfl, below_trans BA.out B1.out⟩
  have t1 : decide (r < 0) = false := decide_eq_false (by omega)
  clear hr
  go_wp2_with fail
  go_at_call 20
  (with_reducible refine (toMedl_any _ m _ (HM0.out.below B1.out) sm).mono ?_)
  rintro ee w2 ⟨v2, rfl, o2, b2⟩
  have B2 := hide (below_trans B1.out b2)
  have O2 := hide o2.rd
  clear b2 d0 d1 d2 d3 o2
  have F := HF.out.keep B2.out
  have d0 := F.cell 0
  have d1 := F.cell 1
  have d2 := F.cell 2
  have d3 := F.cell 3
  simp at d0 d1 d2 d3
  clear F
  go_wp2_with fail
  go_at_call 16
  (with_reducible refine (sChainTime_any _ m a b c _ O2.out hq hb).mono ?_)
  rintro ee w3 ⟨rfl, b3⟩
  have B3 := hide (below_trans B2.out b3)
  clear b3 d0 d1 d2 d3
  have F := HF.out.keep B3.out
  have d0 := F.cell 0
  have d1 := F.cell 1
  have d2 := F.cell 2
  have d3 := F.cell 3
  simp at d0 d1 d2 d3
  clear F
  go_wp2_with fail
  go_at_call 20
  (with_reducible refine (toMedl_any _ m _ (HM0.out.below B3.out) sm).mono ?_)
  rintro ee w4 ⟨v4, rfl, o4, b4⟩
  have B4 := hide (below_trans B3.out b4)
  have O4 := hide o4.rd
  obtain ⟨D1, m1, e1, D2, m2, e2, D3, m3, e3, rfl, k1, k2, k3⟩ := o4.rd
  obtain ⟨W5, hW5⟩ : ∃ W5, W5 = w4.alloc (.cells #[.int .i64 m.id, .slice D1 m1 e1, .slice D2 m2 e2, .slice D3 m3 e3] 28) := ⟨_, rfl⟩
  obtain ⟨G, hG⟩ : ∃ G, G = w4.heap.size := ⟨_, rfl⟩
  have F5 : At W5 G 28 #[.int .i64 m.id, .slice D1 m1 e1, .slice D2 m2 e2, .slice D3 m3 e3] := by rw [hW5, hG]; exact At.fresh _ _ _
  have BW : Below w4.heap.size w4 W5 := by rw [hW5]; exact (Below.refl _ _).alloc (Nat.le_refl _) _
  have B5 := hide (below_trans B4.out BW)
  have O5 := hide (O4.out.below BW)
  have HF5 := hide F5
  have g0 := F5.cell 0
  have g1 := F5.cell 1
  have g2 := F5.cell 2
  have g3 := F5.cell 3
  simp at g0 g1 g2 g3
  have HW5 := hide hW5
  have HG := hide hG
  clear b4 d0 d1 d2 d3 o4 k1 k2 k3 F5 BW hW5 hG O4
  go_wp2_with fail
  rw [← HW5.out, ← HG.out]
  go_at_call 15
  (with_reducible refine (iChainTime_any _ m a b c _ O5.out hb).mono ?_)
  rintro ee w6 ⟨rfl, b6⟩
  have B6 := hide (below_trans B5.out b6)
  have O6 := hide (show RdM w6.drew _ m from (O5.out.below b6).drewN 1)
  have HM6 := hide (show RdM w6.drew _ m from (HM0.out.below B6.out).drewN 1)
  have F6 := HF5.out.keep b6
  have f0 := F6.cell 0
  have f1 := F6.cell 1
  have f2 := F6.cell 2
  have f3 := F6.cell 3
  simp at f0 f1 f2 f3
  have hlG := F6.lt
  clear b6 g0 g1 g2 g3 F6
  have F := HF.out.keep B6.out
  have d0 := F.cell 0
  have d1 := F.cell 1
  have d2 := F.cell 2
  have d3 := F.cell 3
  simp at d0 d1 d2 d3
  clear F
  have hl0 := (HF.out.keep B6.out).lt
  go_wp2_with fail
  refine wp_region_held_drew (S := (fun w' => w'.cell? ⟨G, 0, none⟩ = some (.int .i64 m.id) ∧ w'.cell? ⟨G, 1, none⟩ = some (.slice D1 m1 e1) ∧ w'.cell? ⟨G, 2, none⟩ = some (.slice D2 m2 e2) ∧ w'.cell? ⟨G, 3, none⟩ = some (.slice D3 m3 e3) ∧ w'.cell? ⟨w.heap.size, 0, none⟩ = some (.int .i64 m.id) ∧ w'.cell? ⟨w.heap.size, 1, none⟩ = some (.slice A1 n1 c1) ∧ w'.cell? ⟨w.heap.size, 2, none⟩ = some (.slice A2 n2 c2) ∧ w'.cell? ⟨w.heap.size, 3, none⟩ = some (.slice A3 n3 q3))) (by kernel_rfl) ?_ (fun hHeld => ?_)
  · (try dsimp only)
    go_keep
  refine wpAnyH_take (i := 0) (v := ?va1) rfl (by kernel_rfl) (by kernel_rfl) (by kernel_rfl) (fun _ _ _ h => h) (Or.inl ⟨by rfl, ?hya1⟩) (by assumption) ?rest1
  case hya1 => (intro wz hSw; (try dsimp only at hSw); go_simp; all_goals with_reducible rfl)
  try simp only [List.getElem_toArray, List.getElem_cons_succ, List.getElem_cons_zero, Act.put, List.setIfInBounds_toArray, List.set_cons_zero, List.set_cons_succ]
  refine wpAnyH_take (i := 1) (v := ?va2) rfl (by kernel_rfl) (by kernel_rfl) (by kernel_rfl) (fun _ _ _ h => h) (Or.inl ⟨by rfl, ?hya2⟩) (by assumption) ?rest2
  case hya2 => (intro wz hSw; (try dsimp only at hSw); go_simp; all_goals with_reducible rfl)
  try simp only [List.getElem_toArray, List.getElem_cons_succ, List.getElem_cons_zero, Act.put, List.setIfInBounds_toArray, List.set_cons_zero, List.set_cons_succ]
  refine wpAnyH_ready (rs := [2]) (by kernel_rfl) (by simp) ?_
  refine AllReadyH.cons rfl (fun K hK => ?_) AllReadyH.nil
  go_simp
  (go_at_call 20; (with_reducible refine (toMedl_any _ m _ HM6.out sm).mono ?_); rintro ee w7 ⟨v7, rfl, o7, b7⟩; have b8 := below_drewS2 b7; have O7 := hide o7.rd; have OX := hide (O6.out.below b7); have B7 := hide (below_trans B6.out b8); have x0 := (b8.cell (p := ⟨G, 0, none⟩) hlG).trans f0; have y0 := (b8.cell (p := ⟨w.heap.size, 0, none⟩) hl0).trans d0; have x1 := (b8.cell (p := ⟨G, 1, none⟩) hlG).trans f1; have y1 := (b8.cell (p := ⟨w.heap.size, 1, none⟩) hl0).trans d1; have x2 := (b8.cell (p := ⟨G, 2, none⟩) hlG).trans f2; have y2 := (b8.cell (p := ⟨w.heap.size, 2, none⟩) hl0).trans d2; have x3 := (b8.cell (p := ⟨G, 3, none⟩) hlG).trans f3; have y3 := (b8.cell (p := ⟨w.heap.size, 3, none⟩) hl0).trans d3; have lG7 := Nat.lt_of_lt_of_le hlG b8.size; have l07 := Nat.lt_of_lt_of_le hl0 b8.size; clear b7 b8 o7)
  go_wp2_with fail
  refine hK.out _ _ ?_ (fun hHeld2 => ?_)
  · (try dsimp only)
    go_keep
  clear hK K
  try simp only [List.getElem_toArray, List.getElem_cons_succ, List.getElem_cons_zero, Act.put, List.setIfInBounds_toArray, List.set_cons_zero, List.set_cons_succ]
  refine wpAnyH_ready (rs := [3]) (by kernel_rfl) (by simp) ?_
  refine AllReadyH.cons rfl (fun K hK => ?_) AllReadyH.nil
  go_simp
  (go_at_call 23; (with_reducible refine (eqMedl_same _ _ m _ OX.out O7.out).mono ?_); rintro ee w8 ⟨rfl, b9⟩; have B8 := hide (below_trans B7.out b9); have p0 := (b9.cell (p := ⟨G, 0, none⟩) lG7).trans x0; have q0 := (b9.cell (p := ⟨w.heap.size, 0, none⟩) l07).trans y0; have p1 := (b9.cell (p := ⟨G, 1, none⟩) lG7).trans x1; have q1 := (b9.cell (p := ⟨w.heap.size, 1, none⟩) l07).trans y1; have p2 := (b9.cell (p := ⟨G, 2, none⟩) lG7).trans x2; have q2 := (b9.cell (p := ⟨w.heap.size, 2, none⟩) l07).trans y2; have p3 := (b9.cell (p := ⟨G, 3, none⟩) lG7).trans x3; have q3 := (b9.cell (p := ⟨w.heap.size, 3, none⟩) l07).trans y3; clear b9)
  go_wp2_with fail
  refine hK.out _ _ ?_ (fun hHeld3 => ?_)
  · (try dsimp only)
    go_keep
  clear hK K
  try simp only [List.getElem_toArray, List.getElem_cons_succ, List.getElem_cons_zero, Act.put, List.setIfInBounds_toArray, List.set_cons_zero, List.set_cons_succ]
  refine wpAnyH_take (i := 4) (v := ?va3) rfl (by kernel_rfl) (by kernel_rfl) (by kernel_rfl) (fun _ _ _ h => h) (Or.inl ⟨by rfl, ?hya3⟩) (by assumption) ?rest3
  case hya3 => (intro wz hSw; (try dsimp only at hSw); go_simp; all_goals with_reducible rfl)
  try simp only [List.getElem_toArray, List.getElem_cons_succ, List.getElem_cons_zero, Act.put, List.setIfInBounds_toArray, List.set_cons_zero, List.set_cons_succ]
  refine wpAnyH_done (by kernel_rfl) ?_ _
  go_wp2
  go_ret
  exact ⟨rfl, below_trans BA.out B8.out⟩
end Go.Proofs.YtdkhldebnpmiiaaGreatDoor
