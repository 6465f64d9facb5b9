/- The walk of the law FnExactGapsOf. -/
import Derived.Test.YtdkhldebnpmiiaaGreatDoorGaps
import Derived.Test.YtdkhldebnpmiiaaGreatDoorBkH
import Derived.Test.YtdkhldebnpmiiaaGreatDoorBkB
import Derived.Test.YtdkhldebnpmiiaaGreatDoorMark
namespace Go.Proofs.YtdkhldebnpmiiaaGreatDoor
open Go.RowKit
set_option linter.unusedVariables false
set_option linter.unusedSimpArgs false

theorem gapV_len (m : Mdl) (mode node : Int) : (gapV m mode node).length ≤ 120 := by
  rw [gapV]
  cases h : (scB m mode [node] == 0)
  · exact Nat.zero_le _
  · have hst := (mdB_iff.1 (mcB_zero (scB_zero (by simpa using h : scB m mode [node] = 0))).1).2.2.2.1
    show (gapN m mode node).length ≤ 120
    rw [gapN, gapL_len]
    exact Nat.le_trans (stL_le _ _) (Nat.le_trans (modeL_len _ _) (len_of hst))
section
variable {w w' : World} {B B2 B' n c : Nat} {A : Option Addr} {zs : List Int}
theorem Own.btw (h : Own w B' A n c zs) (hb : Btw B B2 w w') (ho : ∀ g, A = some ⟨g, 0, none⟩ → g < B ∨ B2 ≤ g) : Own w' B' A n c zs := by
  refine ⟨⟨h.1.1, ?_⟩, h.2⟩
  rcases h.1.2 with h1 | ⟨g, cap, cur, h1, h2, h3, h4⟩
  · exact .inl h1
  · simp at h1
    exact .inr ⟨g, cap, cur, by simp; exact h1, h2, (hb.block g (Array.getElem?_eq_some_iff.1 h3).1 (ho g h1.1)).trans h3, h4⟩
theorem Own.lt_of (h : Own w B' A n c zs) : ∀ g, A = some ⟨g, 0, none⟩ → B' ≤ g ∧ g < w.heap.size := fun g e => by
  rcases h.form with ⟨q, _⟩ | ⟨g', q, r, s⟩
  · rw [q] at e; cases e
  · rw [q] at e
    simp at e
    omega
end
set_option maxHeartbeats 6400000 in
theorem walkGapsOf (v : Value) (m : Mdl) (a b : Int) (w : World) (h : RdM w v m) (hq : Nms m) (hb : I64 [b]) :
    Calls Tryz.prog 4 #[v, .int .i64 a, .int .i64 b] w (TrueOut w) := by
  have HM := hide h
  obtain ⟨A1, n1, c1, A2, n2, c2, A3, n3, q3, rfl, h1, h2, h3⟩ := h
  obtain ⟨W0, hW0⟩ : ∃ W0, W0 = w.alloc (.cells #[.int .i64 m.id, .slice A1 n1 c1, .slice A2 n2 c2, .slice A3 n3 q3] 38) := ⟨_, rfl⟩
  have F0 : At W0 w.heap.size 38 #[.int .i64 m.id, .slice A1 n1 c1, .slice A2 n2 c2, .slice A3 n3 q3] := by rw [hW0]; exact At.fresh _ _ _
  have BA := hide (show Below w.heap.size w W0 by rw [hW0]; exact (Below.refl _ _).alloc (Nat.le_refl _) _)
  have HM0 := hide (HM.out.below BA.out)
  have HF := hide F0
  have d0 := F0.cell 0
  have d1 := F0.cell 1
  have d2 := F0.cell 2
  have d3 := F0.cell 3
  simp at d0 d1 d2 d3
  have HW := hide hW0
  clear hW0 F0 h1 h2 h3 HM
  obtain ⟨Z, hZ⟩ : ∃ Z, Z = gapV m a b := ⟨_, rfl⟩
  have HZ := hide hZ
  obtain ⟨N, hN⟩ : ∃ N, N = Z.length := ⟨_, rfl⟩
  have hN2 : N ≤ 120 := by rw [hN, hZ]; exact gapV_len m a b
  have HN := hide hN
  obtain ⟨cz, hcz⟩ : ∃ cz, cz = scB m a [b] := ⟨_, rfl⟩
  have HCZ := hide hcz
  have EQ := hide (eqB_self Z)
  clear hZ hN hcz
  go_enter Tryz.func4, Tryz.ntmps4
  go_wp2_with fail
  rw [← HW.out]
  go_at_call 18
  (with_reducible refine (szMedl_any _ m _ HM0.out hq).mono ?_)
  rintro ee w1 ⟨r, rfl, hr, b1⟩
  have B1 := hide b1
  clear b1 d0 d1 d2 d3
  have F := HF.out.keep B1.out
  have d0 := F.cell 0
  have d1 := F.cell 1
  have d2 := F.cell 2
  have d3 := F.cell 3
  simp at d0 d1 d2 d3
  clear F
  rcases hr with hr | ⟨hr, sm⟩
  · have t1 : decide (r < 0) = true := decide_eq_true hr
    clear hr
    go_wp2
    go_ret
    exact ⟨rfl, below_trans BA.out B1.out⟩
  have t1 : decide (r < 0) = false := decide_eq_false (by omega)
  clear hr
  go_wp2_with fail
  go_at_call 20
  (with_reducible refine (toMedl_any _ m _ (HM0.out.below B1.out) sm).mono ?_)
  rintro ee w2 ⟨v2, rfl, o2, b2⟩
  have B2 := hide (below_trans B1.out b2)
  have O2 := hide o2.rd
  clear b2 d0 d1 d2 d3 o2 t1
  go_wp2_with fail
  go_at_call 19
  (with_reducible refine (sGapsOf_any _ m a b _ O2.out hq hb).mono ?_)
  rintro ee w3 ⟨Aw, cw, rfl, ow, b3⟩
  rw [← HZ.out] at ow
  rw [← HZ.out, ← HCZ.out]
  rw [← HN.out] at ow
  rw [← HN.out]
  have B3 := hide (below_trans B2.out b3)
  have OW := hide ow
  clear b3 ow
  have F := HF.out.keep B3.out
  have d0 := F.cell 0
  have d1 := F.cell 1
  have d2 := F.cell 2
  have d3 := F.cell 3
  simp at d0 d1 d2 d3
  clear F
  go_wp2_with fail
  go_at_call 20
  (with_reducible refine (toMedl_any _ m _ (HM0.out.below B3.out) sm).mono ?_)
  rintro ee w4 ⟨v4, rfl, o4, b4⟩
  have B4 := hide (below_trans B3.out b4)
  have O4 := hide o4
  obtain ⟨D1, m1, e1, D2, m2, e2, D3, m3, e3, rfl, k1, k2, k3⟩ := o4.rd
  obtain ⟨W5, hW5⟩ : ∃ W5, W5 = w4.alloc (.cells #[.int .i64 m.id, .slice D1 m1 e1, .slice D2 m2 e2, .slice D3 m3 e3] 28) := ⟨_, rfl⟩
  obtain ⟨G, hG⟩ : ∃ G, G = w4.heap.size := ⟨_, rfl⟩
  have F5 : At W5 G 28 #[.int .i64 m.id, .slice D1 m1 e1, .slice D2 m2 e2, .slice D3 m3 e3] := by rw [hW5, hG]; exact At.fresh _ _ _
  have BW : Below w4.heap.size w4 W5 := by rw [hW5]; exact (Below.refl _ _).alloc (Nat.le_refl _) _
  have B5 := hide (below_trans B4.out BW)
  have R5 := hide (O4.out.rd.below BW)
  have HBW := hide BW
  have HS34 := hide b4.size
  have HF5 := hide F5
  have OW4 := hide (OW.out.below b4)
  have g0 := F5.cell 0
  have g1 := F5.cell 1
  have g2 := F5.cell 2
  have g3 := F5.cell 3
  simp at g0 g1 g2 g3
  have HW5 := hide hW5
  have HG := hide hG
  clear b4 d0 d1 d2 d3 o4 k1 k2 k3 F5 BW hW5 hG
  go_wp2_with fail
  rw [← HW5.out, ← HG.out]
  go_at_call 21
  (with_reducible refine (iGapsOf_any _ m a b _ R5.out hb).mono ?_)
  rintro ee w6 ⟨Ag, cg, rfl, og, b6⟩
  rw [← HZ.out] at og
  rw [← HZ.out, ← HCZ.out]
  rw [← HN.out] at og
  rw [← HN.out]
  have X6 := hide b6
  have B6 := hide (below_trans B5.out b6)
  have OG := hide og
  have OW6 := hide (OW4.out.below (below_trans HBW.out b6))
  clear b6 og g0 g1 g2 g3
  go_wp2_with fail
  go_at_call 22
  (with_reducible refine (eqInt64S_b _ _ _ _ _ _ Z Z _ OG.out.rd OW6.out.rd).mono ?_)
  rintro ee w7 ⟨rfl, b7⟩
  rw [EQ.out]
  have X7 := hide (below_trans X6.out b7)
  have B7 := hide (below_trans B6.out b7)
  have OG7 := hide (OG.out.below b7)
  have OW7 := hide (OW6.out.below b7)
  have O7 := hide (show RdM w7.drew _ m from (R5.out.below X7.out).drewN 1)
  have HM7 := hide (show RdM w7.drew _ m from (HM0.out.below B7.out).drewN 1)
  have F6 := HF5.out.keep X7.out
  have f0 := F6.cell 0
  have f1 := F6.cell 1
  have f2 := F6.cell 2
  have f3 := F6.cell 3
  simp at f0 f1 f2 f3
  have hlG := F6.lt
  clear b7 F6
  have F := HF.out.keep B7.out
  have d0 := F.cell 0
  have d1 := F.cell 1
  have d2 := F.cell 2
  have d3 := F.cell 3
  simp at d0 d1 d2 d3
  clear F
  have hl0 := (HF.out.keep B7.out).lt
  go_wp2_with fail
  refine wp_region_held_drew (S := (fun w' => w'.cell? ⟨G, 0, none⟩ = some (.int .i64 m.id) ∧ w'.cell? ⟨G, 1, none⟩ = some (.slice D1 m1 e1) ∧ w'.cell? ⟨G, 2, none⟩ = some (.slice D2 m2 e2) ∧ w'.cell? ⟨G, 3, none⟩ = some (.slice D3 m3 e3) ∧ w'.cell? ⟨w.heap.size, 0, none⟩ = some (.int .i64 m.id) ∧ w'.cell? ⟨w.heap.size, 1, none⟩ = some (.slice A1 n1 c1) ∧ w'.cell? ⟨w.heap.size, 2, none⟩ = some (.slice A2 n2 c2) ∧ w'.cell? ⟨w.heap.size, 3, none⟩ = some (.slice A3 n3 q3))) (by kernel_rfl) ?_ (fun hHeld => ?_)
  · (try dsimp only)
    go_keep
  refine wpAnyH_take (i := 0) (v := ?va1) rfl (by kernel_rfl) (by kernel_rfl) (by kernel_rfl) (fun _ _ _ h => h) (Or.inl ⟨by rfl, ?hya1⟩) (by assumption) ?rest1
  case hya1 => (intro wz hSw; (try dsimp only at hSw); go_simp; all_goals with_reducible rfl)
  try simp only [List.getElem_toArray, List.getElem_cons_succ, List.getElem_cons_zero, Act.put, List.setIfInBounds_toArray, List.set_cons_zero, List.set_cons_succ]
  refine wpAnyH_take (i := 1) (v := ?va2) rfl (by kernel_rfl) (by kernel_rfl) (by kernel_rfl) (fun _ _ _ h => h) (Or.inl ⟨by rfl, ?hya2⟩) (by assumption) ?rest2
  case hya2 => (intro wz hSw; (try dsimp only at hSw); go_simp; all_goals with_reducible rfl)
  try simp only [List.getElem_toArray, List.getElem_cons_succ, List.getElem_cons_zero, Act.put, List.setIfInBounds_toArray, List.set_cons_zero, List.set_cons_succ]
  refine wpAnyH_ready (rs := [2]) (by kernel_rfl) (by simp) ?_
  refine AllReadyH.cons rfl (fun K hK => ?_) AllReadyH.nil
  go_simp
  (go_at_call 20; (with_reducible refine (toMedl_any _ m _ HM7.out sm).mono ?_); rintro ee w8 ⟨v8, rfl, o8, b8⟩; have bb := below_drewS2 b8; have O8 := hide o8.rd; have OX := hide (O7.out.below b8); have B8 := hide (below_trans B7.out bb); have X8 := hide (below_trans X7.out bb); have OG8 := hide (OG7.out.below bb); have OW8 := hide (OW7.out.below bb); have x0 := (bb.cell (p := ⟨G, 0, none⟩) hlG).trans f0; have y0 := (bb.cell (p := ⟨w.heap.size, 0, none⟩) hl0).trans d0; have x1 := (bb.cell (p := ⟨G, 1, none⟩) hlG).trans f1; have y1 := (bb.cell (p := ⟨w.heap.size, 1, none⟩) hl0).trans d1; have x2 := (bb.cell (p := ⟨G, 2, none⟩) hlG).trans f2; have y2 := (bb.cell (p := ⟨w.heap.size, 2, none⟩) hl0).trans d2; have x3 := (bb.cell (p := ⟨G, 3, none⟩) hlG).trans f3; have y3 := (bb.cell (p := ⟨w.heap.size, 3, none⟩) hl0).trans d3; have lG8 := Nat.lt_of_lt_of_le hlG bb.size; have l08 := Nat.lt_of_lt_of_le hl0 bb.size; clear b8 bb o8)
  go_wp2_with fail
  refine hK.out _ _ ?_ (fun hHeld2 => ?_)
  · (try dsimp only)
    go_keep
  clear hK K
  try simp only [List.getElem_toArray, List.getElem_cons_succ, List.getElem_cons_zero, Act.put, List.setIfInBounds_toArray, List.set_cons_zero, List.set_cons_succ]
  refine wpAnyH_ready (rs := [3]) (by kernel_rfl) (by simp) ?_
  refine AllReadyH.cons rfl (fun K hK => ?_) AllReadyH.nil
  go_simp
  (go_at_call 23; (with_reducible refine (eqMedl_same _ _ m _ OX.out O8.out).mono ?_); rintro ee w9 ⟨rfl, b9⟩; have B9 := hide (below_trans B8.out b9); have X9 := hide (below_trans X8.out b9); have OG9 := hide (OG8.out.below b9); have OW9 := hide (OW8.out.below b9); have p0 := (b9.cell (p := ⟨G, 0, none⟩) lG8).trans x0; have q0 := (b9.cell (p := ⟨w.heap.size, 0, none⟩) l08).trans y0; have p1 := (b9.cell (p := ⟨G, 1, none⟩) lG8).trans x1; have q1 := (b9.cell (p := ⟨w.heap.size, 1, none⟩) l08).trans y1; have p2 := (b9.cell (p := ⟨G, 2, none⟩) lG8).trans x2; have q2 := (b9.cell (p := ⟨w.heap.size, 2, none⟩) l08).trans y2; have p3 := (b9.cell (p := ⟨G, 3, none⟩) lG8).trans x3; have q3 := (b9.cell (p := ⟨w.heap.size, 3, none⟩) l08).trans y3; clear b9 f0 f1 f2 f3 d0 d1 d2 d3 x0 x1 x2 x3 y0 y1 y2 y3)
  go_wp2_with fail
  refine hK.out _ _ ?_ (fun hHeld3 => ?_)
  · (try dsimp only)
    go_keep
  clear hK K
  try simp only [List.getElem_toArray, List.getElem_cons_succ, List.getElem_cons_zero, Act.put, List.setIfInBounds_toArray, List.set_cons_zero, List.set_cons_succ]
  refine wpAnyH_take (i := 4) (v := ?va3) rfl (by kernel_rfl) (by kernel_rfl) (by kernel_rfl) (fun _ _ _ h => h) (Or.inl ⟨by rfl, ?hya3⟩) (by assumption) ?rest3
  case hya3 => (intro wz hSw; (try dsimp only at hSw); go_simp; all_goals with_reducible rfl)
  try simp only [List.getElem_toArray, List.getElem_cons_succ, List.getElem_cons_zero, Act.put, List.setIfInBounds_toArray, List.set_cons_zero, List.set_cons_succ]
  refine wpAnyH_done (by kernel_rfl) ?_ _
  go_wp2_with fail
  go_at_call 24
  (with_reducible refine (markMedl_any _ m w3.heap.size G w4 _ O4.out HG.out (below_trans HBW.out X9.out) sm).mono ?_)
  rintro ee w10 ⟨K, rfl, K0, b10⟩
  have hsz3 : w3.heap.size ≤ w9.heap.size := by
    have := X9.out.size
    have := HBW.out.size
    have := HS34.out
    omega
  have B10 := hide (show Below W0.heap.size W0 w10 from B9.out.trans ((b10.belowB hsz3).mono B3.out.size))
  have OG10 := hide (OG9.out.btw b10 (fun g e => .inr (by have := OG.out.lt_of g e; have := HBW.out.size; rw [HG.out]; omega)))
  have OW10 := hide (OW9.out.btw b10 (fun g e => .inl (OW.out.lt_of g e).2))
  clear b10 p0 p1 p2 p3 q0 q1 q2 q3 hsz3
  have t2 : decide (K < 0) = false := decide_eq_false (by omega)
  go_wp2_with fail
  go_at_call 22
  (with_reducible refine (eqInt64S_b _ _ _ _ _ _ Z Z _ OG10.out.rd OW10.out.rd).mono ?_)
  rintro ee w11 ⟨rfl, b11⟩
  rw [EQ.out]
  have B11 := hide (below_trans B10.out b11)
  have OG11 := hide (OG10.out.below b11)
  have OW11 := hide (OW10.out.below b11)
  clear b11
  go_wp2_with fail
  go_at_call 25
  (with_reducible refine (markInt64S_any _ _ _ _ _ _ _ OG11.out (by omega) (by omega) (by omega)).mono ?_)
  rintro ee w12 ⟨rfl, o12, g12⟩
  have B12 := hide (below_mark B11.out OG11.out B5.out.size g12)
  have OW12 := hide (OW11.out.keepLo g12 OG11.out (fun g hg => by
    have h1 := (OW.out.row.lt g hg).2
    have h2 := HBW.out.size
    have h3 := HS34.out
    omega))
  have OG12 := hide o12
  clear g12 o12 t2
  go_wp2_with fail
  go_at_call 26
  (with_reducible refine (heldInt64S_b _ _ _ _ _ OG12.out.rd (by omega) (by omega) (by omega)).mono ?_)
  rintro ee w13 ⟨rfl, b13⟩
  have B13 := hide (below_trans B12.out b13)
  have OG13 := hide (OG12.out.below b13)
  have OW13 := hide (OW12.out.below b13)
  clear b13
  have F := HF.out.keep B13.out
  have d0 := F.cell 0
  have d1 := F.cell 1
  have d2 := F.cell 2
  have d3 := F.cell 3
  simp at d0 d1 d2 d3
  clear F
  have t3 : decide ((1 : Int) + N < 0) = false := decide_eq_false (by omega)
  go_wp2_with fail
  go_at_call 20
  (with_reducible refine (toMedl_any _ m _ (HM0.out.below B13.out) sm).mono ?_)
  rintro ee w14 ⟨v14, rfl, o14, b14⟩
  have B14 := hide (below_trans B13.out b14)
  have O14 := hide o14.rd
  have OG14 := hide (OG13.out.below b14)
  have OW14 := hide (OW13.out.below b14)
  clear b14 o14 d0 d1 d2 d3
  go_wp2_with fail
  go_at_call 21
  (with_reducible refine (iGapsOf_any _ m a b _ O14.out hb).mono ?_)
  rintro ee w15 ⟨Ah, ch, rfl, oh, b15⟩
  rw [← HZ.out] at oh
  rw [← HZ.out, ← HCZ.out]
  rw [← HN.out] at oh
  rw [← HN.out]
  have B15 := hide (below_trans B14.out b15)
  have OH := hide oh
  have OG15 := hide (OG14.out.below b15)
  have OW15 := hide (OW14.out.below b15)
  clear b15 oh
  go_wp2_with fail
  go_at_call 22
  (with_reducible refine (eqInt64S_b _ _ _ _ _ _ Z Z _ OH.out.rd OW15.out.rd).mono ?_)
  rintro ee w16 ⟨rfl, b16⟩
  rw [EQ.out]
  have B16 := hide (below_trans B15.out b16)
  have OG16 := hide (OG15.out.below b16)
  clear b16
  go_wp2_with fail
  go_at_call 26
  (with_reducible refine (heldInt64S_b _ _ _ _ _ OG16.out.rd (by omega) (by omega) (by omega)).mono ?_)
  rintro ee w17 ⟨rfl, b17⟩
  have B17 := hide (below_trans B16.out b17)
  clear b17
  go_wp2
  go_ret
  exact ⟨rfl, below_trans BA.out B17.out⟩
end Go.Proofs.YtdkhldebnpmiiaaGreatDoor
