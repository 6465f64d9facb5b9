/- The walk of the law FnChains. -/
import Derived.Test.YtdkhldebnpmiiaaGreatDoorZChainT
import Derived.Test.YtdkhldebnpmiiaaGreatDoorZDrO
namespace Go.Proofs.YtdkhldebnpmiiaaGreatDoor
open Go.RowKit
set_option linter.unusedVariables false
set_option linter.unusedSimpArgs false
theorem scB_sub {m : Mdl} {mode : Int} {zs ys : List Int} (h : scB m mode zs = 0) (hs : ∀ y ∈ ys, y ∈ zs) : scB m mode ys = 0 := by
  obtain ⟨h1, h2⟩ := scB_act h
  have h3 := scB_zero h
  have a1 : ys.all (hasN m.ns) = true := List.all_eq_true.2 fun y hy => List.all_eq_true.1 h1 y (hs y hy)
  have a2 : ys.all (actB m.ns) = true := List.all_eq_true.2 fun y hy => List.all_eq_true.1 h2 y (hs y hy)
  simp [scB, ncB, h3, a1, a2]
theorem wst_of {m : Mdl} {mode a : Int} (h : scB m mode [a] = 0) : wstV m mode a = mxL (gapL ((prL a (modeL mode m.ss)).map (·.1)) (durs (modeL mode m.ss))) := by
  simp [wstV, h, gapN, prL_fst]
theorem chains_law {m : Mdl} {mode a b : Int} (h : scB m mode [a, b] = 0) :
    scB m mode [a] = 0 ∧ scB m mode [b] = 0 ∧ wstV m mode a < chnV m mode a b ∧ chnV m mode a b ≤ wstV m mode a + wstV m mode b + 2000 ∧
    (-120000 ≤ wstV m mode a ∧ wstV m mode a ≤ 240000) ∧ (-120000 ≤ wstV m mode b ∧ wstV m mode b ≤ 240000) := by
  have ha : scB m mode [a] = 0 := scB_sub h (by simp)
  have hb : scB m mode [b] = 0 := scB_sub h (by simp)
  have hmc := scB_zero h
  have hst := (mdB_iff.1 (mcB_zero hmc).1).2.2.2.1
  have hd := (durs20_of hst).modeL mode
  have hp := durs_pos hmc
  have wa := WfP.of a hd
  have wb := WfP.of b hd
  have na : prL a (modeL mode m.ss) ≠ [] := fun e => sends_of h (z := a) (by simp) (by rw [← prL_fst, e]; rfl)
  have nb : prL b (modeL mode m.ss) ≠ [] := fun e => sends_of h (z := b) (by simp) (by rw [← prL_fst, e]; rfl)
  have hc : chnV m mode a b = chnL (prL a (modeL mode m.ss)) (prL b (modeL mode m.ss)) (durs (modeL mode m.ss)) ((prL a (modeL mode m.ss)).map (·.1)) := by
    simp [chnV, h, prL_fst]
  refine ⟨ha, hb, ?_, ?_, ?_, ?_⟩
  · rw [hc, wst_of ha]
    exact chn_lower wa wb na nb hp
  · rw [hc, wst_of ha, wst_of hb]
    exact chn_upper wa wb na nb hp
  · have e : wstV m mode a = mxL (gapN m mode a) := by simp [wstV, ha]
    rw [e]
    exact gapN_in ha _ (mxL_mem (gapN_ne ha))
  · have e : wstV m mode b = mxL (gapN m mode b) := by simp [wstV, hb]
    rw [e]
    exact gapN_in hb _ (mxL_mem (gapN_ne hb))
set_option maxHeartbeats 6400000 in
theorem walkChains (A : Option Addr) (n c : Nat) (bs : List Int) (w : World) (h : Rd8 w A n c bs) :
    Calls Tryz.prog 3 #[.slice A n c] w (TrueOut w) := by
  go_enter Tryz.func3, Tryz.ntmps3
  go_wp2_with fail
  go_at_call 13
  refine (big_any _ _ _ _ _ h).mono ?_
  rintro ee w0 ⟨rfl, rfl⟩
  by_cases hn : 4096 < n
  · have t1 : decide (4096 < n) = true := decide_eq_true hn
    go_wp2
    go_ret
    exact ⟨rfl, Below.refl _ _⟩
  have t1 : decide (4096 < n) = false := decide_eq_false hn
  go_wp2_with fail
  go_at_call 14
  refine (DrawChainTime_d _ _ _ _ _ h (by omega)).mono ?_
  rintro ee w0 ⟨v, m, mode, a, b, rfl, rdh, nok, ia, ib, b0⟩
  have IA := hide (show I64 [a, b] from fun z hz => by
    simp at hz
    rcases hz with rfl | rfl <;> omega)
  have NM := hide nok.nms
  have HM := hide rdh.rd
  obtain ⟨A1, n1, c1, A2, n2, c2, A3, n3, q3, rfl, r1, r2, r3⟩ := rdh
  obtain ⟨w1, hw1⟩ : ∃ w1, w1 = w0.alloc (.cells #[.int .i64 m.id, .slice A1 n1 c1, .slice A2 n2 c2, .slice A3 n3 q3] 28) := ⟨_, rfl⟩
  obtain ⟨G, hG⟩ : ∃ G, G = w0.heap.size := ⟨_, rfl⟩
  have E1 := hide (show At w1 G 28 #[.int .i64 m.id, .slice A1 n1 c1, .slice A2 n2 c2, .slice A3 n3 q3] by rw [hw1, hG]; exact At.fresh _ _ _)
  have bw : Below w0.heap.size w0 w1 := by rw [hw1]; exact (Below.refl _ _).alloc (Nat.le_refl _) _
  have B1 := hide (below_trans b0 bw)
  have R1 := hide (HM.out.below bw)
  have HW1 := hide hw1
  have HG := hide hG
  clear nok r1 r2 r3 b0 bw hw1 hG HM h
  have d0 := E1.out.cell 0
  have d1 := E1.out.cell 1
  have d2 := E1.out.cell 2
  have d3 := E1.out.cell 3
  simp at d0 d1 d2 d3
  obtain ⟨cz, hcz⟩ : ∃ cz, cz = scB m mode [a, b] := ⟨_, rfl⟩
  obtain ⟨T, hT⟩ : ∃ T, T = chnV m mode a b := ⟨_, rfl⟩
  have HCZ := hide hcz
  have HT := hide hT
  clear hcz hT
  go_upto_region 4 with (fail)
  rw [← HW1.out, ← HG.out]
  go_wp2_with fail
  go_at_call 15
  (with_reducible refine (iChainTime_any _ m mode a b _ R1.out IA.out).mono ?_)
  rintro ee w2 ⟨rfl, b2⟩
  have B2 := hide (below_trans B1.out b2)
  have E2 := hide (E1.out.keep b2)
  have R2 := hide (R1.out.below b2)
  clear d0 d1 d2 d3 b2
  have d0 := E2.out.cell 0
  have d1 := E2.out.cell 1
  have d2 := E2.out.cell 2
  have d3 := E2.out.cell 3
  simp at d0 d1 d2 d3
  rw [← HCZ.out, ← HT.out]
  go_wp2_with fail
  go_at_call 16
  (with_reducible refine (sChainTime_any _ m mode a b _ R2.out NM.out IA.out).mono ?_)
  rintro ee w3 ⟨rfl, b3⟩
  have B3 := hide (below_trans B2.out b3)
  have E3 := hide (E2.out.keep b3)
  have R3 := hide (R2.out.below b3)
  clear d0 d1 d2 d3 b3
  have d0 := E3.out.cell 0
  have d1 := E3.out.cell 1
  have d2 := E3.out.cell 2
  have d3 := E3.out.cell 3
  simp at d0 d1 d2 d3
  rw [← HCZ.out, ← HT.out]
  by_cases hc0 : cz = 0
  · subst hc0
    obtain ⟨sa, sb, lo, up, ba, bb⟩ := chains_law HCZ.out.symm
    obtain ⟨f, hf⟩ : ∃ f, f = wstV m mode a := ⟨_, rfl⟩
    obtain ⟨g, hg⟩ : ∃ g, g = wstV m mode b := ⟨_, rfl⟩
    rw [← hf] at lo up ba
    rw [← hg] at up bb
    rw [← HT.out] at lo up
    have HF := hide hf
    have HGG := hide hg
    have SA := hide sa
    have SB := hide sb
    have IA1 := hide (show I64 [a] from fun z hz => IA.out z (by simp at hz; simp [hz]))
    have IB1 := hide (show I64 [b] from fun z hz => IA.out z (by simp at hz; simp [hz]))
    clear hf hg sa sb
    go_wp2_with fail
    go_at_call 17
    (with_reducible refine (iWorstGap_any _ m mode a _ R3.out IA1.out).mono ?_)
    rintro ee w4 ⟨rfl, b4⟩
    have B4 := hide (below_trans B3.out b4)
    have E4 := hide (E3.out.keep b4)
    have R4 := hide (R3.out.below b4)
    clear d0 d1 d2 d3 b4
    have d0 := E4.out.cell 0
    have d1 := E4.out.cell 1
    have d2 := E4.out.cell 2
    have d3 := E4.out.cell 3
    simp at d0 d1 d2 d3
    rw [← HF.out, SA.out]
    go_wp2_with fail
    go_at_call 17
    (with_reducible refine (iWorstGap_any _ m mode b _ R4.out IB1.out).mono ?_)
    rintro ee w5 ⟨rfl, b5⟩
    have B5 := hide (below_trans B4.out b5)
    have E5 := hide (E4.out.keep b5)
    have R5 := hide (R4.out.below b5)
    clear d0 d1 d2 d3 b5
    have d0 := E5.out.cell 0
    have d1 := E5.out.cell 1
    have d2 := E5.out.cell 2
    have d3 := E5.out.cell 3
    simp at d0 d1 d2 d3
    rw [← HGG.out, SB.out]
    go_wp2
    go_ret
    exact ⟨rfl, B5.out⟩
  · have t2 : (cz != 0) = true := by simpa using hc0
    have t3 : (cz == 0) = false := by simpa using hc0
    go_wp2
    go_ret
    exact ⟨rfl, B3.out⟩
end Go.Proofs.YtdkhldebnpmiiaaGreatDoor
