/- The walk of the law FnGaps. -/
import Derived.Test.YtdkhldebnpmiiaaGreatDoorZWorstG
import Derived.Test.YtdkhldebnpmiiaaGreatDoorZDrQ
namespace Go.Proofs.YtdkhldebnpmiiaaGreatDoor
open Go.RowKit
set_option linter.unusedVariables false
set_option linter.unusedSimpArgs false
theorem gapV_len2 (m : Mdl) (mode node : Int) : (gapV m mode node).length ≤ 120 := by
  rw [gapV]
  cases h : (scB m mode [node] == 0)
  · exact Nat.zero_le _
  · have hst := (mdB_iff.1 (mcB_zero (scB_zero (by simpa using h : scB m mode [node] = 0))).1).2.2.2.1
    show (gapN m mode node).length ≤ 120
    rw [gapN, gapL_len]
    exact Nat.le_trans (stL_le _ _) (Nat.le_trans (modeL_len _ _) (len_of hst))
theorem gaps_law {m : Mdl} {mode a : Int} (h : scB m mode [a] = 0) :
    mcB m mode = 0 ∧ (gapV m mode a).sum = durs (modeL mode m.ss) ∧ (gapV m mode a).any (fun z => z == wstV m mode a) = true ∧ (gapV m mode a).any (fun z => z == wstV m mode a - jitV m mode a) = true ∧ 0 ≤ jitV m mode a ∧
    (∀ z ∈ gapV m mode a, -1000000 ≤ z ∧ z ≤ 1000000) ∧ (-120000 ≤ wstV m mode a ∧ wstV m mode a ≤ 240000) ∧ jitV m mode a ≤ 360000 := by
  have e : gapV m mode a = gapN m mode a := by simp [gapV, h]
  have e1 : wstV m mode a = mxL (gapN m mode a) := by simp [wstV, h]
  have e2 : jitV m mode a = mxL (gapN m mode a) - mnL (gapN m mode a) := by simp [jitV, h]
  have ne := gapN_ne h
  have hin := gapN_in h
  have h1 := hin _ (mxL_mem ne)
  have h2 := hin _ (mnL_mem ne)
  have h3 := mnL_le_mxL ne
  refine ⟨scB_zero h, ?_, ?_, ?_, ?_, ?_, ?_, ?_⟩
  · rw [e, gapN]
    exact gapL_sum (sends_of h (by simp))
  · rw [e, e1]
    exact List.any_eq_true.2 ⟨_, mxL_mem ne, by simp⟩
  · rw [e, e1, e2]
    exact List.any_eq_true.2 ⟨_, mnL_mem ne, by simp; omega⟩
  · rw [e2]; omega
  · rw [e]
    intro z hz
    have := hin z hz
    omega
  · rw [e1]; exact h1
  · rw [e2]; omega
set_option maxHeartbeats 12800000 in
theorem walkGaps (A : Option Addr) (n c : Nat) (bs : List Int) (w : World) (h : Rd8 w A n c bs) :
    Calls Tryz.prog 5 #[.slice A n c] w (TrueOut w) := by
  go_enter Tryz.func5, Tryz.ntmps5
  go_wp2_with fail
  go_at_call 13
  refine (big_any _ _ _ _ _ h).mono ?_
  rintro ee w0 ⟨rfl, rfl⟩
  by_cases hn : 4096 < n
  · have t1 : decide (4096 < n) = true := decide_eq_true hn
    go_wp2
    go_ret
    exact ⟨rfl, Below.refl _ _⟩
  have t1 : decide (4096 < n) = false := decide_eq_false hn
  go_wp2_with fail
  go_at_call 27
  refine (DrawGapsOf_d _ _ _ _ _ h (by omega)).mono ?_
  rintro ee w0 ⟨v, m, mode, a, rfl, rdh, nok, ia, b0⟩
  have IA := hide (show I64 [a] from I64.one (by omega) (by omega))
  have NM := hide nok.nms
  have HM := hide rdh.rd
  obtain ⟨A1, n1, c1, A2, n2, c2, A3, n3, q3, rfl, r1, r2, r3⟩ := rdh
  have hc3 := r3.1.cap
  obtain ⟨w1, hw1⟩ : ∃ w1, w1 = w0.alloc (.cells #[.int .i64 m.id, .slice A1 n1 c1, .slice A2 n2 c2, .slice A3 n3 q3] 28) := ⟨_, rfl⟩
  obtain ⟨G, hG⟩ : ∃ G, G = w0.heap.size := ⟨_, rfl⟩
  have E1 := hide (show At w1 G 28 #[.int .i64 m.id, .slice A1 n1 c1, .slice A2 n2 c2, .slice A3 n3 q3] by rw [hw1, hG]; exact At.fresh _ _ _)
  have bw : Below w0.heap.size w0 w1 := by rw [hw1]; exact (Below.refl _ _).alloc (Nat.le_refl _) _
  have B1 := hide (below_trans b0 bw)
  have R1 := hide (HM.out.below bw)
  have HW1 := hide hw1
  have HG := hide hG
  clear nok r1 r2 r3 b0 bw hw1 hG HM h
  have d0 := E1.out.cell 0
  have d1 := E1.out.cell 1
  have d2 := E1.out.cell 2
  have d3 := E1.out.cell 3
  simp at d0 d1 d2 d3
  obtain ⟨Z, hZ⟩ : ∃ Z, Z = gapV m mode a := ⟨_, rfl⟩
  have HZ := hide hZ
  obtain ⟨N, hN⟩ : ∃ N, N = Z.length := ⟨_, rfl⟩
  have hN2 : N ≤ 120 := by rw [hN, hZ]; exact gapV_len2 m mode a
  have HN := hide hN
  obtain ⟨cz, hcz⟩ : ∃ cz, cz = scB m mode [a] := ⟨_, rfl⟩
  have HCZ := hide hcz
  obtain ⟨f, hf⟩ : ∃ f, f = wstV m mode a := ⟨_, rfl⟩
  have HF := hide hf
  obtain ⟨j, hj⟩ : ∃ j, j = jitV m mode a := ⟨_, rfl⟩
  have HJ := hide hj
  have EQ := hide (eqB_self Z)
  clear hZ hN hcz hf hj
  go_upto_region 4 with (fail)
  rw [← HW1.out, ← HG.out]
  go_wp2_with fail
  go_at_call 21
  (with_reducible refine (iGapsOf_any _ m mode a _ R1.out IA.out).mono ?_)
  rintro ee w2 ⟨Ag, cg, rfl, o, b2⟩
  rw [← HZ.out] at o
  rw [← HZ.out, ← HCZ.out]
  rw [← HN.out] at o
  rw [← HN.out]
  have OG2 := hide o
  have B2 := hide (below_trans B1.out b2)
  have E2 := hide (E1.out.keep b2)
  have R2 := hide (R1.out.below b2)
  clear d0 d1 d2 d3 b2 o
  have d0 := E2.out.cell 0
  have d1 := E2.out.cell 1
  have d2 := E2.out.cell 2
  have d3 := E2.out.cell 3
  simp at d0 d1 d2 d3
  have hcg := OG2.out.cap
  go_wp2_with fail
  go_at_call 19
  (with_reducible refine (sGapsOf_any _ m mode a _ R2.out NM.out IA.out).mono ?_)
  rintro ee w3 ⟨Aw, cw, rfl, o, b3⟩
  rw [← HZ.out] at o
  rw [← HZ.out, ← HCZ.out]
  rw [← HN.out] at o
  rw [← HN.out]
  have OW3 := hide o
  have B3 := hide (below_trans B2.out b3)
  have E3 := hide (E2.out.keep b3)
  have R3 := hide (R2.out.below b3)
  have OG3 := hide (OG2.out.below b3)
  clear d0 d1 d2 d3 b3 o
  have d0 := E3.out.cell 0
  have d1 := E3.out.cell 1
  have d2 := E3.out.cell 2
  have d3 := E3.out.cell 3
  simp at d0 d1 d2 d3
  have hcw := OW3.out.cap
  go_wp2_with fail
  go_at_call 17
  (with_reducible refine (iWorstGap_any _ m mode a _ R3.out IA.out).mono ?_)
  rintro ee w4 ⟨rfl, b4⟩
  have B4 := hide (below_trans B3.out b4)
  have E4 := hide (E3.out.keep b4)
  have R4 := hide (R3.out.below b4)
  have OG4 := hide (OG3.out.below b4)
  have OW4 := hide (OW3.out.below b4)
  clear d0 d1 d2 d3 b4
  have d0 := E4.out.cell 0
  have d1 := E4.out.cell 1
  have d2 := E4.out.cell 2
  have d3 := E4.out.cell 3
  simp at d0 d1 d2 d3
  rw [← HF.out, ← HCZ.out]
  go_wp2_with fail
  go_at_call 28
  (with_reducible refine (sWorstGap_any _ m mode a _ R4.out NM.out IA.out).mono ?_)
  rintro ee w5 ⟨rfl, b5⟩
  have B5 := hide (below_trans B4.out b5)
  have E5 := hide (E4.out.keep b5)
  have R5 := hide (R4.out.below b5)
  have OG5 := hide (OG4.out.below b5)
  have OW5 := hide (OW4.out.below b5)
  clear d0 d1 d2 d3 b5
  have d0 := E5.out.cell 0
  have d1 := E5.out.cell 1
  have d2 := E5.out.cell 2
  have d3 := E5.out.cell 3
  simp at d0 d1 d2 d3
  rw [← HF.out, ← HCZ.out]
  go_wp2_with fail
  go_at_call 29
  (with_reducible refine (iJitterOf_any _ m mode a _ R5.out IA.out).mono ?_)
  rintro ee w6 ⟨rfl, b6⟩
  have B6 := hide (below_trans B5.out b6)
  have E6 := hide (E5.out.keep b6)
  have R6 := hide (R5.out.below b6)
  have OG6 := hide (OG5.out.below b6)
  have OW6 := hide (OW5.out.below b6)
  clear d0 d1 d2 d3 b6
  have d0 := E6.out.cell 0
  have d1 := E6.out.cell 1
  have d2 := E6.out.cell 2
  have d3 := E6.out.cell 3
  simp at d0 d1 d2 d3
  rw [← HJ.out, ← HCZ.out]
  go_wp2_with fail
  go_at_call 30
  (with_reducible refine (sJitterOf_any _ m mode a _ R6.out NM.out IA.out).mono ?_)
  rintro ee w7 ⟨rfl, b7⟩
  have B7 := hide (below_trans B6.out b7)
  have E7 := hide (E6.out.keep b7)
  have R7 := hide (R6.out.below b7)
  have OG7 := hide (OG6.out.below b7)
  have OW7 := hide (OW6.out.below b7)
  clear d0 d1 d2 d3 b7
  have d0 := E7.out.cell 0
  have d1 := E7.out.cell 1
  have d2 := E7.out.cell 2
  have d3 := E7.out.cell 3
  simp at d0 d1 d2 d3
  rw [← HJ.out, ← HCZ.out]
  go_wp2_with fail
  go_at_call 31
  (with_reducible refine (likeInts_b _ _ _ _ _ _ Z Z _ OG7.out.rd OW7.out.rd).mono ?_)
  rintro ee w8 ⟨rfl, b8⟩
  have B8 := hide (below_trans B7.out b8)
  have E8 := hide (E7.out.keep b8)
  have R8 := hide (R7.out.below b8)
  have OG8 := hide (OG7.out.below b8)
  clear d0 d1 d2 d3 b8
  have d0 := E8.out.cell 0
  have d1 := E8.out.cell 1
  have d2 := E8.out.cell 2
  have d3 := E8.out.cell 3
  simp at d0 d1 d2 d3
  rw [EQ.out]
  by_cases hc0 : cz = 0
  · subst hc0
    obtain ⟨hm, hs, hx1, hx2, hj0, hzs, hf1, hj1⟩ := gaps_law HCZ.out.symm
    rw [← HZ.out] at hs hx1 hx2 hzs
    rw [← HF.out] at hx1 hx2 hf1
    rw [← HJ.out] at hx2 hj0 hj1
    have HS := hide hs
    have HX1 := hide hx1
    have HX2 := hide hx2
    have HZS := hide hzs
    have HCY := hide (show (bif mcB m mode == 0 then durs (modeL mode m.ss) else 0) = Z.sum by rw [hm, hs]; rfl)
    have HMC := hide hm
    clear hs hx1 hx2 hzs hm
    go_wp2_with fail
    go_at_call 32
    (with_reducible refine (iCycleTime_any _ m mode _ R8.out).mono ?_)
    rintro ee w9 ⟨rfl, b9⟩
    have B9 := hide (below_trans B8.out b9)
    have E9 := hide (E8.out.keep b9)
    have R9 := hide (R8.out.below b9)
    have OG9 := hide (OG8.out.below b9)
    clear d0 d1 d2 d3 b9
    have d0 := E9.out.cell 0
    have d1 := E9.out.cell 1
    have d2 := E9.out.cell 2
    have d3 := E9.out.cell 3
    simp at d0 d1 d2 d3
    rw [HCY.out, HMC.out]
    go_wp2_with fail
    go_at_call 33
    (with_reducible refine (lsum_any _ _ _ _ _ OG9.out.rd (by omega) HZS.out).mono ?_)
    rintro ee w10 ⟨rfl, rfl⟩
    go_wp2_with fail
    go_at_call 34
    (with_reducible refine (hasInt_any _ _ _ _ _ _ OG9.out.rd).mono ?_)
    rintro ee w10 ⟨rfl, rfl⟩
    rw [HX1.out]
    go_wp2_with fail
    go_at_call 34
    (with_reducible refine (hasInt_any _ _ _ _ _ _ OG9.out.rd).mono ?_)
    rintro ee w10 ⟨rfl, rfl⟩
    rw [HX2.out]
    go_wp2
    go_ret
    exact ⟨rfl, B9.out⟩
  · have t2 : (cz != 0) = true := by simpa using hc0
    have t3 : (cz == 0) = false := by simpa using hc0
    go_wp2
    go_ret
    exact ⟨rfl, B8.out⟩
end Go.Proofs.YtdkhldebnpmiiaaGreatDoor
