/- Contracts: the time of a chain of two nodes, by the program and by the reference. -/
import Derived.Test.YtdkhldebnpmiiaaGreatDoorZChain
import Derived.Test.YtdkhldebnpmiiaaGreatDoorZBkG
namespace Go.Proofs.YtdkhldebnpmiiaaGreatDoor
open Go.RowKit
set_option linter.unusedVariables false
set_option linter.unusedSimpArgs false
def chnV (m : Mdl) (mode a b : Int) : Int := bif scB m mode [a, b] == 0 then chnL (prL a (modeL mode m.ss)) (prL b (modeL mode m.ss)) (durs (modeL mode m.ss)) (stL a (modeL mode m.ss)) else 0
theorem chnTo_bound {pa pb : List (Int × Int)} {c : Int} {ss : List Int} (ha : WfP c pa) (hb : WfP c pb) (na : pa ≠ []) (nb : pb ≠ []) (hc : 0 < c) (hi : InC ss c) (k : Nat) : 0 ≤ chnTo pa pb c ss k ∧ chnTo pa pb c ss k ≤ 480000 := by
  have h := (fmax_ge ((ss.take k).map (chnAt pa pb c)) 0).1
  have hc2 := hi.2.2
  have e : chnTo pa pb c ss k = ((ss.take k).map (chnAt pa pb c)).foldl max 0 := by rw [chnTo, List.foldl_map]
  rw [e]
  refine ⟨h, ?_⟩
  rcases fmax_mem ((ss.take k).map (chnAt pa pb c)) 0 with q | q
  · omega
  · rw [List.mem_map] at q
    obtain ⟨s, hs, e2⟩ := q
    rw [← e2, chnAt]
    have hs2 := hi.1 s (List.mem_of_mem_take hs)
    have h1 := ans_bound ha na (t := s + 1) (by omega) hc
    have h2 := ans_bound hb nb (t := ansL pa c (s + 1)) (by omega) hc
    omega
set_option maxHeartbeats 6400000 in
theorem iChainTime_any (v : Value) (m : Mdl) (mode a b : Int) (w : World) (h : RdM w v m) (hab : I64 [a, b]) :
    Calls Tryz.prog 15 #[v, .int .i64 mode, .int .i64 a, .int .i64 b] w (TwoOut (chnV m mode a b) (scB m mode [a, b]) w) := by
  have HM := hide h
  obtain ⟨A1, n1, c1, A2, n2, c2, A3, n3, q3, rfl, h1, h2, h3⟩ := h
  have hlen2 := hide h2.len
  have hlen := hide h3.len
  have hcap2 := h2.cap
  have hcap := h3.cap
  obtain ⟨W0, hW0⟩ : ∃ W0, W0 = w.alloc (.cells #[.int .i64 m.id, .slice A1 n1 c1, .slice A2 n2 c2, .slice A3 n3 q3] 28) := ⟨_, rfl⟩
  have F0 : At W0 w.heap.size 28 #[.int .i64 m.id, .slice A1 n1 c1, .slice A2 n2 c2, .slice A3 n3 q3] := by rw [hW0]; exact At.fresh _ _ _
  have BA := hide (show Below w.heap.size w W0 by rw [hW0]; exact (Below.refl _ _).alloc (Nat.le_refl _) _)
  have B0 := hide (Below.refl W0.heap.size W0)
  have H1 := hide (h1.below BA.out)
  have H2 := hide (h2.below BA.out)
  have H3 := hide (h3.below BA.out)
  have HM0 := hide (HM.out.below BA.out)
  have HF := hide F0
  have d0 := F0.cell 0
  have d1 := F0.cell 1
  have d2 := F0.cell 2
  have d3 := F0.cell 3
  simp at d0 d1 d2 d3
  have HW := hide hW0
  clear hW0 F0 h1 h2 h3 HM
  obtain ⟨WL, hWL⟩ : ∃ WL, WL = W0.alloc (.cells #[.int .i64 a, .int .i64 b] 2) := ⟨_, rfl⟩
  have OL := hide (show Rd WL (some ⟨W0.heap.size, 0, none⟩) 2 2 [a, b] by rw [hWL]; exact (Own.lit W0 (Nat.le_refl _) #[.int .i64 a, .int .i64 b] [a, b] rfl hab 2 rfl (by omega)).rd)
  have BL := hide (show Below W0.heap.size W0 WL by rw [hWL]; exact (Below.refl _ _).alloc (Nat.le_refl _) _)
  rw [show W0.heap.size = w.heap.size + 1 by rw [HW.out]; simp] at OL
  have HWL := hide hWL
  have HML := hide (HM0.out.below BL.out)
  clear hWL
  go_enter Tryz.func15, Tryz.ntmps15
  go_wp2_with fail
  rw [← HW.out, ← HWL.out]
  go_at_call 49
  (with_reducible refine (sendersCode_any _ m mode _ _ _ [a, b] _ HML.out OL.out).mono ?_)
  rintro ee w1 ⟨rfl, b1⟩
  clear d0 d1 d2 d3
  have B1 := hide (below_trans BL.out b1)
  have F := HF.out.keep B1.out
  have d0 := F.cell 0
  have d1 := F.cell 1
  have d2 := F.cell 2
  have d3 := F.cell 3
  simp at d0 d1 d2 d3
  clear F b1
  obtain ⟨cz, hcz⟩ : ∃ cz, cz = scB m mode [a, b] := ⟨_, rfl⟩
  rw [← hcz]
  have HCZ := hide hcz
  by_cases hc0 : cz = 0
  · subst hc0
    have MB := hide (scB_zero HCZ.out.symm)
    have hst := (mdB_iff.1 (mcB_zero MB.out).1).2.2.2.1
    have HDu := hide (durs_of hst)
    have HST := hide hst
    have HLn := hide (len_of (mdB_iff.1 (mcB_zero MB.out).1).2.2.2.1)
    clear hcz
    obtain ⟨C, hC⟩ : ∃ C, C = durs (modeL mode m.ss) := ⟨_, rfl⟩
    obtain ⟨S, hS⟩ : ∃ S, S = stL a (modeL mode m.ss) := ⟨_, rfl⟩
    obtain ⟨pa, hpa⟩ : ∃ pa, pa = prL a (modeL mode m.ss) := ⟨_, rfl⟩
    obtain ⟨pb, hpb⟩ : ∃ pb, pb = prL b (modeL mode m.ss) := ⟨_, rfl⟩
    have hcp : 0 < C := by rw [hC]; exact durs_pos MB.out
    have HIC := hide (show InC S C by rw [hC, hS]; exact InC.of (HDu.out.modeL mode) (Nat.le_trans (modeL_len _ _) HLn.out))
    have hch : C ≤ 120000 := HIC.out.2.2
    have hSN : S.length ≤ 120 := by rw [hS]; exact Nat.le_trans (stL_le _ _) (Nat.le_trans (modeL_len _ _) HLn.out)
    have HNA := hide (sends_of HCZ.out.symm (z := a) (by simp))
    have HNB := hide (sends_of HCZ.out.symm (z := b) (by simp))
    have HWA := hide (show WfP C pa by rw [hC, hpa]; exact WfP.of a ((durs20_of hst).modeL mode))
    have HWB := hide (show WfP C pb by rw [hC, hpb]; exact WfP.of b ((durs20_of hst).modeL mode))
    have HPA := hide (show pa ≠ [] from List.length_pos_iff.1 (by rw [hpa, prL_len]; exact List.length_pos_iff.2 HNA.out))
    have HPB := hide (show pb ≠ [] from List.length_pos_iff.1 (by rw [hpb, prL_len]; exact List.length_pos_iff.2 HNB.out))
    have HCN := hide (chnTo_bound HWA.out HWB.out HPA.out HPB.out hcp HIC.out)
    have HC := hide hC
    have HS := hide hS
    have HEA := hide hpa
    have HEB := hide hpb
    clear hst hC hS hpa hpb
    go_wp2_with fail
    go_at_call 50
    (with_reducible refine (cycleTime_any _ m mode _ (HM0.out.below B1.out) HLn.out HDu.out).mono ?_)
    rintro ee w2 ⟨rfl, b2⟩
    have B2 := hide (below_trans B1.out b2)
    have F := HF.out.keep B2.out
    have x0 := F.cell 0
    have x1 := F.cell 1
    have x2 := F.cell 2
    have x3 := F.cell 3
    simp at x0 x1 x2 x3
    rw [← HC.out]
    clear F b2 d0 d1 d2 d3
    go_wp2_with fail
    go_at_call 51
    (with_reducible refine (sending_any _ m mode a _ (HM0.out.below B2.out) HLn.out HDu.out).mono ?_)
    rintro ee w3 ⟨As, cs, Ae, ce, rfl, o1, o2, b3⟩
    have B3 := hide (below_trans B2.out b3)
    have R1 := hide o1.rd
    have R2 := hide o2.rd
    have F := HF.out.keep B3.out
    have d0 := F.cell 0
    have d1 := F.cell 1
    have d2 := F.cell 2
    have d3 := F.cell 3
    simp at d0 d1 d2 d3
    clear F b3 x0 x1 x2 x3 o1 o2
    go_wp2_with fail
    go_at_call 51
    (with_reducible refine (sending_any _ m mode b _ (HM0.out.below B3.out) HLn.out HDu.out).mono ?_)
    rintro ee w4 ⟨At, ct, Au, cu, rfl, o3, o4, b4⟩
    have B4 := hide (below_trans B3.out b4)
    have Q1 := hide (R1.out.below b4)
    have Q2 := hide (R2.out.below b4)
    have Q3 := hide o3.rd
    have Q4 := hide o4.rd
    clear b4 d0 d1 d2 d3 o3 o4 R1 R2
    have PGA := hide (fun k (hk : k < (stL a (modeL mode m.ss)).length) => prL_get a (modeL mode m.ss) hk)
    have PGB := hide (fun k (hk : k < (stL b (modeL mode m.ss)).length) => prL_get b (modeL mode m.ss) hk)
    have PLA := hide (prL_len a (modeL mode m.ss))
    have PLB := hide (prL_len b (modeL mode m.ss))
    rw [← HEA.out] at PGA PLA
    rw [← HEB.out] at PGB PLB
    rw [← HS.out] at Q1 Q2 PGA PLA
    rw [← HS.out]
    obtain ⟨N, hN⟩ : ∃ N, N = S.length := ⟨_, rfl⟩
    obtain ⟨M, hM⟩ : ∃ M, M = (stL b (modeL mode m.ss)).length := ⟨_, rfl⟩
    have hNp : 0 < N := by rw [hN, HS.out]; exact List.length_pos_iff.2 HNA.out
    have hMp : 0 < M := by rw [hM]; exact List.length_pos_iff.2 HNB.out
    rw [← hN] at Q1 Q2 PGA PLA hSN
    rw [← hM] at Q3 Q4 PGB PLB
    rw [← hN, ← hM]
    have HN := hide hN.symm
    clear hN hM
    go_wp2_with fail
    go_loop [12, 49] (fun q i => ∃ (k : Nat) (u : Int), k ≤ N ∧ i = .int .i64 k ∧ q = .int .i64 u ∧ Hid (u = chnTo pa pb C S k)) (fun _ i => N - (intOf i).toNat)
    case atStart => exact ⟨0, 0, by omega, rfl, rfl, hide rfl⟩
    case round =>
      obtain ⟨k, u, hk, rfl, rfl, hu⟩ := hrel
      by_cases hlt : k < N
      · obtain ⟨bb, off, rfl, hbb, hc⟩ := Q1.out.at_ (by omega)
        have e1 := hc k hlt
        clear hc
        have y := HIC.out.nth k
        have ys := hide (chnTo_succ pa pb C S (k := k) (by rw [HN.out]; exact hlt))
        obtain ⟨s, hs⟩ : ∃ s, s = nth S k := ⟨_, rfl⟩
        rw [← hs] at e1 y ys
        have an1 := ans_bound HWA.out HPA.out (t := s + 1) (by omega) hcp
        obtain ⟨t2, ht2⟩ : ∃ t2, t2 = ansL pa C (s + 1) := ⟨_, rfl⟩
        rw [← ht2] at an1
        have an2 := ans_bound HWB.out HPB.out (t := t2) (by omega) hcp
        have HYS := hide (show chnTo pa pb C S (k + 1) = max (chnTo pa pb C S k) (ansL pb C t2 - (s + 1)) by rw [ys.out, chnAt, ← ht2])
        obtain ⟨t3, ht3⟩ : ∃ t3, t3 = ansL pb C t2 := ⟨_, rfl⟩
        rw [← ht3] at an2 HYS
        rw [← hu.out] at HYS
        have hub := HCN.out k
        rw [← hu.out] at hub
        obtain ⟨ub0, ub1⟩ := hub
        obtain ⟨y0, y1⟩ := y
        obtain ⟨a0, a1⟩ := an1
        obtain ⟨b0, b1'⟩ := an2
        have t2h : t2 ≤ 1000000 := by omega
        have tw : IntKind.i64.wrap (t3 - (s + 1)) = t3 - (s + 1) := IntWalk.i64_in _ ⟨by omega, by omega⟩
        have HT2 := hide ht2
        have HT3 := hide ht3
        clear ht2 ht3 hs ys
        go_wp2_with fail
        go_at_call 52
        (with_reducible refine (answerEnd_any _ _ _ S _ _ _ C (s + 1) pa _ Q1.out Q2.out PLA.out PGA.out HWA.out hNp (by omega) (by omega) hcp hch).mono ?_)
        rintro ee w5 ⟨rfl, rfl⟩
        rw [← HT2.out]
        go_wp2_with fail
        go_at_call 52
        (with_reducible refine (answerEnd_any _ _ _ _ _ _ _ C t2 pb _ Q3.out Q4.out PLB.out PGB.out HWB.out hMp (by omega) (by omega) hcp hch).mono ?_)
        rintro ee w5 ⟨rfl, rfl⟩
        rw [← HT3.out]
        go_wp2
        go_round
        case rel => exact ⟨k + 1, max u (t3 - (s + 1)), by omega, by go_num, by first | rfl | rw [tw], hide HYS.out.symm⟩
        case measure => simp [intOf]; omega
      · obtain rfl : k = N := by omega
        have E := hide (show u = chnV m mode a b by rw [hu.out, chnV, ← HCZ.out]; show _ = chnL _ _ _ _; rw [← HS.out, ← HEA.out, ← HEB.out, ← HC.out, chnL, HN.out])
        go_wp2
        go_ret2
        exact ⟨ret_pair E.out HCZ.out, below_trans BA.out B4.out⟩
  · have t1 : (cz == 0) = false := by simpa using hc0
    have HT1 := hide t1
    clear hcz hc0
    go_wp2
    go_ret2
    exact ⟨ret_pair (by rw [chnV, ← HCZ.out, HT1.out]; rfl) HCZ.out, below_trans BA.out B1.out⟩
set_option maxHeartbeats 6400000 in
theorem sChainTime_any (v : Value) (m : Mdl) (mode a b : Int) (w : World) (h : RdM w v m) (hq : Nms m) (hab : I64 [a, b]) :
    Calls Tryz.prog 16 #[v, .int .i64 mode, .int .i64 a, .int .i64 b] w (TwoOut (chnV m mode a b) (scB m mode [a, b]) w) := by
  have HM := hide h
  obtain ⟨A1, n1, c1, A2, n2, c2, A3, n3, q3, rfl, h1, h2, h3⟩ := h
  have hlen2 := hide h2.len
  have hlen := hide h3.len
  have hcap2 := h2.cap
  have hcap := h3.cap
  obtain ⟨W0, hW0⟩ : ∃ W0, W0 = w.alloc (.cells #[.int .i64 m.id, .slice A1 n1 c1, .slice A2 n2 c2, .slice A3 n3 q3] 28) := ⟨_, rfl⟩
  have F0 : At W0 w.heap.size 28 #[.int .i64 m.id, .slice A1 n1 c1, .slice A2 n2 c2, .slice A3 n3 q3] := by rw [hW0]; exact At.fresh _ _ _
  have BA := hide (show Below w.heap.size w W0 by rw [hW0]; exact (Below.refl _ _).alloc (Nat.le_refl _) _)
  have B0 := hide (Below.refl W0.heap.size W0)
  have H1 := hide (h1.below BA.out)
  have H2 := hide (h2.below BA.out)
  have H3 := hide (h3.below BA.out)
  have HM0 := hide (HM.out.below BA.out)
  have HF := hide F0
  have d0 := F0.cell 0
  have d1 := F0.cell 1
  have d2 := F0.cell 2
  have d3 := F0.cell 3
  simp at d0 d1 d2 d3
  have HW := hide hW0
  clear hW0 F0 h1 h2 h3 HM
  obtain ⟨WL, hWL⟩ : ∃ WL, WL = W0.alloc (.cells #[.int .i64 a, .int .i64 b] 2) := ⟨_, rfl⟩
  have OL := hide (show Rd WL (some ⟨W0.heap.size, 0, none⟩) 2 2 [a, b] by rw [hWL]; exact (Own.lit W0 (Nat.le_refl _) #[.int .i64 a, .int .i64 b] [a, b] rfl hab 2 rfl (by omega)).rd)
  have BL := hide (show Below W0.heap.size W0 WL by rw [hWL]; exact (Below.refl _ _).alloc (Nat.le_refl _) _)
  rw [show W0.heap.size = w.heap.size + 1 by rw [HW.out]; simp] at OL
  have HWL := hide hWL
  have HML := hide (HM0.out.below BL.out)
  clear hWL
  go_enter Tryz.func16, Tryz.ntmps16
  go_wp2_with fail
  rw [← HW.out, ← HWL.out]
  go_at_call 53
  (with_reducible refine (l17Code_any _ m mode _ _ _ [a, b] _ HML.out hq OL.out).mono ?_)
  rintro ee w1 ⟨rfl, b1⟩
  clear d0 d1 d2 d3
  have B1 := hide (below_trans BL.out b1)
  have F := HF.out.keep B1.out
  have d0 := F.cell 0
  have d1 := F.cell 1
  have d2 := F.cell 2
  have d3 := F.cell 3
  simp at d0 d1 d2 d3
  clear F b1
  obtain ⟨cz, hcz⟩ : ∃ cz, cz = scB m mode [a, b] := ⟨_, rfl⟩
  rw [← hcz]
  have HCZ := hide hcz
  by_cases hc0 : cz = 0
  · subst hc0
    have MB := hide (scB_zero HCZ.out.symm)
    have hst := (mdB_iff.1 (mcB_zero MB.out).1).2.2.2.1
    have HDu := hide (durs_of hst)
    have HST := hide hst
    have HLn := hide (len_of (mdB_iff.1 (mcB_zero MB.out).1).2.2.2.1)
    clear hcz
    obtain ⟨C, hC⟩ : ∃ C, C = durs (modeL mode m.ss) := ⟨_, rfl⟩
    obtain ⟨S, hS⟩ : ∃ S, S = stL a (modeL mode m.ss) := ⟨_, rfl⟩
    obtain ⟨pa, hpa⟩ : ∃ pa, pa = prL a (modeL mode m.ss) := ⟨_, rfl⟩
    obtain ⟨pb, hpb⟩ : ∃ pb, pb = prL b (modeL mode m.ss) := ⟨_, rfl⟩
    have hcp : 0 < C := by rw [hC]; exact durs_pos MB.out
    have HIC := hide (show InC S C by rw [hC, hS]; exact InC.of (HDu.out.modeL mode) (Nat.le_trans (modeL_len _ _) HLn.out))
    have hch : C ≤ 120000 := HIC.out.2.2
    have hSN : S.length ≤ 120 := by rw [hS]; exact Nat.le_trans (stL_le _ _) (Nat.le_trans (modeL_len _ _) HLn.out)
    have HNA := hide (sends_of HCZ.out.symm (z := a) (by simp))
    have HNB := hide (sends_of HCZ.out.symm (z := b) (by simp))
    have HWA := hide (show WfP C pa by rw [hC, hpa]; exact WfP.of a ((durs20_of hst).modeL mode))
    have HWB := hide (show WfP C pb by rw [hC, hpb]; exact WfP.of b ((durs20_of hst).modeL mode))
    have HPA := hide (show pa ≠ [] from List.length_pos_iff.1 (by rw [hpa, prL_len]; exact List.length_pos_iff.2 HNA.out))
    have HPB := hide (show pb ≠ [] from List.length_pos_iff.1 (by rw [hpb, prL_len]; exact List.length_pos_iff.2 HNB.out))
    have HCN := hide (chnTo_bound HWA.out HWB.out HPA.out HPB.out hcp HIC.out)
    have HC := hide hC
    have HS := hide hS
    have HEA := hide hpa
    have HEB := hide hpb
    clear hst hC hS hpa hpb
    go_wp2_with fail
    go_at_call 54
    (with_reducible refine (l15Times_any _ m mode a _ (HM0.out.below B1.out) HST.out).mono ?_)
    rintro ee w2 ⟨As, cs, rfl, o1, b2⟩
    have B2 := hide (below_trans B1.out b2)
    have R1 := hide o1.rd
    clear b2 o1 d0 d1 d2 d3
    rw [← HS.out] at R1
    rw [← HS.out]
    obtain ⟨N, hN⟩ : ∃ N, N = S.length := ⟨_, rfl⟩
    rw [← hN] at R1 hSN
    rw [← hN]
    have HN := hide hN.symm
    clear hN
    go_wp2_with fail
    go_loopw [12, 13] (fun q i wr => ∃ (k : Nat) (u : Int), k ≤ N ∧ i = .int .i64 k ∧ q = .int .i64 u ∧ Hid (u = chnTo pa pb C S k) ∧ Hid (Below w2.heap.size w2 wr)) (fun _ i _ => N - (intOf i).toNat)
    case atStart => exact ⟨0, 0, by omega, rfl, rfl, hide rfl, hide (Below.refl _ _)⟩
    case round =>
      obtain ⟨k, u, hk, rfl, rfl, hu, hb2⟩ := hrel
      by_cases hlt : k < N
      · obtain ⟨bb, off, rfl, hbb, hc⟩ := (R1.out.below hb2.out).at_ (by omega)
        have e1 := hc k hlt
        clear hc
        have BW := hide (below_trans B2.out hb2.out)
        have HMD := hide (show RdM wr.drew _ m from (HM0.out.below BW.out).drewN 1)
        have F := HF.out.keep BW.out
        have hl0 := F.lt
        have d0 := F.cell 0
        have d1 := F.cell 1
        have d2 := F.cell 2
        have d3 := F.cell 3
        simp at d0 d1 d2 d3
        clear F
        have y := HIC.out.nth k
        have ys := hide (chnTo_succ pa pb C S (k := k) (by rw [HN.out]; exact hlt))
        obtain ⟨s, hs⟩ : ∃ s, s = nth S k := ⟨_, rfl⟩
        rw [← hs] at e1 y ys
        have an1 := ans_bound HWA.out HPA.out (t := s + 1) (by omega) hcp
        obtain ⟨t2, ht2⟩ : ∃ t2, t2 = ansL pa C (s + 1) := ⟨_, rfl⟩
        rw [← ht2] at an1
        have an2 := ans_bound HWB.out HPB.out (t := t2) (by omega) hcp
        have HYS := hide (show chnTo pa pb C S (k + 1) = max (chnTo pa pb C S k) (ansL pb C t2 - (s + 1)) by rw [ys.out, chnAt, ← ht2])
        obtain ⟨t3, ht3⟩ : ∃ t3, t3 = ansL pb C t2 := ⟨_, rfl⟩
        rw [← ht3] at an2 HYS
        rw [← hu.out] at HYS
        have hub := HCN.out k
        rw [← hu.out] at hub
        obtain ⟨ub0, ub1⟩ := hub
        obtain ⟨y0, y1⟩ := y
        obtain ⟨a0, a1⟩ := an1
        obtain ⟨b0, b1'⟩ := an2
        have t2h : t2 ≤ 1000000 := by omega
        have tw : IntKind.i64.wrap (t3 - (s + 1)) = t3 - (s + 1) := IntWalk.i64_in _ ⟨by omega, by omega⟩
        have HT2 := hide ht2
        have HT3 := hide ht3
        clear ht2 ht3 hs ys
        go_wp2_with fail
        refine wp_region_held_drew (S := (fun w' => w'.cell? ⟨w.heap.size, 0, none⟩ = some (.int .i64 m.id) ∧ w'.cell? ⟨w.heap.size, 1, none⟩ = some (.slice A1 n1 c1) ∧ w'.cell? ⟨w.heap.size, 2, none⟩ = some (.slice A2 n2 c2) ∧ w'.cell? ⟨w.heap.size, 3, none⟩ = some (.slice A3 n3 q3))) (by kernel_rfl) ?_ (fun hHeld => ?_)
        · (try dsimp only)
          go_keep
        refine wpAnyH_take (i := 0) (v := ?va1) rfl (by kernel_rfl) (by kernel_rfl) (by kernel_rfl) (fun _ _ _ h => h) (Or.inl ⟨by rfl, ?hya1⟩) (by assumption) ?rest1
        case hya1 => (intro wz hSw; (try dsimp only at hSw); go_simp; all_goals with_reducible rfl)
        try simp only [List.getElem_toArray, List.getElem_cons_succ, List.getElem_cons_zero, Act.put, List.setIfInBounds_toArray, List.set_cons_zero, List.set_cons_succ]
        refine wpAnyH_take (i := 1) (v := ?va2) rfl (by kernel_rfl) (by kernel_rfl) (by kernel_rfl) (fun _ _ _ h => h) (Or.inl ⟨by rfl, ?hya2⟩) (by assumption) ?rest2
        case hya2 => (intro wz hSw; (try dsimp only at hSw); go_simp; all_goals with_reducible rfl)
        try simp only [List.getElem_toArray, List.getElem_cons_succ, List.getElem_cons_zero, Act.put, List.setIfInBounds_toArray, List.set_cons_zero, List.set_cons_succ]
        refine wpAnyH_take (i := 2) (v := ?va3) rfl (by kernel_rfl) (by kernel_rfl) (by kernel_rfl) (fun _ _ _ h => h) (Or.inl ⟨by rfl, ?hya3⟩) (by assumption) ?rest3
        case hya3 => (intro wz hSw; (try dsimp only at hSw); go_simp; all_goals with_reducible rfl)
        try simp only [List.getElem_toArray, List.getElem_cons_succ, List.getElem_cons_zero, Act.put, List.setIfInBounds_toArray, List.set_cons_zero, List.set_cons_succ]
        refine wpAnyH_take (i := 3) (v := ?va4) rfl (by kernel_rfl) (by kernel_rfl) (by kernel_rfl) (fun _ _ _ h => h) (Or.inl ⟨by rfl, ?hya4⟩) (by assumption) ?rest4
        case hya4 => (intro wz hSw; (try dsimp only at hSw); go_simp; all_goals with_reducible rfl)
        try simp only [List.getElem_toArray, List.getElem_cons_succ, List.getElem_cons_zero, Act.put, List.setIfInBounds_toArray, List.set_cons_zero, List.set_cons_succ]
        refine wpAnyH_take (i := 4) (v := ?va5) rfl (by kernel_rfl) (by kernel_rfl) (by kernel_rfl) (fun _ _ _ h => h) (Or.inl ⟨by rfl, ?hya5⟩) (by assumption) ?rest5
        case hya5 => (intro wz hSw; (try dsimp only at hSw); go_simp; all_goals with_reducible rfl)
        try simp only [List.getElem_toArray, List.getElem_cons_succ, List.getElem_cons_zero, Act.put, List.setIfInBounds_toArray, List.set_cons_zero, List.set_cons_succ]
        refine wpAnyH_take (i := 5) (v := ?va6) rfl (by kernel_rfl) (by kernel_rfl) (by kernel_rfl) (fun _ _ _ h => h) (Or.inl ⟨by rfl, ?hya6⟩) (by assumption) ?rest6
        case hya6 => (intro wz hSw; (try dsimp only at hSw); go_simp; all_goals with_reducible rfl)
        try simp only [List.getElem_toArray, List.getElem_cons_succ, List.getElem_cons_zero, Act.put, List.setIfInBounds_toArray, List.set_cons_zero, List.set_cons_succ]
        refine wpAnyH_take (i := 6) (v := ?va7) rfl (by kernel_rfl) (by kernel_rfl) (by kernel_rfl) (fun _ _ _ h => h) (Or.inl ⟨by rfl, ?hya7⟩) (by assumption) ?rest7
        case hya7 => (intro wz hSw; (try dsimp only at hSw); go_simp; all_goals with_reducible rfl)
        try simp only [List.getElem_toArray, List.getElem_cons_succ, List.getElem_cons_zero, Act.put, List.setIfInBounds_toArray, List.set_cons_zero, List.set_cons_succ]
        refine wpAnyH_take (i := 7) (v := ?va8) rfl (by kernel_rfl) (by kernel_rfl) (by kernel_rfl) (fun _ _ _ h => h) (Or.inl ⟨by rfl, ?hya8⟩) (by assumption) ?rest8
        case hya8 => (intro wz hSw; (try dsimp only at hSw); go_simp; all_goals with_reducible rfl)
        try simp only [List.getElem_toArray, List.getElem_cons_succ, List.getElem_cons_zero, Act.put, List.setIfInBounds_toArray, List.set_cons_zero, List.set_cons_succ]
        refine wpAnyH_take (i := 10) (v := ?va9) rfl (by kernel_rfl) (by kernel_rfl) (by kernel_rfl) (fun _ _ _ h => h) (Or.inl ⟨by rfl, ?hya9⟩) (by assumption) ?rest9
        case hya9 => (intro wz hSw; (try dsimp only at hSw); go_simp; all_goals with_reducible rfl)
        try simp only [List.getElem_toArray, List.getElem_cons_succ, List.getElem_cons_zero, Act.put, List.setIfInBounds_toArray, List.set_cons_zero, List.set_cons_succ]
        refine wpAnyH_ready (rs := [8]) (by kernel_rfl) (by simp) ?_
        refine AllReadyH.cons rfl (fun K hK => ?_) AllReadyH.nil
        go_simp
        (go_at_call 55; (with_reducible refine (l17End_any _ m mode a (s + 1) _ HMD.out HST.out HNA.out (by rw [← HC.out]; exact hcp) (by omega) (by omega)).mono ?_); rintro ee w3 ⟨rfl, b3⟩; have bb := below_drewS2 b3; have B3 := hide (below_trans hb2.out bb); have HM3 := hide (HM0.out.below (below_trans BW.out bb)); have x0 := (bb.cell (p := ⟨w.heap.size, 0, none⟩) hl0).trans d0; have x1 := (bb.cell (p := ⟨w.heap.size, 1, none⟩) hl0).trans d1; have x2 := (bb.cell (p := ⟨w.heap.size, 2, none⟩) hl0).trans d2; have x3 := (bb.cell (p := ⟨w.heap.size, 3, none⟩) hl0).trans d3; have hl1 := Nat.lt_of_lt_of_le hl0 bb.size; rw [← HC.out, ← HEA.out, ← HT2.out]; clear b3 bb)
        go_wp2_with fail
        refine hK.out _ _ ?_ (fun hHeld8 => ?_)
        · (try dsimp only)
          go_keep
        clear hK K
        try simp only [List.getElem_toArray, List.getElem_cons_succ, List.getElem_cons_zero, Act.put, List.setIfInBounds_toArray, List.set_cons_zero, List.set_cons_succ]
        refine wpAnyH_ready (rs := [9]) (by kernel_rfl) (by simp) ?_
        refine AllReadyH.cons rfl (fun K hK => ?_) AllReadyH.nil
        go_simp
        (go_at_call 55; (with_reducible refine (l17End_any _ m mode b t2 _ HM3.out HST.out HNB.out (by rw [← HC.out]; exact hcp) (by omega) (by omega)).mono ?_); rintro ee w4 ⟨rfl, b4⟩; have B4 := hide (below_trans B3.out b4); have bc := b4; have z0 := (bc.cell (p := ⟨w.heap.size, 0, none⟩) hl1).trans x0; have z1 := (bc.cell (p := ⟨w.heap.size, 1, none⟩) hl1).trans x1; have z2 := (bc.cell (p := ⟨w.heap.size, 2, none⟩) hl1).trans x2; have z3 := (bc.cell (p := ⟨w.heap.size, 3, none⟩) hl1).trans x3; rw [← HC.out, ← HEB.out, ← HT3.out]; clear b4 bc)
        go_wp2_with fail
        refine hK.out _ _ ?_ (fun hHeld9 => ?_)
        · (try dsimp only)
          go_keep
        clear hK K
        try simp only [List.getElem_toArray, List.getElem_cons_succ, List.getElem_cons_zero, Act.put, List.setIfInBounds_toArray, List.set_cons_zero, List.set_cons_succ]
        refine wpAnyH_take (i := 11) (v := ?va10) rfl (by kernel_rfl) (by kernel_rfl) (by kernel_rfl) (fun _ _ _ h => h) (Or.inl ⟨by rfl, ?hya10⟩) (by assumption) ?rest10
        case hya10 => (intro wz hSw; (try dsimp only at hSw); go_simp; all_goals with_reducible rfl)
        try simp only [List.getElem_toArray, List.getElem_cons_succ, List.getElem_cons_zero, Act.put, List.setIfInBounds_toArray, List.set_cons_zero, List.set_cons_succ]
        refine wpAnyH_take (i := 12) (v := ?va11) rfl (by kernel_rfl) (by kernel_rfl) (by kernel_rfl) (fun _ _ _ h => h) (Or.inl ⟨by rfl, ?hya11⟩) (by assumption) ?rest11
        case hya11 => (intro wz hSw; (try dsimp only at hSw); go_simp; all_goals with_reducible rfl)
        try simp only [List.getElem_toArray, List.getElem_cons_succ, List.getElem_cons_zero, Act.put, List.setIfInBounds_toArray, List.set_cons_zero, List.set_cons_succ]
        refine wpAnyH_take (i := 13) (v := ?va12) rfl (by kernel_rfl) (by kernel_rfl) (by kernel_rfl) (fun _ _ _ h => h) (Or.inl ⟨by rfl, ?hya12⟩) (by assumption) ?rest12
        case hya12 => (intro wz hSw; (try dsimp only at hSw); go_simp; all_goals with_reducible rfl)
        try simp only [List.getElem_toArray, List.getElem_cons_succ, List.getElem_cons_zero, Act.put, List.setIfInBounds_toArray, List.set_cons_zero, List.set_cons_succ]
        refine wpAnyH_done (by kernel_rfl) ?_ _
        go_wp2
        go_roundw
        case rel => exact ⟨k + 1, max u (t3 - (s + 1)), by omega, by go_num, by first | rfl | rw [tw], hide HYS.out.symm, B4⟩
        case measure => simp [intOf]; omega
      · obtain rfl : k = N := by omega
        have E := hide (show u = chnV m mode a b by rw [hu.out, chnV, ← HCZ.out]; show _ = chnL _ _ _ _; rw [← HS.out, ← HEA.out, ← HEB.out, ← HC.out, chnL, HN.out])
        go_wp2
        go_ret2
        exact ⟨ret_pair E.out HCZ.out, below_trans BA.out (below_trans B2.out hb2.out)⟩
  · have t1 : (cz == 0) = false := by simpa using hc0
    have HT1 := hide t1
    clear hcz hc0
    go_wp2
    go_ret2
    exact ⟨ret_pair (by rw [chnV, ← HCZ.out, HT1.out]; rfl) HCZ.out, below_trans BA.out B1.out⟩
end Go.Proofs.YtdkhldebnpmiiaaGreatDoor
