/- Contracts: the worst gap and the jitter, by the program and by the reference. -/
import Derived.Test.YtdkhldebnpmiiaaGreatDoorZGaps
import Derived.Test.YtdkhldebnpmiiaaGreatDoorZMax
namespace Go.Proofs.YtdkhldebnpmiiaaGreatDoor
open Go.RowKit
set_option linter.unusedVariables false
set_option linter.unusedSimpArgs false
def wstV (m : Mdl) (mode node : Int) : Int := bif scB m mode [node] == 0 then mxL (gapN m mode node) else 0
def jitV (m : Mdl) (mode node : Int) : Int := bif scB m mode [node] == 0 then mxL (gapN m mode node) - mnL (gapN m mode node) else 0
theorem gapN_ne {m : Mdl} {mode node : Int} (h : scB m mode [node] = 0) : gapN m mode node ≠ [] := by
  have := List.length_pos_iff.2 (sends_of h (z := node) (by simp))
  rw [← List.length_pos_iff, gapN, gapL_len]
  exact this
theorem gapN_in {m : Mdl} {mode node : Int} (h : scB m mode [node] = 0) : ∀ z ∈ gapN m mode node, -120000 ≤ z ∧ z ≤ 240000 := by
  intro z hz
  have hst := (mdB_iff.1 (mcB_zero (scB_zero h)).1).2.2.2.1
  rw [gapN, gapL, gapTo, List.mem_map] at hz
  obtain ⟨k, _, rfl⟩ := hz
  exact gapAt_bound (InC.of ((durs_of hst).modeL mode) (Nat.le_trans (modeL_len _ _) (len_of hst))) k
set_option maxHeartbeats 3200000 in
theorem iWorstGap_any (v : Value) (m : Mdl) (mode node : Int) (w : World) (h : RdM w v m) (hnode : I64 [node]) :
    Calls Tryz.prog 17 #[v, .int .i64 mode, .int .i64 node] w (TwoOut (wstV m mode node) (scB m mode [node]) w) := by
  have HM := hide h
  obtain ⟨A1, n1, c1, A2, n2, c2, A3, n3, q3, rfl, h1, h2, h3⟩ := h
  have hlen2 := hide h2.len
  have hlen := hide h3.len
  have hcap2 := h2.cap
  have hcap := h3.cap
  obtain ⟨W0, hW0⟩ : ∃ W0, W0 = w.alloc (.cells #[.int .i64 m.id, .slice A1 n1 c1, .slice A2 n2 c2, .slice A3 n3 q3] 28) := ⟨_, rfl⟩
  have F0 : At W0 w.heap.size 28 #[.int .i64 m.id, .slice A1 n1 c1, .slice A2 n2 c2, .slice A3 n3 q3] := by rw [hW0]; exact At.fresh _ _ _
  have BA := hide (show Below w.heap.size w W0 by rw [hW0]; exact (Below.refl _ _).alloc (Nat.le_refl _) _)
  have B0 := hide (Below.refl W0.heap.size W0)
  have H1 := hide (h1.below BA.out)
  have H2 := hide (h2.below BA.out)
  have H3 := hide (h3.below BA.out)
  have HM0 := hide (HM.out.below BA.out)
  have HF := hide F0
  have d0 := F0.cell 0
  have d1 := F0.cell 1
  have d2 := F0.cell 2
  have d3 := F0.cell 3
  simp at d0 d1 d2 d3
  have HW := hide hW0
  clear hW0 F0 h1 h2 h3 HM
  go_enter Tryz.func17, Tryz.ntmps17
  go_wp2_with fail
  rw [← HW.out]
  go_at_call 21
  (with_reducible refine (iGapsOf_any _ m mode node _ HM0.out hnode).mono ?_)
  rintro ee w1 ⟨A', c', rfl, own, b1⟩
  clear d0 d1 d2 d3
  have B1 := hide b1
  have HO := hide own.rd
  clear b1 own
  obtain ⟨cz, hcz⟩ : ∃ cz, cz = scB m mode [node] := ⟨_, rfl⟩
  rw [← hcz]
  have HCZ := hide hcz
  by_cases hc0 : cz = 0
  · subst hc0
    have E := hide (show gapV m mode node = gapN m mode node by rw [gapV, ← HCZ.out]; rfl)
    have hne := gapN_ne HCZ.out.symm
    have hG := gapN_in HCZ.out.symm
    rw [E.out] at HO
    rw [E.out]
    obtain ⟨G, hGe⟩ : ∃ G, G = gapN m mode node := ⟨_, rfl⟩
    rw [← hGe] at HO hne hG
    rw [← hGe]
    have HGE := hide hGe
    have hpos := List.length_pos_iff.2 hne
    obtain ⟨N, hN⟩ : ∃ N, N = G.length := ⟨_, rfl⟩
    rw [← hN] at HO hpos
    rw [← hN]
    have hmx := hG _ (mxL_mem hne)
    have hmn := hG _ (mnL_mem hne)
    clear hcz hGe hN hne hG
    go_wp2_with fail
    go_at_call 56
    (with_reducible refine (slices_Max_any _ _ _ G _ HO.out hpos).mono ?_)
    rintro ee w2 ⟨rfl, rfl⟩
    go_wp2
    go_ret2
    exact ⟨ret_pair (by rw [wstV, ← HCZ.out, ← HGE.out]; rfl) HCZ.out, below_trans BA.out B1.out⟩
  · have t1 : (cz == 0) = false := by simpa using hc0
    have HT1 := hide t1
    clear hcz hc0
    go_wp2
    go_ret2
    exact ⟨ret_pair (by rw [wstV, ← HCZ.out, HT1.out]; rfl) HCZ.out, below_trans BA.out B1.out⟩
set_option maxHeartbeats 3200000 in
theorem iJitterOf_any (v : Value) (m : Mdl) (mode node : Int) (w : World) (h : RdM w v m) (hnode : I64 [node]) :
    Calls Tryz.prog 29 #[v, .int .i64 mode, .int .i64 node] w (TwoOut (jitV m mode node) (scB m mode [node]) w) := by
  have HM := hide h
  obtain ⟨A1, n1, c1, A2, n2, c2, A3, n3, q3, rfl, h1, h2, h3⟩ := h
  have hlen2 := hide h2.len
  have hlen := hide h3.len
  have hcap2 := h2.cap
  have hcap := h3.cap
  obtain ⟨W0, hW0⟩ : ∃ W0, W0 = w.alloc (.cells #[.int .i64 m.id, .slice A1 n1 c1, .slice A2 n2 c2, .slice A3 n3 q3] 28) := ⟨_, rfl⟩
  have F0 : At W0 w.heap.size 28 #[.int .i64 m.id, .slice A1 n1 c1, .slice A2 n2 c2, .slice A3 n3 q3] := by rw [hW0]; exact At.fresh _ _ _
  have BA := hide (show Below w.heap.size w W0 by rw [hW0]; exact (Below.refl _ _).alloc (Nat.le_refl _) _)
  have B0 := hide (Below.refl W0.heap.size W0)
  have H1 := hide (h1.below BA.out)
  have H2 := hide (h2.below BA.out)
  have H3 := hide (h3.below BA.out)
  have HM0 := hide (HM.out.below BA.out)
  have HF := hide F0
  have d0 := F0.cell 0
  have d1 := F0.cell 1
  have d2 := F0.cell 2
  have d3 := F0.cell 3
  simp at d0 d1 d2 d3
  have HW := hide hW0
  clear hW0 F0 h1 h2 h3 HM
  go_enter Tryz.func29, Tryz.ntmps29
  go_wp2_with fail
  rw [← HW.out]
  go_at_call 21
  (with_reducible refine (iGapsOf_any _ m mode node _ HM0.out hnode).mono ?_)
  rintro ee w1 ⟨A', c', rfl, own, b1⟩
  clear d0 d1 d2 d3
  have B1 := hide b1
  have HO := hide own.rd
  clear b1 own
  obtain ⟨cz, hcz⟩ : ∃ cz, cz = scB m mode [node] := ⟨_, rfl⟩
  rw [← hcz]
  have HCZ := hide hcz
  by_cases hc0 : cz = 0
  · subst hc0
    have E := hide (show gapV m mode node = gapN m mode node by rw [gapV, ← HCZ.out]; rfl)
    have hne := gapN_ne HCZ.out.symm
    have hG := gapN_in HCZ.out.symm
    rw [E.out] at HO
    rw [E.out]
    obtain ⟨G, hGe⟩ : ∃ G, G = gapN m mode node := ⟨_, rfl⟩
    rw [← hGe] at HO hne hG
    rw [← hGe]
    have HGE := hide hGe
    have hpos := List.length_pos_iff.2 hne
    obtain ⟨N, hN⟩ : ∃ N, N = G.length := ⟨_, rfl⟩
    rw [← hN] at HO hpos
    rw [← hN]
    have hmx := hG _ (mxL_mem hne)
    have hmn := hG _ (mnL_mem hne)
    clear hcz hGe hN hne hG
    go_wp2_with fail
    go_at_call 56
    (with_reducible refine (slices_Max_any _ _ _ G _ HO.out hpos).mono ?_)
    rintro ee w2 ⟨rfl, rfl⟩
    go_wp2_with fail
    go_at_call 71
    (with_reducible refine (slices_Min_any _ _ _ G _ HO.out hpos).mono ?_)
    rintro ee w3 ⟨rfl, rfl⟩
    have tw : IntKind.i64.wrap (mxL G - mnL G) = mxL G - mnL G := IntWalk.i64_in _ ⟨by omega, by omega⟩
    go_wp2
    go_ret2
    exact ⟨ret_pair (by rw [jitV, ← HCZ.out, ← HGE.out]; rfl) HCZ.out, below_trans BA.out B1.out⟩
  · have t1 : (cz == 0) = false := by simpa using hc0
    have HT1 := hide t1
    clear hcz hc0
    go_wp2
    go_ret2
    exact ⟨ret_pair (by rw [jitV, ← HCZ.out, HT1.out]; rfl) HCZ.out, below_trans BA.out B1.out⟩
set_option maxHeartbeats 3200000 in
theorem sWorstGap_any (v : Value) (m : Mdl) (mode node : Int) (w : World) (h : RdM w v m) (hq : Nms m) (hnode : I64 [node]) :
    Calls Tryz.prog 28 #[v, .int .i64 mode, .int .i64 node] w (TwoOut (wstV m mode node) (scB m mode [node]) w) := by
  have HM := hide h
  obtain ⟨A1, n1, c1, A2, n2, c2, A3, n3, q3, rfl, h1, h2, h3⟩ := h
  have hlen2 := hide h2.len
  have hlen := hide h3.len
  have hcap2 := h2.cap
  have hcap := h3.cap
  obtain ⟨W0, hW0⟩ : ∃ W0, W0 = w.alloc (.cells #[.int .i64 m.id, .slice A1 n1 c1, .slice A2 n2 c2, .slice A3 n3 q3] 28) := ⟨_, rfl⟩
  have F0 : At W0 w.heap.size 28 #[.int .i64 m.id, .slice A1 n1 c1, .slice A2 n2 c2, .slice A3 n3 q3] := by rw [hW0]; exact At.fresh _ _ _
  have BA := hide (show Below w.heap.size w W0 by rw [hW0]; exact (Below.refl _ _).alloc (Nat.le_refl _) _)
  have B0 := hide (Below.refl W0.heap.size W0)
  have H1 := hide (h1.below BA.out)
  have H2 := hide (h2.below BA.out)
  have H3 := hide (h3.below BA.out)
  have HM0 := hide (HM.out.below BA.out)
  have HF := hide F0
  have d0 := F0.cell 0
  have d1 := F0.cell 1
  have d2 := F0.cell 2
  have d3 := F0.cell 3
  simp at d0 d1 d2 d3
  have HW := hide hW0
  clear hW0 F0 h1 h2 h3 HM
  obtain ⟨WL, hWL⟩ : ∃ WL, WL = W0.alloc (.cells #[.int .i64 node] 2) := ⟨_, rfl⟩
  have OL := hide (show Rd WL (some ⟨W0.heap.size, 0, none⟩) 1 1 [node] by rw [hWL]; exact (Own.lit W0 (Nat.le_refl _) #[.int .i64 node] [node] rfl hnode 1 rfl (by omega)).rd)
  have BL := hide (show Below W0.heap.size W0 WL by rw [hWL]; exact (Below.refl _ _).alloc (Nat.le_refl _) _)
  rw [show W0.heap.size = w.heap.size + 1 by rw [HW.out]; simp] at OL
  have HWL := hide hWL
  have HML := hide (HM0.out.below BL.out)
  clear hWL
  go_enter Tryz.func28, Tryz.ntmps28
  go_wp2_with fail
  rw [← HW.out, ← HWL.out]
  go_at_call 53
  (with_reducible refine (l17Code_any _ m mode _ _ _ [node] _ HML.out hq OL.out).mono ?_)
  rintro ee w1 ⟨rfl, b1⟩
  clear d0 d1 d2 d3
  have B1 := hide (below_trans BL.out b1)
  have F := HF.out.keep B1.out
  have d0 := F.cell 0
  have d1 := F.cell 1
  have d2 := F.cell 2
  have d3 := F.cell 3
  simp at d0 d1 d2 d3
  clear F b1
  obtain ⟨cz, hcz⟩ : ∃ cz, cz = scB m mode [node] := ⟨_, rfl⟩
  rw [← hcz]
  have HCZ := hide hcz
  by_cases hc0 : cz = 0
  · subst hc0
    have MB := hide (scB_zero HCZ.out.symm)
    have HLn := hide (len_of (mdB_iff.1 (mcB_zero MB.out).1).2.2.2.1)
    clear hcz
    have hne := gapN_ne HCZ.out.symm
    have hG := gapN_in HCZ.out.symm
    have hpos := List.length_pos_iff.2 hne
    have hmx := hG _ (mxL_mem hne)
    have hmn := hG _ (mnL_mem hne)
    go_wp2_with fail
    go_at_call 60
    (with_reducible refine (l17Gaps_any _ m mode node _ (HM0.out.below B1.out) (mdB_iff.1 (mcB_zero MB.out).1).2.2.2.1).mono ?_)
    rintro ee w2 ⟨As, cs, rfl, o1, b2⟩
    have B2 := hide (below_trans B1.out b2)
    have HO := hide o1.rd
    clear b2 o1 d0 d1 d2 d3
    obtain ⟨G, hGe⟩ : ∃ G, G = gapN m mode node := ⟨_, rfl⟩
    rw [← hGe] at HO hne hG hpos hmx hmn
    rw [← hGe]
    have HGE := hide hGe
    obtain ⟨N, hN⟩ : ∃ N, N = G.length := ⟨_, rfl⟩
    rw [← hN] at HO hpos
    rw [← hN]
    clear hGe hN hne hG
    go_wp2_with fail
    go_at_call 70
    (with_reducible refine (l17Ends_any _ _ _ G _ HO.out hpos).mono ?_)
    rintro ee w3 ⟨rfl, b3⟩
    have B3 := hide (below_trans B2.out b3)
    clear b3
    go_wp2
    go_ret2
    exact ⟨ret_pair (by rw [wstV, ← HCZ.out, ← HGE.out]; rfl) HCZ.out, below_trans BA.out B3.out⟩
  · have t1 : (cz == 0) = false := by simpa using hc0
    have HT1 := hide t1
    clear hcz hc0
    go_wp2
    go_ret2
    exact ⟨ret_pair (by rw [wstV, ← HCZ.out, HT1.out]; rfl) HCZ.out, below_trans BA.out B1.out⟩
set_option maxHeartbeats 3200000 in
theorem sJitterOf_any (v : Value) (m : Mdl) (mode node : Int) (w : World) (h : RdM w v m) (hq : Nms m) (hnode : I64 [node]) :
    Calls Tryz.prog 30 #[v, .int .i64 mode, .int .i64 node] w (TwoOut (jitV m mode node) (scB m mode [node]) w) := by
  have HM := hide h
  obtain ⟨A1, n1, c1, A2, n2, c2, A3, n3, q3, rfl, h1, h2, h3⟩ := h
  have hlen2 := hide h2.len
  have hlen := hide h3.len
  have hcap2 := h2.cap
  have hcap := h3.cap
  obtain ⟨W0, hW0⟩ : ∃ W0, W0 = w.alloc (.cells #[.int .i64 m.id, .slice A1 n1 c1, .slice A2 n2 c2, .slice A3 n3 q3] 28) := ⟨_, rfl⟩
  have F0 : At W0 w.heap.size 28 #[.int .i64 m.id, .slice A1 n1 c1, .slice A2 n2 c2, .slice A3 n3 q3] := by rw [hW0]; exact At.fresh _ _ _
  have BA := hide (show Below w.heap.size w W0 by rw [hW0]; exact (Below.refl _ _).alloc (Nat.le_refl _) _)
  have B0 := hide (Below.refl W0.heap.size W0)
  have H1 := hide (h1.below BA.out)
  have H2 := hide (h2.below BA.out)
  have H3 := hide (h3.below BA.out)
  have HM0 := hide (HM.out.below BA.out)
  have HF := hide F0
  have d0 := F0.cell 0
  have d1 := F0.cell 1
  have d2 := F0.cell 2
  have d3 := F0.cell 3
  simp at d0 d1 d2 d3
  have HW := hide hW0
  clear hW0 F0 h1 h2 h3 HM
  obtain ⟨WL, hWL⟩ : ∃ WL, WL = W0.alloc (.cells #[.int .i64 node] 2) := ⟨_, rfl⟩
  have OL := hide (show Rd WL (some ⟨W0.heap.size, 0, none⟩) 1 1 [node] by rw [hWL]; exact (Own.lit W0 (Nat.le_refl _) #[.int .i64 node] [node] rfl hnode 1 rfl (by omega)).rd)
  have BL := hide (show Below W0.heap.size W0 WL by rw [hWL]; exact (Below.refl _ _).alloc (Nat.le_refl _) _)
  rw [show W0.heap.size = w.heap.size + 1 by rw [HW.out]; simp] at OL
  have HWL := hide hWL
  have HML := hide (HM0.out.below BL.out)
  clear hWL
  go_enter Tryz.func30, Tryz.ntmps30
  go_wp2_with fail
  rw [← HW.out, ← HWL.out]
  go_at_call 53
  (with_reducible refine (l17Code_any _ m mode _ _ _ [node] _ HML.out hq OL.out).mono ?_)
  rintro ee w1 ⟨rfl, b1⟩
  clear d0 d1 d2 d3
  have B1 := hide (below_trans BL.out b1)
  have F := HF.out.keep B1.out
  have d0 := F.cell 0
  have d1 := F.cell 1
  have d2 := F.cell 2
  have d3 := F.cell 3
  simp at d0 d1 d2 d3
  clear F b1
  obtain ⟨cz, hcz⟩ : ∃ cz, cz = scB m mode [node] := ⟨_, rfl⟩
  rw [← hcz]
  have HCZ := hide hcz
  by_cases hc0 : cz = 0
  · subst hc0
    have MB := hide (scB_zero HCZ.out.symm)
    have HLn := hide (len_of (mdB_iff.1 (mcB_zero MB.out).1).2.2.2.1)
    clear hcz
    have hne := gapN_ne HCZ.out.symm
    have hG := gapN_in HCZ.out.symm
    have hpos := List.length_pos_iff.2 hne
    have hmx := hG _ (mxL_mem hne)
    have hmn := hG _ (mnL_mem hne)
    go_wp2_with fail
    go_at_call 60
    (with_reducible refine (l17Gaps_any _ m mode node _ (HM0.out.below B1.out) (mdB_iff.1 (mcB_zero MB.out).1).2.2.2.1).mono ?_)
    rintro ee w2 ⟨As, cs, rfl, o1, b2⟩
    have B2 := hide (below_trans B1.out b2)
    have HO := hide o1.rd
    clear b2 o1 d0 d1 d2 d3
    obtain ⟨G, hGe⟩ : ∃ G, G = gapN m mode node := ⟨_, rfl⟩
    rw [← hGe] at HO hne hG hpos hmx hmn
    rw [← hGe]
    have HGE := hide hGe
    obtain ⟨N, hN⟩ : ∃ N, N = G.length := ⟨_, rfl⟩
    rw [← hN] at HO hpos
    rw [← hN]
    clear hGe hN hne hG
    go_wp2_with fail
    go_at_call 70
    (with_reducible refine (l17Ends_any _ _ _ G _ HO.out hpos).mono ?_)
    rintro ee w3 ⟨rfl, b3⟩
    have B3 := hide (below_trans B2.out b3)
    clear b3
    have tw : IntKind.i64.wrap (mxL G - mnL G) = mxL G - mnL G := IntWalk.i64_in _ ⟨by omega, by omega⟩
    go_wp2
    go_ret2
    exact ⟨ret_pair (by rw [jitV, ← HCZ.out, ← HGE.out]; rfl) HCZ.out, below_trans BA.out B3.out⟩
  · have t1 : (cz == 0) = false := by simpa using hc0
    have HT1 := hide t1
    clear hcz hc0
    go_wp2
    go_ret2
    exact ⟨ret_pair (by rw [jitV, ← HCZ.out, HT1.out]; rfl) HCZ.out, below_trans BA.out B1.out⟩
end Go.Proofs.YtdkhldebnpmiiaaGreatDoor
