/- Contracts: the least slack of a mode, by the program and by the reference. Contracts: the use of a mode, by the program and by the reference. Contracts: the codes for a schedule, a mode and nodes, by the program. Contracts: a node known to a schedule, by the reference. -/
import Derived.Test.YtdkhldebnpmiiaaGreatDoorZBkF
namespace Go.Proofs.YtdkhldebnpmiiaaGreatDoor
open Go.RowKit
set_option linter.unusedVariables false
set_option linter.unusedSimpArgs false
def TwoOut (a b : Int) (w : World) (e : Ending) (w' : World) : Prop := e = .returned (.tuple #[.int .i64 a, .int .i64 b]) ∧ Below w.heap.size w w'
def slackL (l : List Slt) : Int := l.foldl (fun a x => min a (x.du - cellI x.kd x.sz)) 1000
theorem slackL_snoc (l : List Slt) (x : Slt) : slackL (l ++ [x]) = min (slackL l) (x.du - cellI x.kd x.sz) := by rw [slackL, List.foldl_append]; rfl
/-- the frames fit into their slots -/
def Fits (l : List Slt) : Prop := ∀ x ∈ l, (0 ≤ x.sz ∧ x.sz ≤ 32) ∧ 0 ≤ cellI x.kd x.sz ∧ cellI x.kd x.sz ≤ x.du ∧ x.du ≤ 1000
theorem Fits.modeL {l : List Slt} (h : Fits l) (mode : Int) : Fits (modeL mode l) := fun x hx => h x (List.mem_filter.1 hx).1
theorem Fits.take {l : List Slt} (h : Fits l) (k : Nat) : Fits (l.take k) := fun x hx => h x (List.mem_of_mem_take hx)
theorem fits_of {l : List Slt} (h : stB l = true) : Fits l := fun x hx => by
  obtain ⟨k, hk, rfl⟩ := List.getElem_of_mem hx
  have b := slt_bounds (stB_at h (List.getElem?_eq_getElem hk))
  have z := szB_ge b.2.2.2.2.2.1
  have := cellI_le (kd := l[k].kd) z
  exact ⟨z, by omega, by omega, by omega⟩
theorem slackL_bound (l : List Slt) : Fits l → 0 ≤ slackL l ∧ slackL l ≤ 1000 := by
  refine snoc_ind (P := fun l => Fits l → 0 ≤ slackL l ∧ slackL l ≤ 1000) ?_ ?_ l
  · intro _
    show (0 : Int) ≤ 1000 ∧ (1000 : Int) ≤ 1000
    omega
  · intro l x ih h
    have h1 := ih (fun y hy => h y (by simp [hy]))
    have h2 := h x (by simp)
    rw [slackL_snoc]
    omega
set_option maxHeartbeats 6400000 in
theorem iSlackOf_any (v : Value) (m : Mdl) (mode : Int) (w : World) (h : RdM w v m) :
    Calls Tryz.prog 36 #[v, .int .i64 mode] w (TwoOut (bif mcB m mode == 0 then slackL (modeL mode m.ss) else 0) (mcB m mode) w) := by
  have HM := hide h
  obtain ⟨A1, n1, c1, A2, n2, c2, A3, n3, q3, rfl, h1, h2, h3⟩ := h
  have hlen2 := hide h2.len
  have hlen := hide h3.len
  have hcap2 := h2.cap
  have hcap := h3.cap
  obtain ⟨W0, hW0⟩ : ∃ W0, W0 = w.alloc (.cells #[.int .i64 m.id, .slice A1 n1 c1, .slice A2 n2 c2, .slice A3 n3 q3] 28) := ⟨_, rfl⟩
  have F0 : At W0 w.heap.size 28 #[.int .i64 m.id, .slice A1 n1 c1, .slice A2 n2 c2, .slice A3 n3 q3] := by rw [hW0]; exact At.fresh _ _ _
  have BA := hide (show Below w.heap.size w W0 by rw [hW0]; exact (Below.refl _ _).alloc (Nat.le_refl _) _)
  have B0 := hide (Below.refl W0.heap.size W0)
  have H1 := hide (h1.below BA.out)
  have H2 := hide (h2.below BA.out)
  have H3 := hide (h3.below BA.out)
  have HM0 := hide (HM.out.below BA.out)
  have HF := hide F0
  have d0 := F0.cell 0
  have d1 := F0.cell 1
  have d2 := F0.cell 2
  have d3 := F0.cell 3
  simp at d0 d1 d2 d3
  have HW := hide hW0
  clear hW0 F0 h1 h2 h3 HM
  go_enter Tryz.func36, Tryz.ntmps36
  go_wp2_with fail
  rw [← HW.out]
  go_at_call 72
  (with_reducible refine (modeCode_any _ m mode _ HM0.out).mono ?_)
  rintro ee w1 ⟨rfl, b1⟩
  clear d0 d1 d2 d3
  have B1 := hide (below_trans B0.out b1)
  have F := HF.out.keep B1.out
  have d0 := F.cell 0
  have d1 := F.cell 1
  have d2 := F.cell 2
  have d3 := F.cell 3
  simp at d0 d1 d2 d3
  clear F b1
  obtain ⟨cz, hcz⟩ : ∃ cz, cz = mcB m mode := ⟨_, rfl⟩
  rw [← hcz]
  have HCZ := hide hcz
  by_cases hc0 : cz = 0
  · subst hc0
    have MB := hide (mcB_zero hcz.symm)
    have HFt := hide (fits_of (mdB_iff.1 MB.out.1).2.2.2.1)
    have HLn := hide (len_of (mdB_iff.1 MB.out.1).2.2.2.1)
    clear hcz
    go_wp2_with fail
    go_at_call 75
    (with_reducible refine (modeSlots_any _ m mode _ (HM0.out.below B1.out) HLn.out).mono ?_)
    rintro ee w2 ⟨A', c', rfl, own, b1⟩
    have B2 := hide (below_trans B1.out b1)
    have HO := hide own.rd
    have hL := hide own.len
    obtain ⟨L, hLe⟩ : ∃ L, L = modeL mode m.ss := ⟨_, rfl⟩
    have HLe := hide hLe
    have HFL := hide (show Fits L by rw [hLe]; exact HFt.out.modeL mode)
    have hN : L.length ≤ 120 := by rw [hLe]; exact Nat.le_trans (modeL_len _ _) HLn.out
    rw [← hLe] at HO hL
    rw [← hLe]
    obtain ⟨N, hNe⟩ : ∃ N, N = L.length := ⟨_, rfl⟩
    rw [← hNe] at HO hL hN
    rw [← hNe]
    have HNe := hide hNe
    clear b1 own hLe hNe d0 d1 d2 d3
    go_wp2_with fail
    go_loopw [7, 20] (fun q i wr => ∃ (k : Nat) (u : Int), k ≤ N ∧ i = .int .i64 k ∧ q = .int .i64 u ∧ Hid (u = slackL (L.take k)) ∧ Hid (Below w2.heap.size w2 wr)) (fun _ i _ => N - (intOf i).toNat)
    case atStart => exact ⟨0, 1000, by omega, rfl, rfl, hide (by simp [slackL]), hide (Below.refl _ _)⟩
    case round =>
      obtain ⟨k, u, hk, rfl, rfl, hu, hb2⟩ := hrel
      by_cases hlt : k < N
      · obtain ⟨b, off, x, rfl, hb, hx, c0, c1, c2, c3, c4, c5, c6, c7⟩ := slt_at (HO.out.below hb2.out) hlt
        have NN := hide (show min u (x.du - cellI x.kd x.sz) = slackL (L.take (k + 1)) by rw [takeR hx, slackL_snoc, hu.out])
        have fx := HFL.out x (List.mem_of_getElem? hx)
        have fsz := hide fx.1
        have fb := slackL_bound (L.take k) (HFL.out.take k)
        rw [← hu.out] at fb
        obtain ⟨z, hz⟩ : ∃ z, z = cellI x.kd x.sz := ⟨_, rfl⟩
        rw [← hz] at NN fx
        have HZ := hide hz
        have HX := hide hx
        obtain ⟨fx1, fx2, fx3, fx4⟩ := fx
        obtain ⟨fb1, fb2⟩ := fb
        obtain ⟨W1, hW1⟩ : ∃ W1, W1 = wr.alloc (.cells #[.int .i64 x.md, .int .i64 x.rd, .int .i64 x.sl, .int .i64 x.nd, .int .i64 x.kd, .int .i64 x.sz, .int .i64 x.du, .bool x.ch] 61) := ⟨_, rfl⟩
        obtain ⟨G, hG⟩ : ∃ G, G = wr.heap.size := ⟨_, rfl⟩
        have F1 : At W1 G 61 #[.int .i64 x.md, .int .i64 x.rd, .int .i64 x.sl, .int .i64 x.nd, .int .i64 x.kd, .int .i64 x.sz, .int .i64 x.du, .bool x.ch] := by rw [hW1, hG]; exact At.fresh _ _ _
        have BW := hide (show Below w2.heap.size w2 W1 from below_trans hb2.out (by rw [hW1]; exact (Below.refl _ _).alloc (Nat.le_refl _) _))
        have g4 := F1.cell 4
        have g5 := F1.cell 5
        have g6 := F1.cell 6
        simp at g4 g5 g6
        have HW1 := hide hW1
        have HG := hide hG
        clear hx hz F1 hW1 hG
        go_wp2_with fail
        rw [← HW1.out, ← HG.out]
        refine wp_region_held_drew (S := (fun w' => w'.cell? ⟨G, 4, none⟩ = some (.int .i64 x.kd) ∧ w'.cell? ⟨G, 5, none⟩ = some (.int .i64 x.sz) ∧ w'.cell? ⟨G, 6, none⟩ = some (.int .i64 x.du))) (by kernel_rfl) ?_ (fun hHeld => ?_)
        · (try dsimp only)
          go_keep
        refine wpAnyH_take (i := 0) (v := ?va10) rfl (by kernel_rfl) (by kernel_rfl) (by kernel_rfl) (fun _ _ _ h => h) (Or.inl ⟨by rfl, ?hya10⟩) (by assumption) ?rest10
        case hya10 => (intro wz hSw; (try dsimp only at hSw); go_simp; all_goals with_reducible rfl)
        try simp only [List.getElem_toArray, List.getElem_cons_succ, List.getElem_cons_zero, Act.put, List.setIfInBounds_toArray, List.set_cons_zero, List.set_cons_succ]
        refine wpAnyH_take (i := 1) (v := ?va11) rfl (by kernel_rfl) (by kernel_rfl) (by kernel_rfl) (fun _ _ _ h => h) (Or.inl ⟨by rfl, ?hya11⟩) (by assumption) ?rest11
        case hya11 => (intro wz hSw; (try dsimp only at hSw); go_simp; all_goals with_reducible rfl)
        try simp only [List.getElem_toArray, List.getElem_cons_succ, List.getElem_cons_zero, Act.put, List.setIfInBounds_toArray, List.set_cons_zero, List.set_cons_succ]
        refine wpAnyH_take (i := 2) (v := ?va12) rfl (by kernel_rfl) (by kernel_rfl) (by kernel_rfl) (fun _ _ _ h => h) (Or.inl ⟨by rfl, ?hya12⟩) (by assumption) ?rest12
        case hya12 => (intro wz hSw; (try dsimp only at hSw); go_simp; all_goals with_reducible rfl)
        try simp only [List.getElem_toArray, List.getElem_cons_succ, List.getElem_cons_zero, Act.put, List.setIfInBounds_toArray, List.set_cons_zero, List.set_cons_succ]
        refine wpAnyH_take (i := 3) (v := ?va13) rfl (by kernel_rfl) (by kernel_rfl) (by kernel_rfl) (fun _ _ _ h => h) (Or.inl ⟨by rfl, ?hya13⟩) (by assumption) ?rest13
        case hya13 => (intro wz hSw; (try dsimp only at hSw); go_simp; all_goals with_reducible rfl)
        try simp only [List.getElem_toArray, List.getElem_cons_succ, List.getElem_cons_zero, Act.put, List.setIfInBounds_toArray, List.set_cons_zero, List.set_cons_succ]
        refine wpAnyH_take (i := 4) (v := ?va14) rfl (by kernel_rfl) (by kernel_rfl) (by kernel_rfl) (fun _ _ _ h => h) (Or.inl ⟨by rfl, ?hya14⟩) (by assumption) ?rest14
        case hya14 => (intro wz hSw; (try dsimp only at hSw); go_simp; all_goals with_reducible rfl)
        try simp only [List.getElem_toArray, List.getElem_cons_succ, List.getElem_cons_zero, Act.put, List.setIfInBounds_toArray, List.set_cons_zero, List.set_cons_succ]
        refine wpAnyH_take (i := 5) (v := ?va15) rfl (by kernel_rfl) (by kernel_rfl) (by kernel_rfl) (fun _ _ _ h => h) (Or.inl ⟨by rfl, ?hya15⟩) (by assumption) ?rest15
        case hya15 => (intro wz hSw; (try dsimp only at hSw); go_simp; all_goals with_reducible rfl)
        try simp only [List.getElem_toArray, List.getElem_cons_succ, List.getElem_cons_zero, Act.put, List.setIfInBounds_toArray, List.set_cons_zero, List.set_cons_succ]
        refine wpAnyH_take (i := 6) (v := ?va16) rfl (by kernel_rfl) (by kernel_rfl) (by kernel_rfl) (fun _ _ _ h => h) (Or.inl ⟨by rfl, ?hya16⟩) (by assumption) ?rest16
        case hya16 => (intro wz hSw; (try dsimp only at hSw); go_simp; all_goals with_reducible rfl)
        try simp only [List.getElem_toArray, List.getElem_cons_succ, List.getElem_cons_zero, Act.put, List.setIfInBounds_toArray, List.set_cons_zero, List.set_cons_succ]
        refine wpAnyH_take (i := 7) (v := ?va17) rfl (by kernel_rfl) (by kernel_rfl) (by kernel_rfl) (fun _ _ _ h => h) (Or.inl ⟨by rfl, ?hya17⟩) (by assumption) ?rest17
        case hya17 => (intro wz hSw; (try dsimp only at hSw); go_simp; all_goals with_reducible rfl)
        try simp only [List.getElem_toArray, List.getElem_cons_succ, List.getElem_cons_zero, Act.put, List.setIfInBounds_toArray, List.set_cons_zero, List.set_cons_succ]
        refine wpAnyH_take (i := 8) (v := ?va18) rfl (by kernel_rfl) (by kernel_rfl) (by kernel_rfl) (fun _ _ _ h => h) (Or.inl ⟨by rfl, ?hya18⟩) (by assumption) ?rest18
        case hya18 => (intro wz hSw; (try dsimp only at hSw); go_simp; all_goals with_reducible rfl)
        try simp only [List.getElem_toArray, List.getElem_cons_succ, List.getElem_cons_zero, Act.put, List.setIfInBounds_toArray, List.set_cons_zero, List.set_cons_succ]
        refine wpAnyH_take (i := 9) (v := ?va19) rfl (by kernel_rfl) (by kernel_rfl) (by kernel_rfl) (fun _ _ _ h => h) (Or.inl ⟨by rfl, ?hya19⟩) (by assumption) ?rest19
        case hya19 => (intro wz hSw; (try dsimp only at hSw); go_simp; all_goals with_reducible rfl)
        try simp only [List.getElem_toArray, List.getElem_cons_succ, List.getElem_cons_zero, Act.put, List.setIfInBounds_toArray, List.set_cons_zero, List.set_cons_succ]
        refine wpAnyH_ready (rs := [10]) (by kernel_rfl) (by simp) ?_
        refine AllReadyH.cons rfl (fun K hK => ?_) AllReadyH.nil
        go_simp
        (go_at_call 76; (with_reducible refine (icells_any _ _ _ fsz.out).mono ?_); rintro ee w3 ⟨rfl, rfl⟩; rw [← HZ.out])
        go_wp2_with fail
        refine hK.out _ _ ?_ (fun hHeld10 => ?_)
        · (try dsimp only)
          go_keep
        clear hK K
        try simp only [List.getElem_toArray, List.getElem_cons_succ, List.getElem_cons_zero, Act.put, List.setIfInBounds_toArray, List.set_cons_zero, List.set_cons_succ]
        refine wpAnyH_take (i := 11) (v := ?va20) rfl (by kernel_rfl) (by kernel_rfl) (by kernel_rfl) (fun _ _ _ h => h) (Or.inl ⟨by rfl, ?hya20⟩) (by assumption) ?rest20
        case hya20 => (intro wz hSw; (try dsimp only at hSw); go_simp; all_goals with_reducible rfl)
        try simp only [List.getElem_toArray, List.getElem_cons_succ, List.getElem_cons_zero, Act.put, List.setIfInBounds_toArray, List.set_cons_zero, List.set_cons_succ]
        refine wpAnyH_ready (rs := [12]) (by kernel_rfl) (by simp) ?_
        refine AllReadyH.cons rfl (fun K hK => ?_) AllReadyH.nil
        go_simp
        refine hK.out _ _ ?_ (fun hHeld12 => ?_)
        · (try dsimp only)
          go_keep
        clear hK K
        try simp only [List.getElem_toArray, List.getElem_cons_succ, List.getElem_cons_zero, Act.put, List.setIfInBounds_toArray, List.set_cons_zero, List.set_cons_succ]
        refine wpAnyH_take (i := 13) (v := ?va21) rfl (by kernel_rfl) (by kernel_rfl) (by kernel_rfl) (fun _ _ _ h => h) (Or.inl ⟨by rfl, ?hya21⟩) (by assumption) ?rest21
        case hya21 => (intro wz hSw; (try dsimp only at hSw); go_simp; all_goals with_reducible rfl)
        try simp only [List.getElem_toArray, List.getElem_cons_succ, List.getElem_cons_zero, Act.put, List.setIfInBounds_toArray, List.set_cons_zero, List.set_cons_succ]
        refine wpAnyH_done (by kernel_rfl) ?_ _
        have BX := hide (below_drewT BW.out)
        have tw : IntKind.i64.wrap (x.du - z) = x.du - z := IntWalk.i64_in _ ⟨by omega, by omega⟩
        go_wp2
        go_roundw
        case rel => exact ⟨k + 1, min u (x.du - z), by omega, by go_num, by rw [tw], NN, BX⟩
        case measure => simp [intOf]; omega
      · obtain rfl : k = N := by omega
        have E := hide (show u = slackL L by rw [hu.out, HNe.out, List.take_length])
        go_wp2
        go_ret2
        exact ⟨ret_pair (by rw [← HCZ.out, ← HLe.out]; exact E.out) HCZ.out, below_trans BA.out (below_trans B2.out hb2.out)⟩
  · have t1 : (cz == 0) = false := by simpa using hc0
    have HT1 := hide t1
    have E := hide (show (bif cz == 0 then slackL (modeL mode m.ss) else 0) = 0 by rw [t1]; rfl)
    clear hcz hc0
    go_wp2
    go_ret2
    exact ⟨ret_pair (by rw [← HCZ.out, HT1.out]; rfl) HCZ.out, below_trans BA.out B1.out⟩
set_option maxHeartbeats 6400000 in
theorem sSlackOf_any (v : Value) (m : Mdl) (mode : Int) (w : World) (h : RdM w v m) (hq : Nms m) :
    Calls Tryz.prog 35 #[v, .int .i64 mode] w (TwoOut (bif mcB m mode == 0 then slackL (modeL mode m.ss) else 0) (mcB m mode) w) := by
  have HM := hide h
  obtain ⟨A1, n1, c1, A2, n2, c2, A3, n3, q3, rfl, h1, h2, h3⟩ := h
  have hlen2 := hide h2.len
  have hlen := hide h3.len
  have hcap2 := h2.cap
  have hcap := h3.cap
  obtain ⟨W0, hW0⟩ : ∃ W0, W0 = w.alloc (.cells #[.int .i64 m.id, .slice A1 n1 c1, .slice A2 n2 c2, .slice A3 n3 q3] 28) := ⟨_, rfl⟩
  have F0 : At W0 w.heap.size 28 #[.int .i64 m.id, .slice A1 n1 c1, .slice A2 n2 c2, .slice A3 n3 q3] := by rw [hW0]; exact At.fresh _ _ _
  have BA := hide (show Below w.heap.size w W0 by rw [hW0]; exact (Below.refl _ _).alloc (Nat.le_refl _) _)
  have B0 := hide (Below.refl W0.heap.size W0)
  have H1 := hide (h1.below BA.out)
  have H2 := hide (h2.below BA.out)
  have H3 := hide (h3.below BA.out)
  have HM0 := hide (HM.out.below BA.out)
  have HF := hide F0
  have d0 := F0.cell 0
  have d1 := F0.cell 1
  have d2 := F0.cell 2
  have d3 := F0.cell 3
  simp at d0 d1 d2 d3
  have HW := hide hW0
  clear hW0 F0 h1 h2 h3 HM
  go_enter Tryz.func35, Tryz.ntmps35
  go_wp2_with fail
  rw [← HW.out]
  go_at_call 73
  (with_reducible refine (l13Mode_any _ m mode _ HM0.out hq).mono ?_)
  rintro ee w1 ⟨rfl, b1⟩
  clear d0 d1 d2 d3
  have B1 := hide (below_trans B0.out b1)
  clear b1
  obtain ⟨cz, hcz⟩ : ∃ cz, cz = mcB m mode := ⟨_, rfl⟩
  rw [← hcz]
  have HCZ := hide hcz
  by_cases hc0 : cz = 0
  · subst hc0
    have MB := hide (mcB_zero hcz.symm)
    have HFt := hide (fits_of (mdB_iff.1 MB.out.1).2.2.2.1)
    clear hcz
    go_wp2_with fail
    go_loopw [7, 8] (fun q i wr => ∃ (k : Nat) (u : Int), k ≤ n3 ∧ i = .int .i64 k ∧ q = .int .i64 u ∧ Hid (u = slackL (modeL mode (m.ss.take k))) ∧ Hid (Below W0.heap.size W0 wr)) (fun _ i _ => n3 - (intOf i).toNat)
    case atStart => exact ⟨0, 1000, by omega, rfl, rfl, hide (by simp [slackL, modeL]), B1⟩
    case round =>
      obtain ⟨k, u, hk, rfl, rfl, hu, hb2⟩ := hrel
      have F := HF.out.keep hb2.out
      have d3 := F.cell 3
      simp at d3
      clear F
      by_cases hlt : k < n3
      · obtain ⟨b, off, x, rfl, hb, hx, c0, c1, c2, c3, c4, c5, c6, c7⟩ := slt_at (H3.out.below hb2.out) hlt
        have HN := hide (show slackL (modeL mode (m.ss.take (k + 1))) = _ by rw [takeR hx, modeL_snoc])
        have fx := HFt.out x (List.mem_of_getElem? hx)
        have fsz := hide fx.1
        have fb := slackL_bound (modeL mode (m.ss.take k)) ((HFt.out.take k).modeL mode)
        rw [← hu.out] at fb
        obtain ⟨z, hz⟩ : ∃ z, z = cellI x.kd x.sz := ⟨_, rfl⟩
        rw [← hz] at fx
        have HZ := hide hz
        have HX := hide hx
        obtain ⟨fx1, fx2, fx3, fx4⟩ := fx
        obtain ⟨fb1, fb2⟩ := fb
        cases e : (x.md == mode)
        · have NN := hide (show u = slackL (modeL mode (m.ss.take (k + 1))) by rw [HN.out, e, if_neg (by simp), List.append_nil, hu.out])
          clear hx hz HN
          go_wp2
          go_roundw
          case rel => exact ⟨k + 1, u, by omega, by go_num, rfl, NN, hb2⟩
          case measure => simp [intOf]; omega
        · have NN := hide (show min u (x.du - z) = slackL (modeL mode (m.ss.take (k + 1))) by rw [HN.out, e, if_pos rfl, slackL_snoc, hu.out, HZ.out])
          obtain ⟨W1, hW1⟩ : ∃ W1, W1 = wr.alloc (.cells #[.int .i64 x.nd, .int .i64 x.kd, .int .i64 x.sz, .int .i64 x.du, .bool x.ch] 59) := ⟨_, rfl⟩
          obtain ⟨G, hG⟩ : ∃ G, G = wr.heap.size := ⟨_, rfl⟩
          have F1 : At W1 G 59 #[.int .i64 x.nd, .int .i64 x.kd, .int .i64 x.sz, .int .i64 x.du, .bool x.ch] := by rw [hW1, hG]; exact At.fresh _ _ _
          have BW := hide (show Below W0.heap.size W0 W1 from below_trans hb2.out (by rw [hW1]; exact (Below.refl _ _).alloc (Nat.le_refl _) _))
          have g1 := F1.cell 1
          have g2 := F1.cell 2
          have g3 := F1.cell 3
          simp at g1 g2 g3
          have HW1 := hide hW1
          have HG := hide hG
          clear hx hz HN F1 hW1 hG
          go_wp2_with fail
          rw [← HW1.out, ← HG.out]
          refine wp_region_held_drew (S := (fun w' => w'.cell? ⟨G, 1, none⟩ = some (.int .i64 x.kd) ∧ w'.cell? ⟨G, 2, none⟩ = some (.int .i64 x.sz) ∧ w'.cell? ⟨G, 3, none⟩ = some (.int .i64 x.du))) (by kernel_rfl) ?_ (fun hHeld => ?_)
          · (try dsimp only)
            go_keep
          refine wpAnyH_take (i := 0) (v := ?va1) rfl (by kernel_rfl) (by kernel_rfl) (by kernel_rfl) (fun _ _ _ h => h) (Or.inl ⟨by rfl, ?hya1⟩) (by assumption) ?rest1
          case hya1 => (intro wz hSw; (try dsimp only at hSw); go_simp; all_goals with_reducible rfl)
          try simp only [List.getElem_toArray, List.getElem_cons_succ, List.getElem_cons_zero, Act.put, List.setIfInBounds_toArray, List.set_cons_zero, List.set_cons_succ]
          refine wpAnyH_take (i := 1) (v := ?va2) rfl (by kernel_rfl) (by kernel_rfl) (by kernel_rfl) (fun _ _ _ h => h) (Or.inl ⟨by rfl, ?hya2⟩) (by assumption) ?rest2
          case hya2 => (intro wz hSw; (try dsimp only at hSw); go_simp; all_goals with_reducible rfl)
          try simp only [List.getElem_toArray, List.getElem_cons_succ, List.getElem_cons_zero, Act.put, List.setIfInBounds_toArray, List.set_cons_zero, List.set_cons_succ]
          refine wpAnyH_take (i := 2) (v := ?va3) rfl (by kernel_rfl) (by kernel_rfl) (by kernel_rfl) (fun _ _ _ h => h) (Or.inl ⟨by rfl, ?hya3⟩) (by assumption) ?rest3
          case hya3 => (intro wz hSw; (try dsimp only at hSw); go_simp; all_goals with_reducible rfl)
          try simp only [List.getElem_toArray, List.getElem_cons_succ, List.getElem_cons_zero, Act.put, List.setIfInBounds_toArray, List.set_cons_zero, List.set_cons_succ]
          refine wpAnyH_take (i := 3) (v := ?va4) rfl (by kernel_rfl) (by kernel_rfl) (by kernel_rfl) (fun _ _ _ h => h) (Or.inl ⟨by rfl, ?hya4⟩) (by assumption) ?rest4
          case hya4 => (intro wz hSw; (try dsimp only at hSw); go_simp; all_goals with_reducible rfl)
          try simp only [List.getElem_toArray, List.getElem_cons_succ, List.getElem_cons_zero, Act.put, List.setIfInBounds_toArray, List.set_cons_zero, List.set_cons_succ]
          refine wpAnyH_take (i := 4) (v := ?va5) rfl (by kernel_rfl) (by kernel_rfl) (by kernel_rfl) (fun _ _ _ h => h) (Or.inl ⟨by rfl, ?hya5⟩) (by assumption) ?rest5
          case hya5 => (intro wz hSw; (try dsimp only at hSw); go_simp; all_goals with_reducible rfl)
          try simp only [List.getElem_toArray, List.getElem_cons_succ, List.getElem_cons_zero, Act.put, List.setIfInBounds_toArray, List.set_cons_zero, List.set_cons_succ]
          refine wpAnyH_take (i := 5) (v := ?va6) rfl (by kernel_rfl) (by kernel_rfl) (by kernel_rfl) (fun _ _ _ h => h) (Or.inl ⟨by rfl, ?hya6⟩) (by assumption) ?rest6
          case hya6 => (intro wz hSw; (try dsimp only at hSw); go_simp; all_goals with_reducible rfl)
          try simp only [List.getElem_toArray, List.getElem_cons_succ, List.getElem_cons_zero, Act.put, List.setIfInBounds_toArray, List.set_cons_zero, List.set_cons_succ]
          refine wpAnyH_take (i := 6) (v := ?va7) rfl (by kernel_rfl) (by kernel_rfl) (by kernel_rfl) (fun _ _ _ h => h) (Or.inl ⟨by rfl, ?hya7⟩) (by assumption) ?rest7
          case hya7 => (intro wz hSw; (try dsimp only at hSw); go_simp; all_goals with_reducible rfl)
          try simp only [List.getElem_toArray, List.getElem_cons_succ, List.getElem_cons_zero, Act.put, List.setIfInBounds_toArray, List.set_cons_zero, List.set_cons_succ]
          refine wpAnyH_ready (rs := [7]) (by kernel_rfl) (by simp) ?_
          refine AllReadyH.cons rfl (fun K hK => ?_) AllReadyH.nil
          go_simp
          (go_at_call 74; (with_reducible refine (scells_any _ _ _ fsz.out).mono ?_); rintro ee w3 ⟨rfl, rfl⟩; rw [← HZ.out])
          go_wp2_with fail
          refine hK.out _ _ ?_ (fun hHeld7 => ?_)
          · (try dsimp only)
            go_keep
          clear hK K
          try simp only [List.getElem_toArray, List.getElem_cons_succ, List.getElem_cons_zero, Act.put, List.setIfInBounds_toArray, List.set_cons_zero, List.set_cons_succ]
          refine wpAnyH_take (i := 8) (v := ?va8) rfl (by kernel_rfl) (by kernel_rfl) (by kernel_rfl) (fun _ _ _ h => h) (Or.inl ⟨by rfl, ?hya8⟩) (by assumption) ?rest8
          case hya8 => (intro wz hSw; (try dsimp only at hSw); go_simp; all_goals with_reducible rfl)
          try simp only [List.getElem_toArray, List.getElem_cons_succ, List.getElem_cons_zero, Act.put, List.setIfInBounds_toArray, List.set_cons_zero, List.set_cons_succ]
          refine wpAnyH_ready (rs := [9]) (by kernel_rfl) (by simp) ?_
          refine AllReadyH.cons rfl (fun K hK => ?_) AllReadyH.nil
          go_simp
          refine hK.out _ _ ?_ (fun hHeld9 => ?_)
          · (try dsimp only)
            go_keep
          clear hK K
          try simp only [List.getElem_toArray, List.getElem_cons_succ, List.getElem_cons_zero, Act.put, List.setIfInBounds_toArray, List.set_cons_zero, List.set_cons_succ]
          refine wpAnyH_take (i := 10) (v := ?va9) rfl (by kernel_rfl) (by kernel_rfl) (by kernel_rfl) (fun _ _ _ h => h) (Or.inl ⟨by rfl, ?hya9⟩) (by assumption) ?rest9
          case hya9 => (intro wz hSw; (try dsimp only at hSw); go_simp; all_goals with_reducible rfl)
          try simp only [List.getElem_toArray, List.getElem_cons_succ, List.getElem_cons_zero, Act.put, List.setIfInBounds_toArray, List.set_cons_zero, List.set_cons_succ]
          refine wpAnyH_done (by kernel_rfl) ?_ _
          have BX := hide (below_drewT BW.out)
          have tw : IntKind.i64.wrap (x.du - z) = x.du - z := IntWalk.i64_in _ ⟨by omega, by omega⟩
          go_wp2
          go_roundw
          case rel => exact ⟨k + 1, min u (x.du - z), by omega, by go_num, by rw [tw], NN, BX⟩
          case measure => simp [intOf]; omega
      · obtain rfl : k = n3 := by omega
        have E := hide (show u = slackL (modeL mode m.ss) by rw [hu.out, ← hlen.out, List.take_length])
        go_wp2
        go_ret2
        exact ⟨ret_pair (by rw [← HCZ.out]; exact E.out) HCZ.out, below_trans BA.out hb2.out⟩
  · have t1 : (cz == 0) = false := by simpa using hc0
    have HT1 := hide t1
    have E := hide (show (bif cz == 0 then slackL (modeL mode m.ss) else 0) = 0 by rw [t1]; rfl)
    clear hcz hc0
    go_wp2
    go_ret2
    exact ⟨ret_pair (by rw [← HCZ.out, HT1.out]; rfl) HCZ.out, below_trans BA.out B1.out⟩
end Go.Proofs.YtdkhldebnpmiiaaGreatDoor
namespace Go.Proofs.YtdkhldebnpmiiaaGreatDoor
open Go.RowKit
set_option linter.unusedVariables false
set_option linter.unusedSimpArgs false
/-- the cells that a mode's frames need -/
def useL (l : List Slt) : Int := (l.map (fun x => cellI x.kd x.sz)).sum
theorem useL_snoc (l : List Slt) (x : Slt) : useL (l ++ [x]) = useL l + cellI x.kd x.sz := by simp [useL]
theorem useL_bound (l : List Slt) : Fits l → 0 ≤ useL l ∧ useL l ≤ 1000 * l.length := by
  refine snoc_ind (P := fun l => Fits l → 0 ≤ useL l ∧ useL l ≤ 1000 * l.length) ?_ ?_ l
  · intro _
    show (0 : Int) ≤ 0 ∧ (0 : Int) ≤ 1000 * ((0 : Nat) : Int)
    omega
  · intro l x ih h
    have h1 := ih (fun y hy => h y (by simp [hy]))
    have h2 := h x (by simp)
    rw [useL_snoc, List.length_append]
    show 0 ≤ useL l + cellI x.kd x.sz ∧ useL l + cellI x.kd x.sz ≤ 1000 * ((l.length + 1 : Nat) : Int)
    omega
/-- a mode's cycle takes time -/
theorem durs_pos {m : Mdl} {mode : Int} (h : mcB m mode = 0) : 0 < durs (modeL mode m.ss) := by
  obtain ⟨h1, h2, h3⟩ := mcB_zero h
  have hm := mdB_iff.1 h1
  have hr := (rds_of hm.2.2.1).1
  obtain ⟨k, rfl⟩ : ∃ k : Nat, mode = k := ⟨mode.toNat, by omega⟩
  have hk : k < m.ms.length := by omega
  have hx := hr _ (List.getElem_mem hk)
  have e1 : rdA m.ms k = m.ms[k].rd.toNat := by rw [rdA, List.getElem?_eq_getElem hk]
  have e2 : slA m.ms k = m.ms[k].sl.toNat := by rw [slA, List.getElem?_eq_getElem hk]
  have hp : 0 < rdA m.ms k * slA m.ms k := Nat.mul_pos (by omega) (by omega)
  have he := pre_mem (ms := m.ms) hp hk
  rw [← of_decide_eq_true hm.2.2.2.2.1, List.mem_map] at he
  obtain ⟨y, hy, hyk⟩ := he
  have hmd : y.md = k := congrArg Prod.fst hyk
  have hyl : y ∈ modeL (k : Int) m.ss := List.mem_filter.2 ⟨hy, by simpa using hmd⟩
  have hdu := (durs_of hm.2.2.2.1).modeL (k : Int)
  have hyd : 1 ≤ y.du := by
    obtain ⟨i, hi, rfl⟩ := List.getElem_of_mem hy
    have b := slt_bounds (stB_at hm.2.2.2.1 (List.getElem?_eq_getElem hi))
    have := cellI_le (kd := m.ss[i].kd) (szB_ge b.2.2.2.2.2.1)
    omega
  have H : ∀ l : List Slt, Durs l → y ∈ l → y.du ≤ durs l := by
    intro l
    induction l with
    | nil => intro _ h; cases h
    | cons x l ih =>
      intro hd hm
      have hb := durs_bound (l := l) (fun z hz => hd z (by simp [hz]))
      have hx := hd x (by simp)
      have e : durs (x :: l) = x.du + durs l := by simp [durs]
      rw [e]
      rcases List.mem_cons.1 hm with q | q
      · subst q; omega
      · have := ih (fun z hz => hd z (by simp [hz])) q
        omega
  have := H _ hdu hyl
  omega
set_option maxHeartbeats 1600000 in
theorem cycleTime_any (v : Value) (m : Mdl) (mode : Int) (w : World) (h : RdM w v m) (hn : m.ss.length ≤ 120) (hd : Durs m.ss) :
    Calls Tryz.prog 50 #[v, .int .i64 mode] w (IntOut (durs (modeL mode m.ss)) w) := by
  have HM := hide h
  obtain ⟨A1, n1, c1, A2, n2, c2, A3, n3, q3, rfl, h1, h2, h3⟩ := h
  clear h1 h2 h3
  have H0 := hide (show RdM (w.alloc (.cells #[.int .i64 m.id, .slice A1 n1 c1, .slice A2 n2 c2, .slice A3 n3 q3] 28)) _ m from HM.out.below ((Below.refl _ _).alloc (Nat.le_refl _) _))
  have BA := hide (show Below w.heap.size w (w.alloc (.cells #[.int .i64 m.id, .slice A1 n1 c1, .slice A2 n2 c2, .slice A3 n3 q3] 28)) from (Below.refl _ _).alloc (Nat.le_refl _) _)
  go_enter Tryz.func50, Tryz.ntmps50
  go_wp2_with fail
  go_at_call 75
  (with_reducible refine (modeSlots_any _ m mode _ H0.out hn).mono ?_)
  rintro ee w1 ⟨A', c', rfl, own, b1⟩
  have B := hide (below_trans BA.out b1)
  clear b1
  go_wp2_with fail
  go_at_call 86
  (with_reducible refine (sumDurations_any _ _ _ _ _ own.rd (Nat.le_trans (modeL_len _ _) hn) (hd.modeL _)).mono ?_)
  rintro ee w2 ⟨rfl, b2⟩
  have B2 := hide (below_trans B.out b2)
  clear b2
  go_wp2
  go_ret
  exact ⟨rfl, B2.out⟩
def useV (l : List Slt) : Int := (1000 * useL l) / durs l
set_option maxHeartbeats 6400000 in
theorem iUseOf_any (v : Value) (m : Mdl) (mode : Int) (w : World) (h : RdM w v m) :
    Calls Tryz.prog 38 #[v, .int .i64 mode] w (TwoOut (bif mcB m mode == 0 then useV (modeL mode m.ss) else 0) (mcB m mode) w) := by
  have HM := hide h
  obtain ⟨A1, n1, c1, A2, n2, c2, A3, n3, q3, rfl, h1, h2, h3⟩ := h
  have hlen2 := hide h2.len
  have hlen := hide h3.len
  have hcap2 := h2.cap
  have hcap := h3.cap
  obtain ⟨W0, hW0⟩ : ∃ W0, W0 = w.alloc (.cells #[.int .i64 m.id, .slice A1 n1 c1, .slice A2 n2 c2, .slice A3 n3 q3] 28) := ⟨_, rfl⟩
  have F0 : At W0 w.heap.size 28 #[.int .i64 m.id, .slice A1 n1 c1, .slice A2 n2 c2, .slice A3 n3 q3] := by rw [hW0]; exact At.fresh _ _ _
  have BA := hide (show Below w.heap.size w W0 by rw [hW0]; exact (Below.refl _ _).alloc (Nat.le_refl _) _)
  have B0 := hide (Below.refl W0.heap.size W0)
  have H1 := hide (h1.below BA.out)
  have H2 := hide (h2.below BA.out)
  have H3 := hide (h3.below BA.out)
  have HM0 := hide (HM.out.below BA.out)
  have HF := hide F0
  have d0 := F0.cell 0
  have d1 := F0.cell 1
  have d2 := F0.cell 2
  have d3 := F0.cell 3
  simp at d0 d1 d2 d3
  have HW := hide hW0
  clear hW0 F0 h1 h2 h3 HM
  go_enter Tryz.func38, Tryz.ntmps38
  go_wp2_with fail
  rw [← HW.out]
  go_at_call 72
  (with_reducible refine (modeCode_any _ m mode _ HM0.out).mono ?_)
  rintro ee w1 ⟨rfl, b1⟩
  clear d0 d1 d2 d3
  have B1 := hide (below_trans B0.out b1)
  have F := HF.out.keep B1.out
  have d0 := F.cell 0
  have d1 := F.cell 1
  have d2 := F.cell 2
  have d3 := F.cell 3
  simp at d0 d1 d2 d3
  clear F b1
  obtain ⟨cz, hcz⟩ : ∃ cz, cz = mcB m mode := ⟨_, rfl⟩
  rw [← hcz]
  have HCZ := hide hcz
  by_cases hc0 : cz = 0
  · subst hc0
    have MB := hide (mcB_zero hcz.symm)
    have HFt := hide (fits_of (mdB_iff.1 MB.out.1).2.2.2.1)
    have hDu := hide (durs_of (mdB_iff.1 MB.out.1).2.2.2.1)
    have HLn := hide (len_of (mdB_iff.1 MB.out.1).2.2.2.1)
    clear hcz
    go_wp2_with fail
    go_at_call 75
    (with_reducible refine (modeSlots_any _ m mode _ (HM0.out.below B1.out) HLn.out).mono ?_)
    rintro ee w2 ⟨A', c', rfl, own, b1⟩
    have B2 := hide (below_trans B1.out b1)
    have HO := hide own.rd
    have hL := hide own.len
    obtain ⟨L, hLe⟩ : ∃ L, L = modeL mode m.ss := ⟨_, rfl⟩
    have HLe := hide hLe
    have HFL := hide (show Fits L by rw [hLe]; exact HFt.out.modeL mode)
    have hN : L.length ≤ 120 := by rw [hLe]; exact Nat.le_trans (modeL_len _ _) HLn.out
    rw [← hLe] at HO hL
    rw [← hLe]
    obtain ⟨N, hNe⟩ : ∃ N, N = L.length := ⟨_, rfl⟩
    rw [← hNe] at HO hL hN
    rw [← hNe]
    have HNe := hide hNe
    clear b1 own hLe hNe d0 d1 d2 d3
    go_wp2_with fail
    go_loopw [7, 20] (fun q i wr => ∃ (k : Nat) (u : Int), k ≤ N ∧ i = .int .i64 k ∧ q = .int .i64 u ∧ Hid (u = useL (L.take k)) ∧ Hid (Below w2.heap.size w2 wr)) (fun _ i _ => N - (intOf i).toNat)
    case atStart => exact ⟨0, 0, by omega, rfl, rfl, hide (by simp [useL]), hide (Below.refl _ _)⟩
    case round =>
      obtain ⟨k, u, hk, rfl, rfl, hu, hb2⟩ := hrel
      by_cases hlt : k < N
      · obtain ⟨b, off, x, rfl, hb, hx, c0, c1, c2, c3, c4, c5, c6, c7⟩ := slt_at (HO.out.below hb2.out) hlt
        have NN := hide (show u + cellI x.kd x.sz = useL (L.take (k + 1)) by rw [takeR hx, useL_snoc, hu.out])
        have fx := HFL.out x (List.mem_of_getElem? hx)
        have fsz := hide fx.1
        have fbl : (L.take k).length ≤ 120 := by rw [List.length_take]; omega
        have fb := useL_bound (L.take k) (HFL.out.take k)
        rw [← hu.out] at fb
        obtain ⟨z, hz⟩ : ∃ z, z = cellI x.kd x.sz := ⟨_, rfl⟩
        rw [← hz] at NN fx
        have HZ := hide hz
        have HX := hide hx
        obtain ⟨fx1, fx2, fx3, fx4⟩ := fx
        obtain ⟨fb1, fb2⟩ := fb
        obtain ⟨W1, hW1⟩ : ∃ W1, W1 = wr.alloc (.cells #[.int .i64 x.md, .int .i64 x.rd, .int .i64 x.sl, .int .i64 x.nd, .int .i64 x.kd, .int .i64 x.sz, .int .i64 x.du, .bool x.ch] 61) := ⟨_, rfl⟩
        obtain ⟨G, hG⟩ : ∃ G, G = wr.heap.size := ⟨_, rfl⟩
        have F1 : At W1 G 61 #[.int .i64 x.md, .int .i64 x.rd, .int .i64 x.sl, .int .i64 x.nd, .int .i64 x.kd, .int .i64 x.sz, .int .i64 x.du, .bool x.ch] := by rw [hW1, hG]; exact At.fresh _ _ _
        have BW := hide (show Below w2.heap.size w2 W1 from below_trans hb2.out (by rw [hW1]; exact (Below.refl _ _).alloc (Nat.le_refl _) _))
        have g4 := F1.cell 4
        have g5 := F1.cell 5
        have g6 := F1.cell 6
        simp at g4 g5 g6
        have HW1 := hide hW1
        have HG := hide hG
        clear hx hz F1 hW1 hG
        go_wp2_with fail
        rw [← HW1.out, ← HG.out]
        (go_at_call 76; (with_reducible refine (icells_any _ _ _ fsz.out).mono ?_); rintro ee w3 ⟨rfl, rfl⟩; rw [← HZ.out])
        have BX := BW
        have tw : IntKind.i64.wrap (u + z) = u + z := IntWalk.i64_in _ ⟨by omega, by omega⟩
        go_wp2
        go_roundw
        case rel => exact ⟨k + 1, u + z, by omega, by go_num, by first | rfl | rw [tw], NN, BX⟩
        case measure => simp [intOf]; omega
      · obtain rfl : k = N := by omega
        have E := hide (show u = useL (modeL mode m.ss) by rw [hu.out, HNe.out, List.take_length, HLe.out])
        have HBX := hide (below_trans B2.out hb2.out)
        have F := HF.out.keep HBX.out
        have d0 := F.cell 0
        have d1 := F.cell 1
        have d2 := F.cell 2
        have d3 := F.cell 3
        simp at d0 d1 d2 d3
        clear F
        have hpos := durs_pos HCZ.out.symm
        have hbd := durs_bound (hDu.out.modeL mode)
        have hml := Nat.le_trans (modeL_len mode m.ss) HLn.out
        have hub := useL_bound (modeL mode m.ss) (HFt.out.modeL mode)
        rw [← E.out] at hub
        obtain ⟨U, rfl⟩ : ∃ U : Nat, u = U := ⟨u.toNat, by omega⟩
        obtain ⟨D, hD⟩ : ∃ D : Nat, durs (modeL mode m.ss) = D := ⟨(durs (modeL mode m.ss)).toNat, by omega⟩
        rw [hD] at hpos hbd
        have HD := hide hD
        have hD1 : 0 < D := by omega
        have hU1 : U ≤ 120000 := by omega
        clear hD hbd hub
        have hD0 : ¬ D = 0 := by omega
        go_wp2_with fail
        go_at_call 50
        (with_reducible refine (cycleTime_any _ m mode _ (HM0.out.below HBX.out) HLn.out hDu.out).mono ?_)
        rintro ee w9 ⟨rfl, b9⟩
        rw [HD.out]
        have B9 := hide (below_trans BA.out (below_trans HBX.out b9))
        clear b9 d0 d1 d2 d3
        go_wp2
        go_ret2
        exact ⟨ret_pair (by rw [← HCZ.out]; show (1000 * (U : Int) / (D : Int)) = useV (modeL mode m.ss); rw [useV, HD.out, ← E.out]) HCZ.out, B9.out⟩
  · have t1 : (cz == 0) = false := by simpa using hc0
    have HT1 := hide t1
    have E := hide (show (bif cz == 0 then useV (modeL mode m.ss) else 0) = 0 by rw [t1]; rfl)
    clear hcz hc0
    go_wp2
    go_ret2
    exact ⟨ret_pair (by rw [← HCZ.out, HT1.out]; rfl) HCZ.out, below_trans BA.out B1.out⟩
set_option maxHeartbeats 6400000 in
theorem sUseOf_any (v : Value) (m : Mdl) (mode : Int) (w : World) (h : RdM w v m) (hq : Nms m) :
    Calls Tryz.prog 37 #[v, .int .i64 mode] w (TwoOut (bif mcB m mode == 0 then useV (modeL mode m.ss) else 0) (mcB m mode) w) := by
  have HM := hide h
  obtain ⟨A1, n1, c1, A2, n2, c2, A3, n3, q3, rfl, h1, h2, h3⟩ := h
  have hlen2 := hide h2.len
  have hlen := hide h3.len
  have hcap2 := h2.cap
  have hcap := h3.cap
  obtain ⟨W0, hW0⟩ : ∃ W0, W0 = w.alloc (.cells #[.int .i64 m.id, .slice A1 n1 c1, .slice A2 n2 c2, .slice A3 n3 q3] 28) := ⟨_, rfl⟩
  have F0 : At W0 w.heap.size 28 #[.int .i64 m.id, .slice A1 n1 c1, .slice A2 n2 c2, .slice A3 n3 q3] := by rw [hW0]; exact At.fresh _ _ _
  have BA := hide (show Below w.heap.size w W0 by rw [hW0]; exact (Below.refl _ _).alloc (Nat.le_refl _) _)
  have B0 := hide (Below.refl W0.heap.size W0)
  have H1 := hide (h1.below BA.out)
  have H2 := hide (h2.below BA.out)
  have H3 := hide (h3.below BA.out)
  have HM0 := hide (HM.out.below BA.out)
  have HF := hide F0
  have d0 := F0.cell 0
  have d1 := F0.cell 1
  have d2 := F0.cell 2
  have d3 := F0.cell 3
  simp at d0 d1 d2 d3
  have HW := hide hW0
  clear hW0 F0 h1 h2 h3 HM
  go_enter Tryz.func37, Tryz.ntmps37
  go_wp2_with fail
  rw [← HW.out]
  go_at_call 73
  (with_reducible refine (l13Mode_any _ m mode _ HM0.out hq).mono ?_)
  rintro ee w1 ⟨rfl, b1⟩
  clear d0 d1 d2 d3
  have B1 := hide (below_trans B0.out b1)
  clear b1
  obtain ⟨cz, hcz⟩ : ∃ cz, cz = mcB m mode := ⟨_, rfl⟩
  rw [← hcz]
  have HCZ := hide hcz
  by_cases hc0 : cz = 0
  · subst hc0
    have MB := hide (mcB_zero hcz.symm)
    have HFt := hide (fits_of (mdB_iff.1 MB.out.1).2.2.2.1)
    have hDu := hide (durs_of (mdB_iff.1 MB.out.1).2.2.2.1)
    have HLn := hide (len_of (mdB_iff.1 MB.out.1).2.2.2.1)
    clear hcz
    go_wp2_with fail
    go_loopw [7, 8] (fun q i wr => ∃ (k : Nat) (u : Int), k ≤ n3 ∧ i = .int .i64 k ∧ q = .int .i64 u ∧ Hid (u = useL (modeL mode (m.ss.take k))) ∧ Hid (Below W0.heap.size W0 wr)) (fun _ i _ => n3 - (intOf i).toNat)
    case atStart => exact ⟨0, 0, by omega, rfl, rfl, hide (by simp [useL, modeL]), B1⟩
    case round =>
      obtain ⟨k, u, hk, rfl, rfl, hu, hb2⟩ := hrel
      have F := HF.out.keep hb2.out
      have d3 := F.cell 3
      simp at d3
      clear F
      by_cases hlt : k < n3
      · obtain ⟨b, off, x, rfl, hb, hx, c0, c1, c2, c3, c4, c5, c6, c7⟩ := slt_at (H3.out.below hb2.out) hlt
        have HN := hide (show useL (modeL mode (m.ss.take (k + 1))) = _ by rw [takeR hx, modeL_snoc])
        have fx := HFt.out x (List.mem_of_getElem? hx)
        have fsz := hide fx.1
        have fbl : (modeL mode (m.ss.take k)).length ≤ 120 := Nat.le_trans (modeL_len _ _) (by rw [List.length_take]; have := HLn.out; omega)
        have fb := useL_bound (modeL mode (m.ss.take k)) ((HFt.out.take k).modeL mode)
        rw [← hu.out] at fb
        obtain ⟨z, hz⟩ : ∃ z, z = cellI x.kd x.sz := ⟨_, rfl⟩
        rw [← hz] at fx
        have HZ := hide hz
        have HX := hide hx
        obtain ⟨fx1, fx2, fx3, fx4⟩ := fx
        obtain ⟨fb1, fb2⟩ := fb
        cases e : (x.md == mode)
        · have NN := hide (show u = useL (modeL mode (m.ss.take (k + 1))) by rw [HN.out, e, if_neg (by simp), List.append_nil, hu.out])
          clear hx hz HN
          go_wp2
          go_roundw
          case rel => exact ⟨k + 1, u, by omega, by go_num, rfl, NN, hb2⟩
          case measure => simp [intOf]; omega
        · have NN := hide (show u + z = useL (modeL mode (m.ss.take (k + 1))) by rw [HN.out, e, if_pos rfl, useL_snoc, hu.out, HZ.out])
          clear hx hz HN
          go_wp2_with fail
          refine wp_region_held_drew (S := (fun w' => w'.cell? ⟨w.heap.size, 3, none⟩ = some (.slice (some ⟨b, off, none⟩) n3 q3) ∧ w'.cell? ⟨b, off + k * 8 + 4, none⟩ = some (.int .i64 x.kd) ∧ w'.cell? ⟨b, off + k * 8 + 5, none⟩ = some (.int .i64 x.sz))) (by kernel_rfl) ?_ (fun hHeld => ?_)
          · (try dsimp only)
            go_keep
          refine wpAnyH_take (i := 0) (v := ?va1) rfl (by kernel_rfl) (by kernel_rfl) (by kernel_rfl) (fun _ _ _ h => h) (Or.inl ⟨by rfl, ?hya1⟩) (by assumption) ?rest1
          case hya1 => (intro wz hSw; (try dsimp only at hSw); go_simp; all_goals with_reducible rfl)
          try simp only [List.getElem_toArray, List.getElem_cons_succ, List.getElem_cons_zero, Act.put, List.setIfInBounds_toArray, List.set_cons_zero, List.set_cons_succ]
          refine wpAnyH_take (i := 1) (v := ?va2) rfl (by kernel_rfl) (by kernel_rfl) (by kernel_rfl) (fun _ _ _ h => h) (Or.inl ⟨by rfl, ?hya2⟩) (by assumption) ?rest2
          case hya2 => (intro wz hSw; (try dsimp only at hSw); go_simp; all_goals with_reducible rfl)
          try simp only [List.getElem_toArray, List.getElem_cons_succ, List.getElem_cons_zero, Act.put, List.setIfInBounds_toArray, List.set_cons_zero, List.set_cons_succ]
          refine wpAnyH_take (i := 2) (v := ?va3) rfl (by kernel_rfl) (by kernel_rfl) (by kernel_rfl) (fun _ _ _ h => h) (Or.inl ⟨by rfl, ?hya3⟩) (by assumption) ?rest3
          case hya3 => (intro wz hSw; (try dsimp only at hSw); go_simp; all_goals with_reducible rfl)
          try simp only [List.getElem_toArray, List.getElem_cons_succ, List.getElem_cons_zero, Act.put, List.setIfInBounds_toArray, List.set_cons_zero, List.set_cons_succ]
          refine wpAnyH_take (i := 3) (v := ?va4) rfl (by kernel_rfl) (by kernel_rfl) (by kernel_rfl) (fun _ _ _ h => h) (Or.inl ⟨by rfl, ?hya4⟩) (by assumption) ?rest4
          case hya4 => (intro wz hSw; (try dsimp only at hSw); go_simp; all_goals with_reducible rfl)
          try simp only [List.getElem_toArray, List.getElem_cons_succ, List.getElem_cons_zero, Act.put, List.setIfInBounds_toArray, List.set_cons_zero, List.set_cons_succ]
          refine wpAnyH_take (i := 4) (v := ?va5) rfl (by kernel_rfl) (by kernel_rfl) (by kernel_rfl) (fun _ _ _ h => h) (Or.inl ⟨by rfl, ?hya5⟩) (by assumption) ?rest5
          case hya5 => (intro wz hSw; (try dsimp only at hSw); go_simp; all_goals with_reducible rfl)
          try simp only [List.getElem_toArray, List.getElem_cons_succ, List.getElem_cons_zero, Act.put, List.setIfInBounds_toArray, List.set_cons_zero, List.set_cons_succ]
          refine wpAnyH_take (i := 5) (v := ?va6) rfl (by kernel_rfl) (by kernel_rfl) (by kernel_rfl) (fun _ _ _ h => h) (Or.inl ⟨by rfl, ?hya6⟩) (by assumption) ?rest6
          case hya6 => (intro wz hSw; (try dsimp only at hSw); go_simp; all_goals with_reducible rfl)
          try simp only [List.getElem_toArray, List.getElem_cons_succ, List.getElem_cons_zero, Act.put, List.setIfInBounds_toArray, List.set_cons_zero, List.set_cons_succ]
          refine wpAnyH_take (i := 6) (v := ?va7) rfl (by kernel_rfl) (by kernel_rfl) (by kernel_rfl) (fun _ _ _ h => h) (Or.inl ⟨by rfl, ?hya7⟩) (by assumption) ?rest7
          case hya7 => (intro wz hSw; (try dsimp only at hSw); go_simp; all_goals with_reducible rfl)
          try simp only [List.getElem_toArray, List.getElem_cons_succ, List.getElem_cons_zero, Act.put, List.setIfInBounds_toArray, List.set_cons_zero, List.set_cons_succ]
          refine wpAnyH_take (i := 7) (v := ?va8) rfl (by kernel_rfl) (by kernel_rfl) (by kernel_rfl) (fun _ _ _ h => h) (Or.inl ⟨by rfl, ?hya8⟩) (by assumption) ?rest8
          case hya8 => (intro wz hSw; (try dsimp only at hSw); go_simp; all_goals with_reducible rfl)
          try simp only [List.getElem_toArray, List.getElem_cons_succ, List.getElem_cons_zero, Act.put, List.setIfInBounds_toArray, List.set_cons_zero, List.set_cons_succ]
          refine wpAnyH_take (i := 8) (v := ?va9) rfl (by kernel_rfl) (by kernel_rfl) (by kernel_rfl) (fun _ _ _ h => h) (Or.inl ⟨by rfl, ?hya9⟩) (by assumption) ?rest9
          case hya9 => (intro wz hSw; (try dsimp only at hSw); go_simp; all_goals with_reducible rfl)
          try simp only [List.getElem_toArray, List.getElem_cons_succ, List.getElem_cons_zero, Act.put, List.setIfInBounds_toArray, List.set_cons_zero, List.set_cons_succ]
          refine wpAnyH_take (i := 9) (v := ?va10) rfl (by kernel_rfl) (by kernel_rfl) (by kernel_rfl) (fun _ _ _ h => h) (Or.inl ⟨by rfl, ?hya10⟩) (by assumption) ?rest10
          case hya10 => (intro wz hSw; (try dsimp only at hSw); go_simp; all_goals with_reducible rfl)
          try simp only [List.getElem_toArray, List.getElem_cons_succ, List.getElem_cons_zero, Act.put, List.setIfInBounds_toArray, List.set_cons_zero, List.set_cons_succ]
          refine wpAnyH_take (i := 10) (v := ?va11) rfl (by kernel_rfl) (by kernel_rfl) (by kernel_rfl) (fun _ _ _ h => h) (Or.inl ⟨by rfl, ?hya11⟩) (by assumption) ?rest11
          case hya11 => (intro wz hSw; (try dsimp only at hSw); go_simp; all_goals with_reducible rfl)
          try simp only [List.getElem_toArray, List.getElem_cons_succ, List.getElem_cons_zero, Act.put, List.setIfInBounds_toArray, List.set_cons_zero, List.set_cons_succ]
          refine wpAnyH_take (i := 11) (v := ?va12) rfl (by kernel_rfl) (by kernel_rfl) (by kernel_rfl) (fun _ _ _ h => h) (Or.inl ⟨by rfl, ?hya12⟩) (by assumption) ?rest12
          case hya12 => (intro wz hSw; (try dsimp only at hSw); go_simp; all_goals with_reducible rfl)
          try simp only [List.getElem_toArray, List.getElem_cons_succ, List.getElem_cons_zero, Act.put, List.setIfInBounds_toArray, List.set_cons_zero, List.set_cons_succ]
          refine wpAnyH_take (i := 12) (v := ?va13) rfl (by kernel_rfl) (by kernel_rfl) (by kernel_rfl) (fun _ _ _ h => h) (Or.inl ⟨by rfl, ?hya13⟩) (by assumption) ?rest13
          case hya13 => (intro wz hSw; (try dsimp only at hSw); go_simp; all_goals with_reducible rfl)
          try simp only [List.getElem_toArray, List.getElem_cons_succ, List.getElem_cons_zero, Act.put, List.setIfInBounds_toArray, List.set_cons_zero, List.set_cons_succ]
          refine wpAnyH_take (i := 13) (v := ?va14) rfl (by kernel_rfl) (by kernel_rfl) (by kernel_rfl) (fun _ _ _ h => h) (Or.inl ⟨by rfl, ?hya14⟩) (by assumption) ?rest14
          case hya14 => (intro wz hSw; (try dsimp only at hSw); go_simp; all_goals with_reducible rfl)
          try simp only [List.getElem_toArray, List.getElem_cons_succ, List.getElem_cons_zero, Act.put, List.setIfInBounds_toArray, List.set_cons_zero, List.set_cons_succ]
          refine wpAnyH_take (i := 14) (v := ?va15) rfl (by kernel_rfl) (by kernel_rfl) (by kernel_rfl) (fun _ _ _ h => h) (Or.inl ⟨by rfl, ?hya15⟩) (by assumption) ?rest15
          case hya15 => (intro wz hSw; (try dsimp only at hSw); go_simp; all_goals with_reducible rfl)
          try simp only [List.getElem_toArray, List.getElem_cons_succ, List.getElem_cons_zero, Act.put, List.setIfInBounds_toArray, List.set_cons_zero, List.set_cons_succ]
          refine wpAnyH_ready (rs := [15]) (by kernel_rfl) (by simp) ?_
          refine AllReadyH.cons rfl (fun K hK => ?_) AllReadyH.nil
          go_simp
          (go_at_call 74; (with_reducible refine (scells_any _ _ _ fsz.out).mono ?_); rintro ee w3 ⟨rfl, rfl⟩; rw [← HZ.out])
          go_wp2_with fail
          refine hK.out _ _ ?_ (fun hHeld15 => ?_)
          · (try dsimp only)
            go_keep
          clear hK K
          try simp only [List.getElem_toArray, List.getElem_cons_succ, List.getElem_cons_zero, Act.put, List.setIfInBounds_toArray, List.set_cons_zero, List.set_cons_succ]
          refine wpAnyH_take (i := 16) (v := ?va16) rfl (by kernel_rfl) (by kernel_rfl) (by kernel_rfl) (fun _ _ _ h => h) (Or.inl ⟨by rfl, ?hya16⟩) (by assumption) ?rest16
          case hya16 => (intro wz hSw; (try dsimp only at hSw); go_simp; all_goals with_reducible rfl)
          try simp only [List.getElem_toArray, List.getElem_cons_succ, List.getElem_cons_zero, Act.put, List.setIfInBounds_toArray, List.set_cons_zero, List.set_cons_succ]
          refine wpAnyH_take (i := 17) (v := ?va17) rfl (by kernel_rfl) (by kernel_rfl) (by kernel_rfl) (fun _ _ _ h => h) (Or.inl ⟨by rfl, ?hya17⟩) (by assumption) ?rest17
          case hya17 => (intro wz hSw; (try dsimp only at hSw); go_simp; all_goals with_reducible rfl)
          try simp only [List.getElem_toArray, List.getElem_cons_succ, List.getElem_cons_zero, Act.put, List.setIfInBounds_toArray, List.set_cons_zero, List.set_cons_succ]
          refine wpAnyH_done (by kernel_rfl) ?_ _
          have BX := hide (below_drewT hb2.out)
          have tw : IntKind.i64.wrap (u + z) = u + z := IntWalk.i64_in _ ⟨by omega, by omega⟩
          go_wp2
          go_roundw
          case rel => exact ⟨k + 1, u + z, by omega, by go_num, by first | rfl | rw [tw], NN, BX⟩
          case measure => simp [intOf]; omega
      · obtain rfl : k = n3 := by omega
        have E := hide (show u = useL (modeL mode m.ss) by rw [hu.out, ← hlen.out, List.take_length])
        have HBX := hide (hb2.out)
        have F := HF.out.keep HBX.out
        have d0 := F.cell 0
        have d1 := F.cell 1
        have d2 := F.cell 2
        have d3 := F.cell 3
        simp at d0 d1 d2 d3
        clear F
        have hpos := durs_pos HCZ.out.symm
        have hbd := durs_bound (hDu.out.modeL mode)
        have hml := Nat.le_trans (modeL_len mode m.ss) HLn.out
        have hub := useL_bound (modeL mode m.ss) (HFt.out.modeL mode)
        rw [← E.out] at hub
        obtain ⟨U, rfl⟩ : ∃ U : Nat, u = U := ⟨u.toNat, by omega⟩
        obtain ⟨D, hD⟩ : ∃ D : Nat, durs (modeL mode m.ss) = D := ⟨(durs (modeL mode m.ss)).toNat, by omega⟩
        rw [hD] at hpos hbd
        have HD := hide hD
        have hD1 : 0 < D := by omega
        have hU1 : U ≤ 120000 := by omega
        clear hD hbd hub
        have hD0 : ¬ D = 0 := by omega
        go_wp2_with fail
        go_at_call 77
        (with_reducible refine (l13Cycle_any _ m mode _ (HM0.out.below HBX.out) HLn.out hDu.out).mono ?_)
        rintro ee w9 ⟨rfl, b9⟩
        rw [HD.out]
        have B9 := hide (below_trans BA.out (below_trans HBX.out b9))
        clear b9 d0 d1 d2 d3
        go_wp2
        go_ret2
        exact ⟨ret_pair (by rw [← HCZ.out]; show (1000 * (U : Int) / (D : Int)) = useV (modeL mode m.ss); rw [useV, HD.out, ← E.out]) HCZ.out, B9.out⟩
  · have t1 : (cz == 0) = false := by simpa using hc0
    have HT1 := hide t1
    have E := hide (show (bif cz == 0 then useV (modeL mode m.ss) else 0) = 0 by rw [t1]; rfl)
    clear hcz hc0
    go_wp2
    go_ret2
    exact ⟨ret_pair (by rw [← HCZ.out, HT1.out]; rfl) HCZ.out, below_trans BA.out B1.out⟩
end Go.Proofs.YtdkhldebnpmiiaaGreatDoor
namespace Go.Proofs.YtdkhldebnpmiiaaGreatDoor
open Go.RowKit
set_option linter.unusedVariables false
set_option linter.unusedSimpArgs false
def hasN (ns : List Nod) (z : Int) : Bool := ns.any (fun y => y.id == z)
def ncB (m : Mdl) (mode : Int) (zs : List Int) : Int := bif mcB m mode == 0 then (bif zs.all (hasN m.ns) then 0 else 2) else mcB m mode
def actB (ns : List Nod) (z : Int) : Bool := (actV ns).testBit z.toNat
def scB (m : Mdl) (mode : Int) (zs : List Int) : Int := bif ncB m mode zs == 0 then (bif zs.all (actB m.ns) then 0 else 4) else ncB m mode zs
theorem all_upto {p : Int → Bool} {zs : List Int} (h : ∀ j, j < zs.length → p (nth zs j) = true) : zs.all p = true := by
  rw [List.all_eq_true]
  intro y hy
  obtain ⟨j, hj, rfl⟩ := List.getElem_of_mem hy
  have := h j hj
  rwa [nth_eq hj] at this
theorem all_not {p : Int → Bool} {zs : List Int} {j : Nat} (hj : j < zs.length) (h : p (nth zs j) = false) : zs.all p = false := List.all_eq_false.2 ⟨_, nth_mem hj, by rw [h]; simp⟩
theorem ncB_zero {m : Mdl} {mode : Int} {zs : List Int} (h : ncB m mode zs = 0) : mcB m mode = 0 ∧ zs.all (hasN m.ns) = true := by
  rw [ncB] at h
  cases h1 : (mcB m mode == 0)
  · rw [h1] at h
    have : mcB m mode = 0 := h
    rw [this] at h1
    cases h1
  · rw [h1] at h
    cases h2 : zs.all (hasN m.ns)
    · rw [h2] at h; cases h
    · exact ⟨by simpa using h1, rfl⟩
set_option maxHeartbeats 3200000 in
theorem nodesCode_any (v : Value) (m : Mdl) (mode : Int) (A : Option Addr) (n c : Nat) (zs : List Int) (w : World) (h : RdM w v m) (hz : Rd w A n c zs) :
    Calls Tryz.prog 83 #[v, .int .i64 mode, .slice A n c] w (IntOut (ncB m mode zs) w) := by
  have HM := hide h
  obtain ⟨A1, n1, c1, A2, n2, c2, A3, n3, q3, rfl, h1, h2, h3⟩ := h
  have hlen2 := hide h2.len
  have hlen := hide h3.len
  have hcap2 := h2.cap
  have hcap := h3.cap
  obtain ⟨W0, hW0⟩ : ∃ W0, W0 = w.alloc (.cells #[.int .i64 m.id, .slice A1 n1 c1, .slice A2 n2 c2, .slice A3 n3 q3] 28) := ⟨_, rfl⟩
  have F0 : At W0 w.heap.size 28 #[.int .i64 m.id, .slice A1 n1 c1, .slice A2 n2 c2, .slice A3 n3 q3] := by rw [hW0]; exact At.fresh _ _ _
  have BA := hide (show Below w.heap.size w W0 by rw [hW0]; exact (Below.refl _ _).alloc (Nat.le_refl _) _)
  have B0 := hide (Below.refl W0.heap.size W0)
  have H1 := hide (h1.below BA.out)
  have H2 := hide (h2.below BA.out)
  have H3 := hide (h3.below BA.out)
  have HM0 := hide (HM.out.below BA.out)
  have HF := hide F0
  have d0 := F0.cell 0
  have d1 := F0.cell 1
  have d2 := F0.cell 2
  have d3 := F0.cell 3
  simp at d0 d1 d2 d3
  have HW := hide hW0
  clear hW0 F0 h1 h2 h3 HM
  have hzc := hz.cap
  have hzl := hide hz.len
  have HZ := hide (hz.below BA.out)
  clear hz
  go_enter Tryz.func83, Tryz.ntmps83
  go_wp2_with fail
  rw [← HW.out]
  go_at_call 72
  (with_reducible refine (modeCode_any _ m mode _ HM0.out).mono ?_)
  rintro ee w1 ⟨rfl, b1⟩
  clear d0 d1 d2 d3
  have B1 := hide (below_trans B0.out b1)
  clear b1
  obtain ⟨cz, hcz⟩ : ∃ cz, cz = mcB m mode := ⟨_, rfl⟩
  rw [← hcz]
  have HCZ := hide hcz
  by_cases hc0 : cz = 0
  · subst hc0
    clear hcz
    have E1 := hide (show ncB m mode zs = bif zs.all (hasN m.ns) then 0 else 2 by rw [ncB, ← HCZ.out]; rfl)
    go_wp2_with fail
    go_loopw [18] (fun i wr => ∃ k : Nat, k ≤ n ∧ i = .int .i64 k ∧ Hid (∀ j, j < k → hasN m.ns (nth zs j) = true) ∧ Hid (Below W0.heap.size W0 wr)) (fun i _ => n - (intOf i).toNat)
    case atStart => exact ⟨0, by omega, rfl, hide (fun j hj => by omega), B1⟩
    case round =>
      clear B1
      obtain ⟨k, hk, rfl, hall, B1⟩ := hrel
      by_cases hlt : k < n
      · obtain ⟨b, off, rfl, hb, hc⟩ := (HZ.out.below B1.out).at_ (by omega)
        have c0 := hc k hlt
        have F := HF.out.keep B1.out
        have d1 := F.cell 1
        simp at d1
        have HL := hide (show k < zs.length by rw [hzl.out]; exact hlt)
        obtain ⟨z, hzz⟩ : ∃ z, z = nth zs k := ⟨_, rfl⟩
        rw [← hzz] at c0
        have HK := hide (idx_any (fun y : Nod => y.id == z) m.ns)
        obtain ⟨q, hq⟩ : ∃ q, q = idx (fun y : Nod => y.id == z) m.ns := ⟨_, rfl⟩
        rw [← hq] at HK
        have HQ := hide hq
        have HZZ := hide hzz
        clear hc F hq hzz
        go_wp2_with fail
        go_at_call 113
        (with_reducible refine (findNode_any _ _ _ _ m.ns _ (H1.out.below B1.out)).mono ?_)
        rintro ee w2 ⟨rfl, b2⟩
        rw [← HQ.out]
        have B2 := hide (below_trans B1.out b2)
        clear b2
        by_cases hneg : q < 0
        · have t1 : decide (q < 0) = true := decide_eq_true hneg
          have E := hide (show ncB m mode zs = 2 by rw [E1.out, all_not HL.out (show hasN m.ns (nth zs k) = false by rw [← HZZ.out, hasN, ← HK.out]; exact decide_eq_false (by omega))]; rfl)
          clear hneg
          go_wp2
          go_ret
          exact ⟨by rw [E.out]; rfl, below_trans BA.out B2.out⟩
        · have t1 : decide (q < 0) = false := decide_eq_false hneg
          have NN := hide (fun j (hj : j < k + 1) => show hasN m.ns (nth zs j) = true from by
            rcases Nat.lt_succ_iff_lt_or_eq.1 hj with h1 | h1
            · exact hall.out j h1
            · subst h1
              rw [← HZZ.out, hasN, ← HK.out]
              exact decide_eq_true (by omega))
          clear hneg
          go_wp2
          go_roundw
          case rel => exact ⟨k + 1, by omega, by go_num, NN, B2⟩
          case measure => simp [intOf]; omega
      · obtain rfl : k = n := by omega
        have E := hide (show ncB m mode zs = 0 by rw [E1.out, all_upto (fun j hj => hall.out j (by rw [← hzl.out]; exact hj))]; rfl)
        go_wp2
        go_ret
        exact ⟨by rw [E.out]; rfl, below_trans BA.out B1.out⟩
  · have t1 : (cz == 0) = false := by simpa using hc0
    have E := hide (show ncB m mode zs = cz by rw [ncB, ← hcz, t1]; rfl)
    clear hcz hc0
    go_wp2
    go_ret
    exact ⟨by rw [E.out]; rfl, below_trans BA.out B1.out⟩
theorem hasN_id {ns : List Nod} {z : Int} (hi : Ids ns) (h : hasN ns z = true) : 0 ≤ z ∧ z < 32 := by
  obtain ⟨y, hy, e⟩ := List.any_eq_true.1 h
  have := hi y hy
  have e2 : y.id = z := by simpa using e
  omega
set_option maxHeartbeats 3200000 in
theorem sendersCode_any (v : Value) (m : Mdl) (mode : Int) (A : Option Addr) (n c : Nat) (zs : List Int) (w : World) (h : RdM w v m) (hz : Rd w A n c zs) :
    Calls Tryz.prog 49 #[v, .int .i64 mode, .slice A n c] w (IntOut (scB m mode zs) w) := by
  have HM := hide h
  obtain ⟨A1, n1, c1, A2, n2, c2, A3, n3, q3, rfl, h1, h2, h3⟩ := h
  have hlen2 := hide h2.len
  have hlen := hide h3.len
  have hcap2 := h2.cap
  have hcap := h3.cap
  obtain ⟨W0, hW0⟩ : ∃ W0, W0 = w.alloc (.cells #[.int .i64 m.id, .slice A1 n1 c1, .slice A2 n2 c2, .slice A3 n3 q3] 28) := ⟨_, rfl⟩
  have F0 : At W0 w.heap.size 28 #[.int .i64 m.id, .slice A1 n1 c1, .slice A2 n2 c2, .slice A3 n3 q3] := by rw [hW0]; exact At.fresh _ _ _
  have BA := hide (show Below w.heap.size w W0 by rw [hW0]; exact (Below.refl _ _).alloc (Nat.le_refl _) _)
  have B0 := hide (Below.refl W0.heap.size W0)
  have H1 := hide (h1.below BA.out)
  have H2 := hide (h2.below BA.out)
  have H3 := hide (h3.below BA.out)
  have HM0 := hide (HM.out.below BA.out)
  have HF := hide F0
  have d0 := F0.cell 0
  have d1 := F0.cell 1
  have d2 := F0.cell 2
  have d3 := F0.cell 3
  simp at d0 d1 d2 d3
  have HW := hide hW0
  clear hW0 F0 h1 h2 h3 HM
  have hzc := hz.cap
  have hzl := hide hz.len
  have HZ := hide (hz.below BA.out)
  clear hz
  go_enter Tryz.func49, Tryz.ntmps49
  go_wp2_with fail
  rw [← HW.out]
  go_at_call 83
  (with_reducible refine (nodesCode_any _ m mode _ _ _ zs _ HM0.out HZ.out).mono ?_)
  rintro ee w1 ⟨rfl, b1⟩
  clear d0 d1 d2 d3
  have B1 := hide (below_trans B0.out b1)
  clear b1
  obtain ⟨cz, hcz⟩ : ∃ cz, cz = ncB m mode zs := ⟨_, rfl⟩
  rw [← hcz]
  have HCZ := hide hcz
  by_cases hc0 : cz = 0
  · subst hc0
    clear hcz
    have E1 := hide (show scB m mode zs = bif zs.all (actB m.ns) then 0 else 4 by rw [scB, ← HCZ.out]; rfl)
    have HI := hide (ids_of (mdB_iff.1 (mcB_zero (ncB_zero HCZ.out.symm).1).1).2.1)
    have HV := hide (actV_lt m.ns HI.out)
    have HN := hide (ncB_zero HCZ.out.symm).2
    go_wp2_with fail
    go_loopw [19] (fun i wr => ∃ k : Nat, k ≤ n ∧ i = .int .i64 k ∧ Hid (∀ j, j < k → actB m.ns (nth zs j) = true) ∧ Hid (Below W0.heap.size W0 wr)) (fun i _ => n - (intOf i).toNat)
    case atStart => exact ⟨0, by omega, rfl, hide (fun j hj => by omega), B1⟩
    case round =>
      clear B1
      obtain ⟨k, hk, rfl, hall, B1⟩ := hrel
      by_cases hlt : k < n
      · obtain ⟨b, off, rfl, hb, hc⟩ := (HZ.out.below B1.out).at_ (by omega)
        have c0 := hc k hlt
        have F := HF.out.keep B1.out
        have d1 := F.cell 1
        simp at d1
        have HL := hide (show k < zs.length by rw [hzl.out]; exact hlt)
        have hid := hasN_id HI.out (List.all_eq_true.1 HN.out _ (nth_mem HL.out))
        obtain ⟨d, hd⟩ : ∃ d : Nat, nth zs k = d := ⟨(nth zs k).toNat, by omega⟩
        have hd32 : d < 32 := by omega
        rw [hd] at c0
        have HA := hide (show actB m.ns (nth zs k) = (actV m.ns).testBit d by rw [actB, hd]; rfl)
        clear hc F hid hd
        go_wp2_with fail
        go_at_call 85
        (with_reducible refine (activeVector_any _ _ _ _ _ (H1.out.below B1.out) HI.out).mono ?_)
        rintro ee w2 ⟨rfl, b2⟩
        have B2 := hide (below_trans B1.out b2)
        clear b2
        go_wp2_with fail
        go_at_call 84
        (with_reducible refine (ihas_any _ _ HV.out hd32 _).mono ?_)
        rintro ee w3 ⟨rfl, rfl⟩
        cases hp : (actV m.ns).testBit d
        · have E := hide (show scB m mode zs = 4 by rw [E1.out, all_not HL.out (by rw [HA.out, hp])]; rfl)
          clear hp
          go_wp2
          go_ret
          exact ⟨by rw [E.out]; rfl, below_trans BA.out B2.out⟩
        · have HP := hide hp
          have NN := hide (fun j (hj : j < k + 1) => show actB m.ns (nth zs j) = true from by
            rcases Nat.lt_succ_iff_lt_or_eq.1 hj with h1 | h1
            · exact hall.out j h1
            · subst h1
              rw [HA.out]
              exact HP.out)
          clear hp
          go_wp2
          go_roundw
          case rel => exact ⟨k + 1, by omega, by go_num, NN, B2⟩
          case measure => simp [intOf]; omega
      · obtain rfl : k = n := by omega
        have E := hide (show scB m mode zs = 0 by rw [E1.out, all_upto (fun j hj => hall.out j (by rw [← hzl.out]; exact hj))]; rfl)
        go_wp2
        go_ret
        exact ⟨by rw [E.out]; rfl, below_trans BA.out B1.out⟩
  · have t1 : (cz == 0) = false := by simpa using hc0
    have E := hide (show scB m mode zs = cz by rw [scB, ← hcz, t1]; rfl)
    clear hcz hc0
    go_wp2
    go_ret
    exact ⟨by rw [E.out]; rfl, below_trans BA.out B1.out⟩
end Go.Proofs.YtdkhldebnpmiiaaGreatDoor
namespace Go.Proofs.YtdkhldebnpmiiaaGreatDoor
open Go.RowKit
set_option linter.unusedVariables false
set_option linter.unusedSimpArgs false
theorem results_Ni {fn : Func} {t u : Tmp} (h : fn.results = #[.cell t 68, .tmp u]) {tmps : Array Value} {w : World} {g : Nat} {a0 a1 a2 a3 x : Value} (hp : tmps.getD t undef = .pointer (some ⟨g, 0, none⟩)) (hx : tmps.getD u undef = x) (hs : At w g 68 #[a0, a1, a2, a3]) :
    (results fn tmps).run Tryz.prog w = .ok (.tuple #[.agg #[a0, a1, a2, a3], x]) w := by
  have d0 : w.cell? ⟨g, 0, none⟩ = some a0 := hs.cell 0
  have d1 : w.cell? ⟨g, 1, none⟩ = some a1 := hs.cell 1
  have d2 : w.cell? ⟨g, 2, none⟩ = some a2 := hs.cell 2
  have d3 : w.cell? ⟨g, 3, none⟩ = some a3 := hs.cell 3
  rw [Array.getD_eq_getD_getElem?] at hp hx
  subst hx
  simp [results, h, hp, go_sem, d0, d1, d2, d3]
set_option maxHeartbeats 3200000 in
theorem sFindNode_any (id : Int) (A : Option Addr) (n c : Nat) (l : List Nod) (w : World) (h : RdR Nod.v 4 w A n c l) (hq : ∀ x ∈ l, x.nm.size ≤ 9223372036854775807) (ht : ntB l = true) :
    Calls Tryz.prog 114 #[.slice A n c, .int .i64 id] w (fun e w' => ∃ y : Nod, e = .returned (.tuple #[.agg #[.int .i64 y.id, .string y.nm, .int .i64 y.dr, .bool y.pas], .int .i64 (bif hasN l id then 0 else 4)]) ∧ Below w.heap.size w w') := by
  have hcap := h.cap
  have hlen := hide h.len
  have HT := hide ht
  obtain ⟨W0, hW0⟩ : ∃ W0, W0 = w.alloc (.cells #[.int .i64 0, .string ⟨#[]⟩, .int .i64 0, .bool false] 68) := ⟨_, rfl⟩
  have F0 : At W0 w.heap.size 68 #[.int .i64 0, .string ⟨#[]⟩, .int .i64 0, .bool false] := by rw [hW0]; exact At.fresh _ _ _
  have BA := hide (show Below w.heap.size w W0 by rw [hW0]; exact (Below.refl _ _).alloc (Nat.le_refl _) _)
  have H0 := hide (h.below BA.out)
  have HF := hide F0
  have HW := hide hW0
  clear hW0 F0 h ht
  go_enter Tryz.func114, Tryz.ntmps114
  go_wp2_with fail
  rw [← HW.out]
  go_at_call 134
  (with_reducible refine (sIsNodeTable_any _ _ _ _ _ H0.out hq).mono ?_)
  rintro ee w1 ⟨rfl, b1⟩
  rw [HT.out]
  have B1 := hide (below_trans BA.out b1)
  have H1 := hide (H0.out.below b1)
  have F1 := hide (HF.out.keep b1)
  have m0 := F1.out.cell 0
  have m1 := F1.out.cell 1
  have m2 := F1.out.cell 2
  have m3 := F1.out.cell 3
  simp at m0 m1 m2 m3
  have l0 := F1.out.frozen 0
  have l1 := F1.out.frozen 1
  have l2 := F1.out.frozen 2
  have l3 := F1.out.frozen 3
  clear b1
  go_wp2_with fail
  go_loopw [6] (fun i wr => ∃ k : Nat, k ≤ n ∧ i = .int .i64 k ∧ Hid (∀ j y, j < k → l[j]? = some y → (y.id == id) = false) ∧ wr = w1) (fun i _ => n - (intOf i).toNat)
  case atStart => exact ⟨0, by omega, rfl, hide (fun j y hj => by omega), rfl⟩
  case round =>
    obtain ⟨k, hk, rfl, hno, rfl⟩ := hrel
    by_cases hlt : k < n
    · obtain ⟨b, off, x, rfl, hb, hx, c0, c1, c2, c3⟩ := nod_at H1.out hlt
      have HX := hide hx
      clear hx
      cases e1 : (x.id == id)
      · have NN := hide (fun j y (hj : j < k + 1) (hy : l[j]? = some y) => show (y.id == id) = false from by
          rcases Nat.lt_succ_iff_lt_or_eq.1 hj with h1 | h1
          · exact hno.out j y h1 hy
          · subst h1
            rw [HX.out] at hy
            obtain rfl := Option.some.inj hy
            exact e1)
        go_wp2
        go_roundw
        case rel => exact ⟨k + 1, by omega, by go_num, NN, trivial⟩
        case measure => simp [intOf]; omega
      · have E := hide (show (bif hasN l id then (0 : Int) else 4) = 0 by rw [show hasN l id = true from List.any_eq_true.2 ⟨x, List.mem_of_getElem? HX.out, e1⟩]; rfl)
        go_wp2_with fail
        have fin : At ((((wr.setCell ⟨w.heap.size, 0, none⟩ (.int .i64 x.id)).setCell ⟨w.heap.size, 1, none⟩ (.string x.nm)).setCell ⟨w.heap.size, 2, none⟩ (.int .i64 x.dr)).setCell ⟨w.heap.size, 3, none⟩ (.bool x.pas)) w.heap.size 68 #[.int .i64 x.id, .string x.nm, .int .i64 x.dr, .bool x.pas] := by
          have q := ((((F1.out.set 0 (.int .i64 x.id)).set 1 (.string x.nm)).set 2 (.int .i64 x.dr)).set 3 (.bool x.pas))
          simpa using q
        have BX : Below w.heap.size w ((((wr.setCell ⟨w.heap.size, 0, none⟩ (.int .i64 x.id)).setCell ⟨w.heap.size, 1, none⟩ (.string x.nm)).setCell ⟨w.heap.size, 2, none⟩ (.int .i64 x.dr)).setCell ⟨w.heap.size, 3, none⟩ (.bool x.pas)) := (Below.setCell (Below.setCell (Below.setCell (Below.setCell B1.out (Nat.le_refl _) _) (Nat.le_refl _) _) (Nat.le_refl _) _) (Nat.le_refl _) _)
        have hres := fun (tmps : Array Value) (hp : tmps.getD 4 undef = .pointer (some ⟨w.heap.size, 0, none⟩)) (hx : tmps.getD 5 undef = .int .i64 0) => results_Ni (tmps := tmps) Tryz.results114 hp hx fin
        exact bodyPost_ret (hres _ rfl rfl) rfl ⟨x, by rw [E.out], BX⟩
    · obtain rfl : k = n := by omega
      have E := hide (show (bif hasN l id then (0 : Int) else 4) = 4 by
        rw [show hasN l id = false by
          rw [hasN, List.any_eq_false]
          intro y hy
          obtain ⟨j, hj, rfl⟩ := List.getElem_of_mem hy
          rw [hno.out j _ (by rw [← hlen.out]; exact hj) (List.getElem?_eq_getElem hj)]
          simp]
        rfl)
      go_wp2_with fail
      have fin : At ((((wr.setCell ⟨w.heap.size, 0, none⟩ (.int .i64 0)).setCell ⟨w.heap.size, 1, none⟩ (.string ⟨#[]⟩)).setCell ⟨w.heap.size, 2, none⟩ (.int .i64 0)).setCell ⟨w.heap.size, 3, none⟩ (.bool false)) w.heap.size 68 #[.int .i64 0, .string ⟨#[]⟩, .int .i64 0, .bool false] := by
        have q := ((((F1.out.set 0 (.int .i64 0)).set 1 (.string ⟨#[]⟩)).set 2 (.int .i64 0)).set 3 (.bool false))
        simpa using q
      have BX : Below w.heap.size w ((((wr.setCell ⟨w.heap.size, 0, none⟩ (.int .i64 0)).setCell ⟨w.heap.size, 1, none⟩ (.string ⟨#[]⟩)).setCell ⟨w.heap.size, 2, none⟩ (.int .i64 0)).setCell ⟨w.heap.size, 3, none⟩ (.bool false)) := (Below.setCell (Below.setCell (Below.setCell (Below.setCell B1.out (Nat.le_refl _) _) (Nat.le_refl _) _) (Nat.le_refl _) _) (Nat.le_refl _) _)
      have hres := fun (tmps : Array Value) (hp : tmps.getD 4 undef = .pointer (some ⟨w.heap.size, 0, none⟩)) (hx : tmps.getD 5 undef = .int .i64 4) => results_Ni (tmps := tmps) Tryz.results114 hp hx fin
      exact bodyPost_ret (hres _ rfl rfl) rfl ⟨⟨0, ⟨#[]⟩, 0, false⟩, by rw [E.out], BX⟩
end Go.Proofs.YtdkhldebnpmiiaaGreatDoor
