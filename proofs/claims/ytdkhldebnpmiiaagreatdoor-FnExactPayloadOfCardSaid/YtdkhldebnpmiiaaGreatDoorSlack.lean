/- Contracts: the least slack of a mode, by the program and by the reference. -/
import Derived.Test.YtdkhldebnpmiiaaGreatDoorCode
namespace Go.Proofs.YtdkhldebnpmiiaaGreatDoor
open Go.RowKit
set_option linter.unusedVariables false
set_option linter.unusedSimpArgs false

def TwoOut (a b : Int) (w : World) (e : Ending) (w' : World) : Prop := e = .returned (.tuple #[.int .i64 a, .int .i64 b]) ∧ Below w.heap.size w w'
def slackL (l : List Slt) : Int := l.foldl (fun a x => min a (x.du - cellI x.kd x.sz)) 1000
theorem slackL_snoc (l : List Slt) (x : Slt) : slackL (l ++ [x]) = min (slackL l) (x.du - cellI x.kd x.sz) := by rw [slackL, List.foldl_append]; rfl
/-- the frames fit into their slots -/
def Fits (l : List Slt) : Prop := ∀ x ∈ l, (0 ≤ x.sz ∧ x.sz ≤ 32) ∧ 0 ≤ cellI x.kd x.sz ∧ cellI x.kd x.sz ≤ x.du ∧ x.du ≤ 1000
theorem Fits.modeL {l : List Slt} (h : Fits l) (mode : Int) : Fits (modeL mode l) := fun x hx => h x (List.mem_filter.1 hx).1
theorem Fits.take {l : List Slt} (h : Fits l) (k : Nat) : Fits (l.take k) := fun x hx => h x (List.mem_of_mem_take hx)
theorem fits_of {l : List Slt} (h : stB l = true) : Fits l := fun x hx => by
  obtain ⟨k, hk, rfl⟩ := List.getElem_of_mem hx
  have b := slt_bounds (stB_at h (List.getElem?_eq_getElem hk))
  have z := szB_ge b.2.2.2.2.2.1
  have := cellI_le (kd := l[k].kd) z
  exact ⟨z, by omega, by omega, by omega⟩
theorem slackL_bound (l : List Slt) : Fits l → 0 ≤ slackL l ∧ slackL l ≤ 1000 := by
  refine snoc_ind (P := fun l => Fits l → 0 ≤ slackL l ∧ slackL l ≤ 1000) ?_ ?_ l
  · intro _
    show (0 : Int) ≤ 1000 ∧ (1000 : Int) ≤ 1000
    omega
  · intro l x ih h
    have h1 := ih (fun y hy => h y (by simp [hy]))
    have h2 := h x (by simp)
    rw [slackL_snoc]
    omega
set_option maxHeartbeats 6400000 in
theorem iSlackOf_any (v : Value) (m : Mdl) (mode : Int) (w : World) (h : RdM w v m) :
    Calls Tryz.prog 36 #[v, .int .i64 mode] w (TwoOut (bif mcB m mode == 0 then slackL (modeL mode m.ss) else 0) (mcB m mode) w) := by
  have HM := hide h
  obtain ⟨A1, n1, c1, A2, n2, c2, A3, n3, q3, rfl, h1, h2, h3⟩ := h
  have hlen2 := hide h2.len
  have hlen := hide h3.len
  have hcap2 := h2.cap
  have hcap := h3.cap
  obtain ⟨W0, hW0⟩ : ∃ W0, W0 = w.alloc (.cells #[.int .i64 m.id, .slice A1 n1 c1, .slice A2 n2 c2, .slice A3 n3 q3] 28) := ⟨_, rfl⟩
  have F0 : At W0 w.heap.size 28 #[.int .i64 m.id, .slice A1 n1 c1, .slice A2 n2 c2, .slice A3 n3 q3] := by rw [hW0]; exact At.fresh _ _ _
  have BA := hide (show Below w.heap.size w W0 by rw [hW0]; exact (Below.refl _ _).alloc (Nat.le_refl _) _)
  have B0 := hide (Below.refl W0.heap.size W0)
  have H1 := hide (h1.below BA.out)
  have H2 := hide (h2.below BA.out)
  have H3 := hide (h3.below BA.out)
  have HM0 := hide (HM.out.below BA.out)
  have HF := hide F0
  have d0 := F0.cell 0
  have d1 := F0.cell 1
  have d2 := F0.cell 2
  have d3 := F0.cell 3
  simp at d0 d1 d2 d3
  have HW := hide hW0
  clear hW0 F0 h1 h2 h3 HM
  go_enter Tryz.func36, Tryz.ntmps36
  go_wp2_with fail
  rw [← HW.out]
  go_at_call 72
  (with_reducible refine (modeCode_any _ m mode _ HM0.out).mono ?_)
  rintro ee w1 ⟨rfl, b1⟩
  clear d0 d1 d2 d3
  have B1 := hide (below_trans B0.out b1)
  have F := HF.out.keep B1.out
  have d0 := F.cell 0
  have d1 := F.cell 1
  have d2 := F.cell 2
  have d3 := F.cell 3
  simp at d0 d1 d2 d3
  clear F b1
  obtain ⟨cz, hcz⟩ : ∃ cz, cz = mcB m mode := ⟨_, rfl⟩
  rw [← hcz]
  have HCZ := hide hcz
  by_cases hc0 : cz = 0
  · subst hc0
    have MB := hide (mcB_zero hcz.symm)
    have HFt := hide (fits_of (mdB_iff.1 MB.out.1).2.2.2.1)
    have HLn := hide (len_of (mdB_iff.1 MB.out.1).2.2.2.1)
    clear hcz
    go_wp2_with fail
    go_at_call 75
    (with_reducible refine (modeSlots_any _ m mode _ (HM0.out.below B1.out) HLn.out).mono ?_)
    rintro ee w2 ⟨A', c', rfl, own, b1⟩
    have B2 := hide (below_trans B1.out b1)
    have HO := hide own.rd
    have hL := hide own.len
    obtain ⟨L, hLe⟩ : ∃ L, L = modeL mode m.ss := ⟨_, rfl⟩
    have HLe := hide hLe
    have HFL := hide (show Fits L by rw [hLe]; exact HFt.out.modeL mode)
    have hN : L.length ≤ 120 := by rw [hLe]; exact Nat.le_trans (modeL_len _ _) HLn.out
    rw [← hLe] at HO hL
    rw [← hLe]
    obtain ⟨N, hNe⟩ : ∃ N, N = L.length := ⟨_, rfl⟩
    rw [← hNe] at HO hL hN
    rw [← hNe]
    have HNe := hide hNe
    clear b1 own hLe hNe d0 d1 d2 d3
    go_wp2_with fail
    go_loopw [7, 20] (fun q i wr => ∃ (k : Nat) (u : Int), k ≤ N ∧ i = .int .i64 k ∧ q = .int .i64 u ∧ Hid (u = slackL (L.take k)) ∧ Hid (Below w2.heap.size w2 wr)) (fun _ i _ => N - (intOf i).toNat)
    case atStart => exact ⟨0, 1000, by omega, rfl, rfl, hide (by simp [slackL]), hide (Below.refl _ _)⟩
    case round =>
      obtain ⟨k, u, hk, rfl, rfl, hu, hb2⟩ := hrel
      by_cases hlt : k < N
      · obtain ⟨b, off, x, rfl, hb, hx, c0, c1, c2, c3, c4, c5, c6, c7⟩ := slt_at (HO.out.below hb2.out) hlt
        have NN := hide (show min u (x.du - cellI x.kd x.sz) = slackL (L.take (k + 1)) by rw [takeR hx, slackL_snoc, hu.out])
        have fx := HFL.out x (List.mem_of_getElem? hx)
        have fsz := hide fx.1
        have fb := slackL_bound (L.take k) (HFL.out.take k)
        rw [← hu.out] at fb
        obtain ⟨z, hz⟩ : ∃ z, z = cellI x.kd x.sz := ⟨_, rfl⟩
        rw [← hz] at NN fx
        have HZ := hide hz
        have HX := hide hx
        obtain ⟨fx1, fx2, fx3, fx4⟩ := fx
        obtain ⟨fb1, fb2⟩ := fb
        obtain ⟨W1, hW1⟩ : ∃ W1, W1 = wr.alloc (.cells #[.int .i64 x.md, .int .i64 x.rd, .int .i64 x.sl, .int .i64 x.nd, .int .i64 x.kd, .int .i64 x.sz, .int .i64 x.du, .bool x.ch] 61) := ⟨_, rfl⟩
        obtain ⟨G, hG⟩ : ∃ G, G = wr.heap.size := ⟨_, rfl⟩
        have F1 : At W1 G 61 #[.int .i64 x.md, .int .i64 x.rd, .int .i64 x.sl, .int .i64 x.nd, .int .i64 x.kd, .int .i64 x.sz, .int .i64 x.du, .bool x.ch] := by rw [hW1, hG]; exact At.fresh _ _ _
        have BW := hide (show Below w2.heap.size w2 W1 from below_trans hb2.out (by rw [hW1]; exact (Below.refl _ _).alloc (Nat.le_refl _) _))
        have g4 := F1.cell 4
        have g5 := F1.cell 5
        have g6 := F1.cell 6
        simp at g4 g5 g6
        have HW1 := hide hW1
        have HG := hide hG
        clear hx hz F1 hW1 hG
        go_wp2_with fail
        rw [← HW1.out, ← HG.out]
        refine wp_region_held_drew (S := (fun w' => w'.cell? ⟨G, 4, none⟩ = some (.int .i64 x.kd) ∧ w'.cell? ⟨G, 5, none⟩ = some (.int .i64 x.sz) ∧ w'.cell? ⟨G, 6, none⟩ = some (.int .i64 x.du))) (by kernel_rfl) ?_ (fun hHeld => ?_)
        · (try dsimp only)
          go_keep
        refine wpAnyH_take (i := 0) (v := ?va10) rfl (by kernel_rfl) (by kernel_rfl) (by kernel_rfl) (fun _ _ _ h => h) (Or.inl ⟨by rfl, ?hya10⟩) (by assumption) ?rest10
        case hya10 => (intro wz hSw; (try dsimp only at hSw); go_simp; all_goals with_reducible rfl)
        try simp only [List.getElem_toArray, List.getElem_cons_succ, List.getElem_cons_zero, Act.put, List.setIfInBounds_toArray, List.set_cons_zero, List.set_cons_succ]
        refine wpAnyH_take (i := 1) (v := ?va11) rfl (by kernel_rfl) (by kernel_rfl) (by kernel_rfl) (fun _ _ _ h => h) (Or.inl ⟨by rfl, ?hya11⟩) (by assumption) ?rest11
        case hya11 => (intro wz hSw; (try dsimp only at hSw); go_simp; all_goals with_reducible rfl)
        try simp only [List.getElem_toArray, List.getElem_cons_succ, List.getElem_cons_zero, Act.put, List.setIfInBounds_toArray, List.set_cons_zero, List.set_cons_succ]
        refine wpAnyH_take (i := 2) (v := ?va12) rfl (by kernel_rfl) (by kernel_rfl) (by kernel_rfl) (fun _ _ _ h => h) (Or.inl ⟨by rfl, ?hya12⟩) (by assumption) ?rest12
        case hya12 => (intro wz hSw; (try dsimp only at hSw); go_simp; all_goals with_reducible rfl)
        try simp only [List.getElem_toArray, List.getElem_cons_succ, List.getElem_cons_zero, Act.put, List.setIfInBounds_toArray, List.set_cons_zero, List.set_cons_succ]
        refine wpAnyH_take (i := 3) (v := ?va13) rfl (by kernel_rfl) (by kernel_rfl) (by kernel_rfl) (fun _ _ _ h => h) (Or.inl ⟨by rfl, ?hya13⟩) (by assumption) ?rest13
        case hya13 => (intro wz hSw; (try dsimp only at hSw); go_simp; all_goals with_reducible rfl)
        try simp only [List.getElem_toArray, List.getElem_cons_succ, List.getElem_cons_zero, Act.put, List.setIfInBounds_toArray, List.set_cons_zero, List.set_cons_succ]
        refine wpAnyH_take (i := 4) (v := ?va14) rfl (by kernel_rfl) (by kernel_rfl) (by kernel_rfl) (fun _ _ _ h => h) (Or.inl ⟨by rfl, ?hya14⟩) (by assumption) ?rest14
        case hya14 => (intro wz hSw; (try dsimp only at hSw); go_simp; all_goals with_reducible rfl)
        try simp only [List.getElem_toArray, List.getElem_cons_succ, List.getElem_cons_zero, Act.put, List.setIfInBounds_toArray, List.set_cons_zero, List.set_cons_succ]
        refine wpAnyH_take (i := 5) (v := ?va15) rfl (by kernel_rfl) (by kernel_rfl) (by kernel_rfl) (fun _ _ _ h => h) (Or.inl ⟨by rfl, ?hya15⟩) (by assumption) ?rest15
        case hya15 => (intro wz hSw; (try dsimp only at hSw); go_simp; all_goals with_reducible rfl)
        try simp only [List.getElem_toArray, List.getElem_cons_succ, List.getElem_cons_zero, Act.put, List.setIfInBounds_toArray, List.set_cons_zero, List.set_cons_succ]
        refine wpAnyH_take (i := 6) (v := ?va16) rfl (by kernel_rfl) (by kernel_rfl) (by kernel_rfl) (fun _ _ _ h => h) (Or.inl ⟨by rfl, ?hya16⟩) (by assumption) ?rest16
        case hya16 => (intro wz hSw; (try dsimp only at hSw); go_simp; all_goals with_reducible rfl)
        try simp only [List.getElem_toArray, List.getElem_cons_succ, List.getElem_cons_zero, Act.put, List.setIfInBounds_toArray, List.set_cons_zero, List.set_cons_succ]
        refine wpAnyH_take (i := 7) (v := ?va17) rfl (by kernel_rfl) (by kernel_rfl) (by kernel_rfl) (fun _ _ _ h => h) (Or.inl ⟨by rfl, ?hya17⟩) (by assumption) ?rest17
        case hya17 => (intro wz hSw; (try dsimp only at hSw); go_simp; all_goals with_reducible rfl)
        try simp only [List.getElem_toArray, List.getElem_cons_succ, List.getElem_cons_zero, Act.put, List.setIfInBounds_toArray, List.set_cons_zero, List.set_cons_succ]
        refine wpAnyH_take (i := 8) (v := ?va18) rfl (by kernel_rfl) (by kernel_rfl) (by kernel_rfl) (fun _ _ _ h => h) (Or.inl ⟨by rfl, ?hya18⟩) (by assumption) ?rest18
        case hya18 => (intro wz hSw; (try dsimp only at hSw); go_simp; all_goals with_reducible rfl)
        try simp only [List.getElem_toArray, List.getElem_cons_succ, List.getElem_cons_zero, Act.put, List.setIfInBounds_toArray, List.set_cons_zero, List.set_cons_succ]
        refine wpAnyH_take (i := 9) (v := ?va19) rfl (by kernel_rfl) (by kernel_rfl) (by kernel_rfl) (fun _ _ _ h => h) (Or.inl ⟨by rfl, ?hya19⟩) (by assumption) ?rest19
        case hya19 => (intro wz hSw; (try dsimp only at hSw); go_simp; all_goals with_reducible rfl)
        try simp only [List.getElem_toArray, List.getElem_cons_succ, List.getElem_cons_zero, Act.put, List.setIfInBounds_toArray, List.set_cons_zero, List.set_cons_succ]
        refine wpAnyH_ready (rs := [10]) (by kernel_rfl) (by simp) ?_
        refine AllReadyH.cons rfl (fun K hK => ?_) AllReadyH.nil
        go_simp
        (go_at_call 76; (with_reducible refine (icells_any _ _ _ fsz.out).mono ?_); rintro ee w3 ⟨rfl, rfl⟩; rw [← HZ.out])
        go_wp2_with fail
        refine hK.out _ _ ?_ (fun hHeld10 => ?_)
        · (try dsimp only)
          go_keep
        clear hK K
        try simp only [List.getElem_toArray, List.getElem_cons_succ, List.getElem_cons_zero, Act.put, List.setIfInBounds_toArray, List.set_cons_zero, List.set_cons_succ]
        refine wpAnyH_take (i := 11) (v := ?va20) rfl (by kernel_rfl) (by kernel_rfl) (by kernel_rfl) (fun _ _ _ h => h) (Or.inl ⟨by rfl, ?hya20⟩) (by assumption) ?rest20
        case hya20 => (intro wz hSw; (try dsimp only at hSw); go_simp; all_goals with_reducible rfl)
        try simp only [List.getElem_toArray, List.getElem_cons_succ, List.getElem_cons_zero, Act.put, List.setIfInBounds_toArray, List.set_cons_zero, List.set_cons_succ]
        refine wpAnyH_ready (rs := [12]) (by kernel_rfl) (by simp) ?_
        refine AllReadyH.cons rfl (fun K hK => ?_) AllReadyH.nil
        go_simp
        refine hK.out _ _ ?_ (fun hHeld12 => ?_)
        · (try dsimp only)
          go_keep
        clear hK K
        try simp only [List.getElem_toArray, List.getElem_cons_succ, List.getElem_cons_zero, Act.put, List.setIfInBounds_toArray, List.set_cons_zero, List.set_cons_succ]
        refine wpAnyH_take (i := 13) (v := ?va21) rfl (by kernel_rfl) (by kernel_rfl) (by kernel_rfl) (fun _ _ _ h => h) (Or.inl ⟨by rfl, ?hya21⟩) (by assumption) ?rest21
        case hya21 => (intro wz hSw; (try dsimp only at hSw); go_simp; all_goals with_reducible rfl)
        try simp only [List.getElem_toArray, List.getElem_cons_succ, List.getElem_cons_zero, Act.put, List.setIfInBounds_toArray, List.set_cons_zero, List.set_cons_succ]
        refine wpAnyH_done (by kernel_rfl) ?_ _
        have BX := hide (below_drewT BW.out)
        have tw : IntKind.i64.wrap (x.du - z) = x.du - z := IntWalk.i64_in _ ⟨by omega, by omega⟩
        go_wp2
        go_roundw
        case rel => exact ⟨k + 1, min u (x.du - z), by omega, by go_num, by rw [tw], NN, BX⟩
        case measure => simp [intOf]; omega
      · obtain rfl : k = N := by omega
        have E := hide (show u = slackL L by rw [hu.out, HNe.out, List.take_length])
        go_wp2
        go_ret2
        exact ⟨ret_pair (by rw [← HCZ.out, ← HLe.out]; exact E.out) HCZ.out, below_trans BA.out (below_trans B2.out hb2.out)⟩
  · have t1 : (cz == 0) = false := by simpa using hc0
    have HT1 := hide t1
    have E := hide (show (bif cz == 0 then slackL (modeL mode m.ss) else 0) = 0 by rw [t1]; rfl)
    clear hcz hc0
    go_wp2
    go_ret2
    exact ⟨ret_pair (by rw [← HCZ.out, HT1.out]; rfl) HCZ.out, below_trans BA.out B1.out⟩
set_option maxHeartbeats 6400000 in
theorem sSlackOf_any (v : Value) (m : Mdl) (mode : Int) (w : World) (h : RdM w v m) (hq : Nms m) :
    Calls Tryz.prog 35 #[v, .int .i64 mode] w (TwoOut (bif mcB m mode == 0 then slackL (modeL mode m.ss) else 0) (mcB m mode) w) := by
  have HM := hide h
  obtain ⟨A1, n1, c1, A2, n2, c2, A3, n3, q3, rfl, h1, h2, h3⟩ := h
  have hlen2 := hide h2.len
  have hlen := hide h3.len
  have hcap2 := h2.cap
  have hcap := h3.cap
  obtain ⟨W0, hW0⟩ : ∃ W0, W0 = w.alloc (.cells #[.int .i64 m.id, .slice A1 n1 c1, .slice A2 n2 c2, .slice A3 n3 q3] 28) := ⟨_, rfl⟩
  have F0 : At W0 w.heap.size 28 #[.int .i64 m.id, .slice A1 n1 c1, .slice A2 n2 c2, .slice A3 n3 q3] := by rw [hW0]; exact At.fresh _ _ _
  have BA := hide (show Below w.heap.size w W0 by rw [hW0]; exact (Below.refl _ _).alloc (Nat.le_refl _) _)
  have B0 := hide (Below.refl W0.heap.size W0)
  have H1 := hide (h1.below BA.out)
  have H2 := hide (h2.below BA.out)
  have H3 := hide (h3.below BA.out)
  have HM0 := hide (HM.out.below BA.out)
  have HF := hide F0
  have d0 := F0.cell 0
  have d1 := F0.cell 1
  have d2 := F0.cell 2
  have d3 := F0.cell 3
  simp at d0 d1 d2 d3
  have HW := hide hW0
  clear hW0 F0 h1 h2 h3 HM
  go_enter Tryz.func35, Tryz.ntmps35
  go_wp2_with fail
  rw [← HW.out]
  go_at_call 73
  (with_reducible refine (l13Mode_any _ m mode _ HM0.out hq).mono ?_)
  rintro ee w1 ⟨rfl, b1⟩
  clear d0 d1 d2 d3
  have B1 := hide (below_trans B0.out b1)
  clear b1
  obtain ⟨cz, hcz⟩ : ∃ cz, cz = mcB m mode := ⟨_, rfl⟩
  rw [← hcz]
  have HCZ := hide hcz
  by_cases hc0 : cz = 0
  · subst hc0
    have MB := hide (mcB_zero hcz.symm)
    have HFt := hide (fits_of (mdB_iff.1 MB.out.1).2.2.2.1)
    clear hcz
    go_wp2_with fail
    go_loopw [7, 8] (fun q i wr => ∃ (k : Nat) (u : Int), k ≤ n3 ∧ i = .int .i64 k ∧ q = .int .i64 u ∧ Hid (u = slackL (modeL mode (m.ss.take k))) ∧ Hid (Below W0.heap.size W0 wr)) (fun _ i _ => n3 - (intOf i).toNat)
    case atStart => exact ⟨0, 1000, by omega, rfl, rfl, hide (by simp [slackL, modeL]), B1⟩
    case round =>
      obtain ⟨k, u, hk, rfl, rfl, hu, hb2⟩ := hrel
      have F := HF.out.keep hb2.out
      have d3 := F.cell 3
      simp at d3
      clear F
      by_cases hlt : k < n3
      · obtain ⟨b, off, x, rfl, hb, hx, c0, c1, c2, c3, c4, c5, c6, c7⟩ := slt_at (H3.out.below hb2.out) hlt
        have HN := hide (show slackL (modeL mode (m.ss.take (k + 1))) = _ by rw [takeR hx, modeL_snoc])
        have fx := HFt.out x (List.mem_of_getElem? hx)
        have fsz := hide fx.1
        have fb := slackL_bound (modeL mode (m.ss.take k)) ((HFt.out.take k).modeL mode)
        rw [← hu.out] at fb
        obtain ⟨z, hz⟩ : ∃ z, z = cellI x.kd x.sz := ⟨_, rfl⟩
        rw [← hz] at fx
        have HZ := hide hz
        have HX := hide hx
        obtain ⟨fx1, fx2, fx3, fx4⟩ := fx
        obtain ⟨fb1, fb2⟩ := fb
        cases e : (x.md == mode)
        · have NN := hide (show u = slackL (modeL mode (m.ss.take (k + 1))) by rw [HN.out, e, if_neg (by simp), List.append_nil, hu.out])
          clear hx hz HN
          go_wp2
          go_roundw
          case rel => exact ⟨k + 1, u, by omega, by go_num, rfl, NN, hb2⟩
          case measure => simp [intOf]; omega
        · have NN := hide (show min u (x.du - z) = slackL (modeL mode (m.ss.take (k + 1))) by rw [HN.out, e, if_pos rfl, slackL_snoc, hu.out, HZ.out])
          obtain ⟨W1, hW1⟩ : ∃ W1, W1 = wr.alloc (.cells #[.int .i64 x.nd, .int .i64 x.kd, .int .i64 x.sz, .int .i64 x.du, .bool x.ch] 59) := ⟨_, rfl⟩
          obtain ⟨G, hG⟩ : ∃ G, G = wr.heap.size := ⟨_, rfl⟩
          have F1 : At W1 G 59 #[.int .i64 x.nd, .int .i64 x.kd, .int .i64 x.sz, .int .i64 x.du, .bool x.ch] := by rw [hW1, hG]; exact At.fresh _ _ _
          have BW := hide (show Below W0.heap.size W0 W1 from below_trans hb2.out (by rw [hW1]; exact (Below.refl _ _).alloc (Nat.le_refl _) _))
          have g1 := F1.cell 1
          have g2 := F1.cell 2
          have g3 := F1.cell 3
          simp at g1 g2 g3
          have HW1 := hide hW1
          have HG := hide hG
          clear hx hz HN F1 hW1 hG
          go_wp2_with fail
          rw [← HW1.out, ← HG.out]
          refine wp_region_held_drew (S := (fun w' => w'.cell? ⟨G, 1, none⟩ = some (.int .i64 x.kd) ∧ w'.cell? ⟨G, 2, none⟩ = some (.int .i64 x.sz) ∧ w'.cell? ⟨G, 3, none⟩ = some (.int .i64 x.du))) (by kernel_rfl) ?_ (fun hHeld => ?_)
          · (try dsimp only)
            go_keep
          refine wpAnyH_take (i := 0) (v := ?va1) rfl (by kernel_rfl) (by kernel_rfl) (by kernel_rfl) (fun _ _ _ h => h) (Or.inl ⟨by rfl, ?hya1⟩) (by assumption) ?rest1
          case hya1 => (intro wz hSw; (try dsimp only at hSw); go_simp; all_goals with_reducible rfl)
          try simp only [List.getElem_toArray, List.getElem_cons_succ, List.getElem_cons_zero, Act.put, List.setIfInBounds_toArray, List.set_cons_zero, List.set_cons_succ]
          refine wpAnyH_take (i := 1) (v := ?va2) rfl (by kernel_rfl) (by kernel_rfl) (by kernel_rfl) (fun _ _ _ h => h) (Or.inl ⟨by rfl, ?hya2⟩) (by assumption) ?rest2
          case hya2 => (intro wz hSw; (try dsimp only at hSw); go_simp; all_goals with_reducible rfl)
          try simp only [List.getElem_toArray, List.getElem_cons_succ, List.getElem_cons_zero, Act.put, List.setIfInBounds_toArray, List.set_cons_zero, List.set_cons_succ]
          refine wpAnyH_take (i := 2) (v := ?va3) rfl (by kernel_rfl) (by kernel_rfl) (by kernel_rfl) (fun _ _ _ h => h) (Or.inl ⟨by rfl, ?hya3⟩) (by assumption) ?rest3
          case hya3 => (intro wz hSw; (try dsimp only at hSw); go_simp; all_goals with_reducible rfl)
          try simp only [List.getElem_toArray, List.getElem_cons_succ, List.getElem_cons_zero, Act.put, List.setIfInBounds_toArray, List.set_cons_zero, List.set_cons_succ]
          refine wpAnyH_take (i := 3) (v := ?va4) rfl (by kernel_rfl) (by kernel_rfl) (by kernel_rfl) (fun _ _ _ h => h) (Or.inl ⟨by rfl, ?hya4⟩) (by assumption) ?rest4
          case hya4 => (intro wz hSw; (try dsimp only at hSw); go_simp; all_goals with_reducible rfl)
          try simp only [List.getElem_toArray, List.getElem_cons_succ, List.getElem_cons_zero, Act.put, List.setIfInBounds_toArray, List.set_cons_zero, List.set_cons_succ]
          refine wpAnyH_take (i := 4) (v := ?va5) rfl (by kernel_rfl) (by kernel_rfl) (by kernel_rfl) (fun _ _ _ h => h) (Or.inl ⟨by rfl, ?hya5⟩) (by assumption) ?rest5
          case hya5 => (intro wz hSw; (try dsimp only at hSw); go_simp; all_goals with_reducible rfl)
          try simp only [List.getElem_toArray, List.getElem_cons_succ, List.getElem_cons_zero, Act.put, List.setIfInBounds_toArray, List.set_cons_zero, List.set_cons_succ]
          refine wpAnyH_take (i := 5) (v := ?va6) rfl (by kernel_rfl) (by kernel_rfl) (by kernel_rfl) (fun _ _ _ h => h) (Or.inl ⟨by rfl, ?hya6⟩) (by assumption) ?rest6
          case hya6 => (intro wz hSw; (try dsimp only at hSw); go_simp; all_goals with_reducible rfl)
          try simp only [List.getElem_toArray, List.getElem_cons_succ, List.getElem_cons_zero, Act.put, List.setIfInBounds_toArray, List.set_cons_zero, List.set_cons_succ]
          refine wpAnyH_take (i := 6) (v := ?va7) rfl (by kernel_rfl) (by kernel_rfl) (by kernel_rfl) (fun _ _ _ h => h) (Or.inl ⟨by rfl, ?hya7⟩) (by assumption) ?rest7
          case hya7 => (intro wz hSw; (try dsimp only at hSw); go_simp; all_goals with_reducible rfl)
          try simp only [List.getElem_toArray, List.getElem_cons_succ, List.getElem_cons_zero, Act.put, List.setIfInBounds_toArray, List.set_cons_zero, List.set_cons_succ]
          refine wpAnyH_ready (rs := [7]) (by kernel_rfl) (by simp) ?_
          refine AllReadyH.cons rfl (fun K hK => ?_) AllReadyH.nil
          go_simp
          (go_at_call 74; (with_reducible refine (scells_any _ _ _ fsz.out).mono ?_); rintro ee w3 ⟨rfl, rfl⟩; rw [← HZ.out])
          go_wp2_with fail
          refine hK.out _ _ ?_ (fun hHeld7 => ?_)
          · (try dsimp only)
            go_keep
          clear hK K
          try simp only [List.getElem_toArray, List.getElem_cons_succ, List.getElem_cons_zero, Act.put, List.setIfInBounds_toArray, List.set_cons_zero, List.set_cons_succ]
          refine wpAnyH_take (i := 8) (v := ?va8) rfl (by kernel_rfl) (by kernel_rfl) (by kernel_rfl) (fun _ _ _ h => h) (Or.inl ⟨by rfl, ?hya8⟩) (by assumption) ?rest8
          case hya8 => (intro wz hSw; (try dsimp only at hSw); go_simp; all_goals with_reducible rfl)
          try simp only [List.getElem_toArray, List.getElem_cons_succ, List.getElem_cons_zero, Act.put, List.setIfInBounds_toArray, List.set_cons_zero, List.set_cons_succ]
          refine wpAnyH_ready (rs := [9]) (by kernel_rfl) (by simp) ?_
          refine AllReadyH.cons rfl (fun K hK => ?_) AllReadyH.nil
          go_simp
          refine hK.out _ _ ?_ (fun hHeld9 => ?_)
          · (try dsimp only)
            go_keep
          clear hK K
          try simp only [List.getElem_toArray, List.getElem_cons_succ, List.getElem_cons_zero, Act.put, List.setIfInBounds_toArray, List.set_cons_zero, List.set_cons_succ]
          refine wpAnyH_take (i := 10) (v := ?va9) rfl (by kernel_rfl) (by kernel_rfl) (by kernel_rfl) (fun _ _ _ h => h) (Or.inl ⟨by rfl, ?hya9⟩) (by assumption) ?rest9
          case hya9 => (intro wz hSw; (try dsimp only at hSw); go_simp; all_goals with_reducible rfl)
          try simp only [List.getElem_toArray, List.getElem_cons_succ, List.getElem_cons_zero, Act.put, List.setIfInBounds_toArray, List.set_cons_zero, List.set_cons_succ]
          refine wpAnyH_done (by kernel_rfl) ?_ _
          have BX := hide (below_drewT BW.out)
          have tw : IntKind.i64.wrap (x.du - z) = x.du - z := IntWalk.i64_in _ ⟨by omega, by omega⟩
          go_wp2
          go_roundw
          case rel => exact ⟨k + 1, min u (x.du - z), by omega, by go_num, by rw [tw], NN, BX⟩
          case measure => simp [intOf]; omega
      · obtain rfl : k = n3 := by omega
        have E := hide (show u = slackL (modeL mode m.ss) by rw [hu.out, ← hlen.out, List.take_length])
        go_wp2
        go_ret2
        exact ⟨ret_pair (by rw [← HCZ.out]; exact E.out) HCZ.out, below_trans BA.out hb2.out⟩
  · have t1 : (cz == 0) = false := by simpa using hc0
    have HT1 := hide t1
    have E := hide (show (bif cz == 0 then slackL (modeL mode m.ss) else 0) = 0 by rw [t1]; rfl)
    clear hcz hc0
    go_wp2
    go_ret2
    exact ⟨ret_pair (by rw [← HCZ.out, HT1.out]; rfl) HCZ.out, below_trans BA.out B1.out⟩
end Go.Proofs.YtdkhldebnpmiiaaGreatDoor
