/- Contracts: the gaps between a node's slots, by the program and by the reference. -/
import Derived.Test.YtdkhldebnpmiiaaGreatDoorZBkI
import Derived.Test.YtdkhldebnpmiiaaGreatDoorZSending
namespace Go.Proofs.YtdkhldebnpmiiaaGreatDoor
open Go.RowKit
set_option linter.unusedVariables false
set_option linter.unusedSimpArgs false
def SliOut (zs : List Int) (w : World) (e : Ending) (w' : World) : Prop := ∃ A' c', e = .returned (.slice A' zs.length c') ∧ Own w' w.heap.size A' zs.length c' zs ∧ Below w.heap.size w w'
def RowOut (zs : List Int) (z : Int) (w : World) (e : Ending) (w' : World) : Prop := ∃ A' c', e = .returned (.tuple #[.slice A' zs.length c', .int .i64 z]) ∧ Own w' w.heap.size A' zs.length c' zs ∧ Below w.heap.size w w'
def gapN (m : Mdl) (mode node : Int) : List Int := gapL (stL node (modeL mode m.ss)) (durs (modeL mode m.ss))
def gapV (m : Mdl) (mode node : Int) : List Int := bif scB m mode [node] == 0 then gapN m mode node else []
set_option maxHeartbeats 6400000 in
theorem l17Gaps_any (v : Value) (m : Mdl) (mode node : Int) (w : World) (h : RdM w v m) (hst : stB m.ss = true) :
    Calls Tryz.prog 60 #[v, .int .i64 mode, .int .i64 node] w (SliOut (gapN m mode node) w) := by
  have HM := hide h
  obtain ⟨A1, n1, c1, A2, n2, c2, A3, n3, q3, rfl, h1, h2, h3⟩ := h
  have hlen2 := hide h2.len
  have hlen := hide h3.len
  have hcap2 := h2.cap
  have hcap := h3.cap
  obtain ⟨W0, hW0⟩ : ∃ W0, W0 = w.alloc (.cells #[.int .i64 m.id, .slice A1 n1 c1, .slice A2 n2 c2, .slice A3 n3 q3] 28) := ⟨_, rfl⟩
  have F0 : At W0 w.heap.size 28 #[.int .i64 m.id, .slice A1 n1 c1, .slice A2 n2 c2, .slice A3 n3 q3] := by rw [hW0]; exact At.fresh _ _ _
  have BA := hide (show Below w.heap.size w W0 by rw [hW0]; exact (Below.refl _ _).alloc (Nat.le_refl _) _)
  have B0 := hide (Below.refl W0.heap.size W0)
  have H1 := hide (h1.below BA.out)
  have H2 := hide (h2.below BA.out)
  have H3 := hide (h3.below BA.out)
  have HM0 := hide (HM.out.below BA.out)
  have HF := hide F0
  have d0 := F0.cell 0
  have d1 := F0.cell 1
  have d2 := F0.cell 2
  have d3 := F0.cell 3
  simp at d0 d1 d2 d3
  have HW := hide hW0
  clear hW0 F0 h1 h2 h3 HM
  have HLn := hide (len_of hst)
  have HDu := hide (durs_of hst)
  go_enter Tryz.func60, Tryz.ntmps60
  go_wp2_with fail
  rw [← HW.out]
  go_at_call 54
  (with_reducible refine (l15Times_any _ m mode node _ HM0.out hst).mono ?_)
  rintro ee w1 ⟨As, cs, rfl, o1, b1⟩
  have B1 := hide b1
  obtain ⟨S, hS⟩ : ∃ S, S = stL node (modeL mode m.ss) := ⟨_, rfl⟩
  obtain ⟨C, hC⟩ : ∃ C, C = durs (modeL mode m.ss) := ⟨_, rfl⟩
  have HIC := hide (show InC S C by rw [hS, hC]; exact InC.of (HDu.out.modeL mode) (Nat.le_trans (modeL_len _ _) HLn.out))
  have hSN : S.length ≤ 120 := by rw [hS]; exact Nat.le_trans (stL_le _ _) (Nat.le_trans (modeL_len _ _) HLn.out)
  rw [← hS] at o1
  rw [← hS]
  have HS := hide hS
  have HC := hide hC
  obtain ⟨N, hN⟩ : ∃ N, N = S.length := ⟨_, rfl⟩
  rw [← hN] at o1 hSN
  rw [← hN]
  have HN := hide hN.symm
  have HR1 := hide o1.rd
  obtain ⟨H1, hH1⟩ : ∃ H1, H1 = w1.heap.size := ⟨_, rfl⟩
  have own0 := hide (show Own (w1.alloc (.cells #[] 2)) H1 (some ⟨w1.heap.size, 0, none⟩) 0 0 [] from Own.empty w1 (by rw [hH1]; exact Nat.le_refl _))
  have bel0 := hide (show Below w1.heap.size w1 (w1.alloc (.cells #[] 2)) from (Below.refl _ _).alloc (Nat.le_refl _) _)
  have HH1 := hide hH1
  clear hH1 o1 hS hC hN d0 d1 d2 d3
  go_wp2_with fail
  go_loopw [8, 9] (fun g i wr => ∃ (k : Nat) (A' : Option Addr) (c' : Nat), k ≤ N ∧ i = .int .i64 k ∧ g = .slice A' k c' ∧ Hid (Own wr H1 A' k c' (gapTo S C k)) ∧ Hid (Below w1.heap.size w1 wr)) (fun _ i _ => N - (intOf i).toNat)
  case atStart => exact ⟨0, _, _, by omega, rfl, rfl, own0, bel0⟩
  case round =>
    obtain ⟨k, A', c', hk, rfl, rfl, hown, hb2⟩ := hrel
    by_cases hlt : k < N
    · obtain ⟨b, off, rfl, hb, hc⟩ := (HR1.out.below hb2.out).at_ (by omega)
      have BW := hide (below_trans B1.out hb2.out)
      have HMD := hide (show RdM wr.drew _ m from (HM0.out.below BW.out).drewN 1)
      have F := HF.out.keep BW.out
      have hl0 := F.lt
      have d0 := F.cell 0
      have d1 := F.cell 1
      have d2 := F.cell 2
      have d3 := F.cell 3
      simp at d0 d1 d2 d3
      clear F
      have e0 := hc 0 (by omega)
      simp at e0
      have e1 := hc k hlt
      have e2' := fun (hq : k + 1 < N) => hc (k + 1) hq
      clear hc
      have y0b := HIC.out.nth 0
      have y1b := HIC.out.nth k
      have y2b := HIC.out.nth (k + 1)
      have cb := HIC.out.2
      have HGS := hide (gapTo_succ S C k)
      obtain ⟨y0, h0⟩ : ∃ y, y = nth S 0 := ⟨_, rfl⟩
      obtain ⟨y1, h1⟩ : ∃ y, y = nth S k := ⟨_, rfl⟩
      obtain ⟨y2, h2⟩ : ∃ y, y = nth S (k + 1) := ⟨_, rfl⟩
      rw [← h0] at e0 y0b
      rw [← h1] at e1 y1b
      rw [← h2] at y2b
      obtain ⟨y0l, y0h⟩ := y0b
      obtain ⟨y1l, y1h⟩ := y1b
      obtain ⟨y2l, y2h⟩ := y2b
      obtain ⟨cl, ch⟩ := cb
      have i0 : 0 < N := by omega
      have tw : IntKind.i64.wrap (y0 + C) = y0 + C := IntWalk.i64_in _ ⟨by omega, by omega⟩
      by_cases hlt2 : k + 1 < N
      · have HGG := hide (show gapTo S C (k + 1) = gapTo S C k ++ [y2 - y1] by rw [HGS.out, gapAt, if_pos (by rw [HN.out]; exact hlt2), h2, h1])
        have e2 := e2' hlt2
        rw [← h2] at e2
        clear HGS h0 h1 h2 e2'
        go_wp2_with fail
        refine wp_region_held_drew (S := (fun w' => w'.cell? ⟨w.heap.size, 0, none⟩ = some (.int .i64 m.id) ∧ w'.cell? ⟨w.heap.size, 1, none⟩ = some (.slice A1 n1 c1) ∧ w'.cell? ⟨w.heap.size, 2, none⟩ = some (.slice A2 n2 c2) ∧ w'.cell? ⟨w.heap.size, 3, none⟩ = some (.slice A3 n3 q3) ∧ w'.cell? ⟨b, off, none⟩ = some (.int .i64 y0))) (by kernel_rfl) ?_ (fun hHeld => ?_)
        · (try dsimp only)
          go_keep
        refine wpAnyH_take (i := 0) (v := ?va1) rfl (by kernel_rfl) (by kernel_rfl) (by kernel_rfl) (fun _ _ _ h => h) (Or.inl ⟨by rfl, ?hya1⟩) (by assumption) ?rest1
        case hya1 => (intro wz hSw; (try dsimp only at hSw); go_simp; all_goals with_reducible rfl)
        try simp only [List.getElem_toArray, List.getElem_cons_succ, List.getElem_cons_zero, Act.put, List.setIfInBounds_toArray, List.set_cons_zero, List.set_cons_succ]
        refine wpAnyH_take (i := 1) (v := ?va2) rfl (by kernel_rfl) (by kernel_rfl) (by kernel_rfl) (fun _ _ _ h => h) (Or.inl ⟨by rfl, ?hya2⟩) (by assumption) ?rest2
        case hya2 => (intro wz hSw; (try dsimp only at hSw); go_simp; all_goals with_reducible rfl)
        try simp only [List.getElem_toArray, List.getElem_cons_succ, List.getElem_cons_zero, Act.put, List.setIfInBounds_toArray, List.set_cons_zero, List.set_cons_succ]
        refine wpAnyH_take (i := 2) (v := ?va3) rfl (by kernel_rfl) (by kernel_rfl) (by kernel_rfl) (fun _ _ _ h => h) (Or.inl ⟨by rfl, ?hya3⟩) (by assumption) ?rest3
        case hya3 => (intro wz hSw; (try dsimp only at hSw); go_simp; all_goals with_reducible rfl)
        try simp only [List.getElem_toArray, List.getElem_cons_succ, List.getElem_cons_zero, Act.put, List.setIfInBounds_toArray, List.set_cons_zero, List.set_cons_succ]
        refine wpAnyH_take (i := 3) (v := ?va4) rfl (by kernel_rfl) (by kernel_rfl) (by kernel_rfl) (fun _ _ _ h => h) (Or.inl ⟨by rfl, ?hya4⟩) (by assumption) ?rest4
        case hya4 => (intro wz hSw; (try dsimp only at hSw); go_simp; all_goals with_reducible rfl)
        try simp only [List.getElem_toArray, List.getElem_cons_succ, List.getElem_cons_zero, Act.put, List.setIfInBounds_toArray, List.set_cons_zero, List.set_cons_succ]
        refine wpAnyH_take (i := 4) (v := ?va5) rfl (by kernel_rfl) (by kernel_rfl) (by kernel_rfl) (fun _ _ _ h => h) (Or.inl ⟨by rfl, ?hya5⟩) (by assumption) ?rest5
        case hya5 => (intro wz hSw; (try dsimp only at hSw); go_simp; all_goals with_reducible rfl)
        try simp only [List.getElem_toArray, List.getElem_cons_succ, List.getElem_cons_zero, Act.put, List.setIfInBounds_toArray, List.set_cons_zero, List.set_cons_succ]
        refine wpAnyH_ready (rs := [5]) (by kernel_rfl) (by simp) ?_
        refine AllReadyH.cons rfl (fun K hK => ?_) AllReadyH.nil
        go_simp
        (go_at_call 77; (with_reducible refine (l13Cycle_any _ m mode _ HMD.out HLn.out HDu.out).mono ?_); rintro ee w3 ⟨rfl, b3⟩; have b4 := below_drewS2 b3; have B3 := hide (below_trans hb2.out b4); have x0 := (b4.cell (p := ⟨w.heap.size, 0, none⟩) hl0).trans d0; have x1 := (b4.cell (p := ⟨w.heap.size, 1, none⟩) hl0).trans d1; have x2 := (b4.cell (p := ⟨w.heap.size, 2, none⟩) hl0).trans d2; have x3 := (b4.cell (p := ⟨w.heap.size, 3, none⟩) hl0).trans d3; have r0 := (b4.cell (p := ⟨b, off, none⟩) hb).trans e0; have r1 := (b4.cell (p := ⟨b, off + k, none⟩) hb).trans e1; have r2 := (b4.cell (p := ⟨b, off + (k + 1), none⟩) hb).trans e2; have HOW := hide (hown.out.below b4); rw [← HC.out]; clear b3 b4)
        go_wp2_with fail
        refine hK.out _ _ ?_ (fun hHeld5 => ?_)
        · (try dsimp only)
          go_keep
        clear hK K
        try simp only [List.getElem_toArray, List.getElem_cons_succ, List.getElem_cons_zero, Act.put, List.setIfInBounds_toArray, List.set_cons_zero, List.set_cons_succ]
        refine wpAnyH_take (i := 6) (v := ?va6) rfl (by kernel_rfl) (by kernel_rfl) (by kernel_rfl) (fun _ _ _ h => h) (Or.inl ⟨by rfl, ?hya6⟩) (by assumption) ?rest6
        case hya6 => (intro wz hSw; (try dsimp only at hSw); go_simp; all_goals with_reducible rfl)
        try simp only [List.getElem_toArray, List.getElem_cons_succ, List.getElem_cons_zero, Act.put, List.setIfInBounds_toArray, List.set_cons_zero, List.set_cons_succ]
        refine wpAnyH_take (i := 7) (v := ?va7) rfl (by kernel_rfl) (by kernel_rfl) (by kernel_rfl) (fun _ _ _ h => h) (Or.inl ⟨by rfl, ?hya7⟩) (by assumption) ?rest7
        case hya7 => (intro wz hSw; (try dsimp only at hSw); go_simp; all_goals with_reducible rfl)
        try simp only [List.getElem_toArray, List.getElem_cons_succ, List.getElem_cons_zero, Act.put, List.setIfInBounds_toArray, List.set_cons_zero, List.set_cons_succ]
        refine wpAnyH_done (by kernel_rfl) ?_ _
        have hsz : H1 ≤ w3.heap.size := by rw [HH1.out]; exact B3.out.size
        go_wp2_with (at_builtin; refine append_new rfl _ _ rfl H1 rfl HOW.out _ [y2 - y1] 1 rfl (I64.one (by omega) (by omega)) rfl rfl (by omega) hsz ?_; intro A4 c4 w4 own4 gr4)
        have hb4 := hide (below_mark B3.out HOW.out (by rw [HH1.out]; exact Nat.le_refl _) gr4)
        rw [← HGG.out] at own4
        go_roundw
        case rel => exact ⟨k + 1, A4, c4, by omega, by go_num, rfl, hide own4, hb4⟩
        case measure => simp [intOf]; omega
      · have HGG := hide (show gapTo S C (k + 1) = gapTo S C k ++ [y0 + C - y1] by rw [HGS.out, gapAt, if_neg (by rw [HN.out]; exact hlt2), h0, h1]; rw [Int.add_comm])
        clear HGS h0 h1 h2 e2'
        go_wp2_with fail
        refine wp_region_held_drew (S := (fun w' => w'.cell? ⟨w.heap.size, 0, none⟩ = some (.int .i64 m.id) ∧ w'.cell? ⟨w.heap.size, 1, none⟩ = some (.slice A1 n1 c1) ∧ w'.cell? ⟨w.heap.size, 2, none⟩ = some (.slice A2 n2 c2) ∧ w'.cell? ⟨w.heap.size, 3, none⟩ = some (.slice A3 n3 q3) ∧ w'.cell? ⟨b, off, none⟩ = some (.int .i64 y0))) (by kernel_rfl) ?_ (fun hHeld => ?_)
        · (try dsimp only)
          go_keep
        refine wpAnyH_take (i := 0) (v := ?va8) rfl (by kernel_rfl) (by kernel_rfl) (by kernel_rfl) (fun _ _ _ h => h) (Or.inl ⟨by rfl, ?hya8⟩) (by assumption) ?rest8
        case hya8 => (intro wz hSw; (try dsimp only at hSw); go_simp; all_goals with_reducible rfl)
        try simp only [List.getElem_toArray, List.getElem_cons_succ, List.getElem_cons_zero, Act.put, List.setIfInBounds_toArray, List.set_cons_zero, List.set_cons_succ]
        refine wpAnyH_take (i := 1) (v := ?va9) rfl (by kernel_rfl) (by kernel_rfl) (by kernel_rfl) (fun _ _ _ h => h) (Or.inl ⟨by rfl, ?hya9⟩) (by assumption) ?rest9
        case hya9 => (intro wz hSw; (try dsimp only at hSw); go_simp; all_goals with_reducible rfl)
        try simp only [List.getElem_toArray, List.getElem_cons_succ, List.getElem_cons_zero, Act.put, List.setIfInBounds_toArray, List.set_cons_zero, List.set_cons_succ]
        refine wpAnyH_take (i := 2) (v := ?va10) rfl (by kernel_rfl) (by kernel_rfl) (by kernel_rfl) (fun _ _ _ h => h) (Or.inl ⟨by rfl, ?hya10⟩) (by assumption) ?rest10
        case hya10 => (intro wz hSw; (try dsimp only at hSw); go_simp; all_goals with_reducible rfl)
        try simp only [List.getElem_toArray, List.getElem_cons_succ, List.getElem_cons_zero, Act.put, List.setIfInBounds_toArray, List.set_cons_zero, List.set_cons_succ]
        refine wpAnyH_take (i := 3) (v := ?va11) rfl (by kernel_rfl) (by kernel_rfl) (by kernel_rfl) (fun _ _ _ h => h) (Or.inl ⟨by rfl, ?hya11⟩) (by assumption) ?rest11
        case hya11 => (intro wz hSw; (try dsimp only at hSw); go_simp; all_goals with_reducible rfl)
        try simp only [List.getElem_toArray, List.getElem_cons_succ, List.getElem_cons_zero, Act.put, List.setIfInBounds_toArray, List.set_cons_zero, List.set_cons_succ]
        refine wpAnyH_take (i := 4) (v := ?va12) rfl (by kernel_rfl) (by kernel_rfl) (by kernel_rfl) (fun _ _ _ h => h) (Or.inl ⟨by rfl, ?hya12⟩) (by assumption) ?rest12
        case hya12 => (intro wz hSw; (try dsimp only at hSw); go_simp; all_goals with_reducible rfl)
        try simp only [List.getElem_toArray, List.getElem_cons_succ, List.getElem_cons_zero, Act.put, List.setIfInBounds_toArray, List.set_cons_zero, List.set_cons_succ]
        refine wpAnyH_ready (rs := [5]) (by kernel_rfl) (by simp) ?_
        refine AllReadyH.cons rfl (fun K hK => ?_) AllReadyH.nil
        go_simp
        (go_at_call 77; (with_reducible refine (l13Cycle_any _ m mode _ HMD.out HLn.out HDu.out).mono ?_); rintro ee w3 ⟨rfl, b3⟩; have b4 := below_drewS2 b3; have B3 := hide (below_trans hb2.out b4); have x0 := (b4.cell (p := ⟨w.heap.size, 0, none⟩) hl0).trans d0; have x1 := (b4.cell (p := ⟨w.heap.size, 1, none⟩) hl0).trans d1; have x2 := (b4.cell (p := ⟨w.heap.size, 2, none⟩) hl0).trans d2; have x3 := (b4.cell (p := ⟨w.heap.size, 3, none⟩) hl0).trans d3; have r0 := (b4.cell (p := ⟨b, off, none⟩) hb).trans e0; have r1 := (b4.cell (p := ⟨b, off + k, none⟩) hb).trans e1;  have HOW := hide (hown.out.below b4); rw [← HC.out]; clear b3 b4)
        go_wp2_with fail
        refine hK.out _ _ ?_ (fun hHeld5 => ?_)
        · (try dsimp only)
          go_keep
        clear hK K
        try simp only [List.getElem_toArray, List.getElem_cons_succ, List.getElem_cons_zero, Act.put, List.setIfInBounds_toArray, List.set_cons_zero, List.set_cons_succ]
        refine wpAnyH_take (i := 6) (v := ?va13) rfl (by kernel_rfl) (by kernel_rfl) (by kernel_rfl) (fun _ _ _ h => h) (Or.inl ⟨by rfl, ?hya13⟩) (by assumption) ?rest13
        case hya13 => (intro wz hSw; (try dsimp only at hSw); go_simp; all_goals with_reducible rfl)
        try simp only [List.getElem_toArray, List.getElem_cons_succ, List.getElem_cons_zero, Act.put, List.setIfInBounds_toArray, List.set_cons_zero, List.set_cons_succ]
        refine wpAnyH_take (i := 7) (v := ?va14) rfl (by kernel_rfl) (by kernel_rfl) (by kernel_rfl) (fun _ _ _ h => h) (Or.inl ⟨by rfl, ?hya14⟩) (by assumption) ?rest14
        case hya14 => (intro wz hSw; (try dsimp only at hSw); go_simp; all_goals with_reducible rfl)
        try simp only [List.getElem_toArray, List.getElem_cons_succ, List.getElem_cons_zero, Act.put, List.setIfInBounds_toArray, List.set_cons_zero, List.set_cons_succ]
        refine wpAnyH_done (by kernel_rfl) ?_ _
        have hsz : H1 ≤ w3.heap.size := by rw [HH1.out]; exact B3.out.size
        go_wp2_with (at_builtin; refine append_new rfl _ _ rfl H1 rfl HOW.out _ [y0 + C - y1] 1 rfl (I64.one (by omega) (by omega)) rfl rfl (by omega) hsz ?_; intro A4 c4 w4 own4 gr4)
        have hb4 := hide (below_mark B3.out HOW.out (by rw [HH1.out]; exact Nat.le_refl _) gr4)
        rw [← HGG.out] at own4
        go_roundw
        case rel => exact ⟨k + 1, A4, c4, by omega, by go_num, rfl, hide own4, hb4⟩
        case measure => simp [intOf]; omega
    · obtain rfl : k = N := by omega
      have E := hide (show gapN m mode node = gapTo S C k by rw [gapN, ← HS.out, ← HC.out, gapL, HN.out])
      have EL := hide (show (gapN m mode node).length = k by rw [E.out, gapTo_len])
      go_wp2
      go_ret
      exact ⟨A', c', by rw [EL.out]; rfl, by rw [EL.out, E.out]; exact hown.out.mono (by rw [HH1.out]; exact Nat.le_trans BA.out.size B1.out.size), below_trans BA.out (below_trans B1.out hb2.out)⟩
set_option maxHeartbeats 6400000 in
theorem iGapsOf_any (v : Value) (m : Mdl) (mode node : Int) (w : World) (h : RdM w v m) (hnode : I64 [node]) :
    Calls Tryz.prog 21 #[v, .int .i64 mode, .int .i64 node] w (RowOut (gapV m mode node) (scB m mode [node]) w) := by
  have HM := hide h
  obtain ⟨A1, n1, c1, A2, n2, c2, A3, n3, q3, rfl, h1, h2, h3⟩ := h
  have hlen2 := hide h2.len
  have hlen := hide h3.len
  have hcap2 := h2.cap
  have hcap := h3.cap
  obtain ⟨W0, hW0⟩ : ∃ W0, W0 = w.alloc (.cells #[.int .i64 m.id, .slice A1 n1 c1, .slice A2 n2 c2, .slice A3 n3 q3] 28) := ⟨_, rfl⟩
  have F0 : At W0 w.heap.size 28 #[.int .i64 m.id, .slice A1 n1 c1, .slice A2 n2 c2, .slice A3 n3 q3] := by rw [hW0]; exact At.fresh _ _ _
  have BA := hide (show Below w.heap.size w W0 by rw [hW0]; exact (Below.refl _ _).alloc (Nat.le_refl _) _)
  have B0 := hide (Below.refl W0.heap.size W0)
  have H1 := hide (h1.below BA.out)
  have H2 := hide (h2.below BA.out)
  have H3 := hide (h3.below BA.out)
  have HM0 := hide (HM.out.below BA.out)
  have HF := hide F0
  have d0 := F0.cell 0
  have d1 := F0.cell 1
  have d2 := F0.cell 2
  have d3 := F0.cell 3
  simp at d0 d1 d2 d3
  have HW := hide hW0
  clear hW0 F0 h1 h2 h3 HM
  obtain ⟨WL, hWL⟩ : ∃ WL, WL = W0.alloc (.cells #[.int .i64 node] 2) := ⟨_, rfl⟩
  have OL := hide (show Rd WL (some ⟨W0.heap.size, 0, none⟩) 1 1 [node] by rw [hWL]; exact (Own.lit W0 (Nat.le_refl _) #[.int .i64 node] [node] rfl hnode 1 rfl (by omega)).rd)
  have BL := hide (show Below W0.heap.size W0 WL by rw [hWL]; exact (Below.refl _ _).alloc (Nat.le_refl _) _)
  rw [show W0.heap.size = w.heap.size + 1 by rw [HW.out]; simp] at OL
  have HWL := hide hWL
  have HML := hide (HM0.out.below BL.out)
  clear hWL
  go_enter Tryz.func21, Tryz.ntmps21
  go_wp2_with fail
  rw [← HW.out, ← HWL.out]
  go_at_call 49
  (with_reducible refine (sendersCode_any _ m mode _ _ _ [node] _ HML.out OL.out).mono ?_)
  rintro ee w1 ⟨rfl, b1⟩
  clear d0 d1 d2 d3
  have B1 := hide (below_trans BL.out b1)
  have F := HF.out.keep B1.out
  have d0 := F.cell 0
  have d1 := F.cell 1
  have d2 := F.cell 2
  have d3 := F.cell 3
  simp at d0 d1 d2 d3
  clear F b1
  obtain ⟨cz, hcz⟩ : ∃ cz, cz = scB m mode [node] := ⟨_, rfl⟩
  rw [← hcz]
  have HCZ := hide hcz
  by_cases hc0 : cz = 0
  · subst hc0
    have MB := hide (scB_zero HCZ.out.symm)
    have HDu := hide (durs_of (mdB_iff.1 (mcB_zero MB.out).1).2.2.2.1)
    have HLn := hide (len_of (mdB_iff.1 (mcB_zero MB.out).1).2.2.2.1)
    clear hcz
    go_wp2_with fail
    go_at_call 51
    (with_reducible refine (sending_any _ m mode node _ (HM0.out.below B1.out) HLn.out HDu.out).mono ?_)
    rintro ee w2 ⟨As, cs, Ae, ce, rfl, o1, o2, b2⟩
    have B2 := hide (below_trans B1.out b2)
    clear o2 b2
    obtain ⟨S, hS⟩ : ∃ S, S = stL node (modeL mode m.ss) := ⟨_, rfl⟩
    obtain ⟨C, hC⟩ : ∃ C, C = durs (modeL mode m.ss) := ⟨_, rfl⟩
    have HIC := hide (show InC S C by rw [hS, hC]; exact InC.of (HDu.out.modeL mode) (Nat.le_trans (modeL_len _ _) HLn.out))
    have hSN : S.length ≤ 120 := by rw [hS]; exact Nat.le_trans (stL_le _ _) (Nat.le_trans (modeL_len _ _) HLn.out)
    rw [← hS] at o1
    rw [← hS]
    have HS := hide hS
    have HC := hide hC
    obtain ⟨N, hN⟩ : ∃ N, N = S.length := ⟨_, rfl⟩
    rw [← hN] at o1 hSN
    rw [← hN]
    have HN := hide hN.symm
    have HR1 := hide o1.rd
    obtain ⟨H1, hH1⟩ : ∃ H1, H1 = w2.heap.size := ⟨_, rfl⟩
    have own0 := hide (show Own (w2.alloc (.cells #[] 2)) H1 (some ⟨w2.heap.size, 0, none⟩) 0 0 [] from Own.empty w2 (by rw [hH1]; exact Nat.le_refl _))
    have bel0 := hide (show Below w2.heap.size w2 (w2.alloc (.cells #[] 2)) from (Below.refl _ _).alloc (Nat.le_refl _) _)
    have HH1 := hide hH1
    clear hH1 o1 hS hC hN d0 d1 d2 d3
    go_wp2_with fail
    go_loopw [11, 33] (fun g i wr => ∃ (k : Nat) (A' : Option Addr) (c' : Nat), k ≤ N ∧ i = .int .i64 k ∧ g = .slice A' k c' ∧ Hid (Own wr H1 A' k c' (gapTo S C k)) ∧ Hid (Below w2.heap.size w2 wr)) (fun _ i _ => N - (intOf i).toNat)
    case atStart => exact ⟨0, _, _, by omega, rfl, rfl, own0, bel0⟩
    case round =>
      obtain ⟨k, A', c', hk, rfl, rfl, hown, hb2⟩ := hrel
      by_cases hlt : k < N
      · obtain ⟨b, off, rfl, hb, hc⟩ := (HR1.out.below hb2.out).at_ (by omega)
        have BW := hide (below_trans B2.out hb2.out)
        have HMD := hide (show RdM wr.drew _ m from (HM0.out.below BW.out).drewN 1)
        have F := HF.out.keep BW.out
        have hl0 := F.lt
        have d0 := F.cell 0
        have d1 := F.cell 1
        have d2 := F.cell 2
        have d3 := F.cell 3
        simp at d0 d1 d2 d3
        clear F
        have e0 := hc 0 (by omega)
        simp at e0
        have e1 := hc k hlt
        have e2' := fun (hq : k + 1 < N) => hc (k + 1) hq
        clear hc
        have y0b := HIC.out.nth 0
        have y1b := HIC.out.nth k
        have y2b := HIC.out.nth (k + 1)
        have cb := HIC.out.2
        have HGS := hide (gapTo_succ S C k)
        obtain ⟨y0, h0⟩ : ∃ y, y = nth S 0 := ⟨_, rfl⟩
        obtain ⟨y1, h1⟩ : ∃ y, y = nth S k := ⟨_, rfl⟩
        obtain ⟨y2, h2⟩ : ∃ y, y = nth S (k + 1) := ⟨_, rfl⟩
        rw [← h0] at e0 y0b
        rw [← h1] at e1 y1b
        rw [← h2] at y2b
        obtain ⟨y0l, y0h⟩ := y0b
        obtain ⟨y1l, y1h⟩ := y1b
        obtain ⟨y2l, y2h⟩ := y2b
        obtain ⟨cl, ch⟩ := cb
        have i0 : 0 < N := by omega
        have tw : IntKind.i64.wrap (C + y0) = C + y0 := IntWalk.i64_in _ ⟨by omega, by omega⟩
        by_cases hlt2 : k + 1 < N
        · have HGG := hide (show gapTo S C (k + 1) = gapTo S C k ++ [y2 - y1] by rw [HGS.out, gapAt, if_pos (by rw [HN.out]; exact hlt2), h2, h1])
          have e2 := e2' hlt2
          rw [← h2] at e2
          clear HGS h0 h1 h2 e2'
          go_wp2_with fail
          refine wp_region_held_drew (S := (fun w' => w'.cell? ⟨w.heap.size, 0, none⟩ = some (.int .i64 m.id) ∧ w'.cell? ⟨w.heap.size, 1, none⟩ = some (.slice A1 n1 c1) ∧ w'.cell? ⟨w.heap.size, 2, none⟩ = some (.slice A2 n2 c2) ∧ w'.cell? ⟨w.heap.size, 3, none⟩ = some (.slice A3 n3 q3) ∧ w'.cell? ⟨b, off, none⟩ = some (.int .i64 y0))) (by kernel_rfl) ?_ (fun hHeld => ?_)
          · (try dsimp only)
            go_keep
          refine wpAnyH_take (i := 0) (v := ?va15) rfl (by kernel_rfl) (by kernel_rfl) (by kernel_rfl) (fun _ _ _ h => h) (Or.inl ⟨by rfl, ?hya15⟩) (by assumption) ?rest15
          case hya15 => (intro wz hSw; (try dsimp only at hSw); go_simp; all_goals with_reducible rfl)
          try simp only [List.getElem_toArray, List.getElem_cons_succ, List.getElem_cons_zero, Act.put, List.setIfInBounds_toArray, List.set_cons_zero, List.set_cons_succ]
          refine wpAnyH_take (i := 1) (v := ?va16) rfl (by kernel_rfl) (by kernel_rfl) (by kernel_rfl) (fun _ _ _ h => h) (Or.inl ⟨by rfl, ?hya16⟩) (by assumption) ?rest16
          case hya16 => (intro wz hSw; (try dsimp only at hSw); go_simp; all_goals with_reducible rfl)
          try simp only [List.getElem_toArray, List.getElem_cons_succ, List.getElem_cons_zero, Act.put, List.setIfInBounds_toArray, List.set_cons_zero, List.set_cons_succ]
          refine wpAnyH_take (i := 3) (v := ?va17) rfl (by kernel_rfl) (by kernel_rfl) (by kernel_rfl) (fun _ _ _ h => h) (Or.inl ⟨by rfl, ?hya17⟩) (by assumption) ?rest17
          case hya17 => (intro wz hSw; (try dsimp only at hSw); go_simp; all_goals with_reducible rfl)
          try simp only [List.getElem_toArray, List.getElem_cons_succ, List.getElem_cons_zero, Act.put, List.setIfInBounds_toArray, List.set_cons_zero, List.set_cons_succ]
          refine wpAnyH_take (i := 4) (v := ?va18) rfl (by kernel_rfl) (by kernel_rfl) (by kernel_rfl) (fun _ _ _ h => h) (Or.inl ⟨by rfl, ?hya18⟩) (by assumption) ?rest18
          case hya18 => (intro wz hSw; (try dsimp only at hSw); go_simp; all_goals with_reducible rfl)
          try simp only [List.getElem_toArray, List.getElem_cons_succ, List.getElem_cons_zero, Act.put, List.setIfInBounds_toArray, List.set_cons_zero, List.set_cons_succ]
          refine wpAnyH_take (i := 5) (v := ?va19) rfl (by kernel_rfl) (by kernel_rfl) (by kernel_rfl) (fun _ _ _ h => h) (Or.inl ⟨by rfl, ?hya19⟩) (by assumption) ?rest19
          case hya19 => (intro wz hSw; (try dsimp only at hSw); go_simp; all_goals with_reducible rfl)
          try simp only [List.getElem_toArray, List.getElem_cons_succ, List.getElem_cons_zero, Act.put, List.setIfInBounds_toArray, List.set_cons_zero, List.set_cons_succ]
          refine wpAnyH_ready (rs := [2]) (by kernel_rfl) (by simp) ?_
          refine AllReadyH.cons rfl (fun K hK => ?_) AllReadyH.nil
          go_simp
          (go_at_call 50; (with_reducible refine (cycleTime_any _ m mode _ HMD.out HLn.out HDu.out).mono ?_); rintro ee w3 ⟨rfl, b3⟩; have b4 := below_drewS2 b3; have B3 := hide (below_trans hb2.out b4); have x0 := (b4.cell (p := ⟨w.heap.size, 0, none⟩) hl0).trans d0; have x1 := (b4.cell (p := ⟨w.heap.size, 1, none⟩) hl0).trans d1; have x2 := (b4.cell (p := ⟨w.heap.size, 2, none⟩) hl0).trans d2; have x3 := (b4.cell (p := ⟨w.heap.size, 3, none⟩) hl0).trans d3; have r0 := (b4.cell (p := ⟨b, off, none⟩) hb).trans e0; have r1 := (b4.cell (p := ⟨b, off + k, none⟩) hb).trans e1; have r2 := (b4.cell (p := ⟨b, off + (k + 1), none⟩) hb).trans e2; have HOW := hide (hown.out.below b4); rw [← HC.out]; clear b3 b4)
          go_wp2_with fail
          refine hK.out _ _ ?_ (fun hHeld2 => ?_)
          · (try dsimp only)
            go_keep
          clear hK K
          try simp only [List.getElem_toArray, List.getElem_cons_succ, List.getElem_cons_zero, Act.put, List.setIfInBounds_toArray, List.set_cons_zero, List.set_cons_succ]
          refine wpAnyH_take (i := 6) (v := ?va20) rfl (by kernel_rfl) (by kernel_rfl) (by kernel_rfl) (fun _ _ _ h => h) (Or.inl ⟨by rfl, ?hya20⟩) (by assumption) ?rest20
          case hya20 => (intro wz hSw; (try dsimp only at hSw); go_simp; all_goals with_reducible rfl)
          try simp only [List.getElem_toArray, List.getElem_cons_succ, List.getElem_cons_zero, Act.put, List.setIfInBounds_toArray, List.set_cons_zero, List.set_cons_succ]
          refine wpAnyH_take (i := 7) (v := ?va21) rfl (by kernel_rfl) (by kernel_rfl) (by kernel_rfl) (fun _ _ _ h => h) (Or.inl ⟨by rfl, ?hya21⟩) (by assumption) ?rest21
          case hya21 => (intro wz hSw; (try dsimp only at hSw); go_simp; all_goals with_reducible rfl)
          try simp only [List.getElem_toArray, List.getElem_cons_succ, List.getElem_cons_zero, Act.put, List.setIfInBounds_toArray, List.set_cons_zero, List.set_cons_succ]
          refine wpAnyH_done (by kernel_rfl) ?_ _
          have hsz : H1 ≤ w3.heap.size := by rw [HH1.out]; exact B3.out.size
          go_wp2_with (at_builtin; refine append_new rfl _ _ rfl H1 rfl HOW.out _ [y2 - y1] 1 rfl (I64.one (by omega) (by omega)) rfl rfl (by omega) hsz ?_; intro A4 c4 w4 own4 gr4)
          have hb4 := hide (below_mark B3.out HOW.out (by rw [HH1.out]; exact Nat.le_refl _) gr4)
          rw [← HGG.out] at own4
          go_roundw
          case rel => exact ⟨k + 1, A4, c4, by omega, by go_num, rfl, hide own4, hb4⟩
          case measure => simp [intOf]; omega
        · have HGG := hide (show gapTo S C (k + 1) = gapTo S C k ++ [C + y0 - y1] by rw [HGS.out, gapAt, if_neg (by rw [HN.out]; exact hlt2), h0, h1])
          clear HGS h0 h1 h2 e2'
          go_wp2_with fail
          refine wp_region_held_drew (S := (fun w' => w'.cell? ⟨w.heap.size, 0, none⟩ = some (.int .i64 m.id) ∧ w'.cell? ⟨w.heap.size, 1, none⟩ = some (.slice A1 n1 c1) ∧ w'.cell? ⟨w.heap.size, 2, none⟩ = some (.slice A2 n2 c2) ∧ w'.cell? ⟨w.heap.size, 3, none⟩ = some (.slice A3 n3 q3) ∧ w'.cell? ⟨b, off, none⟩ = some (.int .i64 y0))) (by kernel_rfl) ?_ (fun hHeld => ?_)
          · (try dsimp only)
            go_keep
          refine wpAnyH_take (i := 0) (v := ?va22) rfl (by kernel_rfl) (by kernel_rfl) (by kernel_rfl) (fun _ _ _ h => h) (Or.inl ⟨by rfl, ?hya22⟩) (by assumption) ?rest22
          case hya22 => (intro wz hSw; (try dsimp only at hSw); go_simp; all_goals with_reducible rfl)
          try simp only [List.getElem_toArray, List.getElem_cons_succ, List.getElem_cons_zero, Act.put, List.setIfInBounds_toArray, List.set_cons_zero, List.set_cons_succ]
          refine wpAnyH_take (i := 1) (v := ?va23) rfl (by kernel_rfl) (by kernel_rfl) (by kernel_rfl) (fun _ _ _ h => h) (Or.inl ⟨by rfl, ?hya23⟩) (by assumption) ?rest23
          case hya23 => (intro wz hSw; (try dsimp only at hSw); go_simp; all_goals with_reducible rfl)
          try simp only [List.getElem_toArray, List.getElem_cons_succ, List.getElem_cons_zero, Act.put, List.setIfInBounds_toArray, List.set_cons_zero, List.set_cons_succ]
          refine wpAnyH_take (i := 3) (v := ?va24) rfl (by kernel_rfl) (by kernel_rfl) (by kernel_rfl) (fun _ _ _ h => h) (Or.inl ⟨by rfl, ?hya24⟩) (by assumption) ?rest24
          case hya24 => (intro wz hSw; (try dsimp only at hSw); go_simp; all_goals with_reducible rfl)
          try simp only [List.getElem_toArray, List.getElem_cons_succ, List.getElem_cons_zero, Act.put, List.setIfInBounds_toArray, List.set_cons_zero, List.set_cons_succ]
          refine wpAnyH_take (i := 4) (v := ?va25) rfl (by kernel_rfl) (by kernel_rfl) (by kernel_rfl) (fun _ _ _ h => h) (Or.inl ⟨by rfl, ?hya25⟩) (by assumption) ?rest25
          case hya25 => (intro wz hSw; (try dsimp only at hSw); go_simp; all_goals with_reducible rfl)
          try simp only [List.getElem_toArray, List.getElem_cons_succ, List.getElem_cons_zero, Act.put, List.setIfInBounds_toArray, List.set_cons_zero, List.set_cons_succ]
          refine wpAnyH_take (i := 5) (v := ?va26) rfl (by kernel_rfl) (by kernel_rfl) (by kernel_rfl) (fun _ _ _ h => h) (Or.inl ⟨by rfl, ?hya26⟩) (by assumption) ?rest26
          case hya26 => (intro wz hSw; (try dsimp only at hSw); go_simp; all_goals with_reducible rfl)
          try simp only [List.getElem_toArray, List.getElem_cons_succ, List.getElem_cons_zero, Act.put, List.setIfInBounds_toArray, List.set_cons_zero, List.set_cons_succ]
          refine wpAnyH_ready (rs := [2]) (by kernel_rfl) (by simp) ?_
          refine AllReadyH.cons rfl (fun K hK => ?_) AllReadyH.nil
          go_simp
          (go_at_call 50; (with_reducible refine (cycleTime_any _ m mode _ HMD.out HLn.out HDu.out).mono ?_); rintro ee w3 ⟨rfl, b3⟩; have b4 := below_drewS2 b3; have B3 := hide (below_trans hb2.out b4); have x0 := (b4.cell (p := ⟨w.heap.size, 0, none⟩) hl0).trans d0; have x1 := (b4.cell (p := ⟨w.heap.size, 1, none⟩) hl0).trans d1; have x2 := (b4.cell (p := ⟨w.heap.size, 2, none⟩) hl0).trans d2; have x3 := (b4.cell (p := ⟨w.heap.size, 3, none⟩) hl0).trans d3; have r0 := (b4.cell (p := ⟨b, off, none⟩) hb).trans e0; have r1 := (b4.cell (p := ⟨b, off + k, none⟩) hb).trans e1;  have HOW := hide (hown.out.below b4); rw [← HC.out]; clear b3 b4)
          go_wp2_with fail
          refine hK.out _ _ ?_ (fun hHeld2 => ?_)
          · (try dsimp only)
            go_keep
          clear hK K
          try simp only [List.getElem_toArray, List.getElem_cons_succ, List.getElem_cons_zero, Act.put, List.setIfInBounds_toArray, List.set_cons_zero, List.set_cons_succ]
          refine wpAnyH_take (i := 6) (v := ?va27) rfl (by kernel_rfl) (by kernel_rfl) (by kernel_rfl) (fun _ _ _ h => h) (Or.inl ⟨by rfl, ?hya27⟩) (by assumption) ?rest27
          case hya27 => (intro wz hSw; (try dsimp only at hSw); go_simp; all_goals with_reducible rfl)
          try simp only [List.getElem_toArray, List.getElem_cons_succ, List.getElem_cons_zero, Act.put, List.setIfInBounds_toArray, List.set_cons_zero, List.set_cons_succ]
          refine wpAnyH_take (i := 7) (v := ?va28) rfl (by kernel_rfl) (by kernel_rfl) (by kernel_rfl) (fun _ _ _ h => h) (Or.inl ⟨by rfl, ?hya28⟩) (by assumption) ?rest28
          case hya28 => (intro wz hSw; (try dsimp only at hSw); go_simp; all_goals with_reducible rfl)
          try simp only [List.getElem_toArray, List.getElem_cons_succ, List.getElem_cons_zero, Act.put, List.setIfInBounds_toArray, List.set_cons_zero, List.set_cons_succ]
          refine wpAnyH_done (by kernel_rfl) ?_ _
          have hsz : H1 ≤ w3.heap.size := by rw [HH1.out]; exact B3.out.size
          go_wp2_with (at_builtin; refine append_new rfl _ _ rfl H1 rfl HOW.out _ [C + y0 - y1] 1 rfl (I64.one (by omega) (by omega)) rfl rfl (by omega) hsz ?_; intro A4 c4 w4 own4 gr4)
          have hb4 := hide (below_mark B3.out HOW.out (by rw [HH1.out]; exact Nat.le_refl _) gr4)
          rw [← HGG.out] at own4
          go_roundw
          case rel => exact ⟨k + 1, A4, c4, by omega, by go_num, rfl, hide own4, hb4⟩
          case measure => simp [intOf]; omega
      · obtain rfl : k = N := by omega
        have E := hide (show gapV m mode node = gapTo S C k by rw [gapV, ← HCZ.out]; show gapN m mode node = _; rw [gapN, ← HS.out, ← HC.out, gapL, HN.out])
        have EL := hide (show (gapV m mode node).length = k by rw [E.out, gapTo_len])
        go_wp2
        go_ret2
        exact ⟨A', c', by rw [EL.out]; exact ret_sc HCZ.out, by rw [EL.out, E.out]; exact hown.out.mono (by rw [HH1.out]; exact Nat.le_trans BA.out.size B2.out.size), below_trans BA.out (below_trans B2.out hb2.out)⟩
  · have t1 : (cz == 0) = false := by simpa using hc0
    have HT1 := hide t1
    have E := hide (show gapV m mode node = [] by rw [gapV, ← HCZ.out, HT1.out]; rfl)
    clear hcz hc0
    go_wp2
    go_ret2
    exact ⟨none, 0, by rw [E.out]; exact ret_sc HCZ.out, by rw [E.out]; exact Own.nil _ _, below_trans BA.out B1.out⟩
set_option maxHeartbeats 6400000 in
theorem sGapsOf_any (v : Value) (m : Mdl) (mode node : Int) (w : World) (h : RdM w v m) (hq : Nms m) (hnode : I64 [node]) :
    Calls Tryz.prog 19 #[v, .int .i64 mode, .int .i64 node] w (RowOut (gapV m mode node) (scB m mode [node]) w) := by
  have HM := hide h
  obtain ⟨A1, n1, c1, A2, n2, c2, A3, n3, q3, rfl, h1, h2, h3⟩ := h
  have hlen2 := hide h2.len
  have hlen := hide h3.len
  have hcap2 := h2.cap
  have hcap := h3.cap
  obtain ⟨W0, hW0⟩ : ∃ W0, W0 = w.alloc (.cells #[.int .i64 m.id, .slice A1 n1 c1, .slice A2 n2 c2, .slice A3 n3 q3] 28) := ⟨_, rfl⟩
  have F0 : At W0 w.heap.size 28 #[.int .i64 m.id, .slice A1 n1 c1, .slice A2 n2 c2, .slice A3 n3 q3] := by rw [hW0]; exact At.fresh _ _ _
  have BA := hide (show Below w.heap.size w W0 by rw [hW0]; exact (Below.refl _ _).alloc (Nat.le_refl _) _)
  have B0 := hide (Below.refl W0.heap.size W0)
  have H1 := hide (h1.below BA.out)
  have H2 := hide (h2.below BA.out)
  have H3 := hide (h3.below BA.out)
  have HM0 := hide (HM.out.below BA.out)
  have HF := hide F0
  have d0 := F0.cell 0
  have d1 := F0.cell 1
  have d2 := F0.cell 2
  have d3 := F0.cell 3
  simp at d0 d1 d2 d3
  have HW := hide hW0
  clear hW0 F0 h1 h2 h3 HM
  obtain ⟨WL, hWL⟩ : ∃ WL, WL = W0.alloc (.cells #[.int .i64 node] 2) := ⟨_, rfl⟩
  have OL := hide (show Rd WL (some ⟨W0.heap.size, 0, none⟩) 1 1 [node] by rw [hWL]; exact (Own.lit W0 (Nat.le_refl _) #[.int .i64 node] [node] rfl hnode 1 rfl (by omega)).rd)
  have BL := hide (show Below W0.heap.size W0 WL by rw [hWL]; exact (Below.refl _ _).alloc (Nat.le_refl _) _)
  rw [show W0.heap.size = w.heap.size + 1 by rw [HW.out]; simp] at OL
  have HWL := hide hWL
  have HML := hide (HM0.out.below BL.out)
  clear hWL
  go_enter Tryz.func19, Tryz.ntmps19
  go_wp2_with fail
  rw [← HW.out, ← HWL.out]
  go_at_call 53
  (with_reducible refine (l17Code_any _ m mode _ _ _ [node] _ HML.out hq OL.out).mono ?_)
  rintro ee w1 ⟨rfl, b1⟩
  clear d0 d1 d2 d3
  have B1 := hide (below_trans BL.out b1)
  have F := HF.out.keep B1.out
  have d0 := F.cell 0
  have d1 := F.cell 1
  have d2 := F.cell 2
  have d3 := F.cell 3
  simp at d0 d1 d2 d3
  clear F b1
  obtain ⟨cz, hcz⟩ : ∃ cz, cz = scB m mode [node] := ⟨_, rfl⟩
  rw [← hcz]
  have HCZ := hide hcz
  by_cases hc0 : cz = 0
  · subst hc0
    have MB := hide (scB_zero HCZ.out.symm)
    have HLn := hide (len_of (mdB_iff.1 (mcB_zero MB.out).1).2.2.2.1)
    clear hcz
    go_wp2_with fail
    go_at_call 60
    (with_reducible refine (l17Gaps_any _ m mode node _ (HM0.out.below B1.out) (mdB_iff.1 (mcB_zero MB.out).1).2.2.2.1).mono ?_)
    rintro ee w2 ⟨As, cs, rfl, o1, b2⟩
    have E := hide (show gapV m mode node = gapN m mode node by rw [gapV, ← HCZ.out]; rfl)
    have B2 := hide (below_trans B1.out b2)
    have O1 := hide (o1.mono (Nat.le_trans BA.out.size B1.out.size))
    clear b2 o1
    go_wp2
    go_ret2
    exact ⟨As, cs, by rw [E.out]; exact ret_sc HCZ.out, by rw [E.out]; exact O1.out, below_trans BA.out B2.out⟩
  · have t1 : (cz == 0) = false := by simpa using hc0
    have HT1 := hide t1
    have E := hide (show gapV m mode node = [] by rw [gapV, ← HCZ.out, HT1.out]; rfl)
    clear hcz hc0
    go_wp2
    go_ret2
    exact ⟨none, 0, by rw [E.out]; exact ret_sc HCZ.out, by rw [E.out]; exact Own.nil _ _, below_trans BA.out B1.out⟩
end Go.Proofs.YtdkhldebnpmiiaaGreatDoor
