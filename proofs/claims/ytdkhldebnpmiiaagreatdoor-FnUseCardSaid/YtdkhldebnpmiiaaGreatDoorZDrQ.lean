/- Contracts of draws that hand on what others draw; the cells and the pause of a valid descriptor. -/
import Derived.Test.YtdkhldebnpmiiaaGreatDoorZDrO
namespace Go.Proofs.YtdkhldebnpmiiaaGreatDoor
open Go.RowKit
set_option linter.unusedVariables false
set_option linter.unusedSimpArgs false
set_option maxHeartbeats 3200000 in
theorem DrawGapsOf_d (A : Option Addr) (n c : Nat) (bs : List Int) (w : World) (h : Rd8 w A n c bs) (hn : n ≤ 4096) :
    Calls Tryz.prog 27 #[.slice A n c] w (OutM2 w) := by
  obtain ⟨W0, hW0⟩ : ∃ W0, W0 = w.alloc (.cells #[.int .i64 0, .slice none 0 0, .slice none 0 0, .slice none 0 0] 28) := ⟨_, rfl⟩
  obtain ⟨d0, hd0⟩ : ∃ d0, d0 = w.heap.size := ⟨_, rfl⟩
  have A0 := hide (show At W0 d0 28 _ by rw [hW0, hd0]; exact At.fresh _ _ _)
  have B0 := hide (show Below w.heap.size w W0 by rw [hW0]; exact (Below.refl _ _).alloc (Nat.le_refl _) _)
  have HW0 := hide hW0
  have HD0 := hide hd0
  have hcap := h.cap
  have R0 := hide (h.below B0.out)
  clear hW0 hd0 h
  go_enter Tryz.func27, Tryz.ntmps27
  go_wp2_with fail
  rw [← HW0.out, ← HD0.out]
  go_at_call 46
  refine (DrawSendTimes_d _ _ _ bs _ R0.out hn).mono ?_
  rintro e w1 ⟨v, m, mode, a, rfl, rdh, nok, ia, b1⟩
  have A1' := hide (A0.out.keep b1)
  have B1 := hide (below_trans B0.out b1)
  have RH := hide rdh
  have NK := hide nok
  have HDL := hide A0.out.lt
  have HWL := hide B0.out.size
  have HD0L := hide (show w.heap.size ≤ d0 by rw [HD0.out]; exact Nat.le_refl _)
  obtain ⟨A1, n1, c1, A2, n2, c2, A3, n3, q3, rfl, rr1, rr2, rr3⟩ := rdh
  clear rr1 rr2 rr3 b1 nok
  have z0 := A1'.out.cell 0
  have y0 := A1'.out.frozen 0
  have z1 := A1'.out.cell 1
  have y1 := A1'.out.frozen 1
  have z2 := A1'.out.cell 2
  have y2 := A1'.out.frozen 2
  have z3 := A1'.out.cell 3
  have y3 := A1'.out.frozen 3
  simp at z0 z1 z2 z3
  go_wp2
  have fin := (((A1'.out.set 0 (.int .i64 m.id)).set 1 (.slice A1 n1 c1)).set 2 (.slice A2 n2 c2)).set 3 (.slice A3 n3 q3)
  refine bodyPost_ret (results_M2 Tryz.results27 rfl fin) rfl ?_
  exact ⟨_, m, mode, _, rfl, (RH.out.set4 HDL.out _ _ _ _).mono HWL.out, NK.out, ia, below_set4 B1.out HD0L.out _ _ _ _⟩
set_option maxHeartbeats 3200000 in
theorem DrawPayloadOf_d (A : Option Addr) (n c : Nat) (bs : List Int) (w : World) (h : Rd8 w A n c bs) (hn : n ≤ 4096) :
    Calls Tryz.prog 42 #[.slice A n c] w (OutM2 w) := by
  obtain ⟨W0, hW0⟩ : ∃ W0, W0 = w.alloc (.cells #[.int .i64 0, .slice none 0 0, .slice none 0 0, .slice none 0 0] 28) := ⟨_, rfl⟩
  obtain ⟨d0, hd0⟩ : ∃ d0, d0 = w.heap.size := ⟨_, rfl⟩
  have A0 := hide (show At W0 d0 28 _ by rw [hW0, hd0]; exact At.fresh _ _ _)
  have B0 := hide (show Below w.heap.size w W0 by rw [hW0]; exact (Below.refl _ _).alloc (Nat.le_refl _) _)
  have HW0 := hide hW0
  have HD0 := hide hd0
  have hcap := h.cap
  have R0 := hide (h.below B0.out)
  clear hW0 hd0 h
  go_enter Tryz.func42, Tryz.ntmps42
  go_wp2_with fail
  rw [← HW0.out, ← HD0.out]
  go_at_call 46
  refine (DrawSendTimes_d _ _ _ bs _ R0.out hn).mono ?_
  rintro e w1 ⟨v, m, mode, a, rfl, rdh, nok, ia, b1⟩
  have A1' := hide (A0.out.keep b1)
  have B1 := hide (below_trans B0.out b1)
  have RH := hide rdh
  have NK := hide nok
  have HDL := hide A0.out.lt
  have HWL := hide B0.out.size
  have HD0L := hide (show w.heap.size ≤ d0 by rw [HD0.out]; exact Nat.le_refl _)
  obtain ⟨A1, n1, c1, A2, n2, c2, A3, n3, q3, rfl, rr1, rr2, rr3⟩ := rdh
  clear rr1 rr2 rr3 b1 nok
  have z0 := A1'.out.cell 0
  have y0 := A1'.out.frozen 0
  have z1 := A1'.out.cell 1
  have y1 := A1'.out.frozen 1
  have z2 := A1'.out.cell 2
  have y2 := A1'.out.frozen 2
  have z3 := A1'.out.cell 3
  have y3 := A1'.out.frozen 3
  simp at z0 z1 z2 z3
  go_wp2
  have fin := (((A1'.out.set 0 (.int .i64 m.id)).set 1 (.slice A1 n1 c1)).set 2 (.slice A2 n2 c2)).set 3 (.slice A3 n3 q3)
  refine bodyPost_ret (results_M2 Tryz.results42 rfl fin) rfl ?_
  exact ⟨_, m, mode, _, rfl, (RH.out.set4 HDL.out _ _ _ _).mono HWL.out, NK.out, ia, below_set4 B1.out HD0L.out _ _ _ _⟩
set_option maxHeartbeats 3200000 in
theorem DrawUseOf_d (A : Option Addr) (n c : Nat) (bs : List Int) (w : World) (h : Rd8 w A n c bs) (hn : n ≤ 4096) :
    Calls Tryz.prog 41 #[.slice A n c] w (OutM1 w) := by
  obtain ⟨W0, hW0⟩ : ∃ W0, W0 = w.alloc (.cells #[.int .i64 0, .slice none 0 0, .slice none 0 0, .slice none 0 0] 28) := ⟨_, rfl⟩
  obtain ⟨d0, hd0⟩ : ∃ d0, d0 = w.heap.size := ⟨_, rfl⟩
  have A0 := hide (show At W0 d0 28 _ by rw [hW0, hd0]; exact At.fresh _ _ _)
  have B0 := hide (show Below w.heap.size w W0 by rw [hW0]; exact (Below.refl _ _).alloc (Nat.le_refl _) _)
  have HW0 := hide hW0
  have HD0 := hide hd0
  have hcap := h.cap
  have R0 := hide (h.below B0.out)
  clear hW0 hd0 h
  go_enter Tryz.func41, Tryz.ntmps41
  go_wp2_with fail
  rw [← HW0.out, ← HD0.out]
  go_at_call 78
  refine (DrawCycleTime_d _ _ _ bs _ R0.out hn).mono ?_
  rintro e w1 ⟨v, m, mode, rfl, rdh, nok, b1⟩
  have A1' := hide (A0.out.keep b1)
  have B1 := hide (below_trans B0.out b1)
  have RH := hide rdh
  have NK := hide nok
  have HDL := hide A0.out.lt
  have HWL := hide B0.out.size
  have HD0L := hide (show w.heap.size ≤ d0 by rw [HD0.out]; exact Nat.le_refl _)
  obtain ⟨A1, n1, c1, A2, n2, c2, A3, n3, q3, rfl, rr1, rr2, rr3⟩ := rdh
  clear rr1 rr2 rr3 b1 nok
  have z0 := A1'.out.cell 0
  have y0 := A1'.out.frozen 0
  have z1 := A1'.out.cell 1
  have y1 := A1'.out.frozen 1
  have z2 := A1'.out.cell 2
  have y2 := A1'.out.frozen 2
  have z3 := A1'.out.cell 3
  have y3 := A1'.out.frozen 3
  simp at z0 z1 z2 z3
  go_wp2
  have fin := (((A1'.out.set 0 (.int .i64 m.id)).set 1 (.slice A1 n1 c1)).set 2 (.slice A2 n2 c2)).set 3 (.slice A3 n3 q3)
  refine bodyPost_ret (results_M1 Tryz.results41 rfl fin) rfl ?_
  exact ⟨_, m, mode, rfl, (RH.out.set4 HDL.out _ _ _ _).mono HWL.out, NK.out, below_set4 B1.out HD0L.out _ _ _ _⟩
set_option maxHeartbeats 1600000 in
theorem BodySize_ok (kd sz : Int) (w : World) (h1 : inB 0 3 kd = true) (h2 : szB kd sz = true) :
    Calls Tryz.prog 79 #[.int .i64 kd, .int .i64 sz] w (fun e w' => e = .returned (.tuple #[.int .i64 (bodyI kd sz), .int .i64 0]) ∧ w = w') := by
  have H1 := hide h1
  have H2 := hide h2
  have HZ := hide (szB_le h2)
  clear h1 h2
  go_enter Tryz.func79, Tryz.ntmps79
  go_wp2_with (first | (go_at_call 106; refine (ikind_any _ _).mono ?_; rintro e w2 ⟨rfl, rfl⟩; rw [H1.out]) | (go_at_call 107; refine (isize_any _ _ _).mono ?_; rintro e w2 ⟨rfl, rfl⟩; rw [H2.out]) | (go_at_call 105; (with_reducible refine (ibody_any _ _ _ HZ.out).mono ?_); rintro e w2 ⟨rfl, rfl⟩))
  go_ret2
  exact ⟨rfl, rfl⟩
set_option maxHeartbeats 1600000 in
theorem CellsNeeded_ok (kd sz : Int) (w : World) (h1 : inB 0 3 kd = true) (h2 : szB kd sz = true) :
    Calls Tryz.prog 43 #[.int .i64 kd, .int .i64 sz] w (fun e w' => e = .returned (.tuple #[.int .i64 (cellI kd sz), .int .i64 0]) ∧ w = w') := by
  have H1 := hide h1
  have H2 := hide h2
  have HZ := hide (szB_le h2)
  clear h1 h2
  go_enter Tryz.func43, Tryz.ntmps43
  go_wp2_with (first | (go_at_call 79; (with_reducible refine (BodySize_ok _ _ _ H1.out H2.out).mono ?_); rintro e w2 ⟨rfl, rfl⟩) | (go_at_call 76; (with_reducible refine (icells_any _ _ _ HZ.out).mono ?_); rintro e w2 ⟨rfl, rfl⟩))
  go_ret2
  exact ⟨rfl, rfl⟩
theorem descB_du {x : Slt} (h : descB x = true) : (0 ≤ x.sz ∧ x.sz ≤ 32) ∧ cellI x.kd x.sz + 20 ≤ x.du ∧ x.du ≤ 1000 := by
  simp only [descB, Bool.and_eq_true] at h
  exact ⟨szB_le h.2.2.1, inB_true h.2.2.2.2⟩
set_option maxHeartbeats 3200000 in
theorem PauseOf_ok (x : Slt) (w : World) (h : descB x = true) :
    Calls Tryz.prog 44 #[.agg #[.int .i64 x.nd, .int .i64 x.kd, .int .i64 x.sz, .int .i64 x.du, .bool x.ch]] w (TwoOut (x.du - cellI x.kd x.sz) 0 w) := by
  have HX := hide h
  have hb := descB_du h
  have fsz := hide hb.1
  have hc := cellI_le (kd := x.kd) hb.1
  obtain ⟨z, hz⟩ : ∃ z, z = cellI x.kd x.sz := ⟨_, rfl⟩
  rw [← hz] at hb hc
  rw [← hz]
  obtain ⟨hb0, hb1, hb2⟩ := hb
  obtain ⟨hc1, hc2⟩ := hc
  have HZ := hide hz
  obtain ⟨W1, hW1⟩ : ∃ W1, W1 = w.alloc (.cells #[.int .i64 x.nd, .int .i64 x.kd, .int .i64 x.sz, .int .i64 x.du, .bool x.ch] 59) := ⟨_, rfl⟩
  obtain ⟨G, hG⟩ : ∃ G, G = w.heap.size := ⟨_, rfl⟩
  have F1 := hide (show At W1 G 59 #[.int .i64 x.nd, .int .i64 x.kd, .int .i64 x.sz, .int .i64 x.du, .bool x.ch] by rw [hW1, hG]; exact At.fresh _ _ _)
  have BW := hide (show Below w.heap.size w W1 by rw [hW1]; exact (Below.refl _ _).alloc (Nat.le_refl _) _)
  have HW1 := hide hW1
  have HG := hide hG
  clear h hz hW1 hG hb0
  go_enter Tryz.func44, Tryz.ntmps44
  go_wp2_with fail
  rw [← HW1.out, ← HG.out]
  go_at_call 80
  refine (iIsDescriptor_any x _).mono ?_
  rintro ee w2 ⟨rfl, b2⟩
  rw [HX.out]
  have B2 := hide (below_trans BW.out b2)
  have F := F1.out.keep b2
  have g1 := F.cell 1
  have g2 := F.cell 2
  have g3 := F.cell 3
  simp at g1 g2 g3
  clear F b2
  go_wp2_with fail
  refine wp_region_held_drew (S := (fun w' => w'.cell? ⟨G, 1, none⟩ = some (.int .i64 x.kd) ∧ w'.cell? ⟨G, 2, none⟩ = some (.int .i64 x.sz) ∧ w'.cell? ⟨G, 3, none⟩ = some (.int .i64 x.du))) (by kernel_rfl) ?_ (fun hHeld => ?_)
  · (try dsimp only)
    go_keep
  refine wpAnyH_take (i := 0) (v := ?va1) rfl (by kernel_rfl) (by kernel_rfl) (by kernel_rfl) (fun _ _ _ h => h) (Or.inl ⟨by rfl, ?hya1⟩) (by assumption) ?rest1
  case hya1 => (intro wz hSw; (try dsimp only at hSw); go_simp; all_goals with_reducible rfl)
  try simp only [List.getElem_toArray, List.getElem_cons_succ, List.getElem_cons_zero, Act.put, List.setIfInBounds_toArray, List.set_cons_zero, List.set_cons_succ]
  refine wpAnyH_take (i := 1) (v := ?va2) rfl (by kernel_rfl) (by kernel_rfl) (by kernel_rfl) (fun _ _ _ h => h) (Or.inl ⟨by rfl, ?hya2⟩) (by assumption) ?rest2
  case hya2 => (intro wz hSw; (try dsimp only at hSw); go_simp; all_goals with_reducible rfl)
  try simp only [List.getElem_toArray, List.getElem_cons_succ, List.getElem_cons_zero, Act.put, List.setIfInBounds_toArray, List.set_cons_zero, List.set_cons_succ]
  refine wpAnyH_take (i := 2) (v := ?va3) rfl (by kernel_rfl) (by kernel_rfl) (by kernel_rfl) (fun _ _ _ h => h) (Or.inl ⟨by rfl, ?hya3⟩) (by assumption) ?rest3
  case hya3 => (intro wz hSw; (try dsimp only at hSw); go_simp; all_goals with_reducible rfl)
  try simp only [List.getElem_toArray, List.getElem_cons_succ, List.getElem_cons_zero, Act.put, List.setIfInBounds_toArray, List.set_cons_zero, List.set_cons_succ]
  refine wpAnyH_take (i := 3) (v := ?va4) rfl (by kernel_rfl) (by kernel_rfl) (by kernel_rfl) (fun _ _ _ h => h) (Or.inl ⟨by rfl, ?hya4⟩) (by assumption) ?rest4
  case hya4 => (intro wz hSw; (try dsimp only at hSw); go_simp; all_goals with_reducible rfl)
  try simp only [List.getElem_toArray, List.getElem_cons_succ, List.getElem_cons_zero, Act.put, List.setIfInBounds_toArray, List.set_cons_zero, List.set_cons_succ]
  refine wpAnyH_take (i := 4) (v := ?va5) rfl (by kernel_rfl) (by kernel_rfl) (by kernel_rfl) (fun _ _ _ h => h) (Or.inl ⟨by rfl, ?hya5⟩) (by assumption) ?rest5
  case hya5 => (intro wz hSw; (try dsimp only at hSw); go_simp; all_goals with_reducible rfl)
  try simp only [List.getElem_toArray, List.getElem_cons_succ, List.getElem_cons_zero, Act.put, List.setIfInBounds_toArray, List.set_cons_zero, List.set_cons_succ]
  refine wpAnyH_take (i := 5) (v := ?va6) rfl (by kernel_rfl) (by kernel_rfl) (by kernel_rfl) (fun _ _ _ h => h) (Or.inl ⟨by rfl, ?hya6⟩) (by assumption) ?rest6
  case hya6 => (intro wz hSw; (try dsimp only at hSw); go_simp; all_goals with_reducible rfl)
  try simp only [List.getElem_toArray, List.getElem_cons_succ, List.getElem_cons_zero, Act.put, List.setIfInBounds_toArray, List.set_cons_zero, List.set_cons_succ]
  refine wpAnyH_ready (rs := [6]) (by kernel_rfl) (by simp) ?_
  refine AllReadyH.cons rfl (fun K hK => ?_) AllReadyH.nil
  go_simp
  (go_at_call 76; (with_reducible refine (icells_any _ _ _ fsz.out).mono ?_); rintro ee w3 ⟨rfl, rfl⟩; rw [← HZ.out])
  go_wp2_with fail
  refine hK.out _ _ ?_ (fun hHeld6 => ?_)
  · (try dsimp only)
    go_keep
  clear hK K
  try simp only [List.getElem_toArray, List.getElem_cons_succ, List.getElem_cons_zero, Act.put, List.setIfInBounds_toArray, List.set_cons_zero, List.set_cons_succ]
  refine wpAnyH_take (i := 7) (v := ?va7) rfl (by kernel_rfl) (by kernel_rfl) (by kernel_rfl) (fun _ _ _ h => h) (Or.inl ⟨by rfl, ?hya7⟩) (by assumption) ?rest7
  case hya7 => (intro wz hSw; (try dsimp only at hSw); go_simp; all_goals with_reducible rfl)
  try simp only [List.getElem_toArray, List.getElem_cons_succ, List.getElem_cons_zero, Act.put, List.setIfInBounds_toArray, List.set_cons_zero, List.set_cons_succ]
  refine wpAnyH_take (i := 8) (v := ?va8) rfl (by kernel_rfl) (by kernel_rfl) (by kernel_rfl) (fun _ _ _ h => h) (Or.inl ⟨by rfl, ?hya8⟩) (by assumption) ?rest8
  case hya8 => (intro wz hSw; (try dsimp only at hSw); go_simp; all_goals with_reducible rfl)
  try simp only [List.getElem_toArray, List.getElem_cons_succ, List.getElem_cons_zero, Act.put, List.setIfInBounds_toArray, List.set_cons_zero, List.set_cons_succ]
  refine wpAnyH_take (i := 9) (v := ?va9) rfl (by kernel_rfl) (by kernel_rfl) (by kernel_rfl) (fun _ _ _ h => h) (Or.inl ⟨by rfl, ?hya9⟩) (by assumption) ?rest9
  case hya9 => (intro wz hSw; (try dsimp only at hSw); go_simp; all_goals with_reducible rfl)
  try simp only [List.getElem_toArray, List.getElem_cons_succ, List.getElem_cons_zero, Act.put, List.setIfInBounds_toArray, List.set_cons_zero, List.set_cons_succ]
  refine wpAnyH_done (by kernel_rfl) ?_ _
  have BX := hide (below_drewT B2.out)
  have tw : IntKind.i64.wrap (x.du - z) = x.du - z := IntWalk.i64_in _ ⟨by omega, by omega⟩
  go_wp2
  go_ret2
  exact ⟨ret_pair (by first | rfl | exact tw) rfl, BX.out⟩
end Go.Proofs.YtdkhldebnpmiiaaGreatDoor
