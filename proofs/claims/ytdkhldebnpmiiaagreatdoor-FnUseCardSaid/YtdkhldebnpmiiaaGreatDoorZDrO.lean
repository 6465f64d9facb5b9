/- Contracts of draws: a schedule with a mode, with a node. -/
import Derived.Test.YtdkhldebnpmiiaaGreatDoorZDrL2
import Derived.Test.YtdkhldebnpmiiaaGreatDoorZLaw0
namespace Go.Proofs.YtdkhldebnpmiiaaGreatDoor
open Go.RowKit
set_option linter.unusedVariables false
set_option linter.unusedSimpArgs false
theorem NsOk.nms {m : Mdl} (h : NsOk m.ns) : Nms m := fun x hx => Nat.le_trans (h.nm x hx) (by omega)
theorem RdH.row1 {w : World} {B : Nat} {i : Value} {A1 A2 A3 : Option Addr} {n1 c1 n2 c2 n3 c3 : Nat} {m : Mdl} (h : RdH w B (.agg #[i, .slice A1 n1 c1, .slice A2 n2 c2, .slice A3 n3 c3]) m) : RdR Nod.v 4 w A1 n1 c1 m.ns ∧ HiA B A1 n1 := by
  obtain ⟨_, _, _, _, _, _, _, _, _, hv, h1, _⟩ := h
  simp at hv
  obtain ⟨_, ⟨rfl, rfl, rfl⟩, _⟩ := hv
  exact h1
theorem RdH.set4 {w : World} {B d : Nat} {v : Value} {m : Mdl} (h : RdH w B v m) (hd : d < B) (u0 u1 u2 u3 : Value) : RdH ((((w.setCell ⟨d, 0, none⟩ u0).setCell ⟨d, 1, none⟩ u1).setCell ⟨d, 2, none⟩ u2).setCell ⟨d, 3, none⟩ u3) B v m :=
  (((h.setLow hd 0 u0).setLow hd 1 u1).setLow hd 2 u2).setLow hd 3 u3
theorem below_set4 {w w' : World} {d : Nat} (h : Below w.heap.size w w') (hd : w.heap.size ≤ d) (u0 u1 u2 u3 : Value) : Below w.heap.size w ((((w'.setCell ⟨d, 0, none⟩ u0).setCell ⟨d, 1, none⟩ u1).setCell ⟨d, 2, none⟩ u2).setCell ⟨d, 3, none⟩ u3) :=
  (((h.setCell (p := ⟨d, 0, none⟩) hd u0).setCell (p := ⟨d, 1, none⟩) hd u1).setCell (p := ⟨d, 2, none⟩) hd u2).setCell (p := ⟨d, 3, none⟩) hd u3
def OutM1 (w : World) (e : Ending) (w' : World) : Prop := ∃ (v : Value) (m : Mdl) (mode : Int), e = .returned (.tuple #[v, .int .i64 mode]) ∧ RdH w' w.heap.size v m ∧ NsOk m.ns ∧ Below w.heap.size w w'
def OutM2 (w : World) (e : Ending) (w' : World) : Prop := ∃ (v : Value) (m : Mdl) (mode a : Int), e = .returned (.tuple #[v, .int .i64 mode, .int .i64 a]) ∧ RdH w' w.heap.size v m ∧ NsOk m.ns ∧ (-1 ≤ a ∧ a ≤ 1000) ∧ Below w.heap.size w w'
def OutM3 (w : World) (e : Ending) (w' : World) : Prop := ∃ (v : Value) (m : Mdl) (mode a b : Int), e = .returned (.tuple #[v, .int .i64 mode, .int .i64 a, .int .i64 b]) ∧ RdH w' w.heap.size v m ∧ NsOk m.ns ∧ (-1 ≤ a ∧ a ≤ 1000) ∧ (-1 ≤ b ∧ b ≤ 1000) ∧ Below w.heap.size w w'
set_option maxHeartbeats 6400000 in
theorem DrawCycleTime_d (A : Option Addr) (n c : Nat) (bs : List Int) (w : World) (h : Rd8 w A n c bs) (hn : n ≤ 4096) :
    Calls Tryz.prog 78 #[.slice A n c] w (OutM1 w) := by
  obtain ⟨W0, hW0⟩ : ∃ W0, W0 = w.alloc (.cells #[.int .i64 0, .slice none 0 0, .slice none 0 0, .slice none 0 0] 28) := ⟨_, rfl⟩
  obtain ⟨d0, hd0⟩ : ∃ d0, d0 = w.heap.size := ⟨_, rfl⟩
  have A0 := hide (show At W0 d0 28 _ by rw [hW0, hd0]; exact At.fresh _ _ _)
  have B0 := hide (show Below w.heap.size w W0 by rw [hW0]; exact (Below.refl _ _).alloc (Nat.le_refl _) _)
  have HW0 := hide hW0
  have HD0 := hide hd0
  have hcap := h.cap
  have R0 := hide (h.below B0.out)
  clear hW0 hd0 h
  go_enter Tryz.func78, Tryz.ntmps78
  go_wp2_with fail
  rw [← HW0.out, ← HD0.out]
  go_at_call 45
  refine (from_d _ _ _ bs _ R0.out hn).mono ?_
  rintro e w1 ⟨g, rfl, g0, s1, b1⟩
  have B1 := hide (below_trans B0.out b1)
  have A1' := hide (A0.out.keep b1)
  have S1 := hide s1
  have HG := hide (show w.heap.size ≤ g from Nat.le_trans B0.out.size g0)
  clear s1 b1 g0
  go_wp2_with fail
  go_at_call 81
  refine (l13DrawAny_d _ _ _ _ _ _ S1.out).mono ?_
  rintro e w2 ⟨vv, m, rfl, rdh, nok, s2, g2⟩
  have B2 := hide (below_src B1.out g2 HG.out)
  have A2' := hide (A1'.out.next S1.out (by decide) g2)
  have S2 := hide s2
  have NK := hide nok
  have HGL := hide (show g < w1.heap.size from S1.out.lt)
  have RH := hide rdh
  obtain ⟨A1, n1, c1, A2, n2, c2, A3, n3, q3, rfl, rr1, rr2, rr3⟩ := rdh
  have hc1 := rr1.1.cap
  have hc2 := rr2.rd.cap
  obtain ⟨W3, hW3⟩ : ∃ W3, W3 = w2.alloc (.cells #[.int .i64 m.id, .slice A1 n1 c1, .slice A2 n2 c2, .slice A3 n3 q3] 28) := ⟨_, rfl⟩
  obtain ⟨d1, hd1⟩ : ∃ d1, d1 = w2.heap.size := ⟨_, rfl⟩
  have hd01 : d0 ≠ d1 := by have := A2'.out.lt; omega
  have E3 := hide (show At W3 d1 28 #[.int .i64 m.id, .slice A1 n1 c1, .slice A2 n2 c2, .slice A3 n3 q3] by rw [hW3, hd1]; exact At.fresh _ _ _)
  have A3' := hide (show At W3 d0 28 _ by rw [hW3]; exact A2'.out.alloc _)
  have S3 := hide (show Sd W3 g A n c bs by rw [hW3]; exact S2.out.below ((Below.refl _ _).alloc (Nat.le_refl _) _))
  have B3 := hide (show Below w.heap.size w W3 by rw [hW3]; exact B2.out.alloc B2.out.size _)
  have H3 := hide (show RdH W3 w1.heap.size _ m by rw [hW3]; exact RH.out.below ((Below.refl _ _).alloc (Nat.le_refl _) _))
  have HW3 := hide hW3
  have HD1 := hide hd1
  clear s2 g2 nok hW3 hd1 rr1 rr2 rr3 RH
  have HDL := hide A1'.out.lt
  have HWL := hide B1.out.size
  have HD0L := hide (show w.heap.size ≤ d0 by rw [HD0.out]; exact Nat.le_refl _)
  have e0 := E3.out.cell 0; have z0 := A3'.out.cell 0; have y0 := A3'.out.frozen 0; have e1 := E3.out.cell 1; have z1 := A3'.out.cell 1; have y1 := A3'.out.frozen 1; have e2 := E3.out.cell 2; have z2 := A3'.out.cell 2; have y2 := A3'.out.frozen 2; have e3 := E3.out.cell 3; have z3 := A3'.out.cell 3; have y3 := A3'.out.frozen 3; simp at e0 e1 e2 e3 z0 z1 z2 z3
  have SD := hide (show Sd W3.drew g A n c bs from S3.out.below (Below.refl _ _).drew)
  go_wp2_with fail
  rw [← HW3.out, ← HD1.out]
  refine wp_region_held_drew (S := (fun w' => w'.cell? ⟨d1, 0, none⟩ = some (.int .i64 m.id) ∧ w'.cell? ⟨d1, 1, none⟩ = some (.slice A1 n1 c1) ∧ w'.cell? ⟨d1, 2, none⟩ = some (.slice A2 n2 c2) ∧ w'.cell? ⟨d1, 3, none⟩ = some (.slice A3 n3 q3))) (by kernel_rfl) ?_ (fun hHeld => ?_)
  · (try dsimp only)
    go_keep
  refine wpAnyH_take (i := 0) (v := ?va1) rfl (by kernel_rfl) (by kernel_rfl) (by kernel_rfl) (fun _ _ _ h => h) (Or.inl ⟨by rfl, ?hya1⟩) (by assumption) ?rest1
  case hya1 => (intro wz hSw; (try dsimp only at hSw); go_simp; all_goals with_reducible rfl)
  try simp only [List.getElem_toArray, List.getElem_cons_succ, List.getElem_cons_zero, Act.put, List.setIfInBounds_toArray, List.set_cons_zero, List.set_cons_succ]
  refine wpAnyH_take (i := 1) (v := ?va2) rfl (by kernel_rfl) (by kernel_rfl) (by kernel_rfl) (fun _ _ _ h => h) (Or.inl ⟨by rfl, ?hya2⟩) (by assumption) ?rest2
  case hya2 => (intro wz hSw; (try dsimp only at hSw); go_simp; all_goals with_reducible rfl)
  try simp only [List.getElem_toArray, List.getElem_cons_succ, List.getElem_cons_zero, Act.put, List.setIfInBounds_toArray, List.set_cons_zero, List.set_cons_succ]
  refine wpAnyH_take (i := 2) (v := ?va3) rfl (by kernel_rfl) (by kernel_rfl) (by kernel_rfl) (fun _ _ _ h => h) (Or.inl ⟨by rfl, ?hya3⟩) (by assumption) ?rest3
  case hya3 => (intro wz hSw; (try dsimp only at hSw); go_simp; all_goals with_reducible rfl)
  try simp only [List.getElem_toArray, List.getElem_cons_succ, List.getElem_cons_zero, Act.put, List.setIfInBounds_toArray, List.set_cons_zero, List.set_cons_succ]
  refine wpAnyH_take (i := 3) (v := ?va4) rfl (by kernel_rfl) (by kernel_rfl) (by kernel_rfl) (fun _ _ _ h => h) (Or.inl ⟨by rfl, ?hya4⟩) (by assumption) ?rest4
  case hya4 => (intro wz hSw; (try dsimp only at hSw); go_simp; all_goals with_reducible rfl)
  try simp only [List.getElem_toArray, List.getElem_cons_succ, List.getElem_cons_zero, Act.put, List.setIfInBounds_toArray, List.set_cons_zero, List.set_cons_succ]
  refine wpAnyH_ready (rs := [4]) (by kernel_rfl) (by simp) ?_
  refine AllReadyH.cons rfl (fun K hK => ?_) AllReadyH.nil
  go_simp
  (go_at_call 82; refine (l11DrawMode_d _ _ _ _ _ _ _ _ _ SD.out hc2).mono ?_; rintro e w4 ⟨mode, rfl, s4, g4⟩; have g5 : W3.grownBy w4 (some g) := ⟨g4.os, g4.tape, g4.output, g4.size, g4.block⟩; have E4 := hide (E3.out.next S3.out (by decide) g5); have A4 := hide (A3'.out.next S3.out (by decide) g5); have B4 := hide (below_src B3.out g5 HG.out); have H4 := hide (H3.out.far g5 HGL.out); have S4 := hide (s4); clear e0 e1 e2 e3 z0 z1 z2 z3 y0 y1 y2 y3; have e0 := E4.out.cell 0; have z0 := A4.out.cell 0; have y0 := A4.out.frozen 0; have e1 := E4.out.cell 1; have z1 := A4.out.cell 1; have y1 := A4.out.frozen 1; have e2 := E4.out.cell 2; have z2 := A4.out.cell 2; have y2 := A4.out.frozen 2; have e3 := E4.out.cell 3; have z3 := A4.out.cell 3; have y3 := A4.out.frozen 3; simp at e0 e1 e2 e3 z0 z1 z2 z3)
  go_wp2_with fail
  refine hK.out _ _ ?_ (fun hHeld4 => ?_)
  · (try dsimp only)
    go_keep
  clear hK K
  try simp only [List.getElem_toArray, List.getElem_cons_succ, List.getElem_cons_zero, Act.put, List.setIfInBounds_toArray, List.set_cons_zero, List.set_cons_succ]
  refine wpAnyH_ready (rs := [5]) (by kernel_rfl) (by simp) ?_
  refine AllReadyH.cons rfl (fun K hK => ?_) AllReadyH.nil
  go_simp
  refine hK.out _ _ ?_ (fun hHeld5 => ?_)
  · (try dsimp only)
    go_keep
  clear hK K
  try simp only [List.getElem_toArray, List.getElem_cons_succ, List.getElem_cons_zero, Act.put, List.setIfInBounds_toArray, List.set_cons_zero, List.set_cons_succ]
  refine wpAnyH_take (i := 6) (v := ?va5) rfl (by kernel_rfl) (by kernel_rfl) (by kernel_rfl) (fun _ _ _ h => h) (Or.inl ⟨by rfl, ?hya5⟩) (by assumption) ?rest5
  case hya5 => (intro wz hSw; (try dsimp only at hSw); go_simp; all_goals with_reducible rfl)
  try simp only [List.getElem_toArray, List.getElem_cons_succ, List.getElem_cons_zero, Act.put, List.setIfInBounds_toArray, List.set_cons_zero, List.set_cons_succ]
  refine wpAnyH_done (by kernel_rfl) ?_ _
  go_wp2
  have fin := (((A4.out.set 0 (.int .i64 m.id)).set 1 (.slice A1 n1 c1)).set 2 (.slice A2 n2 c2)).set 3 (.slice A3 n3 q3)
  refine bodyPost_ret (results_M1 Tryz.results78 rfl fin) rfl ?_
  exact ⟨_, m, mode, rfl, (H4.out.set4 HDL.out _ _ _ _).mono HWL.out, NK.out, below_set4 B4.out HD0L.out _ _ _ _⟩
set_option maxHeartbeats 6400000 in
theorem DrawSendTimes_d (A : Option Addr) (n c : Nat) (bs : List Int) (w : World) (h : Rd8 w A n c bs) (hn : n ≤ 4096) :
    Calls Tryz.prog 46 #[.slice A n c] w (OutM2 w) := by
  obtain ⟨W0, hW0⟩ : ∃ W0, W0 = w.alloc (.cells #[.int .i64 0, .slice none 0 0, .slice none 0 0, .slice none 0 0] 28) := ⟨_, rfl⟩
  obtain ⟨d0, hd0⟩ : ∃ d0, d0 = w.heap.size := ⟨_, rfl⟩
  have A0 := hide (show At W0 d0 28 _ by rw [hW0, hd0]; exact At.fresh _ _ _)
  have B0 := hide (show Below w.heap.size w W0 by rw [hW0]; exact (Below.refl _ _).alloc (Nat.le_refl _) _)
  have HW0 := hide hW0
  have HD0 := hide hd0
  have hcap := h.cap
  have R0 := hide (h.below B0.out)
  clear hW0 hd0 h
  go_enter Tryz.func46, Tryz.ntmps46
  go_wp2_with fail
  rw [← HW0.out, ← HD0.out]
  go_at_call 45
  refine (from_d _ _ _ bs _ R0.out hn).mono ?_
  rintro e w1 ⟨g, rfl, g0, s1, b1⟩
  have B1 := hide (below_trans B0.out b1)
  have A1' := hide (A0.out.keep b1)
  have S1 := hide s1
  have HG := hide (show w.heap.size ≤ g from Nat.le_trans B0.out.size g0)
  clear s1 b1 g0
  go_wp2_with fail
  go_at_call 81
  refine (l13DrawAny_d _ _ _ _ _ _ S1.out).mono ?_
  rintro e w2 ⟨vv, m, rfl, rdh, nok, s2, g2⟩
  have B2 := hide (below_src B1.out g2 HG.out)
  have A2' := hide (A1'.out.next S1.out (by decide) g2)
  have S2 := hide s2
  have NK := hide nok
  have HGL := hide (show g < w1.heap.size from S1.out.lt)
  have RH := hide rdh
  obtain ⟨A1, n1, c1, A2, n2, c2, A3, n3, q3, rfl, rr1, rr2, rr3⟩ := rdh
  have hc1 := rr1.1.cap
  have hc2 := rr2.rd.cap
  obtain ⟨W3, hW3⟩ : ∃ W3, W3 = w2.alloc (.cells #[.int .i64 m.id, .slice A1 n1 c1, .slice A2 n2 c2, .slice A3 n3 q3] 28) := ⟨_, rfl⟩
  obtain ⟨d1, hd1⟩ : ∃ d1, d1 = w2.heap.size := ⟨_, rfl⟩
  have hd01 : d0 ≠ d1 := by have := A2'.out.lt; omega
  have E3 := hide (show At W3 d1 28 #[.int .i64 m.id, .slice A1 n1 c1, .slice A2 n2 c2, .slice A3 n3 q3] by rw [hW3, hd1]; exact At.fresh _ _ _)
  have A3' := hide (show At W3 d0 28 _ by rw [hW3]; exact A2'.out.alloc _)
  have S3 := hide (show Sd W3 g A n c bs by rw [hW3]; exact S2.out.below ((Below.refl _ _).alloc (Nat.le_refl _) _))
  have B3 := hide (show Below w.heap.size w W3 by rw [hW3]; exact B2.out.alloc B2.out.size _)
  have H3 := hide (show RdH W3 w1.heap.size _ m by rw [hW3]; exact RH.out.below ((Below.refl _ _).alloc (Nat.le_refl _) _))
  have HW3 := hide hW3
  have HD1 := hide hd1
  clear s2 g2 nok hW3 hd1 rr1 rr2 rr3 RH
  have HDL := hide A1'.out.lt
  have HWL := hide B1.out.size
  have HD0L := hide (show w.heap.size ≤ d0 by rw [HD0.out]; exact Nat.le_refl _)
  have e0 := E3.out.cell 0; have z0 := A3'.out.cell 0; have y0 := A3'.out.frozen 0; have e1 := E3.out.cell 1; have z1 := A3'.out.cell 1; have y1 := A3'.out.frozen 1; have e2 := E3.out.cell 2; have z2 := A3'.out.cell 2; have y2 := A3'.out.frozen 2; have e3 := E3.out.cell 3; have z3 := A3'.out.cell 3; have y3 := A3'.out.frozen 3; simp at e0 e1 e2 e3 z0 z1 z2 z3
  go_wp2_with fail
  rw [← HW3.out, ← HD1.out]
  go_at_call 82
  refine (l11DrawMode_d _ _ _ _ _ _ _ _ _ S3.out hc2).mono ?_
  rintro e w4 ⟨mode, rfl, s4, g4⟩
  have E4 := hide (E3.out.next S3.out (by decide) g4)
  have A4 := hide (A3'.out.next S3.out (by decide) g4)
  have B4 := hide (below_src B3.out g4 HG.out)
  have H4 := hide (H3.out.far g4 HGL.out)
  have S4 := hide (s4)
  clear e0 e1 e2 e3 z0 z1 z2 z3 y0 y1 y2 y3
  have e0 := E4.out.cell 0
  have z0 := A4.out.cell 0
  have y0 := A4.out.frozen 0
  have e1 := E4.out.cell 1
  have z1 := A4.out.cell 1
  have y1 := A4.out.frozen 1
  have e2 := E4.out.cell 2
  have z2 := A4.out.cell 2
  have y2 := A4.out.frozen 2
  have e3 := E4.out.cell 3
  have z3 := A4.out.cell 3
  have y3 := A4.out.frozen 3
  simp at e0 e1 e2 e3 z0 z1 z2 z3
  by_cases hn1 : 0 < n1
  · go_wp2_with fail
    refine (next_d _ _ _ _ _ _ _ S4.out).mono ?_
    rintro e w6 ⟨r, rfl, r0, r1, s6, g6⟩
    have E6 := hide (E4.out.next S4.out (by decide) g6)
    have A6 := hide (A4.out.next S4.out (by decide) g6)
    have B6 := hide (below_src B4.out g6 HG.out)
    have H6 := hide (H4.out.far g6 HGL.out)
    have S6 := hide (s6)
    clear e0 e1 e2 e3 z0 z1 z2 z3 y0 y1 y2 y3 r1
    have e0 := E6.out.cell 0
    have z0 := A6.out.cell 0
    have y0 := A6.out.frozen 0
    have e1 := E6.out.cell 1
    have z1 := A6.out.cell 1
    have y1 := A6.out.frozen 1
    have e2 := E6.out.cell 2
    have z2 := A6.out.cell 2
    have y2 := A6.out.frozen 2
    have e3 := E6.out.cell 3
    have z3 := A6.out.cell 3
    have y3 := A6.out.frozen 3
    simp at e0 e1 e2 e3 z0 z1 z2 z3
    by_cases hr : 0 < r
    · obtain ⟨b0, off0, x0, hA0, _⟩ := nod_at (i := 0) H6.out.row1.1 hn1
      subst hA0
      have SD := hide (show Sd w6.drew g A n c bs from S6.out.below (Below.refl _ _).drew)
      go_wp2_with fail
      refine wp_region_held_drew (S := (fun w' => w'.cell? ⟨d1, 0, none⟩ = some (.int .i64 m.id) ∧ w'.cell? ⟨d1, 1, none⟩ = some (.slice (some ⟨b0, off0, none⟩) n1 c1) ∧ w'.cell? ⟨d1, 2, none⟩ = some (.slice A2 n2 c2) ∧ w'.cell? ⟨d1, 3, none⟩ = some (.slice A3 n3 q3) ∧ RdH w' w1.heap.size (.agg #[.int .i64 m.id, .slice (some ⟨b0, off0, none⟩) n1 c1, .slice A2 n2 c2, .slice A3 n3 q3]) m)) (by kernel_rfl) ?_ (fun hHeld => ?_)
      · (try dsimp only)
        exact ⟨e0, e1, e2, e3, H6.out.below (Below.refl _ _).drew⟩
      refine wpAnyH_take (i := 0) (v := ?va6) rfl (by kernel_rfl) (by kernel_rfl) (by kernel_rfl) (fun _ _ _ h => h) (Or.inl ⟨by rfl, ?hya6⟩) (by assumption) ?rest6
      case hya6 => (intro wz hSw; (try dsimp only at hSw); go_simp; all_goals with_reducible rfl)
      try simp only [List.getElem_toArray, List.getElem_cons_succ, List.getElem_cons_zero, Act.put, List.setIfInBounds_toArray, List.set_cons_zero, List.set_cons_succ]
      refine wpAnyH_take (i := 1) (v := ?va7) rfl (by kernel_rfl) (by kernel_rfl) (by kernel_rfl) (fun _ _ _ h => h) (Or.inl ⟨by rfl, ?hya7⟩) (by assumption) ?rest7
      case hya7 => (intro wz hSw; (try dsimp only at hSw); go_simp; all_goals with_reducible rfl)
      try simp only [List.getElem_toArray, List.getElem_cons_succ, List.getElem_cons_zero, Act.put, List.setIfInBounds_toArray, List.set_cons_zero, List.set_cons_succ]
      refine wpAnyH_take (i := 2) (v := ?va8) rfl (by kernel_rfl) (by kernel_rfl) (by kernel_rfl) (fun _ _ _ h => h) (Or.inl ⟨by rfl, ?hya8⟩) (by assumption) ?rest8
      case hya8 => (intro wz hSw; (try dsimp only at hSw); go_simp; all_goals with_reducible rfl)
      try simp only [List.getElem_toArray, List.getElem_cons_succ, List.getElem_cons_zero, Act.put, List.setIfInBounds_toArray, List.set_cons_zero, List.set_cons_succ]
      refine wpAnyH_take (i := 3) (v := ?va9) rfl (by kernel_rfl) (by kernel_rfl) (by kernel_rfl) (fun _ _ _ h => h) (Or.inl ⟨by rfl, ?hya9⟩) (by assumption) ?rest9
      case hya9 => (intro wz hSw; (try dsimp only at hSw); go_simp; all_goals with_reducible rfl)
      try simp only [List.getElem_toArray, List.getElem_cons_succ, List.getElem_cons_zero, Act.put, List.setIfInBounds_toArray, List.set_cons_zero, List.set_cons_succ]
      refine wpAnyH_take (i := 4) (v := ?va10) rfl (by kernel_rfl) (by kernel_rfl) (by kernel_rfl) (fun _ _ _ h => h) (Or.inl ⟨by rfl, ?hya10⟩) (by assumption) ?rest10
      case hya10 => (intro wz hSw; (try dsimp only at hSw); go_simp; all_goals with_reducible rfl)
      try simp only [List.getElem_toArray, List.getElem_cons_succ, List.getElem_cons_zero, Act.put, List.setIfInBounds_toArray, List.set_cons_zero, List.set_cons_succ]
      refine wpAnyH_take (i := 5) (v := ?va11) rfl (by kernel_rfl) (by kernel_rfl) (by kernel_rfl) (fun _ _ _ h => h) (Or.inl ⟨by rfl, ?hya11⟩) (by assumption) ?rest11
      case hya11 => (intro wz hSw; (try dsimp only at hSw); go_simp; all_goals with_reducible rfl)
      try simp only [List.getElem_toArray, List.getElem_cons_succ, List.getElem_cons_zero, Act.put, List.setIfInBounds_toArray, List.set_cons_zero, List.set_cons_succ]
      refine wpAnyH_take (i := 6) (v := ?va12) rfl (by kernel_rfl) (by kernel_rfl) (by kernel_rfl) (fun _ _ _ h => h) (Or.inl ⟨by rfl, ?hya12⟩) (by assumption) ?rest12
      case hya12 => (intro wz hSw; (try dsimp only at hSw); go_simp; all_goals with_reducible rfl)
      try simp only [List.getElem_toArray, List.getElem_cons_succ, List.getElem_cons_zero, Act.put, List.setIfInBounds_toArray, List.set_cons_zero, List.set_cons_succ]
      refine wpAnyH_take (i := 7) (v := ?va13) rfl (by kernel_rfl) (by kernel_rfl) (by kernel_rfl) (fun _ _ _ h => h) (Or.inl ⟨by rfl, ?hya13⟩) (by assumption) ?rest13
      case hya13 => (intro wz hSw; (try dsimp only at hSw); go_simp; all_goals with_reducible rfl)
      try simp only [List.getElem_toArray, List.getElem_cons_succ, List.getElem_cons_zero, Act.put, List.setIfInBounds_toArray, List.set_cons_zero, List.set_cons_succ]
      refine wpAnyH_ready (rs := [8]) (by kernel_rfl) (by simp) ?_
      refine AllReadyH.cons rfl (fun K hK => ?_) AllReadyH.nil
      go_simp
      (refine (next_d _ _ _ _ _ _ _ SD.out).mono ?_; rintro e w9 ⟨q, rfl, q0, q1, s9, g9⟩; have q2 := q1 (by omega); obtain ⟨q, rfl⟩ := Int.eq_ofNat_of_zero_le q0; have hq : q < n1 := (by omega); have g10 : w6.grownBy w9 (some g) := ⟨g9.os, g9.tape, g9.output, g9.size, g9.block⟩; have E9 := hide (E6.out.next S6.out (by decide) g10); have A9 := hide (A6.out.next S6.out (by decide) g10); have B9 := hide (below_src B6.out g10 HG.out); have H9 := hide (H6.out.far g10 HGL.out); have S9 := hide (s9); clear e0 e1 e2 e3 z0 z1 z2 z3 y0 y1 y2 y3; have e0 := E9.out.cell 0; have z0 := A9.out.cell 0; have y0 := A9.out.frozen 0; have e1 := E9.out.cell 1; have z1 := A9.out.cell 1; have y1 := A9.out.frozen 1; have e2 := E9.out.cell 2; have z2 := A9.out.cell 2; have y2 := A9.out.frozen 2; have e3 := E9.out.cell 3; have z3 := A9.out.cell 3; have y3 := A9.out.frozen 3; simp at e0 e1 e2 e3 z0 z1 z2 z3; obtain ⟨b1, off1, x, hA1, _, hx, cx, _⟩ := nod_at H9.out.row1.1 hq; cases hA1; have XI := NK.out.id x (List.mem_of_getElem? hx))
      go_wp2_with fail
      refine hK.out _ _ ?_ (fun hHeldc => ?_)
      · (try dsimp only)
        exact ⟨e0, e1, e2, e3, H9.out⟩
      clear hK K
      try simp only [List.getElem_toArray, List.getElem_cons_succ, List.getElem_cons_zero, Act.put, List.setIfInBounds_toArray, List.set_cons_zero, List.set_cons_succ]
      refine wpAnyH_take (i := 9) (v := ?va14) rfl (by kernel_rfl) (by kernel_rfl) (by kernel_rfl) (fun _ _ _ h => h) (Or.inl ⟨by rfl, ?hya14⟩) (by assumption) ?rest14
      case hya14 => (intro wz hSw; (try dsimp only at hSw); go_simp; all_goals with_reducible rfl)
      try simp only [List.getElem_toArray, List.getElem_cons_succ, List.getElem_cons_zero, Act.put, List.setIfInBounds_toArray, List.set_cons_zero, List.set_cons_succ]
      refine wpAnyH_take (i := 10) (v := ?va15) rfl (by kernel_rfl) (by kernel_rfl) (by kernel_rfl) (fun _ _ _ h => h) (Or.inl ⟨by rfl, ?hya15⟩) (by assumption) ?rest15
      case hya15 => (intro wz hSw; (try dsimp only at hSw); go_simp; all_goals with_reducible rfl)
      try simp only [List.getElem_toArray, List.getElem_cons_succ, List.getElem_cons_zero, Act.put, List.setIfInBounds_toArray, List.set_cons_zero, List.set_cons_succ]
      refine wpAnyH_take (i := 11) (v := .int .i64 x.id) rfl (by kernel_rfl) (by kernel_rfl) (by kernel_rfl) (fun _ _ _ h => h) (Or.inl ⟨by rfl, ?hyX⟩) (by assumption) ?_
      case hyX => (intro wz hSw; obtain ⟨_, _, _, _, hR⟩ := hSw; obtain ⟨b2, off2, x2, hA2, _, hx2, cx2, _⟩ := nod_at hR.row1.1 hq; cases hA2; rw [hx] at hx2; cases hx2; go_simp; all_goals with_reducible rfl)
      try simp only [List.getElem_toArray, List.getElem_cons_succ, List.getElem_cons_zero, Act.put, List.setIfInBounds_toArray, List.set_cons_zero, List.set_cons_succ]
      refine wpAnyH_ready (rs := [12]) (by kernel_rfl) (by simp) ?_
      refine AllReadyH.cons rfl (fun K hK => ?_) AllReadyH.nil
      go_simp
      refine hK.out _ _ ?_ (fun hHeld12 => ?_)
      · (try dsimp only)
        refine ⟨?_, ?_, ?_, ?_, H9.out.set4 HDL.out _ _ _ _⟩ <;> go_keep
      clear hK K
      try simp only [List.getElem_toArray, List.getElem_cons_succ, List.getElem_cons_zero, Act.put, List.setIfInBounds_toArray, List.set_cons_zero, List.set_cons_succ]
      refine wpAnyH_take (i := 13) (v := ?va16) rfl (by kernel_rfl) (by kernel_rfl) (by kernel_rfl) (fun _ _ _ h => h) (Or.inl ⟨by rfl, ?hya16⟩) (by assumption) ?rest16
      case hya16 => (intro wz hSw; (try dsimp only at hSw); go_simp; all_goals with_reducible rfl)
      try simp only [List.getElem_toArray, List.getElem_cons_succ, List.getElem_cons_zero, Act.put, List.setIfInBounds_toArray, List.set_cons_zero, List.set_cons_succ]
      refine wpAnyH_take (i := 14) (v := ?va17) rfl (by kernel_rfl) (by kernel_rfl) (by kernel_rfl) (fun _ _ _ h => h) (Or.inl ⟨by rfl, ?hya17⟩) (by assumption) ?rest17
      case hya17 => (intro wz hSw; (try dsimp only at hSw); go_simp; all_goals with_reducible rfl)
      try simp only [List.getElem_toArray, List.getElem_cons_succ, List.getElem_cons_zero, Act.put, List.setIfInBounds_toArray, List.set_cons_zero, List.set_cons_succ]
      refine wpAnyH_done (by kernel_rfl) ?_ _
      go_wp2
      have fin := (((A9.out.set 0 (.int .i64 m.id)).set 1 (.slice (some ⟨b0, off0, none⟩) n1 c1)).set 2 (.slice A2 n2 c2)).set 3 (.slice A3 n3 q3)
      refine bodyPost_ret (results_M2 Tryz.results46 rfl fin) rfl ?_
      exact ⟨_, m, mode, _, rfl, (H9.out.set4 HDL.out _ _ _ _).mono HWL.out, NK.out, XI, below_set4 B9.out HD0L.out _ _ _ _⟩
    · have SD := hide (show Sd w6.drew g A n c bs from S6.out.below (Below.refl _ _).drew)
      go_wp2_with fail
      refine wp_region_held_drew (S := (fun w' => w'.cell? ⟨d1, 0, none⟩ = some (.int .i64 m.id) ∧ w'.cell? ⟨d1, 1, none⟩ = some (.slice A1 n1 c1) ∧ w'.cell? ⟨d1, 2, none⟩ = some (.slice A2 n2 c2) ∧ w'.cell? ⟨d1, 3, none⟩ = some (.slice A3 n3 q3))) (by kernel_rfl) ?_ (fun hHeld => ?_)
      · (try dsimp only)
        go_keep
      refine wpAnyH_take (i := 0) (v := ?va18) rfl (by kernel_rfl) (by kernel_rfl) (by kernel_rfl) (fun _ _ _ h => h) (Or.inl ⟨by rfl, ?hya18⟩) (by assumption) ?rest18
      case hya18 => (intro wz hSw; (try dsimp only at hSw); go_simp; all_goals with_reducible rfl)
      try simp only [List.getElem_toArray, List.getElem_cons_succ, List.getElem_cons_zero, Act.put, List.setIfInBounds_toArray, List.set_cons_zero, List.set_cons_succ]
      refine wpAnyH_take (i := 1) (v := ?va19) rfl (by kernel_rfl) (by kernel_rfl) (by kernel_rfl) (fun _ _ _ h => h) (Or.inl ⟨by rfl, ?hya19⟩) (by assumption) ?rest19
      case hya19 => (intro wz hSw; (try dsimp only at hSw); go_simp; all_goals with_reducible rfl)
      try simp only [List.getElem_toArray, List.getElem_cons_succ, List.getElem_cons_zero, Act.put, List.setIfInBounds_toArray, List.set_cons_zero, List.set_cons_succ]
      refine wpAnyH_take (i := 2) (v := ?va20) rfl (by kernel_rfl) (by kernel_rfl) (by kernel_rfl) (fun _ _ _ h => h) (Or.inl ⟨by rfl, ?hya20⟩) (by assumption) ?rest20
      case hya20 => (intro wz hSw; (try dsimp only at hSw); go_simp; all_goals with_reducible rfl)
      try simp only [List.getElem_toArray, List.getElem_cons_succ, List.getElem_cons_zero, Act.put, List.setIfInBounds_toArray, List.set_cons_zero, List.set_cons_succ]
      refine wpAnyH_ready (rs := [3]) (by kernel_rfl) (by simp) ?_
      refine AllReadyH.cons rfl (fun K hK => ?_) AllReadyH.nil
      go_simp
      (go_at_call 48; refine (l05DrawNode_d _ _ _ _ _ _ SD.out).mono ?_; rintro e w9 ⟨nd, rfl, nd0, nd1, s9, g9⟩; have g10 : w6.grownBy w9 (some g) := ⟨g9.os, g9.tape, g9.output, g9.size, g9.block⟩; have E9 := hide (E6.out.next S6.out (by decide) g10); have A9 := hide (A6.out.next S6.out (by decide) g10); have B9 := hide (below_src B6.out g10 HG.out); have H9 := hide (H6.out.far g10 HGL.out); have S9 := hide (s9); clear e0 e1 e2 e3 z0 z1 z2 z3 y0 y1 y2 y3; have e0 := E9.out.cell 0; have z0 := A9.out.cell 0; have y0 := A9.out.frozen 0; have e1 := E9.out.cell 1; have z1 := A9.out.cell 1; have y1 := A9.out.frozen 1; have e2 := E9.out.cell 2; have z2 := A9.out.cell 2; have y2 := A9.out.frozen 2; have e3 := E9.out.cell 3; have z3 := A9.out.cell 3; have y3 := A9.out.frozen 3; simp at e0 e1 e2 e3 z0 z1 z2 z3)
      go_wp2_with fail
      refine hK.out _ _ ?_ (fun hHeld3 => ?_)
      · (try dsimp only)
        go_keep
      clear hK K
      try simp only [List.getElem_toArray, List.getElem_cons_succ, List.getElem_cons_zero, Act.put, List.setIfInBounds_toArray, List.set_cons_zero, List.set_cons_succ]
      refine wpAnyH_ready (rs := [4]) (by kernel_rfl) (by simp) ?_
      refine AllReadyH.cons rfl (fun K hK => ?_) AllReadyH.nil
      go_simp
      refine hK.out _ _ ?_ (fun hHeld4 => ?_)
      · (try dsimp only)
        go_keep
      clear hK K
      try simp only [List.getElem_toArray, List.getElem_cons_succ, List.getElem_cons_zero, Act.put, List.setIfInBounds_toArray, List.set_cons_zero, List.set_cons_succ]
      refine wpAnyH_take (i := 5) (v := ?va21) rfl (by kernel_rfl) (by kernel_rfl) (by kernel_rfl) (fun _ _ _ h => h) (Or.inl ⟨by rfl, ?hya21⟩) (by assumption) ?rest21
      case hya21 => (intro wz hSw; (try dsimp only at hSw); go_simp; all_goals with_reducible rfl)
      try simp only [List.getElem_toArray, List.getElem_cons_succ, List.getElem_cons_zero, Act.put, List.setIfInBounds_toArray, List.set_cons_zero, List.set_cons_succ]
      refine wpAnyH_take (i := 6) (v := ?va22) rfl (by kernel_rfl) (by kernel_rfl) (by kernel_rfl) (fun _ _ _ h => h) (Or.inl ⟨by rfl, ?hya22⟩) (by assumption) ?rest22
      case hya22 => (intro wz hSw; (try dsimp only at hSw); go_simp; all_goals with_reducible rfl)
      try simp only [List.getElem_toArray, List.getElem_cons_succ, List.getElem_cons_zero, Act.put, List.setIfInBounds_toArray, List.set_cons_zero, List.set_cons_succ]
      refine wpAnyH_done (by kernel_rfl) ?_ _
      go_wp2
      have fin := (((A9.out.set 0 (.int .i64 m.id)).set 1 (.slice A1 n1 c1)).set 2 (.slice A2 n2 c2)).set 3 (.slice A3 n3 q3)
      refine bodyPost_ret (results_M2 Tryz.results46 rfl fin) rfl ?_
      exact ⟨_, m, mode, _, rfl, (H9.out.set4 HDL.out _ _ _ _).mono HWL.out, NK.out, ⟨by omega, by omega⟩, below_set4 B9.out HD0L.out _ _ _ _⟩
  · obtain rfl : n1 = 0 := by omega
    have SD := hide (show Sd w4.drew g A n c bs from S4.out.below (Below.refl _ _).drew)
    go_wp2_with fail
    refine wp_region_held_drew (S := (fun w' => w'.cell? ⟨d1, 0, none⟩ = some (.int .i64 m.id) ∧ w'.cell? ⟨d1, 1, none⟩ = some (.slice A1 0 c1) ∧ w'.cell? ⟨d1, 2, none⟩ = some (.slice A2 n2 c2) ∧ w'.cell? ⟨d1, 3, none⟩ = some (.slice A3 n3 q3))) (by kernel_rfl) ?_ (fun hHeld => ?_)
    · (try dsimp only)
      go_keep
    refine wpAnyH_take (i := 0) (v := ?va23) rfl (by kernel_rfl) (by kernel_rfl) (by kernel_rfl) (fun _ _ _ h => h) (Or.inl ⟨by rfl, ?hya23⟩) (by assumption) ?rest23
    case hya23 => (intro wz hSw; (try dsimp only at hSw); go_simp; all_goals with_reducible rfl)
    try simp only [List.getElem_toArray, List.getElem_cons_succ, List.getElem_cons_zero, Act.put, List.setIfInBounds_toArray, List.set_cons_zero, List.set_cons_succ]
    refine wpAnyH_take (i := 1) (v := ?va24) rfl (by kernel_rfl) (by kernel_rfl) (by kernel_rfl) (fun _ _ _ h => h) (Or.inl ⟨by rfl, ?hya24⟩) (by assumption) ?rest24
    case hya24 => (intro wz hSw; (try dsimp only at hSw); go_simp; all_goals with_reducible rfl)
    try simp only [List.getElem_toArray, List.getElem_cons_succ, List.getElem_cons_zero, Act.put, List.setIfInBounds_toArray, List.set_cons_zero, List.set_cons_succ]
    refine wpAnyH_take (i := 2) (v := ?va25) rfl (by kernel_rfl) (by kernel_rfl) (by kernel_rfl) (fun _ _ _ h => h) (Or.inl ⟨by rfl, ?hya25⟩) (by assumption) ?rest25
    case hya25 => (intro wz hSw; (try dsimp only at hSw); go_simp; all_goals with_reducible rfl)
    try simp only [List.getElem_toArray, List.getElem_cons_succ, List.getElem_cons_zero, Act.put, List.setIfInBounds_toArray, List.set_cons_zero, List.set_cons_succ]
    refine wpAnyH_ready (rs := [3]) (by kernel_rfl) (by simp) ?_
    refine AllReadyH.cons rfl (fun K hK => ?_) AllReadyH.nil
    go_simp
    (go_at_call 48; refine (l05DrawNode_d _ _ _ _ _ _ SD.out).mono ?_; rintro e w9 ⟨nd, rfl, nd0, nd1, s9, g9⟩; have g10 : w4.grownBy w9 (some g) := ⟨g9.os, g9.tape, g9.output, g9.size, g9.block⟩; have E9 := hide (E4.out.next S4.out (by decide) g10); have A9 := hide (A4.out.next S4.out (by decide) g10); have B9 := hide (below_src B4.out g10 HG.out); have H9 := hide (H4.out.far g10 HGL.out); have S9 := hide (s9); clear e0 e1 e2 e3 z0 z1 z2 z3 y0 y1 y2 y3; have e0 := E9.out.cell 0; have z0 := A9.out.cell 0; have y0 := A9.out.frozen 0; have e1 := E9.out.cell 1; have z1 := A9.out.cell 1; have y1 := A9.out.frozen 1; have e2 := E9.out.cell 2; have z2 := A9.out.cell 2; have y2 := A9.out.frozen 2; have e3 := E9.out.cell 3; have z3 := A9.out.cell 3; have y3 := A9.out.frozen 3; simp at e0 e1 e2 e3 z0 z1 z2 z3)
    go_wp2_with fail
    refine hK.out _ _ ?_ (fun hHeld3 => ?_)
    · (try dsimp only)
      go_keep
    clear hK K
    try simp only [List.getElem_toArray, List.getElem_cons_succ, List.getElem_cons_zero, Act.put, List.setIfInBounds_toArray, List.set_cons_zero, List.set_cons_succ]
    refine wpAnyH_ready (rs := [4]) (by kernel_rfl) (by simp) ?_
    refine AllReadyH.cons rfl (fun K hK => ?_) AllReadyH.nil
    go_simp
    refine hK.out _ _ ?_ (fun hHeld4 => ?_)
    · (try dsimp only)
      go_keep
    clear hK K
    try simp only [List.getElem_toArray, List.getElem_cons_succ, List.getElem_cons_zero, Act.put, List.setIfInBounds_toArray, List.set_cons_zero, List.set_cons_succ]
    refine wpAnyH_take (i := 5) (v := ?va26) rfl (by kernel_rfl) (by kernel_rfl) (by kernel_rfl) (fun _ _ _ h => h) (Or.inl ⟨by rfl, ?hya26⟩) (by assumption) ?rest26
    case hya26 => (intro wz hSw; (try dsimp only at hSw); go_simp; all_goals with_reducible rfl)
    try simp only [List.getElem_toArray, List.getElem_cons_succ, List.getElem_cons_zero, Act.put, List.setIfInBounds_toArray, List.set_cons_zero, List.set_cons_succ]
    refine wpAnyH_take (i := 6) (v := ?va27) rfl (by kernel_rfl) (by kernel_rfl) (by kernel_rfl) (fun _ _ _ h => h) (Or.inl ⟨by rfl, ?hya27⟩) (by assumption) ?rest27
    case hya27 => (intro wz hSw; (try dsimp only at hSw); go_simp; all_goals with_reducible rfl)
    try simp only [List.getElem_toArray, List.getElem_cons_succ, List.getElem_cons_zero, Act.put, List.setIfInBounds_toArray, List.set_cons_zero, List.set_cons_succ]
    refine wpAnyH_done (by kernel_rfl) ?_ _
    go_wp2
    have fin := (((A9.out.set 0 (.int .i64 m.id)).set 1 (.slice A1 0 c1)).set 2 (.slice A2 n2 c2)).set 3 (.slice A3 n3 q3)
    refine bodyPost_ret (results_M2 Tryz.results46 rfl fin) rfl ?_
    exact ⟨_, m, mode, _, rfl, (H9.out.set4 HDL.out _ _ _ _).mono HWL.out, NK.out, ⟨by omega, by omega⟩, below_set4 B9.out HD0L.out _ _ _ _⟩
set_option maxHeartbeats 6400000 in
theorem DrawChainTime_d (A : Option Addr) (n c : Nat) (bs : List Int) (w : World) (h : Rd8 w A n c bs) (hn : n ≤ 4096) :
    Calls Tryz.prog 14 #[.slice A n c] w (OutM3 w) := by
  obtain ⟨W0, hW0⟩ : ∃ W0, W0 = w.alloc (.cells #[.int .i64 0, .slice none 0 0, .slice none 0 0, .slice none 0 0] 28) := ⟨_, rfl⟩
  obtain ⟨d0, hd0⟩ : ∃ d0, d0 = w.heap.size := ⟨_, rfl⟩
  have A0 := hide (show At W0 d0 28 _ by rw [hW0, hd0]; exact At.fresh _ _ _)
  have B0 := hide (show Below w.heap.size w W0 by rw [hW0]; exact (Below.refl _ _).alloc (Nat.le_refl _) _)
  have HW0 := hide hW0
  have HD0 := hide hd0
  have hcap := h.cap
  have R0 := hide (h.below B0.out)
  clear hW0 hd0 h
  go_enter Tryz.func14, Tryz.ntmps14
  go_wp2_with fail
  rw [← HW0.out, ← HD0.out]
  go_at_call 45
  refine (from_d _ _ _ bs _ R0.out hn).mono ?_
  rintro e w1 ⟨g, rfl, g0, s1, b1⟩
  have B1 := hide (below_trans B0.out b1)
  have A1' := hide (A0.out.keep b1)
  have S1 := hide s1
  have HG := hide (show w.heap.size ≤ g from Nat.le_trans B0.out.size g0)
  clear s1 b1 g0
  go_wp2_with fail
  go_at_call 46
  refine (DrawSendTimes_d _ _ _ bs _ S1.out.1 hn).mono ?_
  rintro e w2 ⟨vv, m, mode, ia, rfl, rdh, nok, iab, b2⟩
  have B2 := hide (below_trans B1.out b2)
  have A2' := hide (A1'.out.keep b2)
  have S2 := hide (S1.out.below b2)
  have NK := hide nok
  have HGL := hide (show g < w1.heap.size from S1.out.lt)
  have RH := hide rdh
  obtain ⟨A1, n1, c1, A2, n2, c2, A3, n3, q3, rfl, rr1, rr2, rr3⟩ := rdh
  have hc1 := rr1.1.cap
  have hc2 := rr2.rd.cap
  obtain ⟨W3, hW3⟩ : ∃ W3, W3 = w2.alloc (.cells #[.int .i64 m.id, .slice A1 n1 c1, .slice A2 n2 c2, .slice A3 n3 q3] 28) := ⟨_, rfl⟩
  obtain ⟨d1, hd1⟩ : ∃ d1, d1 = w2.heap.size := ⟨_, rfl⟩
  have hd01 : d0 ≠ d1 := by have := A2'.out.lt; omega
  have E3 := hide (show At W3 d1 28 #[.int .i64 m.id, .slice A1 n1 c1, .slice A2 n2 c2, .slice A3 n3 q3] by rw [hW3, hd1]; exact At.fresh _ _ _)
  have A3' := hide (show At W3 d0 28 _ by rw [hW3]; exact A2'.out.alloc _)
  have S3 := hide (show Sd W3 g A n c bs by rw [hW3]; exact S2.out.below ((Below.refl _ _).alloc (Nat.le_refl _) _))
  have B3 := hide (show Below w.heap.size w W3 by rw [hW3]; exact B2.out.alloc B2.out.size _)
  have H3 := hide (show RdH W3 w1.heap.size _ m by rw [hW3]; exact RH.out.below ((Below.refl _ _).alloc (Nat.le_refl _) _))
  have HW3 := hide hW3
  have HD1 := hide hd1
  clear nok b2 hW3 hd1 rr1 rr2 rr3 RH
  have HDL := hide A1'.out.lt
  have HWL := hide B1.out.size
  have HD0L := hide (show w.heap.size ≤ d0 by rw [HD0.out]; exact Nat.le_refl _)
  have E4 := E3
  have A4 := A3'
  have B4 := B3
  have H4 := H3
  have S4 := S3
  have e0 := E4.out.cell 0; have z0 := A4.out.cell 0; have y0 := A4.out.frozen 0; have e1 := E4.out.cell 1; have z1 := A4.out.cell 1; have y1 := A4.out.frozen 1; have e2 := E4.out.cell 2; have z2 := A4.out.cell 2; have y2 := A4.out.frozen 2; have e3 := E4.out.cell 3; have z3 := A4.out.cell 3; have y3 := A4.out.frozen 3; simp at e0 e1 e2 e3 z0 z1 z2 z3
  go_upto_region 3 with (fail)
  rw [← HW3.out, ← HD1.out]
  by_cases hn1 : 0 < n1
  · go_wp2_with fail
    refine (next_d _ _ _ _ _ _ _ S4.out).mono ?_
    rintro e w6 ⟨r, rfl, r0, r1, s6, g6⟩
    have E6 := hide (E4.out.next S4.out (by decide) g6)
    have A6 := hide (A4.out.next S4.out (by decide) g6)
    have B6 := hide (below_src B4.out g6 HG.out)
    have H6 := hide (H4.out.far g6 HGL.out)
    have S6 := hide (s6)
    clear e0 e1 e2 e3 z0 z1 z2 z3 y0 y1 y2 y3 r1
    have e0 := E6.out.cell 0
    have z0 := A6.out.cell 0
    have y0 := A6.out.frozen 0
    have e1 := E6.out.cell 1
    have z1 := A6.out.cell 1
    have y1 := A6.out.frozen 1
    have e2 := E6.out.cell 2
    have z2 := A6.out.cell 2
    have y2 := A6.out.frozen 2
    have e3 := E6.out.cell 3
    have z3 := A6.out.cell 3
    have y3 := A6.out.frozen 3
    simp at e0 e1 e2 e3 z0 z1 z2 z3
    by_cases hr : 0 < r
    · obtain ⟨b0, off0, x0, hA0, _⟩ := nod_at (i := 0) H6.out.row1.1 hn1
      subst hA0
      have SD := hide (show Sd w6.drew g A n c bs from S6.out.below (Below.refl _ _).drew)
      go_wp2_with fail
      refine wp_region_held_drew (S := (fun w' => w'.cell? ⟨d1, 0, none⟩ = some (.int .i64 m.id) ∧ w'.cell? ⟨d1, 1, none⟩ = some (.slice (some ⟨b0, off0, none⟩) n1 c1) ∧ w'.cell? ⟨d1, 2, none⟩ = some (.slice A2 n2 c2) ∧ w'.cell? ⟨d1, 3, none⟩ = some (.slice A3 n3 q3) ∧ RdH w' w1.heap.size (.agg #[.int .i64 m.id, .slice (some ⟨b0, off0, none⟩) n1 c1, .slice A2 n2 c2, .slice A3 n3 q3]) m)) (by kernel_rfl) ?_ (fun hHeld => ?_)
      · (try dsimp only)
        exact ⟨e0, e1, e2, e3, H6.out.below (Below.refl _ _).drew⟩
      refine wpAnyH_take (i := 0) (v := ?va28) rfl (by kernel_rfl) (by kernel_rfl) (by kernel_rfl) (fun _ _ _ h => h) (Or.inl ⟨by rfl, ?hya28⟩) (by assumption) ?rest28
      case hya28 => (intro wz hSw; (try dsimp only at hSw); go_simp; all_goals with_reducible rfl)
      try simp only [List.getElem_toArray, List.getElem_cons_succ, List.getElem_cons_zero, Act.put, List.setIfInBounds_toArray, List.set_cons_zero, List.set_cons_succ]
      refine wpAnyH_take (i := 1) (v := ?va29) rfl (by kernel_rfl) (by kernel_rfl) (by kernel_rfl) (fun _ _ _ h => h) (Or.inl ⟨by rfl, ?hya29⟩) (by assumption) ?rest29
      case hya29 => (intro wz hSw; (try dsimp only at hSw); go_simp; all_goals with_reducible rfl)
      try simp only [List.getElem_toArray, List.getElem_cons_succ, List.getElem_cons_zero, Act.put, List.setIfInBounds_toArray, List.set_cons_zero, List.set_cons_succ]
      refine wpAnyH_take (i := 2) (v := ?va30) rfl (by kernel_rfl) (by kernel_rfl) (by kernel_rfl) (fun _ _ _ h => h) (Or.inl ⟨by rfl, ?hya30⟩) (by assumption) ?rest30
      case hya30 => (intro wz hSw; (try dsimp only at hSw); go_simp; all_goals with_reducible rfl)
      try simp only [List.getElem_toArray, List.getElem_cons_succ, List.getElem_cons_zero, Act.put, List.setIfInBounds_toArray, List.set_cons_zero, List.set_cons_succ]
      refine wpAnyH_take (i := 3) (v := ?va31) rfl (by kernel_rfl) (by kernel_rfl) (by kernel_rfl) (fun _ _ _ h => h) (Or.inl ⟨by rfl, ?hya31⟩) (by assumption) ?rest31
      case hya31 => (intro wz hSw; (try dsimp only at hSw); go_simp; all_goals with_reducible rfl)
      try simp only [List.getElem_toArray, List.getElem_cons_succ, List.getElem_cons_zero, Act.put, List.setIfInBounds_toArray, List.set_cons_zero, List.set_cons_succ]
      refine wpAnyH_take (i := 4) (v := ?va32) rfl (by kernel_rfl) (by kernel_rfl) (by kernel_rfl) (fun _ _ _ h => h) (Or.inl ⟨by rfl, ?hya32⟩) (by assumption) ?rest32
      case hya32 => (intro wz hSw; (try dsimp only at hSw); go_simp; all_goals with_reducible rfl)
      try simp only [List.getElem_toArray, List.getElem_cons_succ, List.getElem_cons_zero, Act.put, List.setIfInBounds_toArray, List.set_cons_zero, List.set_cons_succ]
      refine wpAnyH_take (i := 5) (v := ?va33) rfl (by kernel_rfl) (by kernel_rfl) (by kernel_rfl) (fun _ _ _ h => h) (Or.inl ⟨by rfl, ?hya33⟩) (by assumption) ?rest33
      case hya33 => (intro wz hSw; (try dsimp only at hSw); go_simp; all_goals with_reducible rfl)
      try simp only [List.getElem_toArray, List.getElem_cons_succ, List.getElem_cons_zero, Act.put, List.setIfInBounds_toArray, List.set_cons_zero, List.set_cons_succ]
      refine wpAnyH_take (i := 6) (v := ?va34) rfl (by kernel_rfl) (by kernel_rfl) (by kernel_rfl) (fun _ _ _ h => h) (Or.inl ⟨by rfl, ?hya34⟩) (by assumption) ?rest34
      case hya34 => (intro wz hSw; (try dsimp only at hSw); go_simp; all_goals with_reducible rfl)
      try simp only [List.getElem_toArray, List.getElem_cons_succ, List.getElem_cons_zero, Act.put, List.setIfInBounds_toArray, List.set_cons_zero, List.set_cons_succ]
      refine wpAnyH_take (i := 7) (v := ?va35) rfl (by kernel_rfl) (by kernel_rfl) (by kernel_rfl) (fun _ _ _ h => h) (Or.inl ⟨by rfl, ?hya35⟩) (by assumption) ?rest35
      case hya35 => (intro wz hSw; (try dsimp only at hSw); go_simp; all_goals with_reducible rfl)
      try simp only [List.getElem_toArray, List.getElem_cons_succ, List.getElem_cons_zero, Act.put, List.setIfInBounds_toArray, List.set_cons_zero, List.set_cons_succ]
      refine wpAnyH_take (i := 8) (v := ?va36) rfl (by kernel_rfl) (by kernel_rfl) (by kernel_rfl) (fun _ _ _ h => h) (Or.inl ⟨by rfl, ?hya36⟩) (by assumption) ?rest36
      case hya36 => (intro wz hSw; (try dsimp only at hSw); go_simp; all_goals with_reducible rfl)
      try simp only [List.getElem_toArray, List.getElem_cons_succ, List.getElem_cons_zero, Act.put, List.setIfInBounds_toArray, List.set_cons_zero, List.set_cons_succ]
      refine wpAnyH_ready (rs := [9]) (by kernel_rfl) (by simp) ?_
      refine AllReadyH.cons rfl (fun K hK => ?_) AllReadyH.nil
      go_simp
      (refine (next_d _ _ _ _ _ _ _ SD.out).mono ?_; rintro e w9 ⟨q, rfl, q0, q1, s9, g9⟩; have q2 := q1 (by omega); obtain ⟨q, rfl⟩ := Int.eq_ofNat_of_zero_le q0; have hq : q < n1 := (by omega); have g10 : w6.grownBy w9 (some g) := ⟨g9.os, g9.tape, g9.output, g9.size, g9.block⟩; have E9 := hide (E6.out.next S6.out (by decide) g10); have A9 := hide (A6.out.next S6.out (by decide) g10); have B9 := hide (below_src B6.out g10 HG.out); have H9 := hide (H6.out.far g10 HGL.out); have S9 := hide (s9); clear e0 e1 e2 e3 z0 z1 z2 z3 y0 y1 y2 y3; have e0 := E9.out.cell 0; have z0 := A9.out.cell 0; have y0 := A9.out.frozen 0; have e1 := E9.out.cell 1; have z1 := A9.out.cell 1; have y1 := A9.out.frozen 1; have e2 := E9.out.cell 2; have z2 := A9.out.cell 2; have y2 := A9.out.frozen 2; have e3 := E9.out.cell 3; have z3 := A9.out.cell 3; have y3 := A9.out.frozen 3; simp at e0 e1 e2 e3 z0 z1 z2 z3; obtain ⟨b1, off1, x, hA1, _, hx, cx, _⟩ := nod_at H9.out.row1.1 hq; cases hA1; have XI := NK.out.id x (List.mem_of_getElem? hx))
      go_wp2_with fail
      refine hK.out _ _ ?_ (fun hHeldc => ?_)
      · (try dsimp only)
        exact ⟨e0, e1, e2, e3, H9.out⟩
      clear hK K
      try simp only [List.getElem_toArray, List.getElem_cons_succ, List.getElem_cons_zero, Act.put, List.setIfInBounds_toArray, List.set_cons_zero, List.set_cons_succ]
      refine wpAnyH_take (i := 10) (v := ?va37) rfl (by kernel_rfl) (by kernel_rfl) (by kernel_rfl) (fun _ _ _ h => h) (Or.inl ⟨by rfl, ?hya37⟩) (by assumption) ?rest37
      case hya37 => (intro wz hSw; (try dsimp only at hSw); go_simp; all_goals with_reducible rfl)
      try simp only [List.getElem_toArray, List.getElem_cons_succ, List.getElem_cons_zero, Act.put, List.setIfInBounds_toArray, List.set_cons_zero, List.set_cons_succ]
      refine wpAnyH_take (i := 11) (v := ?va38) rfl (by kernel_rfl) (by kernel_rfl) (by kernel_rfl) (fun _ _ _ h => h) (Or.inl ⟨by rfl, ?hya38⟩) (by assumption) ?rest38
      case hya38 => (intro wz hSw; (try dsimp only at hSw); go_simp; all_goals with_reducible rfl)
      try simp only [List.getElem_toArray, List.getElem_cons_succ, List.getElem_cons_zero, Act.put, List.setIfInBounds_toArray, List.set_cons_zero, List.set_cons_succ]
      refine wpAnyH_take (i := 12) (v := .int .i64 x.id) rfl (by kernel_rfl) (by kernel_rfl) (by kernel_rfl) (fun _ _ _ h => h) (Or.inl ⟨by rfl, ?hyX⟩) (by assumption) ?_
      case hyX => (intro wz hSw; obtain ⟨_, _, _, _, hR⟩ := hSw; obtain ⟨b2, off2, x2, hA2, _, hx2, cx2, _⟩ := nod_at hR.row1.1 hq; cases hA2; rw [hx] at hx2; cases hx2; go_simp; all_goals with_reducible rfl)
      try simp only [List.getElem_toArray, List.getElem_cons_succ, List.getElem_cons_zero, Act.put, List.setIfInBounds_toArray, List.set_cons_zero, List.set_cons_succ]
      refine wpAnyH_ready (rs := [13]) (by kernel_rfl) (by simp) ?_
      refine AllReadyH.cons rfl (fun K hK => ?_) AllReadyH.nil
      go_simp
      refine hK.out _ _ ?_ (fun hHeld12 => ?_)
      · (try dsimp only)
        refine ⟨?_, ?_, ?_, ?_, H9.out.set4 HDL.out _ _ _ _⟩ <;> go_keep
      clear hK K
      try simp only [List.getElem_toArray, List.getElem_cons_succ, List.getElem_cons_zero, Act.put, List.setIfInBounds_toArray, List.set_cons_zero, List.set_cons_succ]
      refine wpAnyH_take (i := 14) (v := ?va39) rfl (by kernel_rfl) (by kernel_rfl) (by kernel_rfl) (fun _ _ _ h => h) (Or.inl ⟨by rfl, ?hya39⟩) (by assumption) ?rest39
      case hya39 => (intro wz hSw; (try dsimp only at hSw); go_simp; all_goals with_reducible rfl)
      try simp only [List.getElem_toArray, List.getElem_cons_succ, List.getElem_cons_zero, Act.put, List.setIfInBounds_toArray, List.set_cons_zero, List.set_cons_succ]
      refine wpAnyH_take (i := 15) (v := ?va40) rfl (by kernel_rfl) (by kernel_rfl) (by kernel_rfl) (fun _ _ _ h => h) (Or.inl ⟨by rfl, ?hya40⟩) (by assumption) ?rest40
      case hya40 => (intro wz hSw; (try dsimp only at hSw); go_simp; all_goals with_reducible rfl)
      try simp only [List.getElem_toArray, List.getElem_cons_succ, List.getElem_cons_zero, Act.put, List.setIfInBounds_toArray, List.set_cons_zero, List.set_cons_succ]
      refine wpAnyH_take (i := 16) (v := ?va41) rfl (by kernel_rfl) (by kernel_rfl) (by kernel_rfl) (fun _ _ _ h => h) (Or.inl ⟨by rfl, ?hya41⟩) (by assumption) ?rest41
      case hya41 => (intro wz hSw; (try dsimp only at hSw); go_simp; all_goals with_reducible rfl)
      try simp only [List.getElem_toArray, List.getElem_cons_succ, List.getElem_cons_zero, Act.put, List.setIfInBounds_toArray, List.set_cons_zero, List.set_cons_succ]
      refine wpAnyH_done (by kernel_rfl) ?_ _
      go_wp2
      have fin := (((A9.out.set 0 (.int .i64 m.id)).set 1 (.slice (some ⟨b0, off0, none⟩) n1 c1)).set 2 (.slice A2 n2 c2)).set 3 (.slice A3 n3 q3)
      refine bodyPost_ret (results_M3 Tryz.results14 rfl fin) rfl ?_
      exact ⟨_, m, mode, _, _, rfl, (H9.out.set4 HDL.out _ _ _ _).mono HWL.out, NK.out, iab, XI, below_set4 B9.out HD0L.out _ _ _ _⟩
    · have SD := hide (show Sd w6.drew g A n c bs from S6.out.below (Below.refl _ _).drew)
      go_wp2_with fail
      refine wp_region_held_drew (S := (fun w' => w'.cell? ⟨d1, 0, none⟩ = some (.int .i64 m.id) ∧ w'.cell? ⟨d1, 1, none⟩ = some (.slice A1 n1 c1) ∧ w'.cell? ⟨d1, 2, none⟩ = some (.slice A2 n2 c2) ∧ w'.cell? ⟨d1, 3, none⟩ = some (.slice A3 n3 q3))) (by kernel_rfl) ?_ (fun hHeld => ?_)
      · (try dsimp only)
        go_keep
      refine wpAnyH_take (i := 0) (v := ?va42) rfl (by kernel_rfl) (by kernel_rfl) (by kernel_rfl) (fun _ _ _ h => h) (Or.inl ⟨by rfl, ?hya42⟩) (by assumption) ?rest42
      case hya42 => (intro wz hSw; (try dsimp only at hSw); go_simp; all_goals with_reducible rfl)
      try simp only [List.getElem_toArray, List.getElem_cons_succ, List.getElem_cons_zero, Act.put, List.setIfInBounds_toArray, List.set_cons_zero, List.set_cons_succ]
      refine wpAnyH_take (i := 1) (v := ?va43) rfl (by kernel_rfl) (by kernel_rfl) (by kernel_rfl) (fun _ _ _ h => h) (Or.inl ⟨by rfl, ?hya43⟩) (by assumption) ?rest43
      case hya43 => (intro wz hSw; (try dsimp only at hSw); go_simp; all_goals with_reducible rfl)
      try simp only [List.getElem_toArray, List.getElem_cons_succ, List.getElem_cons_zero, Act.put, List.setIfInBounds_toArray, List.set_cons_zero, List.set_cons_succ]
      refine wpAnyH_take (i := 2) (v := ?va44) rfl (by kernel_rfl) (by kernel_rfl) (by kernel_rfl) (fun _ _ _ h => h) (Or.inl ⟨by rfl, ?hya44⟩) (by assumption) ?rest44
      case hya44 => (intro wz hSw; (try dsimp only at hSw); go_simp; all_goals with_reducible rfl)
      try simp only [List.getElem_toArray, List.getElem_cons_succ, List.getElem_cons_zero, Act.put, List.setIfInBounds_toArray, List.set_cons_zero, List.set_cons_succ]
      refine wpAnyH_take (i := 3) (v := ?va45) rfl (by kernel_rfl) (by kernel_rfl) (by kernel_rfl) (fun _ _ _ h => h) (Or.inl ⟨by rfl, ?hya45⟩) (by assumption) ?rest45
      case hya45 => (intro wz hSw; (try dsimp only at hSw); go_simp; all_goals with_reducible rfl)
      try simp only [List.getElem_toArray, List.getElem_cons_succ, List.getElem_cons_zero, Act.put, List.setIfInBounds_toArray, List.set_cons_zero, List.set_cons_succ]
      refine wpAnyH_ready (rs := [4]) (by kernel_rfl) (by simp) ?_
      refine AllReadyH.cons rfl (fun K hK => ?_) AllReadyH.nil
      go_simp
      (go_at_call 48; refine (l05DrawNode_d _ _ _ _ _ _ SD.out).mono ?_; rintro e w9 ⟨nd, rfl, nd0, nd1, s9, g9⟩; have g10 : w6.grownBy w9 (some g) := ⟨g9.os, g9.tape, g9.output, g9.size, g9.block⟩; have E9 := hide (E6.out.next S6.out (by decide) g10); have A9 := hide (A6.out.next S6.out (by decide) g10); have B9 := hide (below_src B6.out g10 HG.out); have H9 := hide (H6.out.far g10 HGL.out); have S9 := hide (s9); clear e0 e1 e2 e3 z0 z1 z2 z3 y0 y1 y2 y3; have e0 := E9.out.cell 0; have z0 := A9.out.cell 0; have y0 := A9.out.frozen 0; have e1 := E9.out.cell 1; have z1 := A9.out.cell 1; have y1 := A9.out.frozen 1; have e2 := E9.out.cell 2; have z2 := A9.out.cell 2; have y2 := A9.out.frozen 2; have e3 := E9.out.cell 3; have z3 := A9.out.cell 3; have y3 := A9.out.frozen 3; simp at e0 e1 e2 e3 z0 z1 z2 z3)
      go_wp2_with fail
      refine hK.out _ _ ?_ (fun hHeld4 => ?_)
      · (try dsimp only)
        go_keep
      clear hK K
      try simp only [List.getElem_toArray, List.getElem_cons_succ, List.getElem_cons_zero, Act.put, List.setIfInBounds_toArray, List.set_cons_zero, List.set_cons_succ]
      refine wpAnyH_ready (rs := [5]) (by kernel_rfl) (by simp) ?_
      refine AllReadyH.cons rfl (fun K hK => ?_) AllReadyH.nil
      go_simp
      refine hK.out _ _ ?_ (fun hHeld5 => ?_)
      · (try dsimp only)
        go_keep
      clear hK K
      try simp only [List.getElem_toArray, List.getElem_cons_succ, List.getElem_cons_zero, Act.put, List.setIfInBounds_toArray, List.set_cons_zero, List.set_cons_succ]
      refine wpAnyH_take (i := 6) (v := ?va46) rfl (by kernel_rfl) (by kernel_rfl) (by kernel_rfl) (fun _ _ _ h => h) (Or.inl ⟨by rfl, ?hya46⟩) (by assumption) ?rest46
      case hya46 => (intro wz hSw; (try dsimp only at hSw); go_simp; all_goals with_reducible rfl)
      try simp only [List.getElem_toArray, List.getElem_cons_succ, List.getElem_cons_zero, Act.put, List.setIfInBounds_toArray, List.set_cons_zero, List.set_cons_succ]
      refine wpAnyH_take (i := 7) (v := ?va47) rfl (by kernel_rfl) (by kernel_rfl) (by kernel_rfl) (fun _ _ _ h => h) (Or.inl ⟨by rfl, ?hya47⟩) (by assumption) ?rest47
      case hya47 => (intro wz hSw; (try dsimp only at hSw); go_simp; all_goals with_reducible rfl)
      try simp only [List.getElem_toArray, List.getElem_cons_succ, List.getElem_cons_zero, Act.put, List.setIfInBounds_toArray, List.set_cons_zero, List.set_cons_succ]
      refine wpAnyH_take (i := 8) (v := ?va48) rfl (by kernel_rfl) (by kernel_rfl) (by kernel_rfl) (fun _ _ _ h => h) (Or.inl ⟨by rfl, ?hya48⟩) (by assumption) ?rest48
      case hya48 => (intro wz hSw; (try dsimp only at hSw); go_simp; all_goals with_reducible rfl)
      try simp only [List.getElem_toArray, List.getElem_cons_succ, List.getElem_cons_zero, Act.put, List.setIfInBounds_toArray, List.set_cons_zero, List.set_cons_succ]
      refine wpAnyH_done (by kernel_rfl) ?_ _
      go_wp2
      have fin := (((A9.out.set 0 (.int .i64 m.id)).set 1 (.slice A1 n1 c1)).set 2 (.slice A2 n2 c2)).set 3 (.slice A3 n3 q3)
      refine bodyPost_ret (results_M3 Tryz.results14 rfl fin) rfl ?_
      exact ⟨_, m, mode, _, _, rfl, (H9.out.set4 HDL.out _ _ _ _).mono HWL.out, NK.out, iab, ⟨by omega, by omega⟩, below_set4 B9.out HD0L.out _ _ _ _⟩
  · obtain rfl : n1 = 0 := by omega
    have SD := hide (show Sd W3.drew g A n c bs from S4.out.below (Below.refl _ _).drew)
    go_wp2_with fail
    refine wp_region_held_drew (S := (fun w' => w'.cell? ⟨d1, 0, none⟩ = some (.int .i64 m.id) ∧ w'.cell? ⟨d1, 1, none⟩ = some (.slice A1 0 c1) ∧ w'.cell? ⟨d1, 2, none⟩ = some (.slice A2 n2 c2) ∧ w'.cell? ⟨d1, 3, none⟩ = some (.slice A3 n3 q3))) (by kernel_rfl) ?_ (fun hHeld => ?_)
    · (try dsimp only)
      go_keep
    refine wpAnyH_take (i := 0) (v := ?va49) rfl (by kernel_rfl) (by kernel_rfl) (by kernel_rfl) (fun _ _ _ h => h) (Or.inl ⟨by rfl, ?hya49⟩) (by assumption) ?rest49
    case hya49 => (intro wz hSw; (try dsimp only at hSw); go_simp; all_goals with_reducible rfl)
    try simp only [List.getElem_toArray, List.getElem_cons_succ, List.getElem_cons_zero, Act.put, List.setIfInBounds_toArray, List.set_cons_zero, List.set_cons_succ]
    refine wpAnyH_take (i := 1) (v := ?va50) rfl (by kernel_rfl) (by kernel_rfl) (by kernel_rfl) (fun _ _ _ h => h) (Or.inl ⟨by rfl, ?hya50⟩) (by assumption) ?rest50
    case hya50 => (intro wz hSw; (try dsimp only at hSw); go_simp; all_goals with_reducible rfl)
    try simp only [List.getElem_toArray, List.getElem_cons_succ, List.getElem_cons_zero, Act.put, List.setIfInBounds_toArray, List.set_cons_zero, List.set_cons_succ]
    refine wpAnyH_take (i := 2) (v := ?va51) rfl (by kernel_rfl) (by kernel_rfl) (by kernel_rfl) (fun _ _ _ h => h) (Or.inl ⟨by rfl, ?hya51⟩) (by assumption) ?rest51
    case hya51 => (intro wz hSw; (try dsimp only at hSw); go_simp; all_goals with_reducible rfl)
    try simp only [List.getElem_toArray, List.getElem_cons_succ, List.getElem_cons_zero, Act.put, List.setIfInBounds_toArray, List.set_cons_zero, List.set_cons_succ]
    refine wpAnyH_take (i := 3) (v := ?va52) rfl (by kernel_rfl) (by kernel_rfl) (by kernel_rfl) (fun _ _ _ h => h) (Or.inl ⟨by rfl, ?hya52⟩) (by assumption) ?rest52
    case hya52 => (intro wz hSw; (try dsimp only at hSw); go_simp; all_goals with_reducible rfl)
    try simp only [List.getElem_toArray, List.getElem_cons_succ, List.getElem_cons_zero, Act.put, List.setIfInBounds_toArray, List.set_cons_zero, List.set_cons_succ]
    refine wpAnyH_ready (rs := [4]) (by kernel_rfl) (by simp) ?_
    refine AllReadyH.cons rfl (fun K hK => ?_) AllReadyH.nil
    go_simp
    (go_at_call 48; refine (l05DrawNode_d _ _ _ _ _ _ SD.out).mono ?_; rintro e w9 ⟨nd, rfl, nd0, nd1, s9, g9⟩; have g10 : W3.grownBy w9 (some g) := ⟨g9.os, g9.tape, g9.output, g9.size, g9.block⟩; have E9 := hide (E4.out.next S4.out (by decide) g10); have A9 := hide (A4.out.next S4.out (by decide) g10); have B9 := hide (below_src B4.out g10 HG.out); have H9 := hide (H4.out.far g10 HGL.out); have S9 := hide (s9); clear e0 e1 e2 e3 z0 z1 z2 z3 y0 y1 y2 y3; have e0 := E9.out.cell 0; have z0 := A9.out.cell 0; have y0 := A9.out.frozen 0; have e1 := E9.out.cell 1; have z1 := A9.out.cell 1; have y1 := A9.out.frozen 1; have e2 := E9.out.cell 2; have z2 := A9.out.cell 2; have y2 := A9.out.frozen 2; have e3 := E9.out.cell 3; have z3 := A9.out.cell 3; have y3 := A9.out.frozen 3; simp at e0 e1 e2 e3 z0 z1 z2 z3)
    go_wp2_with fail
    refine hK.out _ _ ?_ (fun hHeld4 => ?_)
    · (try dsimp only)
      go_keep
    clear hK K
    try simp only [List.getElem_toArray, List.getElem_cons_succ, List.getElem_cons_zero, Act.put, List.setIfInBounds_toArray, List.set_cons_zero, List.set_cons_succ]
    refine wpAnyH_ready (rs := [5]) (by kernel_rfl) (by simp) ?_
    refine AllReadyH.cons rfl (fun K hK => ?_) AllReadyH.nil
    go_simp
    refine hK.out _ _ ?_ (fun hHeld5 => ?_)
    · (try dsimp only)
      go_keep
    clear hK K
    try simp only [List.getElem_toArray, List.getElem_cons_succ, List.getElem_cons_zero, Act.put, List.setIfInBounds_toArray, List.set_cons_zero, List.set_cons_succ]
    refine wpAnyH_take (i := 6) (v := ?va53) rfl (by kernel_rfl) (by kernel_rfl) (by kernel_rfl) (fun _ _ _ h => h) (Or.inl ⟨by rfl, ?hya53⟩) (by assumption) ?rest53
    case hya53 => (intro wz hSw; (try dsimp only at hSw); go_simp; all_goals with_reducible rfl)
    try simp only [List.getElem_toArray, List.getElem_cons_succ, List.getElem_cons_zero, Act.put, List.setIfInBounds_toArray, List.set_cons_zero, List.set_cons_succ]
    refine wpAnyH_take (i := 7) (v := ?va54) rfl (by kernel_rfl) (by kernel_rfl) (by kernel_rfl) (fun _ _ _ h => h) (Or.inl ⟨by rfl, ?hya54⟩) (by assumption) ?rest54
    case hya54 => (intro wz hSw; (try dsimp only at hSw); go_simp; all_goals with_reducible rfl)
    try simp only [List.getElem_toArray, List.getElem_cons_succ, List.getElem_cons_zero, Act.put, List.setIfInBounds_toArray, List.set_cons_zero, List.set_cons_succ]
    refine wpAnyH_take (i := 8) (v := ?va55) rfl (by kernel_rfl) (by kernel_rfl) (by kernel_rfl) (fun _ _ _ h => h) (Or.inl ⟨by rfl, ?hya55⟩) (by assumption) ?rest55
    case hya55 => (intro wz hSw; (try dsimp only at hSw); go_simp; all_goals with_reducible rfl)
    try simp only [List.getElem_toArray, List.getElem_cons_succ, List.getElem_cons_zero, Act.put, List.setIfInBounds_toArray, List.set_cons_zero, List.set_cons_succ]
    refine wpAnyH_done (by kernel_rfl) ?_ _
    go_wp2
    have fin := (((A9.out.set 0 (.int .i64 m.id)).set 1 (.slice A1 0 c1)).set 2 (.slice A2 n2 c2)).set 3 (.slice A3 n3 q3)
    refine bodyPost_ret (results_M3 Tryz.results14 rfl fin) rfl ?_
    exact ⟨_, m, mode, _, _, rfl, (H9.out.set4 HDL.out _ _ _ _).mono HWL.out, NK.out, iab, ⟨by omega, by omega⟩, below_set4 B9.out HD0L.out _ _ _ _⟩
end Go.Proofs.YtdkhldebnpmiiaaGreatDoor
