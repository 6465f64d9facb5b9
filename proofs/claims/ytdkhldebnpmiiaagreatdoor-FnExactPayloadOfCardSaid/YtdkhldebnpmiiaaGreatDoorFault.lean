/- Contracts: the first fault of a schedule, by the program and by the reference. -/
import Derived.Test.YtdkhldebnpmiiaaGreatDoorSteady2
import Derived.Test.YtdkhldebnpmiiaaGreatDoorNTab2
import Derived.Test.YtdkhldebnpmiiaaGreatDoorMTab
namespace Go.Proofs.YtdkhldebnpmiiaaGreatDoor
open Go.RowKit
set_option linter.unusedVariables false
set_option linter.unusedSimpArgs false

theorem inB_iff {lo hi x : Int} : inB lo hi x = true ↔ lo ≤ x ∧ x ≤ hi := by rw [inB, Bool.and_eq_true, decide_eq_true_iff, decide_eq_true_iff]
theorem ids_of {ns : List Nod} (h : ntB ns = true) : Ids ns := fun x hx => by
  rw [ntB, Bool.and_eq_true] at h
  obtain ⟨k, hk, rfl⟩ := List.getElem_of_mem hx
  have := List.all_eq_true.1 h.2 k (List.mem_range.2 hk)
  rw [okN, Bool.and_eq_true, nodA_eq (List.getElem?_eq_getElem hk), nodeB, Bool.and_eq_true, Bool.and_eq_true, inB_iff] at this
  omega
theorem rds_of {ms : List PMod} (h : mtB ms = true) : Rds ms ∧ ms.length ≤ 16 ∧ 1 ≤ ms.length := by
  rw [mtB, Bool.and_eq_true, inB_iff] at h
  refine ⟨fun x hx => ?_, by omega, by omega⟩
  obtain ⟨k, hk, rfl⟩ := List.getElem_of_mem hx
  have := List.all_eq_true.1 h.2 k (List.mem_range.2 hk)
  rw [okMs_at (List.getElem?_eq_getElem hk), okM, Bool.and_eq_true, Bool.and_eq_true, inB_iff, inB_iff] at this
  omega
theorem nds_of {l : List Slt} (h : stB l = true) : Nds l := fun x hx => by
  obtain ⟨k, hk, rfl⟩ := List.getElem_of_mem hx
  have := slt_bounds (stB_at h (List.getElem?_eq_getElem hk))
  omega
theorem szB_ge {kd sz : Int} (h : szB kd sz = true) : 0 ≤ sz ∧ sz ≤ 32 := szB_le h
theorem durs_of {l : List Slt} (h : stB l = true) : Durs l := fun x hx => by
  obtain ⟨k, hk, rfl⟩ := List.getElem_of_mem hx
  have b := slt_bounds (stB_at h (List.getElem?_eq_getElem hk))
  have := cellI_le (kd := l[k].kd) (szB_ge b.2.2.2.2.2.1)
  omega
theorem len_of {l : List Slt} (h : stB l = true) : l.length ≤ 120 := by
  rw [stB, Bool.and_eq_true, decide_eq_true_iff] at h
  exact h.2
/-- the first fault, or none -/
def ffB (m : Mdl) : Int := bif inB 1 16777215 m.id then bif ntB m.ns then bif mtB m.ms then bif stB m.ss then bif compB m then bif m.ss.any (strB m.ns) then 6 else bif stdB m.ss then bif shortB m then bif servB m then bif m.ss.any coldB then 10 else 0 else 9 else 8 else 7 else 5 else 4 else 3 else 2 else 1
def mdB (m : Mdl) : Bool := ffB m == 0
theorem mdB_iff {m : Mdl} : mdB m = true ↔ (inB 1 16777215 m.id = true ∧ ntB m.ns = true ∧ mtB m.ms = true ∧ stB m.ss = true ∧ compB m = true ∧ m.ss.any (strB m.ns) = false ∧ stdB m.ss = true ∧ shortB m = true ∧ servB m = true ∧ m.ss.any coldB = false) := by
  rw [mdB, ffB]
  cases inB 1 16777215 m.id <;> cases ntB m.ns <;> cases mtB m.ms <;> cases stB m.ss <;> cases compB m <;> cases m.ss.any (strB m.ns) <;> cases stdB m.ss <;> cases shortB m <;> cases servB m <;> cases m.ss.any coldB <;> simp
set_option maxHeartbeats 6400000 in
theorem iFirstFault_any (v : Value) (m : Mdl) (w : World) (h : RdM w v m) :
    Calls Tryz.prog 120 #[v] w (IntOut (ffB m) w) := by
  have HM := hide h
  obtain ⟨A1, n1, c1, A2, n2, c2, A3, n3, q3, rfl, h1, h2, h3⟩ := h
  have hlen2 := hide h2.len
  have hlen := hide h3.len
  have hcap2 := h2.cap
  have hcap := h3.cap
  obtain ⟨W0, hW0⟩ : ∃ W0, W0 = w.alloc (.cells #[.int .i64 m.id, .slice A1 n1 c1, .slice A2 n2 c2, .slice A3 n3 q3] 28) := ⟨_, rfl⟩
  have F0 : At W0 w.heap.size 28 #[.int .i64 m.id, .slice A1 n1 c1, .slice A2 n2 c2, .slice A3 n3 q3] := by rw [hW0]; exact At.fresh _ _ _
  have BA := hide (show Below w.heap.size w W0 by rw [hW0]; exact (Below.refl _ _).alloc (Nat.le_refl _) _)
  have B0 := hide (Below.refl W0.heap.size W0)
  have H1 := hide (h1.below BA.out)
  have H2 := hide (h2.below BA.out)
  have H3 := hide (h3.below BA.out)
  have HM0 := hide (HM.out.below BA.out)
  have HF := hide F0
  have d0 := F0.cell 0
  have d1 := F0.cell 1
  have d2 := F0.cell 2
  have d3 := F0.cell 3
  simp at d0 d1 d2 d3
  have HW := hide hW0
  clear hW0 F0 h1 h2 h3 HM
  go_enter Tryz.func120, Tryz.ntmps120
  go_wp2_with fail
  rw [← HW.out]
  go_wp2_with fail
  go_at_call 101
  (with_reducible refine (within_any _ _ _ _).mono ?_)
  rintro ee w1 ⟨rfl, rfl⟩
  have B1 := B0
  cases p1 : inB 1 16777215 m.id
  · go_wp2
    go_ret
    exact ⟨by rw [ffB, p1]; rfl, below_trans BA.out B1.out⟩
  have HP1 := hide p1
  clear p1
  go_wp2_with fail
  go_at_call 137
  (with_reducible refine (iIsNodeTable_any _ _ _ _ _ (H1.out.below B1.out)).mono ?_)
  rintro ee w2 ⟨rfl, b1⟩
  clear d0 d1 d2 d3
  have B2 := hide (below_trans B1.out b1)
  have F := HF.out.keep B2.out
  have d0 := F.cell 0
  have d1 := F.cell 1
  have d2 := F.cell 2
  have d3 := F.cell 3
  simp at d0 d1 d2 d3
  clear F b1
  cases p2 : ntB m.ns
  · go_wp2
    go_ret
    exact ⟨by rw [ffB, HP1.out, p2]; rfl, below_trans BA.out B2.out⟩
  have HP2 := hide p2
  clear p2
  go_wp2_with fail
  go_at_call 138
  (with_reducible refine (iIsModeTable_any _ _ _ _ _ (H2.out.below B2.out)).mono ?_)
  rintro ee w3 ⟨rfl, b1⟩
  clear d0 d1 d2 d3
  have B3 := hide (below_trans B2.out b1)
  have F := HF.out.keep B3.out
  have d0 := F.cell 0
  have d1 := F.cell 1
  have d2 := F.cell 2
  have d3 := F.cell 3
  simp at d0 d1 d2 d3
  clear F b1
  cases p3 : mtB m.ms
  · go_wp2
    go_ret
    exact ⟨by rw [ffB, HP1.out, HP2.out, p3]; rfl, below_trans BA.out B3.out⟩
  have HP3 := hide p3
  clear p3
  go_wp2_with fail
  go_at_call 139
  (with_reducible refine (iIsSlotTable_any _ _ _ _ _ (H3.out.below B3.out)).mono ?_)
  rintro ee w4 ⟨rfl, b1⟩
  clear d0 d1 d2 d3
  have B4 := hide (below_trans B3.out b1)
  have F := HF.out.keep B4.out
  have d0 := F.cell 0
  have d1 := F.cell 1
  have d2 := F.cell 2
  have d3 := F.cell 3
  simp at d0 d1 d2 d3
  clear F b1
  cases p4 : stB m.ss
  · go_wp2
    go_ret
    exact ⟨by rw [ffB, HP1.out, HP2.out, HP3.out, p4]; rfl, below_trans BA.out B4.out⟩
  have HP4 := hide p4
  clear p4
  have hRd := hide (rds_of HP3.out)
  have hId := hide (ids_of HP2.out)
  have hNd := hide (nds_of HP4.out)
  have hDu := hide (durs_of HP4.out)
  have hLn := hide (len_of HP4.out)
  go_wp2_with fail
  go_at_call 140
  (with_reducible refine (isComplete_any _ m _ (HM0.out.below B4.out) hRd.out.1).mono ?_)
  rintro ee w5 ⟨rfl, b1⟩
  clear d0 d1 d2 d3
  have B5 := hide (below_trans B4.out b1)
  have F := HF.out.keep B5.out
  have d0 := F.cell 0
  have d1 := F.cell 1
  have d2 := F.cell 2
  have d3 := F.cell 3
  simp at d0 d1 d2 d3
  clear F b1
  cases p5 : compB m
  · go_wp2
    go_ret
    exact ⟨by rw [ffB, HP1.out, HP2.out, HP3.out, HP4.out, p5]; rfl, below_trans BA.out B5.out⟩
  have HP5 := hide p5
  clear p5
  have G1 := hide d1
  go_wp2_with fail
  go_at_call 141
  (with_reducible refine (contains_stranger _ _ _ _ m.ns _ _ _ m.ss _ (H3.out.below B5.out) G1.out (H1.out.below B5.out) hId.out hNd.out).mono ?_)
  rintro ee w6 ⟨rfl, b1⟩
  clear d0 d1 d2 d3
  have B6 := hide (below_trans B5.out b1)
  have F := HF.out.keep B6.out
  have d0 := F.cell 0
  have d1 := F.cell 1
  have d2 := F.cell 2
  have d3 := F.cell 3
  simp at d0 d1 d2 d3
  clear F b1
  cases p6 : m.ss.any (strB m.ns)
  rotate_left
  · go_wp2
    go_ret
    exact ⟨by rw [ffB, HP1.out, HP2.out, HP3.out, HP4.out, HP5.out, p6]; rfl, below_trans BA.out B6.out⟩
  have HP6 := hide p6
  clear p6
  go_wp2_with fail
  go_at_call 142
  (with_reducible refine (isSteady_any _ m _ (HM0.out.below B6.out) hRd.out.1 HP5.out).mono ?_)
  rintro ee w7 ⟨rfl, b1⟩
  clear d0 d1 d2 d3
  have B7 := hide (below_trans B6.out b1)
  have F := HF.out.keep B7.out
  have d0 := F.cell 0
  have d1 := F.cell 1
  have d2 := F.cell 2
  have d3 := F.cell 3
  simp at d0 d1 d2 d3
  clear F b1
  cases p7 : stdB m.ss
  · go_wp2
    go_ret
    exact ⟨by rw [ffB, HP1.out, HP2.out, HP3.out, HP4.out, HP5.out, HP6.out, p7]; rfl, below_trans BA.out B7.out⟩
  have HP7 := hide p7
  clear p7
  go_wp2_with fail
  go_at_call 143
  (with_reducible refine (isShort_any _ m _ (HM0.out.below B7.out) hLn.out hDu.out).mono ?_)
  rintro ee w8 ⟨rfl, b1⟩
  clear d0 d1 d2 d3
  have B8 := hide (below_trans B7.out b1)
  have F := HF.out.keep B8.out
  have d0 := F.cell 0
  have d1 := F.cell 1
  have d2 := F.cell 2
  have d3 := F.cell 3
  simp at d0 d1 d2 d3
  clear F b1
  cases p8 : shortB m
  · go_wp2
    go_ret
    exact ⟨by rw [ffB, HP1.out, HP2.out, HP3.out, HP4.out, HP5.out, HP6.out, HP7.out, p8]; rfl, below_trans BA.out B8.out⟩
  have HP8 := hide p8
  clear p8
  go_wp2_with fail
  go_at_call 144
  (with_reducible refine (allSend_any _ m _ (HM0.out.below B8.out) hId.out hNd.out hRd.out.1 HP6.out).mono ?_)
  rintro ee w9 ⟨rfl, b1⟩
  clear d0 d1 d2 d3
  have B9 := hide (below_trans B8.out b1)
  have F := HF.out.keep B9.out
  have d0 := F.cell 0
  have d1 := F.cell 1
  have d2 := F.cell 2
  have d3 := F.cell 3
  simp at d0 d1 d2 d3
  clear F b1
  cases p9 : servB m
  · go_wp2
    go_ret
    exact ⟨by rw [ffB, HP1.out, HP2.out, HP3.out, HP4.out, HP5.out, HP6.out, HP7.out, HP8.out, p9]; rfl, below_trans BA.out B9.out⟩
  have HP9 := hide p9
  clear p9
  go_wp2_with fail
  go_at_call 141
  (with_reducible refine (contains_cold _ _ _ m.ss _ (H3.out.below B9.out)).mono ?_)
  rintro ee w10 ⟨rfl, b1⟩
  clear d0 d1 d2 d3
  have B10 := hide (below_trans B9.out b1)
  have F := HF.out.keep B10.out
  have d0 := F.cell 0
  have d1 := F.cell 1
  have d2 := F.cell 2
  have d3 := F.cell 3
  simp at d0 d1 d2 d3
  clear F b1
  cases p10 : m.ss.any coldB
  rotate_left
  · go_wp2
    go_ret
    exact ⟨by rw [ffB, HP1.out, HP2.out, HP3.out, HP4.out, HP5.out, HP6.out, HP7.out, HP8.out, HP9.out, p10]; rfl, below_trans BA.out B10.out⟩
  have HP10 := hide p10
  clear p10
  go_wp2
  go_ret
  exact ⟨by rw [ffB, HP1.out, HP2.out, HP3.out, HP4.out, HP5.out, HP6.out, HP7.out, HP8.out, HP9.out, HP10.out]; rfl, below_trans BA.out B10.out⟩
set_option maxHeartbeats 1600000 in
theorem iIsMedl_any (v : Value) (m : Mdl) (w : World) (h : RdM w v m) :
    Calls Tryz.prog 100 #[v] w (BoolOut (mdB m) w) := by
  have HM := hide h
  obtain ⟨A1, n1, c1, A2, n2, c2, A3, n3, q3, rfl, h1, h2, h3⟩ := h
  clear h1 h2 h3
  have H0 := hide (show RdM (w.alloc (.cells #[.int .i64 m.id, .slice A1 n1 c1, .slice A2 n2 c2, .slice A3 n3 q3] 28)) _ m from HM.out.below ((Below.refl _ _).alloc (Nat.le_refl _) _))
  have BA := hide (show Below w.heap.size w (w.alloc (.cells #[.int .i64 m.id, .slice A1 n1 c1, .slice A2 n2 c2, .slice A3 n3 q3] 28)) from (Below.refl _ _).alloc (Nat.le_refl _) _)
  have E := hide (show mdB m = (ffB m == 0) from rfl)
  go_enter Tryz.func100, Tryz.ntmps100
  go_wp2_with fail
  go_at_call 120
  (with_reducible refine (iFirstFault_any _ m _ H0.out).mono ?_)
  rintro ee w1 ⟨rfl, b1⟩
  have B := hide (below_trans BA.out b1)
  clear b1
  go_wp2
  go_ret
  exact ⟨by rw [E.out]; rfl, B.out⟩
end Go.Proofs.YtdkhldebnpmiiaaGreatDoor
