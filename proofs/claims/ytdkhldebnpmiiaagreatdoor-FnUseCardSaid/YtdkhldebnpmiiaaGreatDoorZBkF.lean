/- Contracts: a table of modes, by the program and by the reference. Contracts: the first fault of a schedule, by the program and by the reference. Contracts: the first fault of a schedule, by the reference. Contracts: the code for a schedule and a mode. -/
import Derived.Test.YtdkhldebnpmiiaaGreatDoorZRis
import Derived.Test.YtdkhldebnpmiiaaGreatDoorZSteady2
import Derived.Test.YtdkhldebnpmiiaaGreatDoorZNTab2
namespace Go.Proofs.YtdkhldebnpmiiaaGreatDoor
open Go.RowKit
set_option linter.unusedVariables false
set_option linter.unusedSimpArgs false
def okM (m : Nat) (k : Nat) (x : PMod) : Bool := inB 1 8 x.rd && (inB 1 16 x.sl && (risB m x.nx && !hasB x.nx k))
def okMs (ms : List PMod) (k : Nat) : Bool := match ms[k]? with | some x => okM ms.length k x | none => true
def allM (ms : List PMod) (k : Nat) : Bool := (List.range k).all (okMs ms)
theorem allM_succ (ms : List PMod) (k : Nat) : allM ms (k + 1) = (allM ms k && okMs ms k) := by simp [allM, List.range_succ]
def mtB (ms : List PMod) : Bool := inB 1 16 ms.length && allM ms ms.length
theorem okMs_at {ms : List PMod} {k : Nat} {x : PMod} (h : ms[k]? = some x) : okMs ms k = okM ms.length k x := by rw [okMs, h]
theorem mtB_bad {ms : List PMod} {k : Nat} {x : PMod} (h : ms[k]? = some x) (hb : okM ms.length k x = false) : mtB ms = false := by
  have : allM ms ms.length = false := List.all_eq_false.2 ⟨k, List.mem_range.2 (get_lt h), by rw [okMs_at h, hb]; simp⟩
  rw [mtB, this, Bool.and_false]
theorem mtB_good {ms : List PMod} {k : Nat} {x : PMod} (h : ms[k]? = some x) (ha : allM ms k = true) (hb : okM ms.length k x = true) : allM ms (k + 1) = true := by rw [allM_succ, ha, okMs_at h, hb]; rfl
set_option maxHeartbeats 6400000 in
theorem iIsModeTable_any (A : Option Addr) (n c : Nat) (ms : List PMod) (w : World) (h : RdMs w A n c ms) : Calls Tryz.prog 138 #[.slice A n c] w (BoolOut (mtB ms) w) := by
  have hcap := h.cap
  have hlen := hide h.len
  go_enter Tryz.func138, Tryz.ntmps138
  go_wp2
  go_loopw [7] (fun i wr => ∃ k : Nat, k ≤ n ∧ i = .int .i64 k ∧ Hid (allM ms k = true) ∧ Hid (Below w.heap.size w wr)) (fun i _ => n - (intOf i).toNat)
  case atStart => exact ⟨0, by omega, rfl, hide rfl, hide (Below.refl _ _)⟩
  case round =>
    obtain ⟨k, hk, rfl, hall, hbel⟩ := hrel
    by_cases hlt : k < n
    · obtain ⟨b, off, x, rfl, hb, hx, rx, c0, c1, c2⟩ := mod_at (h.below hbel.out) hlt
      have HX := hide hx
      have BA := (Below.refl wr.heap.size wr).alloc (Nat.le_refl _) (.cells #[.int .i64 x.rd, .int .i64 x.sl, .slice x.A x.n x.c] 107)
      have F0 := At.fresh wr 107 #[.int .i64 x.rd, .int .i64 x.sl, .slice x.A x.n x.c]
      have HR := hide (rx.below BA)
      have HB := hide (below_trans hbel.out BA)
      have hxc := rx.cap
      clear hx rx BA
      cases h1 : inB 1 8 x.rd
      · have E := hide (mtB_bad HX.out (show okM ms.length k (Mod.p x) = false by rw [okM, show (Mod.p x).rd = x.rd from rfl, h1, Bool.false_and]))
        have H1 := hide h1
        have H2 := H1
        clear h1
        go_wp2_with (first | (go_at_call 101; refine (within_any _ _ _ _).mono ?_; rintro ee w2 ⟨rfl, rfl⟩; first | rw [H1.out] | rw [H2.out]))
        go_ret
        exact ⟨by rw [E.out]; rfl, HB.out⟩
      · have H1 := hide h1
        cases h2 : inB 1 16 x.sl
        · have E := hide (mtB_bad HX.out (show okM ms.length k (Mod.p x) = false by rw [okM, show (Mod.p x).rd = x.rd from rfl, show (Mod.p x).sl = x.sl from rfl, h1, h2]; rfl))
          have H2 := hide h2
          clear h1 h2
          go_wp2_with (first | (go_at_call 101; refine (within_any _ _ _ _).mono ?_; rintro ee w2 ⟨rfl, rfl⟩; first | rw [H1.out] | rw [H2.out]))
          go_ret
          exact ⟨by rw [E.out]; rfl, HB.out⟩
        · have H2 := hide h2
          cases h3 : risB n x.nx
          · have E := hide (mtB_bad HX.out (show okM ms.length k (Mod.p x) = false by rw [okM, show (Mod.p x).rd = x.rd from rfl, show (Mod.p x).sl = x.sl from rfl, show (Mod.p x).nx = x.nx from rfl, hlen.out, h1, h2, h3]; rfl))
            have H3 := hide h3
            clear h1 h2 h3
            go_wp2_with (first | (go_at_call 101; refine (within_any _ _ _ _).mono ?_; rintro ee w2 ⟨rfl, rfl⟩; first | rw [H1.out] | rw [H2.out]) | (go_at_call 157; refine (iisRising_any _ _ _ _ (n : Int) _ HR.out).mono ?_; rintro ee w3 ⟨rfl, rfl⟩; rw [H3.out]))
            go_ret
            exact ⟨by rw [E.out]; rfl, HB.out⟩
          · have H3 := hide h3
            cases h4 : hasB x.nx k
            · have NN := hide (mtB_good HX.out hall.out (show okM ms.length k (Mod.p x) = true by rw [okM, show (Mod.p x).rd = x.rd from rfl, show (Mod.p x).sl = x.sl from rfl, show (Mod.p x).nx = x.nx from rfl, hlen.out, h1, h2, h3, h4]; rfl))
              have H4 := hide h4
              clear h1 h2 h3 h4
              go_wp2_with (first | (go_at_call 101; refine (within_any _ _ _ _).mono ?_; rintro ee w2 ⟨rfl, rfl⟩; first | rw [H1.out] | rw [H2.out]) | (go_at_call 157; refine (iisRising_any _ _ _ _ (n : Int) _ HR.out).mono ?_; rintro ee w3 ⟨rfl, rfl⟩; rw [H3.out]) | (go_at_call 158; refine (sContains_any _ _ _ _ (k : Int) _ HR.out).mono ?_; rintro ee w4 ⟨rfl, rfl⟩; rw [H4.out]))
              go_roundw
              case rel => exact ⟨k + 1, by omega, by go_num, NN, HB⟩
              case measure => simp [intOf]; omega
            · have E := hide (mtB_bad HX.out (show okM ms.length k (Mod.p x) = false by rw [okM, show (Mod.p x).rd = x.rd from rfl, show (Mod.p x).sl = x.sl from rfl, show (Mod.p x).nx = x.nx from rfl, hlen.out, h1, h2, h3, h4]; rfl))
              have H4 := hide h4
              clear h1 h2 h3 h4
              go_wp2_with (first | (go_at_call 101; refine (within_any _ _ _ _).mono ?_; rintro ee w2 ⟨rfl, rfl⟩; first | rw [H1.out] | rw [H2.out]) | (go_at_call 157; refine (iisRising_any _ _ _ _ (n : Int) _ HR.out).mono ?_; rintro ee w3 ⟨rfl, rfl⟩; rw [H3.out]) | (go_at_call 158; refine (sContains_any _ _ _ _ (k : Int) _ HR.out).mono ?_; rintro ee w4 ⟨rfl, rfl⟩; rw [H4.out]))
              go_ret
              exact ⟨by rw [E.out]; rfl, HB.out⟩
    · obtain rfl : k = n := by omega
      have E : Hid (mtB ms = (decide ((1 : Int) ≤ (k : Int)) && decide ((k : Int) ≤ 16))) := by
        have h1 := hall.out
        show mtB ms = _
        rw [mtB, hlen.out, h1, Bool.and_true]
        rfl
      by_cases h1 : 1 ≤ k
      · have t1 : decide ((1 : Int) ≤ (k : Int)) = true := decide_eq_true (by omega)
        go_wp2
        go_ret
        exact ⟨by rw [E.out, t1]; rfl, hbel.out⟩
      · have t1 : decide ((1 : Int) ≤ (k : Int)) = false := decide_eq_false (by omega)
        go_wp2
        go_ret
        exact ⟨by rw [E.out, t1]; rfl, hbel.out⟩
set_option maxHeartbeats 6400000 in
theorem sIsModeTable_any (A : Option Addr) (n c : Nat) (ms : List PMod) (w : World) (h : RdMs w A n c ms) : Calls Tryz.prog 145 #[.slice A n c] w (BoolOut (mtB ms) w) := by
  have hcap := h.cap
  have hlen := hide h.len
  go_enter Tryz.func145, Tryz.ntmps145
  cases hin : inB 1 16 n
  · have E := hide (show mtB ms = false by rw [mtB, hlen.out, hin]; rfl)
    go_wp2_with (go_at_call 122; refine (l01In_any _ _ _ _).mono ?_; rintro ee w1 ⟨rfl, rfl⟩; rw [hin])
    go_ret
    exact ⟨by rw [E.out]; rfl, Below.refl _ _⟩
  · have E0 := hide (show mtB ms = allM ms n by rw [mtB, hlen.out, hin]; rfl)
    go_wp2_with (go_at_call 122; refine (l01In_any _ _ _ _).mono ?_; rintro ee w1 ⟨rfl, rfl⟩; rw [hin])
    clear hin
    go_loopw [3] (fun i wr => ∃ k : Nat, k ≤ n ∧ i = .int .i64 k ∧ Hid (allM ms k = true) ∧ Hid (Below w.heap.size w wr)) (fun i _ => n - (intOf i).toNat)
    case atStart => exact ⟨0, by omega, rfl, hide rfl, hide (Below.refl _ _)⟩
    case round =>
      obtain ⟨k, hk, rfl, hall, hbel⟩ := hrel
      by_cases hlt : k < n
      · obtain ⟨b, off, x, rfl, hb, hx, rx, c0, c1, c2⟩ := mod_at (h.below hbel.out) hlt
        have HX := hide hx
        have BA := (Below.refl wr.heap.size wr).alloc (Nat.le_refl _) (.cells #[.int .i64 x.rd, .int .i64 x.sl, .slice x.A x.n x.c] 107)
        have F0 := At.fresh wr 107 #[.int .i64 x.rd, .int .i64 x.sl, .slice x.A x.n x.c]
        have HR := hide (rx.below BA)
        have HB := hide (below_trans hbel.out BA)
        have hxc := rx.cap
        clear hx rx BA
        cases h1 : inB 1 8 x.rd
        · have E := hide (mtB_bad HX.out (show okM ms.length k (Mod.p x) = false by rw [okM, show (Mod.p x).rd = x.rd from rfl, h1, Bool.false_and]))
          have H1 := hide h1
          have H2 := H1
          clear h1
          go_wp2_with (first | (go_at_call 122; refine (l01In_any _ _ _ _).mono ?_; rintro ee w2 ⟨rfl, rfl⟩; first | rw [H1.out] | rw [H2.out]))
          go_ret
          exact ⟨by rw [E.out]; rfl, HB.out⟩
        · have H1 := hide h1
          cases h2 : inB 1 16 x.sl
          · have E := hide (mtB_bad HX.out (show okM ms.length k (Mod.p x) = false by rw [okM, show (Mod.p x).rd = x.rd from rfl, show (Mod.p x).sl = x.sl from rfl, h1, h2]; rfl))
            have H2 := hide h2
            clear h1 h2
            go_wp2_with (first | (go_at_call 122; refine (l01In_any _ _ _ _).mono ?_; rintro ee w2 ⟨rfl, rfl⟩; first | rw [H1.out] | rw [H2.out]))
            go_ret
            exact ⟨by rw [E.out]; rfl, HB.out⟩
          · have H2 := hide h2
            cases h3 : risB n x.nx
            · have E := hide (mtB_bad HX.out (show okM ms.length k (Mod.p x) = false by rw [okM, show (Mod.p x).rd = x.rd from rfl, show (Mod.p x).sl = x.sl from rfl, show (Mod.p x).nx = x.nx from rfl, hlen.out, h1, h2, h3]; rfl))
              have H3 := hide h3
              clear h1 h2 h3
              go_wp2_with (first | (go_at_call 122; refine (l01In_any _ _ _ _).mono ?_; rintro ee w2 ⟨rfl, rfl⟩; first | rw [H1.out] | rw [H2.out]) | (go_at_call 163; refine (l01Rises_any _ _ _ _ (n : Int) _ HR.out (by omega) (by omega)).mono ?_; rintro ee w3 ⟨rfl, b3⟩; rw [H3.out]; have B3 := hide (below_trans HB.out b3); have HR3 := hide (HR.out.below b3); have F3 := F0.keep b3; have e2 := F3.cell 2; simp at e2; clear b3 F3))
              go_ret
              exact ⟨by rw [E.out]; rfl, B3.out⟩
            · have H3 := hide h3
              cases h4 : hasB x.nx k
              · have NN := hide (mtB_good HX.out hall.out (show okM ms.length k (Mod.p x) = true by rw [okM, show (Mod.p x).rd = x.rd from rfl, show (Mod.p x).sl = x.sl from rfl, show (Mod.p x).nx = x.nx from rfl, hlen.out, h1, h2, h3, h4]; rfl))
                have H4 := hide h4
                clear h1 h2 h3 h4
                go_wp2_with (first | (go_at_call 122; refine (l01In_any _ _ _ _).mono ?_; rintro ee w2 ⟨rfl, rfl⟩; first | rw [H1.out] | rw [H2.out]) | (go_at_call 163; refine (l01Rises_any _ _ _ _ (n : Int) _ HR.out (by omega) (by omega)).mono ?_; rintro ee w3 ⟨rfl, b3⟩; rw [H3.out]; have B3 := hide (below_trans HB.out b3); have HR3 := hide (HR.out.below b3); have F3 := F0.keep b3; have e2 := F3.cell 2; simp at e2; clear b3 F3) | (go_at_call 164; refine (l01Has_any _ _ _ _ (k : Int) _ HR3.out).mono ?_; rintro ee w4 ⟨rfl, rfl⟩; rw [H4.out]))
                go_roundw
                case rel => exact ⟨k + 1, by omega, by go_num, NN, B3⟩
                case measure => simp [intOf]; omega
              · have E := hide (mtB_bad HX.out (show okM ms.length k (Mod.p x) = false by rw [okM, show (Mod.p x).rd = x.rd from rfl, show (Mod.p x).sl = x.sl from rfl, show (Mod.p x).nx = x.nx from rfl, hlen.out, h1, h2, h3, h4]; rfl))
                have H4 := hide h4
                clear h1 h2 h3 h4
                go_wp2_with (first | (go_at_call 122; refine (l01In_any _ _ _ _).mono ?_; rintro ee w2 ⟨rfl, rfl⟩; first | rw [H1.out] | rw [H2.out]) | (go_at_call 163; refine (l01Rises_any _ _ _ _ (n : Int) _ HR.out (by omega) (by omega)).mono ?_; rintro ee w3 ⟨rfl, b3⟩; rw [H3.out]; have B3 := hide (below_trans HB.out b3); have HR3 := hide (HR.out.below b3); have F3 := F0.keep b3; have e2 := F3.cell 2; simp at e2; clear b3 F3) | (go_at_call 164; refine (l01Has_any _ _ _ _ (k : Int) _ HR3.out).mono ?_; rintro ee w4 ⟨rfl, rfl⟩; rw [H4.out]))
                go_ret
                exact ⟨by rw [E.out]; rfl, B3.out⟩
      · obtain rfl : k = n := by omega
        go_wp2
        go_ret
        exact ⟨by rw [E0.out, hall.out]; rfl, hbel.out⟩
end Go.Proofs.YtdkhldebnpmiiaaGreatDoor
namespace Go.Proofs.YtdkhldebnpmiiaaGreatDoor
open Go.RowKit
set_option linter.unusedVariables false
set_option linter.unusedSimpArgs false
theorem inB_iff {lo hi x : Int} : inB lo hi x = true ↔ lo ≤ x ∧ x ≤ hi := by rw [inB, Bool.and_eq_true, decide_eq_true_iff, decide_eq_true_iff]
theorem ids_of {ns : List Nod} (h : ntB ns = true) : Ids ns := fun x hx => by
  rw [ntB, Bool.and_eq_true] at h
  obtain ⟨k, hk, rfl⟩ := List.getElem_of_mem hx
  have := List.all_eq_true.1 h.2 k (List.mem_range.2 hk)
  rw [okN, Bool.and_eq_true, nodA_eq (List.getElem?_eq_getElem hk), nodeB, Bool.and_eq_true, Bool.and_eq_true, inB_iff] at this
  omega
theorem rds_of {ms : List PMod} (h : mtB ms = true) : Rds ms ∧ ms.length ≤ 16 ∧ 1 ≤ ms.length := by
  rw [mtB, Bool.and_eq_true, inB_iff] at h
  refine ⟨fun x hx => ?_, by omega, by omega⟩
  obtain ⟨k, hk, rfl⟩ := List.getElem_of_mem hx
  have := List.all_eq_true.1 h.2 k (List.mem_range.2 hk)
  rw [okMs_at (List.getElem?_eq_getElem hk), okM, Bool.and_eq_true, Bool.and_eq_true, inB_iff, inB_iff] at this
  omega
theorem nds_of {l : List Slt} (h : stB l = true) : Nds l := fun x hx => by
  obtain ⟨k, hk, rfl⟩ := List.getElem_of_mem hx
  have := slt_bounds (stB_at h (List.getElem?_eq_getElem hk))
  omega
theorem szB_ge {kd sz : Int} (h : szB kd sz = true) : 0 ≤ sz ∧ sz ≤ 32 := szB_le h
theorem durs_of {l : List Slt} (h : stB l = true) : Durs l := fun x hx => by
  obtain ⟨k, hk, rfl⟩ := List.getElem_of_mem hx
  have b := slt_bounds (stB_at h (List.getElem?_eq_getElem hk))
  have := cellI_le (kd := l[k].kd) (szB_ge b.2.2.2.2.2.1)
  omega
theorem len_of {l : List Slt} (h : stB l = true) : l.length ≤ 120 := by
  rw [stB, Bool.and_eq_true, decide_eq_true_iff] at h
  exact h.2
/-- the first fault, or none -/
def ffB (m : Mdl) : Int := bif inB 1 16777215 m.id then bif ntB m.ns then bif mtB m.ms then bif stB m.ss then bif compB m then bif m.ss.any (strB m.ns) then 6 else bif stdB m.ss then bif shortB m then bif servB m then bif m.ss.any coldB then 10 else 0 else 9 else 8 else 7 else 5 else 4 else 3 else 2 else 1
def mdB (m : Mdl) : Bool := ffB m == 0
theorem mdB_iff {m : Mdl} : mdB m = true ↔ (inB 1 16777215 m.id = true ∧ ntB m.ns = true ∧ mtB m.ms = true ∧ stB m.ss = true ∧ compB m = true ∧ m.ss.any (strB m.ns) = false ∧ stdB m.ss = true ∧ shortB m = true ∧ servB m = true ∧ m.ss.any coldB = false) := by
  rw [mdB, ffB]
  cases inB 1 16777215 m.id <;> cases ntB m.ns <;> cases mtB m.ms <;> cases stB m.ss <;> cases compB m <;> cases m.ss.any (strB m.ns) <;> cases stdB m.ss <;> cases shortB m <;> cases servB m <;> cases m.ss.any coldB <;> simp
set_option maxHeartbeats 6400000 in
theorem iFirstFault_any (v : Value) (m : Mdl) (w : World) (h : RdM w v m) :
    Calls Tryz.prog 120 #[v] w (IntOut (ffB m) w) := by
  have HM := hide h
  obtain ⟨A1, n1, c1, A2, n2, c2, A3, n3, q3, rfl, h1, h2, h3⟩ := h
  have hlen2 := hide h2.len
  have hlen := hide h3.len
  have hcap2 := h2.cap
  have hcap := h3.cap
  obtain ⟨W0, hW0⟩ : ∃ W0, W0 = w.alloc (.cells #[.int .i64 m.id, .slice A1 n1 c1, .slice A2 n2 c2, .slice A3 n3 q3] 28) := ⟨_, rfl⟩
  have F0 : At W0 w.heap.size 28 #[.int .i64 m.id, .slice A1 n1 c1, .slice A2 n2 c2, .slice A3 n3 q3] := by rw [hW0]; exact At.fresh _ _ _
  have BA := hide (show Below w.heap.size w W0 by rw [hW0]; exact (Below.refl _ _).alloc (Nat.le_refl _) _)
  have B0 := hide (Below.refl W0.heap.size W0)
  have H1 := hide (h1.below BA.out)
  have H2 := hide (h2.below BA.out)
  have H3 := hide (h3.below BA.out)
  have HM0 := hide (HM.out.below BA.out)
  have HF := hide F0
  have d0 := F0.cell 0
  have d1 := F0.cell 1
  have d2 := F0.cell 2
  have d3 := F0.cell 3
  simp at d0 d1 d2 d3
  have HW := hide hW0
  clear hW0 F0 h1 h2 h3 HM
  go_enter Tryz.func120, Tryz.ntmps120
  go_wp2_with fail
  rw [← HW.out]
  go_wp2_with fail
  go_at_call 101
  (with_reducible refine (within_any _ _ _ _).mono ?_)
  rintro ee w1 ⟨rfl, rfl⟩
  have B1 := B0
  cases p1 : inB 1 16777215 m.id
  · go_wp2
    go_ret
    exact ⟨by rw [ffB, p1]; rfl, below_trans BA.out B1.out⟩
  have HP1 := hide p1
  clear p1
  go_wp2_with fail
  go_at_call 137
  (with_reducible refine (iIsNodeTable_any _ _ _ _ _ (H1.out.below B1.out)).mono ?_)
  rintro ee w2 ⟨rfl, b1⟩
  clear d0 d1 d2 d3
  have B2 := hide (below_trans B1.out b1)
  have F := HF.out.keep B2.out
  have d0 := F.cell 0
  have d1 := F.cell 1
  have d2 := F.cell 2
  have d3 := F.cell 3
  simp at d0 d1 d2 d3
  clear F b1
  cases p2 : ntB m.ns
  · go_wp2
    go_ret
    exact ⟨by rw [ffB, HP1.out, p2]; rfl, below_trans BA.out B2.out⟩
  have HP2 := hide p2
  clear p2
  go_wp2_with fail
  go_at_call 138
  (with_reducible refine (iIsModeTable_any _ _ _ _ _ (H2.out.below B2.out)).mono ?_)
  rintro ee w3 ⟨rfl, b1⟩
  clear d0 d1 d2 d3
  have B3 := hide (below_trans B2.out b1)
  have F := HF.out.keep B3.out
  have d0 := F.cell 0
  have d1 := F.cell 1
  have d2 := F.cell 2
  have d3 := F.cell 3
  simp at d0 d1 d2 d3
  clear F b1
  cases p3 : mtB m.ms
  · go_wp2
    go_ret
    exact ⟨by rw [ffB, HP1.out, HP2.out, p3]; rfl, below_trans BA.out B3.out⟩
  have HP3 := hide p3
  clear p3
  go_wp2_with fail
  go_at_call 139
  (with_reducible refine (iIsSlotTable_any _ _ _ _ _ (H3.out.below B3.out)).mono ?_)
  rintro ee w4 ⟨rfl, b1⟩
  clear d0 d1 d2 d3
  have B4 := hide (below_trans B3.out b1)
  have F := HF.out.keep B4.out
  have d0 := F.cell 0
  have d1 := F.cell 1
  have d2 := F.cell 2
  have d3 := F.cell 3
  simp at d0 d1 d2 d3
  clear F b1
  cases p4 : stB m.ss
  · go_wp2
    go_ret
    exact ⟨by rw [ffB, HP1.out, HP2.out, HP3.out, p4]; rfl, below_trans BA.out B4.out⟩
  have HP4 := hide p4
  clear p4
  have hRd := hide (rds_of HP3.out)
  have hId := hide (ids_of HP2.out)
  have hNd := hide (nds_of HP4.out)
  have hDu := hide (durs_of HP4.out)
  have hLn := hide (len_of HP4.out)
  go_wp2_with fail
  go_at_call 140
  (with_reducible refine (isComplete_any _ m _ (HM0.out.below B4.out) hRd.out.1).mono ?_)
  rintro ee w5 ⟨rfl, b1⟩
  clear d0 d1 d2 d3
  have B5 := hide (below_trans B4.out b1)
  have F := HF.out.keep B5.out
  have d0 := F.cell 0
  have d1 := F.cell 1
  have d2 := F.cell 2
  have d3 := F.cell 3
  simp at d0 d1 d2 d3
  clear F b1
  cases p5 : compB m
  · go_wp2
    go_ret
    exact ⟨by rw [ffB, HP1.out, HP2.out, HP3.out, HP4.out, p5]; rfl, below_trans BA.out B5.out⟩
  have HP5 := hide p5
  clear p5
  have G1 := hide d1
  go_wp2_with fail
  go_at_call 141
  (with_reducible refine (contains_stranger _ _ _ _ m.ns _ _ _ m.ss _ (H3.out.below B5.out) G1.out (H1.out.below B5.out) hId.out hNd.out).mono ?_)
  rintro ee w6 ⟨rfl, b1⟩
  clear d0 d1 d2 d3
  have B6 := hide (below_trans B5.out b1)
  have F := HF.out.keep B6.out
  have d0 := F.cell 0
  have d1 := F.cell 1
  have d2 := F.cell 2
  have d3 := F.cell 3
  simp at d0 d1 d2 d3
  clear F b1
  cases p6 : m.ss.any (strB m.ns)
  rotate_left
  · go_wp2
    go_ret
    exact ⟨by rw [ffB, HP1.out, HP2.out, HP3.out, HP4.out, HP5.out, p6]; rfl, below_trans BA.out B6.out⟩
  have HP6 := hide p6
  clear p6
  go_wp2_with fail
  go_at_call 142
  (with_reducible refine (isSteady_any _ m _ (HM0.out.below B6.out) hRd.out.1 HP5.out).mono ?_)
  rintro ee w7 ⟨rfl, b1⟩
  clear d0 d1 d2 d3
  have B7 := hide (below_trans B6.out b1)
  have F := HF.out.keep B7.out
  have d0 := F.cell 0
  have d1 := F.cell 1
  have d2 := F.cell 2
  have d3 := F.cell 3
  simp at d0 d1 d2 d3
  clear F b1
  cases p7 : stdB m.ss
  · go_wp2
    go_ret
    exact ⟨by rw [ffB, HP1.out, HP2.out, HP3.out, HP4.out, HP5.out, HP6.out, p7]; rfl, below_trans BA.out B7.out⟩
  have HP7 := hide p7
  clear p7
  go_wp2_with fail
  go_at_call 143
  (with_reducible refine (isShort_any _ m _ (HM0.out.below B7.out) hLn.out hDu.out).mono ?_)
  rintro ee w8 ⟨rfl, b1⟩
  clear d0 d1 d2 d3
  have B8 := hide (below_trans B7.out b1)
  have F := HF.out.keep B8.out
  have d0 := F.cell 0
  have d1 := F.cell 1
  have d2 := F.cell 2
  have d3 := F.cell 3
  simp at d0 d1 d2 d3
  clear F b1
  cases p8 : shortB m
  · go_wp2
    go_ret
    exact ⟨by rw [ffB, HP1.out, HP2.out, HP3.out, HP4.out, HP5.out, HP6.out, HP7.out, p8]; rfl, below_trans BA.out B8.out⟩
  have HP8 := hide p8
  clear p8
  go_wp2_with fail
  go_at_call 144
  (with_reducible refine (allSend_any _ m _ (HM0.out.below B8.out) hId.out hNd.out hRd.out.1 HP6.out).mono ?_)
  rintro ee w9 ⟨rfl, b1⟩
  clear d0 d1 d2 d3
  have B9 := hide (below_trans B8.out b1)
  have F := HF.out.keep B9.out
  have d0 := F.cell 0
  have d1 := F.cell 1
  have d2 := F.cell 2
  have d3 := F.cell 3
  simp at d0 d1 d2 d3
  clear F b1
  cases p9 : servB m
  · go_wp2
    go_ret
    exact ⟨by rw [ffB, HP1.out, HP2.out, HP3.out, HP4.out, HP5.out, HP6.out, HP7.out, HP8.out, p9]; rfl, below_trans BA.out B9.out⟩
  have HP9 := hide p9
  clear p9
  go_wp2_with fail
  go_at_call 141
  (with_reducible refine (contains_cold _ _ _ m.ss _ (H3.out.below B9.out)).mono ?_)
  rintro ee w10 ⟨rfl, b1⟩
  clear d0 d1 d2 d3
  have B10 := hide (below_trans B9.out b1)
  have F := HF.out.keep B10.out
  have d0 := F.cell 0
  have d1 := F.cell 1
  have d2 := F.cell 2
  have d3 := F.cell 3
  simp at d0 d1 d2 d3
  clear F b1
  cases p10 : m.ss.any coldB
  rotate_left
  · go_wp2
    go_ret
    exact ⟨by rw [ffB, HP1.out, HP2.out, HP3.out, HP4.out, HP5.out, HP6.out, HP7.out, HP8.out, HP9.out, p10]; rfl, below_trans BA.out B10.out⟩
  have HP10 := hide p10
  clear p10
  go_wp2
  go_ret
  exact ⟨by rw [ffB, HP1.out, HP2.out, HP3.out, HP4.out, HP5.out, HP6.out, HP7.out, HP8.out, HP9.out, HP10.out]; rfl, below_trans BA.out B10.out⟩
set_option maxHeartbeats 1600000 in
theorem iIsMedl_any (v : Value) (m : Mdl) (w : World) (h : RdM w v m) :
    Calls Tryz.prog 100 #[v] w (BoolOut (mdB m) w) := by
  have HM := hide h
  obtain ⟨A1, n1, c1, A2, n2, c2, A3, n3, q3, rfl, h1, h2, h3⟩ := h
  clear h1 h2 h3
  have H0 := hide (show RdM (w.alloc (.cells #[.int .i64 m.id, .slice A1 n1 c1, .slice A2 n2 c2, .slice A3 n3 q3] 28)) _ m from HM.out.below ((Below.refl _ _).alloc (Nat.le_refl _) _))
  have BA := hide (show Below w.heap.size w (w.alloc (.cells #[.int .i64 m.id, .slice A1 n1 c1, .slice A2 n2 c2, .slice A3 n3 q3] 28)) from (Below.refl _ _).alloc (Nat.le_refl _) _)
  have E := hide (show mdB m = (ffB m == 0) from rfl)
  go_enter Tryz.func100, Tryz.ntmps100
  go_wp2_with fail
  go_at_call 120
  (with_reducible refine (iFirstFault_any _ m _ H0.out).mono ?_)
  rintro ee w1 ⟨rfl, b1⟩
  have B := hide (below_trans BA.out b1)
  clear b1
  go_wp2
  go_ret
  exact ⟨by rw [E.out]; rfl, B.out⟩
end Go.Proofs.YtdkhldebnpmiiaaGreatDoor
namespace Go.Proofs.YtdkhldebnpmiiaaGreatDoor
open Go.RowKit
set_option linter.unusedVariables false
set_option linter.unusedSimpArgs false
set_option maxHeartbeats 6400000 in
theorem sFirstFault_any (v : Value) (m : Mdl) (w : World) (h : RdM w v m) (hq : Nms m) :
    Calls Tryz.prog 121 #[v] w (IntOut (ffB m) w) := by
  have HQ := hide (show ∀ x ∈ m.ns, x.nm.size ≤ 9223372036854775807 from hq)
  have HM := hide h
  obtain ⟨A1, n1, c1, A2, n2, c2, A3, n3, q3, rfl, h1, h2, h3⟩ := h
  have hlen2 := hide h2.len
  have hlen := hide h3.len
  have hcap2 := h2.cap
  have hcap := h3.cap
  obtain ⟨W0, hW0⟩ : ∃ W0, W0 = w.alloc (.cells #[.int .i64 m.id, .slice A1 n1 c1, .slice A2 n2 c2, .slice A3 n3 q3] 28) := ⟨_, rfl⟩
  have F0 : At W0 w.heap.size 28 #[.int .i64 m.id, .slice A1 n1 c1, .slice A2 n2 c2, .slice A3 n3 q3] := by rw [hW0]; exact At.fresh _ _ _
  have BA := hide (show Below w.heap.size w W0 by rw [hW0]; exact (Below.refl _ _).alloc (Nat.le_refl _) _)
  have B0 := hide (Below.refl W0.heap.size W0)
  have H1 := hide (h1.below BA.out)
  have H2 := hide (h2.below BA.out)
  have H3 := hide (h3.below BA.out)
  have HM0 := hide (HM.out.below BA.out)
  have HF := hide F0
  have d0 := F0.cell 0
  have d1 := F0.cell 1
  have d2 := F0.cell 2
  have d3 := F0.cell 3
  simp at d0 d1 d2 d3
  have HW := hide hW0
  clear hW0 F0 h1 h2 h3 HM
  go_enter Tryz.func121, Tryz.ntmps121
  go_wp2_with fail
  rw [← HW.out]
  go_wp2_with fail
  go_at_call 122
  (with_reducible refine (l01In_any _ _ _ _).mono ?_)
  rintro ee w1 ⟨rfl, rfl⟩
  have B1 := B0
  cases p1 : inB 1 16777215 m.id
  · go_wp2
    go_ret
    exact ⟨by rw [ffB, p1]; rfl, below_trans BA.out B1.out⟩
  have HP1 := hide p1
  clear p1
  go_wp2_with fail
  go_at_call 134
  (with_reducible refine (sIsNodeTable_any _ _ _ _ _ (H1.out.below B1.out) HQ.out).mono ?_)
  rintro ee w2 ⟨rfl, b1⟩
  clear d0 d1 d2 d3
  have B2 := hide (below_trans B1.out b1)
  have F := HF.out.keep B2.out
  have d0 := F.cell 0
  have d1 := F.cell 1
  have d2 := F.cell 2
  have d3 := F.cell 3
  simp at d0 d1 d2 d3
  clear F b1
  cases p2 : ntB m.ns
  · go_wp2
    go_ret
    exact ⟨by rw [ffB, HP1.out, p2]; rfl, below_trans BA.out B2.out⟩
  have HP2 := hide p2
  clear p2
  go_wp2_with fail
  go_at_call 145
  (with_reducible refine (sIsModeTable_any _ _ _ _ _ (H2.out.below B2.out)).mono ?_)
  rintro ee w3 ⟨rfl, b1⟩
  clear d0 d1 d2 d3
  have B3 := hide (below_trans B2.out b1)
  have F := HF.out.keep B3.out
  have d0 := F.cell 0
  have d1 := F.cell 1
  have d2 := F.cell 2
  have d3 := F.cell 3
  simp at d0 d1 d2 d3
  clear F b1
  cases p3 : mtB m.ms
  · go_wp2
    go_ret
    exact ⟨by rw [ffB, HP1.out, HP2.out, p3]; rfl, below_trans BA.out B3.out⟩
  have HP3 := hide p3
  clear p3
  go_wp2_with fail
  go_at_call 146
  (with_reducible refine (sIsSlotTable_any _ _ _ _ _ (H3.out.below B3.out)).mono ?_)
  rintro ee w4 ⟨rfl, b1⟩
  clear d0 d1 d2 d3
  have B4 := hide (below_trans B3.out b1)
  have F := HF.out.keep B4.out
  have d0 := F.cell 0
  have d1 := F.cell 1
  have d2 := F.cell 2
  have d3 := F.cell 3
  simp at d0 d1 d2 d3
  clear F b1
  cases p4 : stB m.ss
  · go_wp2
    go_ret
    exact ⟨by rw [ffB, HP1.out, HP2.out, HP3.out, p4]; rfl, below_trans BA.out B4.out⟩
  have HP4 := hide p4
  clear p4
  have hRd := hide (rds_of HP3.out)
  have hId := hide (ids_of HP2.out)
  have hNd := hide (nds_of HP4.out)
  have hDu := hide (durs_of HP4.out)
  have hLn := hide (len_of HP4.out)
  go_wp2_with fail
  go_at_call 147
  (with_reducible refine (l13Complete_any _ m _ (HM0.out.below B4.out) hRd.out.1 HP4.out hRd.out.2.1).mono ?_)
  rintro ee w5 ⟨rfl, b1⟩
  clear d0 d1 d2 d3
  have B5 := hide (below_trans B4.out b1)
  have F := HF.out.keep B5.out
  have d0 := F.cell 0
  have d1 := F.cell 1
  have d2 := F.cell 2
  have d3 := F.cell 3
  simp at d0 d1 d2 d3
  clear F b1
  cases p5 : compB m
  · go_wp2
    go_ret
    exact ⟨by rw [ffB, HP1.out, HP2.out, HP3.out, HP4.out, p5]; rfl, below_trans BA.out B5.out⟩
  have HP5 := hide p5
  clear p5
  go_wp2_with fail
  go_at_call 148
  (with_reducible refine (l13Senders_any _ m _ (HM0.out.below B5.out) hId.out hNd.out).mono ?_)
  rintro ee w6 ⟨rfl, b1⟩
  clear d0 d1 d2 d3
  have B6 := hide (below_trans B5.out b1)
  have F := HF.out.keep B6.out
  have d0 := F.cell 0
  have d1 := F.cell 1
  have d2 := F.cell 2
  have d3 := F.cell 3
  simp at d0 d1 d2 d3
  clear F b1
  cases p6 : m.ss.any (strB m.ns)
  rotate_left
  · go_wp2
    go_ret
    exact ⟨by rw [ffB, HP1.out, HP2.out, HP3.out, HP4.out, HP5.out, p6]; rfl, below_trans BA.out B6.out⟩
  have HP6 := hide p6
  clear p6
  go_wp2_with fail
  go_at_call 149
  (with_reducible refine (l13Durations_any _ m _ (HM0.out.below B6.out)).mono ?_)
  rintro ee w7 ⟨rfl, b1⟩
  clear d0 d1 d2 d3
  have B7 := hide (below_trans B6.out b1)
  have F := HF.out.keep B7.out
  have d0 := F.cell 0
  have d1 := F.cell 1
  have d2 := F.cell 2
  have d3 := F.cell 3
  simp at d0 d1 d2 d3
  clear F b1
  cases p7 : stdB m.ss
  · go_wp2
    go_ret
    exact ⟨by rw [ffB, HP1.out, HP2.out, HP3.out, HP4.out, HP5.out, HP6.out, p7]; rfl, below_trans BA.out B7.out⟩
  have HP7 := hide p7
  clear p7
  have FA := hide (show ffB m = bif shortB m then bif servB m then bif m.ss.any coldB then 10 else 0 else 9 else 8 by rw [ffB, HP1.out, HP2.out, HP3.out, HP4.out, HP5.out, HP6.out, HP7.out]; rfl)
  clear d0 d1 d2 d3
  go_wp2_with fail
  go_loopw [3] (fun i wr => ∃ k : Nat, k ≤ n2 ∧ i = .int .i64 k ∧ Hid (shortTo m k = true) ∧ Hid (Below W0.heap.size W0 wr)) (fun i _ => n2 - (intOf i).toNat)
  case atStart => exact ⟨0, by omega, rfl, hide rfl, B7⟩
  case round =>
    clear B7
    obtain ⟨k, hk, rfl, hall, B7⟩ := hrel
    have F := HF.out.keep B7.out
    have d0 := F.cell 0
    have d1 := F.cell 1
    have d2 := F.cell 2
    have d3 := F.cell 3
    simp at d0 d1 d2 d3
    clear F
    by_cases hlt : k < n2
    · have HL := hide (show k < m.ms.length by rw [hlen2.out]; exact hlt)
      go_wp2_with fail
      go_at_call 77
      (with_reducible refine (l13Cycle_any _ m k _ (HM0.out.below B7.out) hLn.out hDu.out).mono ?_)
      rintro ee w8 ⟨rfl, b1⟩
      have B8 := hide (below_trans B7.out b1)
      clear b1
      obtain ⟨u, hu⟩ : ∃ u, u = durs (modeL k m.ss) := ⟨_, rfl⟩
      rw [← hu]
      by_cases h1 : (32000 : Int) < u
      · have E := hide (show ffB m = 8 by rw [FA.out, shortB_bad HL.out (by rw [← hu]; omega)]; rfl)
        have t1 : decide ((32000 : Int) < u) = true := decide_eq_true h1
        clear hu h1
        go_wp2
        go_ret
        exact ⟨by rw [E.out]; rfl, below_trans BA.out B8.out⟩
      · have NN := hide (show shortTo m (k + 1) = true by rw [shortTo_succ, hall.out, ← hu, decide_eq_true (by omega)]; rfl)
        have t1 : decide ((32000 : Int) < u) = false := decide_eq_false h1
        clear hu h1
        go_wp2
        go_roundw
        case rel => exact ⟨k + 1, by omega, by go_num, NN, B8⟩
        case measure => simp [intOf]; omega
    · obtain rfl : k = n2 := by omega
      have HP8 := hide (show shortB m = true by rw [shortB, hlen2.out]; exact hall.out)
      have B8 := B7
      go_wp2_with fail
      go_at_call 150
      (with_reducible refine (l13Served_any _ m _ (HM0.out.below B8.out) hId.out hNd.out hRd.out.1).mono ?_)
      rintro ee w9 ⟨rfl, b1⟩
      clear d0 d1 d2 d3
      have B9 := hide (below_trans B8.out b1)
      have F := HF.out.keep B9.out
      have d0 := F.cell 0
      have d1 := F.cell 1
      have d2 := F.cell 2
      have d3 := F.cell 3
      simp at d0 d1 d2 d3
      clear F b1
      cases p9 : servB m
      · go_wp2
        go_ret
        exact ⟨by rw [ffB, HP1.out, HP2.out, HP3.out, HP4.out, HP5.out, HP6.out, HP7.out, HP8.out, p9]; rfl, below_trans BA.out B9.out⟩
      have HP9 := hide p9
      clear p9
      clear d0 d1 d2 d3
      have FB := hide (show ffB m = bif m.ss.any coldB then 10 else 0 by rw [FA.out, HP8.out, HP9.out]; rfl)
      go_wp2_with fail
      go_loopw [4] (fun i wr => ∃ k : Nat, k ≤ n3 ∧ i = .int .i64 k ∧ Hid (∀ j y, j < k → m.ss[j]? = some y → coldB y = false) ∧ Hid (Below W0.heap.size W0 wr)) (fun i _ => n3 - (intOf i).toNat)
      case atStart => exact ⟨0, by omega, rfl, hide (fun j y hj => by omega), B9⟩
      case round =>
        clear B9
        obtain ⟨k, hk, rfl, hno, B9⟩ := hrel
        have F := HF.out.keep B9.out
        have d3 := F.cell 3
        simp at d3
        clear F
        by_cases hlt : k < n3
        · obtain ⟨b, off, x, rfl, hb, hx, c0, c1, c2, c3, c4, c5, c6, c7⟩ := slt_at (H3.out.below B9.out) hlt
          have HX := hide hx
          have HC := hide (show coldB x = (x.kd == 3 && x.md != 0) from rfl)
          have NN : coldB x = false → Hid (∀ j y, j < k + 1 → m.ss[j]? = some y → coldB y = false) := fun hp j y hj hy => by
            rcases Nat.lt_succ_iff_lt_or_eq.1 hj with h1 | h1
            · exact hno.out j y h1 hy
            · subst h1
              rw [HX.out] at hy
              obtain rfl := Option.some.inj hy
              exact hp
          clear hx
          cases e1 : (x.kd == 3)
          · have N2 := NN (by rw [HC.out, e1]; rfl)
            clear NN HC
            go_wp2
            go_roundw
            case rel => exact ⟨k + 1, by omega, by go_num, N2, B9⟩
            case measure => simp [intOf]; omega
          · cases e2 : (x.md == 0)
            · have E := hide (show ffB m = 10 by rw [FB.out, show m.ss.any coldB = true from List.any_eq_true.2 ⟨x, List.mem_of_getElem? HX.out, by rw [HC.out, e1, bne, e2]; rfl⟩]; rfl)
              clear NN HC
              go_wp2
              go_ret
              exact ⟨by rw [E.out]; rfl, below_trans BA.out B9.out⟩
            · have N2 := NN (by rw [HC.out, e1, bne, e2]; rfl)
              clear NN HC
              go_wp2
              go_roundw
              case rel => exact ⟨k + 1, by omega, by go_num, N2, B9⟩
              case measure => simp [intOf]; omega
        · obtain rfl : k = n3 := by omega
          have E := hide (show ffB m = 0 by
            rw [FB.out, show m.ss.any coldB = false by
              rw [List.any_eq_false]
              intro y hy
              obtain ⟨j, hj, rfl⟩ := List.getElem_of_mem hy
              rw [hno.out j _ (by rw [← hlen.out]; exact hj) (List.getElem?_eq_getElem hj)]
              simp]
            rfl)
          go_wp2
          go_ret
          exact ⟨by rw [E.out]; rfl, below_trans BA.out B9.out⟩
set_option maxHeartbeats 1600000 in
theorem sIsMedl_any (v : Value) (m : Mdl) (w : World) (h : RdM w v m) (hq : Nms m) :
    Calls Tryz.prog 102 #[v] w (BoolOut (mdB m) w) := by
  have HM := hide h
  obtain ⟨A1, n1, c1, A2, n2, c2, A3, n3, q3, rfl, h1, h2, h3⟩ := h
  clear h1 h2 h3
  have H0 := hide (show RdM (w.alloc (.cells #[.int .i64 m.id, .slice A1 n1 c1, .slice A2 n2 c2, .slice A3 n3 q3] 28)) _ m from HM.out.below ((Below.refl _ _).alloc (Nat.le_refl _) _))
  have BA := hide (show Below w.heap.size w (w.alloc (.cells #[.int .i64 m.id, .slice A1 n1 c1, .slice A2 n2 c2, .slice A3 n3 q3] 28)) from (Below.refl _ _).alloc (Nat.le_refl _) _)
  have E := hide (show mdB m = (ffB m == 0) from rfl)
  go_enter Tryz.func102, Tryz.ntmps102
  go_wp2_with fail
  go_at_call 121
  (with_reducible refine (sFirstFault_any _ m _ H0.out hq).mono ?_)
  rintro ee w1 ⟨rfl, b1⟩
  have B := hide (below_trans BA.out b1)
  clear b1
  go_wp2
  go_ret
  exact ⟨by rw [E.out]; rfl, B.out⟩
end Go.Proofs.YtdkhldebnpmiiaaGreatDoor
namespace Go.Proofs.YtdkhldebnpmiiaaGreatDoor
open Go.RowKit
set_option linter.unusedVariables false
set_option linter.unusedSimpArgs false
def mcB (m : Mdl) (mode : Int) : Int := bif mdB m then bif inB 0 ((m.ms.length : Int) - 1) mode then 0 else 2 else 1
theorem mcB_zero {m : Mdl} {mode : Int} (h : mcB m mode = 0) : mdB m = true ∧ 0 ≤ mode ∧ mode < m.ms.length := by
  rw [mcB] at h
  cases h1 : mdB m
  · rw [h1] at h; cases h
  · cases h2 : inB 0 ((m.ms.length : Int) - 1) mode
    · rw [h1, h2] at h; cases h
    · rw [inB_iff] at h2
      exact ⟨rfl, by omega, by omega⟩
set_option maxHeartbeats 800000 in
theorem l11Mode_any (A : Option Addr) (n c : Nat) (mode : Int) (w : World) (hn : n ≤ 9223372036854775807) : Calls Tryz.prog 103 #[.slice A n c, .int .i64 mode] w (fun e w' => e = .returned (.bool (inB 0 ((n : Int) - 1) mode)) ∧ w = w') := by
  have tw : IntKind.i64.wrap ((n : Int) - 1) = (n : Int) - 1 := IntWalk.i64_in _ ⟨by omega, by omega⟩
  go_enter Tryz.func103, Tryz.ntmps103
  go_wp2_with fail
  go_at_call 122
  (with_reducible refine (l01In_any _ _ _ _).mono ?_)
  rintro ee w1 ⟨rfl, rfl⟩
  go_wp2
  go_ret
  exact ⟨rfl, rfl⟩
set_option maxHeartbeats 1600000 in
theorem modeCode_any (v : Value) (m : Mdl) (mode : Int) (w : World) (h : RdM w v m) :
    Calls Tryz.prog 72 #[v, .int .i64 mode] w (IntOut (mcB m mode) w) := by
  have HM := hide h
  obtain ⟨A1, n1, c1, A2, n2, c2, A3, n3, q3, rfl, h1, h2, h3⟩ := h
  have hlen2 := hide h2.len
  have hlen := hide h3.len
  have hcap2 := h2.cap
  have hcap := h3.cap
  obtain ⟨W0, hW0⟩ : ∃ W0, W0 = w.alloc (.cells #[.int .i64 m.id, .slice A1 n1 c1, .slice A2 n2 c2, .slice A3 n3 q3] 28) := ⟨_, rfl⟩
  have F0 : At W0 w.heap.size 28 #[.int .i64 m.id, .slice A1 n1 c1, .slice A2 n2 c2, .slice A3 n3 q3] := by rw [hW0]; exact At.fresh _ _ _
  have BA := hide (show Below w.heap.size w W0 by rw [hW0]; exact (Below.refl _ _).alloc (Nat.le_refl _) _)
  have B0 := hide (Below.refl W0.heap.size W0)
  have H1 := hide (h1.below BA.out)
  have H2 := hide (h2.below BA.out)
  have H3 := hide (h3.below BA.out)
  have HM0 := hide (HM.out.below BA.out)
  have HF := hide F0
  have d0 := F0.cell 0
  have d1 := F0.cell 1
  have d2 := F0.cell 2
  have d3 := F0.cell 3
  simp at d0 d1 d2 d3
  have HW := hide hW0
  clear hW0 F0 h1 h2 h3 HM
  have HC := hide (show n2 ≤ 9223372036854775807 by omega)
  have tw : IntKind.i64.wrap ((n2 : Int) - 1) = (n2 : Int) - 1 := IntWalk.i64_in _ ⟨by omega, by omega⟩
  have E0 := hide (show mcB m mode = bif mdB m then bif inB 0 ((n2 : Int) - 1) mode then 0 else 2 else 1 by rw [mcB, hlen2.out])
  go_enter Tryz.func72, Tryz.ntmps72
  go_wp2_with fail
  rw [← HW.out]
  go_at_call 100
  (with_reducible refine (iIsMedl_any _ m _ HM0.out).mono ?_)
  rintro ee w1 ⟨rfl, b1⟩
  clear d0 d1 d2 d3
  have B1 := hide (below_trans B0.out b1)
  have F := HF.out.keep B1.out
  have d2 := F.cell 2
  simp at d2
  clear F b1
  cases p1 : mdB m
  · have E := hide (show mcB m mode = 1 by rw [E0.out, p1]; rfl)
    clear p1
    go_wp2
    go_ret
    exact ⟨by rw [E.out]; rfl, below_trans BA.out B1.out⟩
  have HP1 := hide p1
  clear p1
  go_wp2_with fail
  go_at_call 101
  (with_reducible refine (within_any _ _ _ _).mono ?_)
  rintro ee w2 ⟨rfl, rfl⟩
  cases p2 : inB 0 ((n2 : Int) - 1) mode
  · have E := hide (show mcB m mode = 2 by rw [E0.out, HP1.out, p2]; rfl)
    clear p2
    go_wp2
    go_ret
    exact ⟨by rw [E.out]; rfl, below_trans BA.out B1.out⟩
  · have E := hide (show mcB m mode = 0 by rw [E0.out, HP1.out, p2]; rfl)
    clear p2
    go_wp2
    go_ret
    exact ⟨by rw [E.out]; rfl, below_trans BA.out B1.out⟩
set_option maxHeartbeats 1600000 in
theorem l13Mode_any (v : Value) (m : Mdl) (mode : Int) (w : World) (h : RdM w v m) (hq : Nms m) :
    Calls Tryz.prog 73 #[v, .int .i64 mode] w (IntOut (mcB m mode) w) := by
  have HM := hide h
  obtain ⟨A1, n1, c1, A2, n2, c2, A3, n3, q3, rfl, h1, h2, h3⟩ := h
  have hlen2 := hide h2.len
  have hlen := hide h3.len
  have hcap2 := h2.cap
  have hcap := h3.cap
  obtain ⟨W0, hW0⟩ : ∃ W0, W0 = w.alloc (.cells #[.int .i64 m.id, .slice A1 n1 c1, .slice A2 n2 c2, .slice A3 n3 q3] 28) := ⟨_, rfl⟩
  have F0 : At W0 w.heap.size 28 #[.int .i64 m.id, .slice A1 n1 c1, .slice A2 n2 c2, .slice A3 n3 q3] := by rw [hW0]; exact At.fresh _ _ _
  have BA := hide (show Below w.heap.size w W0 by rw [hW0]; exact (Below.refl _ _).alloc (Nat.le_refl _) _)
  have B0 := hide (Below.refl W0.heap.size W0)
  have H1 := hide (h1.below BA.out)
  have H2 := hide (h2.below BA.out)
  have H3 := hide (h3.below BA.out)
  have HM0 := hide (HM.out.below BA.out)
  have HF := hide F0
  have d0 := F0.cell 0
  have d1 := F0.cell 1
  have d2 := F0.cell 2
  have d3 := F0.cell 3
  simp at d0 d1 d2 d3
  have HW := hide hW0
  clear hW0 F0 h1 h2 h3 HM
  have HC := hide (show n2 ≤ 9223372036854775807 by omega)
  have tw : IntKind.i64.wrap ((n2 : Int) - 1) = (n2 : Int) - 1 := IntWalk.i64_in _ ⟨by omega, by omega⟩
  have E0 := hide (show mcB m mode = bif mdB m then bif inB 0 ((n2 : Int) - 1) mode then 0 else 2 else 1 by rw [mcB, hlen2.out])
  go_enter Tryz.func73, Tryz.ntmps73
  go_wp2_with fail
  rw [← HW.out]
  go_at_call 102
  (with_reducible refine (sIsMedl_any _ m _ HM0.out hq).mono ?_)
  rintro ee w1 ⟨rfl, b1⟩
  clear d0 d1 d2 d3
  have B1 := hide (below_trans B0.out b1)
  have F := HF.out.keep B1.out
  have d2 := F.cell 2
  simp at d2
  clear F b1
  cases p1 : mdB m
  · have E := hide (show mcB m mode = 1 by rw [E0.out, p1]; rfl)
    clear p1
    go_wp2
    go_ret
    exact ⟨by rw [E.out]; rfl, below_trans BA.out B1.out⟩
  have HP1 := hide p1
  clear p1
  go_wp2_with fail
  go_at_call 103
  (with_reducible refine (l11Mode_any _ _ _ _ _ HC.out).mono ?_)
  rintro ee w2 ⟨rfl, rfl⟩
  cases p2 : inB 0 ((n2 : Int) - 1) mode
  · have E := hide (show mcB m mode = 2 by rw [E0.out, HP1.out, p2]; rfl)
    clear p2
    go_wp2
    go_ret
    exact ⟨by rw [E.out]; rfl, below_trans BA.out B1.out⟩
  · have E := hide (show mcB m mode = 0 by rw [E0.out, HP1.out, p2]; rfl)
    clear p2
    go_wp2
    go_ret
    exact ⟨by rw [E.out]; rfl, below_trans BA.out B1.out⟩
end Go.Proofs.YtdkhldebnpmiiaaGreatDoor
