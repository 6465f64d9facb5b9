/- Contracts: descriptors of slots, by the program and by the reference. -/
import Derived.Test.YtdkhldebnpmiiaaGreatDoorZBkB
import Derived.Deep.RegionHeld3
import Derived.IntWalk
namespace Go.Proofs.YtdkhldebnpmiiaaGreatDoor
open Go.RowKit
set_option linter.unusedVariables false
set_option linter.unusedSimpArgs false
def SameB (b : Bool) (w : World) (e : Ending) (w' : World) : Prop := e = .returned (.bool b) ∧ w = w'
def SameI (r : Int) (w : World) (e : Ending) (w' : World) : Prop := e = .returned (.int .i64 r) ∧ w = w'
def szB (kd sz : Int) : Bool := if kd = 0 then inB 0 32 sz else if kd = 2 then inB 1 32 sz else sz == 0
theorem szB_le {kd sz : Int} (h : szB kd sz = true) : 0 ≤ sz ∧ sz ≤ 32 := by
  unfold szB at h
  split at h
  · exact inB_true h
  · split at h
    · have := inB_true h; omega
    · have : sz = 0 := by simpa using h
      omega
def bodyI (kd sz : Int) : Int := 1 + (if kd = 0 then 0 else 8) + (if kd = 0 ∨ kd = 2 then 1 + sz else 0)
def cellI (kd sz : Int) : Int := 11 + 10 * (bodyI kd sz + 3)
theorem bodyI_le {kd sz : Int} (h : 0 ≤ sz ∧ sz ≤ 32) : 1 ≤ bodyI kd sz ∧ bodyI kd sz ≤ 42 := by
  unfold bodyI
  split <;> split <;> omega
theorem cellI_le {kd sz : Int} (h : 0 ≤ sz ∧ sz ≤ 32) : 51 ≤ cellI kd sz ∧ cellI kd sz ≤ 461 := by
  have := bodyI_le (kd := kd) h
  unfold cellI
  omega
def descB (x : Slt) : Bool := inB 0 31 x.nd && (inB 0 3 x.kd && (szB x.kd x.sz && (!(x.ch && x.kd == 3) && inB (cellI x.kd x.sz + 20) 1000 x.du)))
theorem ikind_any (x : Int) (w : World) : Calls Tryz.prog 106 #[.int .i64 x] w (SameB (inB 0 3 x) w) := by
  go_enter Tryz.func106, Tryz.ntmps106
  go_wp2_with fail
  refine (within_any x 0 3 _).mono ?_
  rintro e w1 ⟨rfl, rfl⟩
  go_wp2
  go_ret
  exact ⟨rfl, rfl⟩
theorem istate_any (x : Int) (w : World) : Calls Tryz.prog 125 #[.int .i64 x] w (SameB (x != 0) w) := by
  go_enter Tryz.func125, Tryz.ntmps125
  go_wp2
  go_ret
  exact ⟨rfl, rfl⟩
theorem idata_any (x : Int) (w : World) : Calls Tryz.prog 126 #[.int .i64 x] w (SameB (x == 0 || x == 2) w) := by
  cases h : (x == 0)
  · go_enter Tryz.func126, Tryz.ntmps126
    go_wp2
    go_ret
    exact ⟨rfl, rfl⟩
  · go_enter Tryz.func126, Tryz.ntmps126
    go_wp2
    go_ret
    exact ⟨rfl, rfl⟩
set_option maxHeartbeats 800000 in
theorem isize_any (kd sz : Int) (w : World) : Calls Tryz.prog 107 #[.int .i64 kd, .int .i64 sz] w (SameB (szB kd sz) w) := by
  by_cases h0 : kd = 0
  · have E := hide (show szB kd sz = inB 0 32 sz by rw [szB, if_pos h0])
    have t0 : (kd == 0) = true := by simpa using h0
    clear h0
    go_enter Tryz.func107, Tryz.ntmps107
    go_wp2_with (go_at_call 101; refine (within_any sz 0 32 _).mono ?_; rintro e w1 ⟨rfl, rfl⟩)
    go_ret
    exact ⟨by rw [E.out]; rfl, rfl⟩
  · have t0 : (kd == 0) = false := by simpa using h0
    by_cases h2 : kd = 2
    · have E := hide (show szB kd sz = inB 1 32 sz by rw [szB, if_neg h0, if_pos h2])
      have t2 : (kd == 2) = true := by simpa using h2
      clear h0 h2
      go_enter Tryz.func107, Tryz.ntmps107
      go_wp2_with (go_at_call 101; refine (within_any sz 1 32 _).mono ?_; rintro e w1 ⟨rfl, rfl⟩)
      go_ret
      exact ⟨by rw [E.out]; rfl, rfl⟩
    · have E := hide (show szB kd sz = (sz == 0) by rw [szB, if_neg h0, if_neg h2])
      have t2 : (kd == 2) = false := by simpa using h2
      clear h0 h2
      go_enter Tryz.func107, Tryz.ntmps107
      go_wp2
      go_ret
      exact ⟨by rw [E.out]; rfl, rfl⟩
set_option maxHeartbeats 800000 in
theorem ibody_any (kd sz : Int) (w : World) (h : 0 ≤ sz ∧ sz ≤ 32) : Calls Tryz.prog 105 #[.int .i64 kd, .int .i64 sz] w (SameI (bodyI kd sz) w) := by
  by_cases h0 : kd = 0
  · have E := hide (show bodyI kd sz = 1 + (1 + sz) by rw [bodyI, if_pos h0, if_pos (.inl h0)]; omega)
    have t0 : (kd == 0) = true := by simpa using h0
    have t1 : (kd != 0) = false := by simpa using h0
    clear h0
    go_enter Tryz.func105, Tryz.ntmps105
    go_wp2_with (first | (go_at_call 125; refine (istate_any kd _).mono ?_; rintro e w1 ⟨rfl, rfl⟩) | (go_at_call 126; refine (idata_any kd _).mono ?_; rintro e w1 ⟨rfl, rfl⟩))
    go_ret
    exact ⟨by rw [E.out]; show Ending.returned (.int .i64 _) = _; congr 2 <;> omega, rfl⟩
  · have t0 : (kd == 0) = false := by simpa using h0
    have t1 : (kd != 0) = true := by simpa using h0
    by_cases h2 : kd = 2
    · have E := hide (show bodyI kd sz = 9 + (1 + sz) by rw [bodyI, if_neg h0, if_pos (.inr h2)]; omega)
      have t2 : (kd == 2) = true := by simpa using h2
      clear h0 h2
      go_enter Tryz.func105, Tryz.ntmps105
      go_wp2_with (first | (go_at_call 125; refine (istate_any kd _).mono ?_; rintro e w1 ⟨rfl, rfl⟩) | (go_at_call 126; refine (idata_any kd _).mono ?_; rintro e w1 ⟨rfl, rfl⟩))
      go_ret
      exact ⟨by rw [E.out]; show Ending.returned (.int .i64 _) = _; congr 2 <;> omega, rfl⟩
    · have E := hide (show bodyI kd sz = 9 by rw [bodyI, if_neg h0, if_neg (by omega)]; rfl)
      have t2 : (kd == 2) = false := by simpa using h2
      clear h0 h2
      go_enter Tryz.func105, Tryz.ntmps105
      go_wp2_with (first | (go_at_call 125; refine (istate_any kd _).mono ?_; rintro e w1 ⟨rfl, rfl⟩) | (go_at_call 126; refine (idata_any kd _).mono ?_; rintro e w1 ⟨rfl, rfl⟩))
      go_ret
      exact ⟨by rw [E.out]; rfl, rfl⟩
theorem icells_any (kd sz : Int) (w : World) (h : 0 ≤ sz ∧ sz ≤ 32) : Calls Tryz.prog 76 #[.int .i64 kd, .int .i64 sz] w (SameI (cellI kd sz) w) := by
  have hb := bodyI_le (kd := kd) h
  have E := hide (show cellI kd sz = 11 + 10 * (bodyI kd sz + 3) from rfl)
  go_enter Tryz.func76, Tryz.ntmps76
  go_wp2_with fail
  refine (ibody_any kd sz _ h).mono ?_
  rintro e w1 ⟨rfl, rfl⟩
  generalize bodyI kd sz = y at hb E
  go_wp2
  go_ret
  exact ⟨by rw [E.out]; show Ending.returned (.int .i64 _) = _; congr 2, rfl⟩
set_option maxHeartbeats 3200000 in
theorem iIsDescriptor_any (x : Slt) (w : World) : Calls Tryz.prog 80 #[.agg #[.int .i64 x.nd, .int .i64 x.kd, .int .i64 x.sz, .int .i64 x.du, .bool x.ch]] w fun e w' => e = .returned (.bool (descB x)) ∧ Below w.heap.size w w' := by
  have HB := hide ((Below.refl w.heap.size w).alloc (Nat.le_refl _) (.cells #[.int .i64 x.nd, .int .i64 x.kd, .int .i64 x.sz, .int .i64 x.du, .bool x.ch] 59))
  have D := hide (show descB x = (inB 0 31 x.nd && (inB 0 3 x.kd && (szB x.kd x.sz && (!(x.ch && x.kd == 3) && inB (cellI x.kd x.sz + 20) 1000 x.du)))) from rfl)
  cases h1 : inB 0 31 x.nd
  · have E := hide (show descB x = false by rw [D.out, h1]; rfl)
    have H1 := hide h1
    clear h1
    go_enter Tryz.func80, Tryz.ntmps80
    go_wp2_with (first | (go_at_call 108; refine (iisNode_any _ _).mono ?_; rintro e w2 ⟨rfl, rfl⟩; rw [H1.out]))
    go_ret
    exact ⟨by rw [E.out]; rfl, HB.out⟩
  · have H1 := hide h1
    cases h2 : inB 0 3 x.kd
    · have E := hide (show descB x = false by rw [D.out, h1, h2]; rfl)
      have H2 := hide h2
      clear h1 h2
      go_enter Tryz.func80, Tryz.ntmps80
      go_wp2_with (first | (go_at_call 108; refine (iisNode_any _ _).mono ?_; rintro e w2 ⟨rfl, rfl⟩; rw [H1.out]) | (go_at_call 106; refine (ikind_any _ _).mono ?_; rintro e w2 ⟨rfl, rfl⟩; rw [H2.out]))
      go_ret
      exact ⟨by rw [E.out]; rfl, HB.out⟩
    · have H2 := hide h2
      cases h3 : szB x.kd x.sz
      · have E := hide (show descB x = false by rw [D.out, h1, h2, h3]; rfl)
        have H3 := hide h3
        clear h1 h2 h3
        go_enter Tryz.func80, Tryz.ntmps80
        go_wp2_with (first | (go_at_call 108; refine (iisNode_any _ _).mono ?_; rintro e w2 ⟨rfl, rfl⟩; rw [H1.out]) | (go_at_call 106; refine (ikind_any _ _).mono ?_; rintro e w2 ⟨rfl, rfl⟩; rw [H2.out]) | (go_at_call 107; refine (isize_any _ _ _).mono ?_; rintro e w2 ⟨rfl, rfl⟩; rw [H3.out]))
        go_ret
        exact ⟨by rw [E.out]; rfl, HB.out⟩
      · have H3 := hide h3
        have HZ := hide (szB_le h3)
        have hc := cellI_le (kd := x.kd) HZ.out
        obtain ⟨y, hy⟩ : ∃ y, y = cellI x.kd x.sz := ⟨_, rfl⟩
        rw [← hy] at hc
        have ew : IntKind.i64.wrap (y + 20) = y + 20 := IntWalk.i64_in _ ⟨by omega, by omega⟩
        have HC := hide hy.symm
        cases h4 : (x.ch && x.kd == 3)
        · have E := hide (show descB x = inB (y + 20) 1000 x.du by rw [D.out, h1, h2, h3, h4, hy]; rfl)
          rcases Bool.eq_false_or_eq_true x.ch with h5 | h5
          rotate_left
          · rw [h5] at HB ⊢
            clear h1 h2 h3 h4 hy h5
            have HW := HB
            go_enter Tryz.func80, Tryz.ntmps80
            cases h6 : (x.kd == 3)
            · go_wp2_with (first | (go_at_call 108; refine (iisNode_any _ _).mono ?_; rintro e w2 ⟨rfl, rfl⟩; rw [H1.out]) | (go_at_call 106; refine (ikind_any _ _).mono ?_; rintro e w2 ⟨rfl, rfl⟩; rw [H2.out]) | (go_at_call 107; refine (isize_any _ _ _).mono ?_; rintro e w2 ⟨rfl, rfl⟩; rw [H3.out]))
              refine wp_region_held_drew (S := (fun w' => w'.cell? ⟨w.heap.size, 1, none⟩ = some (.int .i64 x.kd) ∧ w'.cell? ⟨w.heap.size, 2, none⟩ = some (.int .i64 x.sz) ∧ w'.cell? ⟨w.heap.size, 3, none⟩ = some (.int .i64 x.du))) (by kernel_rfl) ?_ (fun hHeld => ?_)
              · (try dsimp only)
                go_keep
              refine wpAnyH_take (i := 0) (v := ?va1) rfl (by kernel_rfl) (by kernel_rfl) (by kernel_rfl) (fun _ _ _ h => h) (Or.inl ⟨by rfl, ?hya1⟩) (by assumption) ?rest1
              case hya1 => (intro wz hSw; (try dsimp only at hSw); go_simp; all_goals with_reducible rfl)
              try simp only [List.getElem_toArray, List.getElem_cons_succ, List.getElem_cons_zero, Act.put, List.setIfInBounds_toArray, List.set_cons_zero, List.set_cons_succ]
              refine wpAnyH_take (i := 1) (v := ?va2) rfl (by kernel_rfl) (by kernel_rfl) (by kernel_rfl) (fun _ _ _ h => h) (Or.inl ⟨by rfl, ?hya2⟩) (by assumption) ?rest2
              case hya2 => (intro wz hSw; (try dsimp only at hSw); go_simp; all_goals with_reducible rfl)
              try simp only [List.getElem_toArray, List.getElem_cons_succ, List.getElem_cons_zero, Act.put, List.setIfInBounds_toArray, List.set_cons_zero, List.set_cons_succ]
              refine wpAnyH_take (i := 2) (v := ?va3) rfl (by kernel_rfl) (by kernel_rfl) (by kernel_rfl) (fun _ _ _ h => h) (Or.inl ⟨by rfl, ?hya3⟩) (by assumption) ?rest3
              case hya3 => (intro wz hSw; (try dsimp only at hSw); go_simp; all_goals with_reducible rfl)
              try simp only [List.getElem_toArray, List.getElem_cons_succ, List.getElem_cons_zero, Act.put, List.setIfInBounds_toArray, List.set_cons_zero, List.set_cons_succ]
              refine wpAnyH_take (i := 3) (v := ?va4) rfl (by kernel_rfl) (by kernel_rfl) (by kernel_rfl) (fun _ _ _ h => h) (Or.inl ⟨by rfl, ?hya4⟩) (by assumption) ?rest4
              case hya4 => (intro wz hSw; (try dsimp only at hSw); go_simp; all_goals with_reducible rfl)
              try simp only [List.getElem_toArray, List.getElem_cons_succ, List.getElem_cons_zero, Act.put, List.setIfInBounds_toArray, List.set_cons_zero, List.set_cons_succ]
              refine wpAnyH_take (i := 4) (v := ?va5) rfl (by kernel_rfl) (by kernel_rfl) (by kernel_rfl) (fun _ _ _ h => h) (Or.inl ⟨by rfl, ?hya5⟩) (by assumption) ?rest5
              case hya5 => (intro wz hSw; (try dsimp only at hSw); go_simp; all_goals with_reducible rfl)
              try simp only [List.getElem_toArray, List.getElem_cons_succ, List.getElem_cons_zero, Act.put, List.setIfInBounds_toArray, List.set_cons_zero, List.set_cons_succ]
              refine wpAnyH_take (i := 5) (v := ?va6) rfl (by kernel_rfl) (by kernel_rfl) (by kernel_rfl) (fun _ _ _ h => h) (Or.inl ⟨by rfl, ?hya6⟩) (by assumption) ?rest6
              case hya6 => (intro wz hSw; (try dsimp only at hSw); go_simp; all_goals with_reducible rfl)
              try simp only [List.getElem_toArray, List.getElem_cons_succ, List.getElem_cons_zero, Act.put, List.setIfInBounds_toArray, List.set_cons_zero, List.set_cons_succ]
              refine wpAnyH_ready (rs := [6]) (by kernel_rfl) (by simp) ?_
              refine AllReadyH.cons rfl (fun K hK => ?_) AllReadyH.nil
              go_simp
              (go_at_call 76; (with_reducible refine (icells_any x.kd x.sz _ HZ.out).mono ?_); rintro e w2 ⟨rfl, rfl⟩; rw [HC.out])
              go_wp2_with fail
              refine hK.out _ _ ?_ (fun hHeld6 => ?_)
              · (try dsimp only)
                go_keep
              clear hK K
              try simp only [List.getElem_toArray, List.getElem_cons_succ, List.getElem_cons_zero, Act.put, List.setIfInBounds_toArray, List.set_cons_zero, List.set_cons_succ]
              refine wpAnyH_take (i := 7) (v := ?va7) rfl (by kernel_rfl) (by kernel_rfl) (by kernel_rfl) (fun _ _ _ h => h) (Or.inl ⟨by rfl, ?hya7⟩) (by assumption) ?rest7
              case hya7 => (intro wz hSw; (try dsimp only at hSw); go_simp; all_goals with_reducible rfl)
              try simp only [List.getElem_toArray, List.getElem_cons_succ, List.getElem_cons_zero, Act.put, List.setIfInBounds_toArray, List.set_cons_zero, List.set_cons_succ]
              refine wpAnyH_ready (rs := [8]) (by kernel_rfl) (by simp) ?_
              refine AllReadyH.cons rfl (fun K hK => ?_) AllReadyH.nil
              go_simp
              (go_at_call 101; (with_reducible refine (within_any x.du (y + 20) 1000 _).mono ?_); rintro e w2 ⟨rfl, rfl⟩)
              go_wp2_with fail
              refine hK.out _ _ ?_ (fun hHeld8 => ?_)
              · (try dsimp only)
                go_keep
              clear hK K
              try simp only [List.getElem_toArray, List.getElem_cons_succ, List.getElem_cons_zero, Act.put, List.setIfInBounds_toArray, List.set_cons_zero, List.set_cons_succ]
              refine wpAnyH_take (i := 9) (v := ?va8) rfl (by kernel_rfl) (by kernel_rfl) (by kernel_rfl) (fun _ _ _ h => h) (Or.inl ⟨by rfl, ?hya8⟩) (by assumption) ?rest8
              case hya8 => (intro wz hSw; (try dsimp only at hSw); go_simp; all_goals with_reducible rfl)
              try simp only [List.getElem_toArray, List.getElem_cons_succ, List.getElem_cons_zero, Act.put, List.setIfInBounds_toArray, List.set_cons_zero, List.set_cons_succ]
              refine wpAnyH_done (by kernel_rfl) ?_ _
              go_wp2
              go_ret
              exact ⟨by rw [E.out]; rfl, HW.out.drew⟩
            · go_wp2_with (first | (go_at_call 108; refine (iisNode_any _ _).mono ?_; rintro e w2 ⟨rfl, rfl⟩; rw [H1.out]) | (go_at_call 106; refine (ikind_any _ _).mono ?_; rintro e w2 ⟨rfl, rfl⟩; rw [H2.out]) | (go_at_call 107; refine (isize_any _ _ _).mono ?_; rintro e w2 ⟨rfl, rfl⟩; rw [H3.out]))
              refine wp_region_held_drew (S := (fun w' => w'.cell? ⟨w.heap.size, 1, none⟩ = some (.int .i64 x.kd) ∧ w'.cell? ⟨w.heap.size, 2, none⟩ = some (.int .i64 x.sz) ∧ w'.cell? ⟨w.heap.size, 3, none⟩ = some (.int .i64 x.du))) (by kernel_rfl) ?_ (fun hHeld => ?_)
              · (try dsimp only)
                go_keep
              refine wpAnyH_take (i := 0) (v := ?va9) rfl (by kernel_rfl) (by kernel_rfl) (by kernel_rfl) (fun _ _ _ h => h) (Or.inl ⟨by rfl, ?hya9⟩) (by assumption) ?rest9
              case hya9 => (intro wz hSw; (try dsimp only at hSw); go_simp; all_goals with_reducible rfl)
              try simp only [List.getElem_toArray, List.getElem_cons_succ, List.getElem_cons_zero, Act.put, List.setIfInBounds_toArray, List.set_cons_zero, List.set_cons_succ]
              refine wpAnyH_take (i := 1) (v := ?va10) rfl (by kernel_rfl) (by kernel_rfl) (by kernel_rfl) (fun _ _ _ h => h) (Or.inl ⟨by rfl, ?hya10⟩) (by assumption) ?rest10
              case hya10 => (intro wz hSw; (try dsimp only at hSw); go_simp; all_goals with_reducible rfl)
              try simp only [List.getElem_toArray, List.getElem_cons_succ, List.getElem_cons_zero, Act.put, List.setIfInBounds_toArray, List.set_cons_zero, List.set_cons_succ]
              refine wpAnyH_take (i := 2) (v := ?va11) rfl (by kernel_rfl) (by kernel_rfl) (by kernel_rfl) (fun _ _ _ h => h) (Or.inl ⟨by rfl, ?hya11⟩) (by assumption) ?rest11
              case hya11 => (intro wz hSw; (try dsimp only at hSw); go_simp; all_goals with_reducible rfl)
              try simp only [List.getElem_toArray, List.getElem_cons_succ, List.getElem_cons_zero, Act.put, List.setIfInBounds_toArray, List.set_cons_zero, List.set_cons_succ]
              refine wpAnyH_take (i := 3) (v := ?va12) rfl (by kernel_rfl) (by kernel_rfl) (by kernel_rfl) (fun _ _ _ h => h) (Or.inl ⟨by rfl, ?hya12⟩) (by assumption) ?rest12
              case hya12 => (intro wz hSw; (try dsimp only at hSw); go_simp; all_goals with_reducible rfl)
              try simp only [List.getElem_toArray, List.getElem_cons_succ, List.getElem_cons_zero, Act.put, List.setIfInBounds_toArray, List.set_cons_zero, List.set_cons_succ]
              refine wpAnyH_take (i := 4) (v := ?va13) rfl (by kernel_rfl) (by kernel_rfl) (by kernel_rfl) (fun _ _ _ h => h) (Or.inl ⟨by rfl, ?hya13⟩) (by assumption) ?rest13
              case hya13 => (intro wz hSw; (try dsimp only at hSw); go_simp; all_goals with_reducible rfl)
              try simp only [List.getElem_toArray, List.getElem_cons_succ, List.getElem_cons_zero, Act.put, List.setIfInBounds_toArray, List.set_cons_zero, List.set_cons_succ]
              refine wpAnyH_take (i := 5) (v := ?va14) rfl (by kernel_rfl) (by kernel_rfl) (by kernel_rfl) (fun _ _ _ h => h) (Or.inl ⟨by rfl, ?hya14⟩) (by assumption) ?rest14
              case hya14 => (intro wz hSw; (try dsimp only at hSw); go_simp; all_goals with_reducible rfl)
              try simp only [List.getElem_toArray, List.getElem_cons_succ, List.getElem_cons_zero, Act.put, List.setIfInBounds_toArray, List.set_cons_zero, List.set_cons_succ]
              refine wpAnyH_ready (rs := [6]) (by kernel_rfl) (by simp) ?_
              refine AllReadyH.cons rfl (fun K hK => ?_) AllReadyH.nil
              go_simp
              (go_at_call 76; (with_reducible refine (icells_any x.kd x.sz _ HZ.out).mono ?_); rintro e w2 ⟨rfl, rfl⟩; rw [HC.out])
              go_wp2_with fail
              refine hK.out _ _ ?_ (fun hHeld6 => ?_)
              · (try dsimp only)
                go_keep
              clear hK K
              try simp only [List.getElem_toArray, List.getElem_cons_succ, List.getElem_cons_zero, Act.put, List.setIfInBounds_toArray, List.set_cons_zero, List.set_cons_succ]
              refine wpAnyH_take (i := 7) (v := ?va15) rfl (by kernel_rfl) (by kernel_rfl) (by kernel_rfl) (fun _ _ _ h => h) (Or.inl ⟨by rfl, ?hya15⟩) (by assumption) ?rest15
              case hya15 => (intro wz hSw; (try dsimp only at hSw); go_simp; all_goals with_reducible rfl)
              try simp only [List.getElem_toArray, List.getElem_cons_succ, List.getElem_cons_zero, Act.put, List.setIfInBounds_toArray, List.set_cons_zero, List.set_cons_succ]
              refine wpAnyH_ready (rs := [8]) (by kernel_rfl) (by simp) ?_
              refine AllReadyH.cons rfl (fun K hK => ?_) AllReadyH.nil
              go_simp
              (go_at_call 101; (with_reducible refine (within_any x.du (y + 20) 1000 _).mono ?_); rintro e w2 ⟨rfl, rfl⟩)
              go_wp2_with fail
              refine hK.out _ _ ?_ (fun hHeld8 => ?_)
              · (try dsimp only)
                go_keep
              clear hK K
              try simp only [List.getElem_toArray, List.getElem_cons_succ, List.getElem_cons_zero, Act.put, List.setIfInBounds_toArray, List.set_cons_zero, List.set_cons_succ]
              refine wpAnyH_take (i := 9) (v := ?va16) rfl (by kernel_rfl) (by kernel_rfl) (by kernel_rfl) (fun _ _ _ h => h) (Or.inl ⟨by rfl, ?hya16⟩) (by assumption) ?rest16
              case hya16 => (intro wz hSw; (try dsimp only at hSw); go_simp; all_goals with_reducible rfl)
              try simp only [List.getElem_toArray, List.getElem_cons_succ, List.getElem_cons_zero, Act.put, List.setIfInBounds_toArray, List.set_cons_zero, List.set_cons_succ]
              refine wpAnyH_done (by kernel_rfl) ?_ _
              go_wp2
              go_ret
              exact ⟨by rw [E.out]; rfl, HW.out.drew⟩
          · have h6 : (x.kd == 3) = false := by rw [h5] at h4; simpa using h4
            rw [h5] at HB ⊢
            clear h1 h2 h3 h4 hy h5
            go_enter Tryz.func80, Tryz.ntmps80
            go_wp2_with (first | (go_at_call 108; refine (iisNode_any _ _).mono ?_; rintro e w2 ⟨rfl, rfl⟩; rw [H1.out]) | (go_at_call 106; refine (ikind_any _ _).mono ?_; rintro e w2 ⟨rfl, rfl⟩; rw [H2.out]) | (go_at_call 107; refine (isize_any _ _ _).mono ?_; rintro e w2 ⟨rfl, rfl⟩; rw [H3.out]))
            refine wp_region_held_drew (S := (fun w' => w'.cell? ⟨w.heap.size, 1, none⟩ = some (.int .i64 x.kd) ∧ w'.cell? ⟨w.heap.size, 2, none⟩ = some (.int .i64 x.sz) ∧ w'.cell? ⟨w.heap.size, 3, none⟩ = some (.int .i64 x.du))) (by kernel_rfl) ?_ (fun hHeld => ?_)
            · (try dsimp only)
              go_keep
            refine wpAnyH_take (i := 0) (v := ?va17) rfl (by kernel_rfl) (by kernel_rfl) (by kernel_rfl) (fun _ _ _ h => h) (Or.inl ⟨by rfl, ?hya17⟩) (by assumption) ?rest17
            case hya17 => (intro wz hSw; (try dsimp only at hSw); go_simp; all_goals with_reducible rfl)
            try simp only [List.getElem_toArray, List.getElem_cons_succ, List.getElem_cons_zero, Act.put, List.setIfInBounds_toArray, List.set_cons_zero, List.set_cons_succ]
            refine wpAnyH_take (i := 1) (v := ?va18) rfl (by kernel_rfl) (by kernel_rfl) (by kernel_rfl) (fun _ _ _ h => h) (Or.inl ⟨by rfl, ?hya18⟩) (by assumption) ?rest18
            case hya18 => (intro wz hSw; (try dsimp only at hSw); go_simp; all_goals with_reducible rfl)
            try simp only [List.getElem_toArray, List.getElem_cons_succ, List.getElem_cons_zero, Act.put, List.setIfInBounds_toArray, List.set_cons_zero, List.set_cons_succ]
            refine wpAnyH_take (i := 2) (v := ?va19) rfl (by kernel_rfl) (by kernel_rfl) (by kernel_rfl) (fun _ _ _ h => h) (Or.inl ⟨by rfl, ?hya19⟩) (by assumption) ?rest19
            case hya19 => (intro wz hSw; (try dsimp only at hSw); go_simp; all_goals with_reducible rfl)
            try simp only [List.getElem_toArray, List.getElem_cons_succ, List.getElem_cons_zero, Act.put, List.setIfInBounds_toArray, List.set_cons_zero, List.set_cons_succ]
            refine wpAnyH_take (i := 3) (v := ?va20) rfl (by kernel_rfl) (by kernel_rfl) (by kernel_rfl) (fun _ _ _ h => h) (Or.inl ⟨by rfl, ?hya20⟩) (by assumption) ?rest20
            case hya20 => (intro wz hSw; (try dsimp only at hSw); go_simp; all_goals with_reducible rfl)
            try simp only [List.getElem_toArray, List.getElem_cons_succ, List.getElem_cons_zero, Act.put, List.setIfInBounds_toArray, List.set_cons_zero, List.set_cons_succ]
            refine wpAnyH_take (i := 4) (v := ?va21) rfl (by kernel_rfl) (by kernel_rfl) (by kernel_rfl) (fun _ _ _ h => h) (Or.inl ⟨by rfl, ?hya21⟩) (by assumption) ?rest21
            case hya21 => (intro wz hSw; (try dsimp only at hSw); go_simp; all_goals with_reducible rfl)
            try simp only [List.getElem_toArray, List.getElem_cons_succ, List.getElem_cons_zero, Act.put, List.setIfInBounds_toArray, List.set_cons_zero, List.set_cons_succ]
            refine wpAnyH_take (i := 5) (v := ?va22) rfl (by kernel_rfl) (by kernel_rfl) (by kernel_rfl) (fun _ _ _ h => h) (Or.inl ⟨by rfl, ?hya22⟩) (by assumption) ?rest22
            case hya22 => (intro wz hSw; (try dsimp only at hSw); go_simp; all_goals with_reducible rfl)
            try simp only [List.getElem_toArray, List.getElem_cons_succ, List.getElem_cons_zero, Act.put, List.setIfInBounds_toArray, List.set_cons_zero, List.set_cons_succ]
            refine wpAnyH_ready (rs := [6]) (by kernel_rfl) (by simp) ?_
            refine AllReadyH.cons rfl (fun K hK => ?_) AllReadyH.nil
            go_simp
            (go_at_call 76; (with_reducible refine (icells_any x.kd x.sz _ HZ.out).mono ?_); rintro e w2 ⟨rfl, rfl⟩; rw [HC.out])
            go_wp2_with fail
            refine hK.out _ _ ?_ (fun hHeld6 => ?_)
            · (try dsimp only)
              go_keep
            clear hK K
            try simp only [List.getElem_toArray, List.getElem_cons_succ, List.getElem_cons_zero, Act.put, List.setIfInBounds_toArray, List.set_cons_zero, List.set_cons_succ]
            refine wpAnyH_take (i := 7) (v := ?va23) rfl (by kernel_rfl) (by kernel_rfl) (by kernel_rfl) (fun _ _ _ h => h) (Or.inl ⟨by rfl, ?hya23⟩) (by assumption) ?rest23
            case hya23 => (intro wz hSw; (try dsimp only at hSw); go_simp; all_goals with_reducible rfl)
            try simp only [List.getElem_toArray, List.getElem_cons_succ, List.getElem_cons_zero, Act.put, List.setIfInBounds_toArray, List.set_cons_zero, List.set_cons_succ]
            refine wpAnyH_ready (rs := [8]) (by kernel_rfl) (by simp) ?_
            refine AllReadyH.cons rfl (fun K hK => ?_) AllReadyH.nil
            go_simp
            (go_at_call 101; (with_reducible refine (within_any x.du (y + 20) 1000 _).mono ?_); rintro e w2 ⟨rfl, rfl⟩)
            go_wp2_with fail
            refine hK.out _ _ ?_ (fun hHeld8 => ?_)
            · (try dsimp only)
              go_keep
            clear hK K
            try simp only [List.getElem_toArray, List.getElem_cons_succ, List.getElem_cons_zero, Act.put, List.setIfInBounds_toArray, List.set_cons_zero, List.set_cons_succ]
            refine wpAnyH_take (i := 9) (v := ?va24) rfl (by kernel_rfl) (by kernel_rfl) (by kernel_rfl) (fun _ _ _ h => h) (Or.inl ⟨by rfl, ?hya24⟩) (by assumption) ?rest24
            case hya24 => (intro wz hSw; (try dsimp only at hSw); go_simp; all_goals with_reducible rfl)
            try simp only [List.getElem_toArray, List.getElem_cons_succ, List.getElem_cons_zero, Act.put, List.setIfInBounds_toArray, List.set_cons_zero, List.set_cons_succ]
            refine wpAnyH_done (by kernel_rfl) ?_ _
            go_wp2
            go_ret
            exact ⟨by rw [E.out]; rfl, HB.out.drew⟩
        · have E := hide (show descB x = false by rw [D.out, h1, h2, h3, h4]; rfl)
          rw [Bool.and_eq_true] at h4
          obtain ⟨h5, h6⟩ := h4
          rw [h5] at HB ⊢
          clear h1 h2 h3 hy h5
          go_enter Tryz.func80, Tryz.ntmps80
          go_wp2_with (first | (go_at_call 108; refine (iisNode_any _ _).mono ?_; rintro e w2 ⟨rfl, rfl⟩; rw [H1.out]) | (go_at_call 106; refine (ikind_any _ _).mono ?_; rintro e w2 ⟨rfl, rfl⟩; rw [H2.out]) | (go_at_call 107; refine (isize_any _ _ _).mono ?_; rintro e w2 ⟨rfl, rfl⟩; rw [H3.out]))
          go_ret
          exact ⟨by rw [E.out]; rfl, HB.out⟩
theorem skind_any (x : Int) (w : World) : Calls Tryz.prog 182 #[.int .i64 x] w (SameB (inB 0 3 x) w) := by
  go_enter Tryz.func182, Tryz.ntmps182
  go_wp2_with fail
  refine (l01In_any x 0 3 _).mono ?_
  rintro e w1 ⟨rfl, rfl⟩
  go_wp2
  go_ret
  exact ⟨rfl, rfl⟩
theorem sstate_any (x : Int) (w : World) : Calls Tryz.prog 123 #[.int .i64 x] w (SameB (x != 0) w) := by
  go_enter Tryz.func123, Tryz.ntmps123
  go_wp2
  go_ret
  exact ⟨rfl, rfl⟩
theorem sdata_any (x : Int) (w : World) : Calls Tryz.prog 124 #[.int .i64 x] w (SameB (x == 0 || x == 2) w) := by
  cases h : (x == 0)
  · go_enter Tryz.func124, Tryz.ntmps124
    go_wp2
    go_ret
    exact ⟨rfl, rfl⟩
  · go_enter Tryz.func124, Tryz.ntmps124
    go_wp2
    go_ret
    exact ⟨rfl, rfl⟩
set_option maxHeartbeats 800000 in
theorem ssize_any (kd sz : Int) (w : World) : Calls Tryz.prog 183 #[.int .i64 kd, .int .i64 sz] w (SameB (szB kd sz) w) := by
  by_cases h0 : kd = 0
  · have E := hide (show szB kd sz = inB 0 32 sz by rw [szB, if_pos h0])
    have t0 : (kd == 0) = true := by simpa using h0
    clear h0
    go_enter Tryz.func183, Tryz.ntmps183
    go_wp2_with (go_at_call 122; refine (l01In_any sz 0 32 _).mono ?_; rintro e w1 ⟨rfl, rfl⟩)
    go_ret
    exact ⟨by rw [E.out]; rfl, rfl⟩
  · have t0 : (kd == 0) = false := by simpa using h0
    by_cases h2 : kd = 2
    · have E := hide (show szB kd sz = inB 1 32 sz by rw [szB, if_neg h0, if_pos h2])
      have t2 : (kd == 2) = true := by simpa using h2
      clear h0 h2
      go_enter Tryz.func183, Tryz.ntmps183
      go_wp2_with (go_at_call 122; refine (l01In_any sz 1 32 _).mono ?_; rintro e w1 ⟨rfl, rfl⟩)
      go_ret
      exact ⟨by rw [E.out]; rfl, rfl⟩
    · have E := hide (show szB kd sz = (sz == 0) by rw [szB, if_neg h0, if_neg h2])
      have t2 : (kd == 2) = false := by simpa using h2
      clear h0 h2
      go_enter Tryz.func183, Tryz.ntmps183
      go_wp2
      go_ret
      exact ⟨by rw [E.out]; rfl, rfl⟩
set_option maxHeartbeats 800000 in
theorem sbody_any (kd sz : Int) (w : World) (h : 0 ≤ sz ∧ sz ≤ 32) : Calls Tryz.prog 104 #[.int .i64 kd, .int .i64 sz] w (SameI (bodyI kd sz) w) := by
  by_cases h0 : kd = 0
  · have E := hide (show bodyI kd sz = 1 + (1 + sz) by rw [bodyI, if_pos h0, if_pos (.inl h0)]; omega)
    have t0 : (kd == 0) = true := by simpa using h0
    have t1 : (kd != 0) = false := by simpa using h0
    clear h0
    go_enter Tryz.func104, Tryz.ntmps104
    go_wp2_with (first | (go_at_call 123; refine (sstate_any kd _).mono ?_; rintro e w1 ⟨rfl, rfl⟩) | (go_at_call 124; refine (sdata_any kd _).mono ?_; rintro e w1 ⟨rfl, rfl⟩))
    go_ret
    exact ⟨by rw [E.out]; show Ending.returned (.int .i64 _) = _; congr 2 <;> omega, rfl⟩
  · have t0 : (kd == 0) = false := by simpa using h0
    have t1 : (kd != 0) = true := by simpa using h0
    by_cases h2 : kd = 2
    · have E := hide (show bodyI kd sz = 9 + (1 + sz) by rw [bodyI, if_neg h0, if_pos (.inr h2)]; omega)
      have t2 : (kd == 2) = true := by simpa using h2
      clear h0 h2
      go_enter Tryz.func104, Tryz.ntmps104
      go_wp2_with (first | (go_at_call 123; refine (sstate_any kd _).mono ?_; rintro e w1 ⟨rfl, rfl⟩) | (go_at_call 124; refine (sdata_any kd _).mono ?_; rintro e w1 ⟨rfl, rfl⟩))
      go_ret
      exact ⟨by rw [E.out]; show Ending.returned (.int .i64 _) = _; congr 2 <;> omega, rfl⟩
    · have E := hide (show bodyI kd sz = 9 by rw [bodyI, if_neg h0, if_neg (by omega)]; rfl)
      have t2 : (kd == 2) = false := by simpa using h2
      clear h0 h2
      go_enter Tryz.func104, Tryz.ntmps104
      go_wp2_with (first | (go_at_call 123; refine (sstate_any kd _).mono ?_; rintro e w1 ⟨rfl, rfl⟩) | (go_at_call 124; refine (sdata_any kd _).mono ?_; rintro e w1 ⟨rfl, rfl⟩))
      go_ret
      exact ⟨by rw [E.out]; rfl, rfl⟩
theorem scells_any (kd sz : Int) (w : World) (h : 0 ≤ sz ∧ sz ≤ 32) : Calls Tryz.prog 74 #[.int .i64 kd, .int .i64 sz] w (SameI (cellI kd sz) w) := by
  have hb := bodyI_le (kd := kd) h
  have E := hide (show cellI kd sz = 11 + 10 * (bodyI kd sz + 3) from rfl)
  go_enter Tryz.func74, Tryz.ntmps74
  go_wp2_with fail
  refine (sbody_any kd sz _ h).mono ?_
  rintro e w1 ⟨rfl, rfl⟩
  generalize bodyI kd sz = y at hb E
  go_wp2
  go_ret
  exact ⟨by rw [E.out]; show Ending.returned (.int .i64 _) = _; congr 2, rfl⟩
set_option maxHeartbeats 3200000 in
theorem sIsDescriptor_any (x : Slt) (w : World) : Calls Tryz.prog 174 #[.agg #[.int .i64 x.nd, .int .i64 x.kd, .int .i64 x.sz, .int .i64 x.du, .bool x.ch]] w fun e w' => e = .returned (.bool (descB x)) ∧ Below w.heap.size w w' := by
  have HB := hide ((Below.refl w.heap.size w).alloc (Nat.le_refl _) (.cells #[.int .i64 x.nd, .int .i64 x.kd, .int .i64 x.sz, .int .i64 x.du, .bool x.ch] 59))
  have D := hide (show descB x = (inB 0 31 x.nd && (inB 0 3 x.kd && (szB x.kd x.sz && (!(x.ch && x.kd == 3) && inB (cellI x.kd x.sz + 20) 1000 x.du)))) from rfl)
  cases h1 : inB 0 31 x.nd
  · have E := hide (show descB x = false by rw [D.out, h1]; rfl)
    have H1 := hide h1
    clear h1
    go_enter Tryz.func174, Tryz.ntmps174
    go_wp2_with (first | (go_at_call 168; refine (l05Node_any _ _).mono ?_; rintro e w2 ⟨rfl, rfl⟩; rw [H1.out]))
    go_ret
    exact ⟨by rw [E.out]; rfl, HB.out⟩
  · have H1 := hide h1
    cases h2 : inB 0 3 x.kd
    · have E := hide (show descB x = false by rw [D.out, h1, h2]; rfl)
      have H2 := hide h2
      clear h1 h2
      go_enter Tryz.func174, Tryz.ntmps174
      go_wp2_with (first | (go_at_call 168; refine (l05Node_any _ _).mono ?_; rintro e w2 ⟨rfl, rfl⟩; rw [H1.out]) | (go_at_call 182; refine (skind_any _ _).mono ?_; rintro e w2 ⟨rfl, rfl⟩; rw [H2.out]))
      go_ret
      exact ⟨by rw [E.out]; rfl, HB.out⟩
    · have H2 := hide h2
      cases h3 : szB x.kd x.sz
      · have E := hide (show descB x = false by rw [D.out, h1, h2, h3]; rfl)
        have H3 := hide h3
        clear h1 h2 h3
        go_enter Tryz.func174, Tryz.ntmps174
        go_wp2_with (first | (go_at_call 168; refine (l05Node_any _ _).mono ?_; rintro e w2 ⟨rfl, rfl⟩; rw [H1.out]) | (go_at_call 182; refine (skind_any _ _).mono ?_; rintro e w2 ⟨rfl, rfl⟩; rw [H2.out]) | (go_at_call 183; refine (ssize_any _ _ _).mono ?_; rintro e w2 ⟨rfl, rfl⟩; rw [H3.out]))
        go_ret
        exact ⟨by rw [E.out]; rfl, HB.out⟩
      · have H3 := hide h3
        have HZ := hide (szB_le h3)
        have hc := cellI_le (kd := x.kd) HZ.out
        obtain ⟨y, hy⟩ : ∃ y, y = cellI x.kd x.sz := ⟨_, rfl⟩
        rw [← hy] at hc
        have ew : IntKind.i64.wrap (y + 20) = y + 20 := IntWalk.i64_in _ ⟨by omega, by omega⟩
        have HC := hide hy.symm
        cases h4 : (x.ch && x.kd == 3)
        · have E := hide (show descB x = inB (y + 20) 1000 x.du by rw [D.out, h1, h2, h3, h4, hy]; rfl)
          rcases Bool.eq_false_or_eq_true x.ch with h5 | h5
          rotate_left
          · rw [h5] at HB ⊢
            clear h1 h2 h3 h4 hy h5
            have HW := HB
            go_enter Tryz.func174, Tryz.ntmps174
            cases h6 : (x.kd == 3)
            · go_wp2_with (first | (go_at_call 168; refine (l05Node_any _ _).mono ?_; rintro e w2 ⟨rfl, rfl⟩; rw [H1.out]) | (go_at_call 182; refine (skind_any _ _).mono ?_; rintro e w2 ⟨rfl, rfl⟩; rw [H2.out]) | (go_at_call 183; refine (ssize_any _ _ _).mono ?_; rintro e w2 ⟨rfl, rfl⟩; rw [H3.out]))
              refine wp_region_held_drew (S := (fun w' => w'.cell? ⟨w.heap.size, 1, none⟩ = some (.int .i64 x.kd) ∧ w'.cell? ⟨w.heap.size, 2, none⟩ = some (.int .i64 x.sz) ∧ w'.cell? ⟨w.heap.size, 3, none⟩ = some (.int .i64 x.du))) (by kernel_rfl) ?_ (fun hHeld => ?_)
              · (try dsimp only)
                go_keep
              refine wpAnyH_take (i := 0) (v := ?va25) rfl (by kernel_rfl) (by kernel_rfl) (by kernel_rfl) (fun _ _ _ h => h) (Or.inl ⟨by rfl, ?hya25⟩) (by assumption) ?rest25
              case hya25 => (intro wz hSw; (try dsimp only at hSw); go_simp; all_goals with_reducible rfl)
              try simp only [List.getElem_toArray, List.getElem_cons_succ, List.getElem_cons_zero, Act.put, List.setIfInBounds_toArray, List.set_cons_zero, List.set_cons_succ]
              refine wpAnyH_take (i := 1) (v := ?va26) rfl (by kernel_rfl) (by kernel_rfl) (by kernel_rfl) (fun _ _ _ h => h) (Or.inl ⟨by rfl, ?hya26⟩) (by assumption) ?rest26
              case hya26 => (intro wz hSw; (try dsimp only at hSw); go_simp; all_goals with_reducible rfl)
              try simp only [List.getElem_toArray, List.getElem_cons_succ, List.getElem_cons_zero, Act.put, List.setIfInBounds_toArray, List.set_cons_zero, List.set_cons_succ]
              refine wpAnyH_take (i := 2) (v := ?va27) rfl (by kernel_rfl) (by kernel_rfl) (by kernel_rfl) (fun _ _ _ h => h) (Or.inl ⟨by rfl, ?hya27⟩) (by assumption) ?rest27
              case hya27 => (intro wz hSw; (try dsimp only at hSw); go_simp; all_goals with_reducible rfl)
              try simp only [List.getElem_toArray, List.getElem_cons_succ, List.getElem_cons_zero, Act.put, List.setIfInBounds_toArray, List.set_cons_zero, List.set_cons_succ]
              refine wpAnyH_take (i := 3) (v := ?va28) rfl (by kernel_rfl) (by kernel_rfl) (by kernel_rfl) (fun _ _ _ h => h) (Or.inl ⟨by rfl, ?hya28⟩) (by assumption) ?rest28
              case hya28 => (intro wz hSw; (try dsimp only at hSw); go_simp; all_goals with_reducible rfl)
              try simp only [List.getElem_toArray, List.getElem_cons_succ, List.getElem_cons_zero, Act.put, List.setIfInBounds_toArray, List.set_cons_zero, List.set_cons_succ]
              refine wpAnyH_take (i := 4) (v := ?va29) rfl (by kernel_rfl) (by kernel_rfl) (by kernel_rfl) (fun _ _ _ h => h) (Or.inl ⟨by rfl, ?hya29⟩) (by assumption) ?rest29
              case hya29 => (intro wz hSw; (try dsimp only at hSw); go_simp; all_goals with_reducible rfl)
              try simp only [List.getElem_toArray, List.getElem_cons_succ, List.getElem_cons_zero, Act.put, List.setIfInBounds_toArray, List.set_cons_zero, List.set_cons_succ]
              refine wpAnyH_take (i := 5) (v := ?va30) rfl (by kernel_rfl) (by kernel_rfl) (by kernel_rfl) (fun _ _ _ h => h) (Or.inl ⟨by rfl, ?hya30⟩) (by assumption) ?rest30
              case hya30 => (intro wz hSw; (try dsimp only at hSw); go_simp; all_goals with_reducible rfl)
              try simp only [List.getElem_toArray, List.getElem_cons_succ, List.getElem_cons_zero, Act.put, List.setIfInBounds_toArray, List.set_cons_zero, List.set_cons_succ]
              refine wpAnyH_ready (rs := [6]) (by kernel_rfl) (by simp) ?_
              refine AllReadyH.cons rfl (fun K hK => ?_) AllReadyH.nil
              go_simp
              (go_at_call 74; (with_reducible refine (scells_any x.kd x.sz _ HZ.out).mono ?_); rintro e w2 ⟨rfl, rfl⟩; rw [HC.out])
              go_wp2_with fail
              refine hK.out _ _ ?_ (fun hHeld6 => ?_)
              · (try dsimp only)
                go_keep
              clear hK K
              try simp only [List.getElem_toArray, List.getElem_cons_succ, List.getElem_cons_zero, Act.put, List.setIfInBounds_toArray, List.set_cons_zero, List.set_cons_succ]
              refine wpAnyH_take (i := 7) (v := ?va31) rfl (by kernel_rfl) (by kernel_rfl) (by kernel_rfl) (fun _ _ _ h => h) (Or.inl ⟨by rfl, ?hya31⟩) (by assumption) ?rest31
              case hya31 => (intro wz hSw; (try dsimp only at hSw); go_simp; all_goals with_reducible rfl)
              try simp only [List.getElem_toArray, List.getElem_cons_succ, List.getElem_cons_zero, Act.put, List.setIfInBounds_toArray, List.set_cons_zero, List.set_cons_succ]
              refine wpAnyH_ready (rs := [8]) (by kernel_rfl) (by simp) ?_
              refine AllReadyH.cons rfl (fun K hK => ?_) AllReadyH.nil
              go_simp
              (go_at_call 122; (with_reducible refine (l01In_any x.du (y + 20) 1000 _).mono ?_); rintro e w2 ⟨rfl, rfl⟩)
              go_wp2_with fail
              refine hK.out _ _ ?_ (fun hHeld8 => ?_)
              · (try dsimp only)
                go_keep
              clear hK K
              try simp only [List.getElem_toArray, List.getElem_cons_succ, List.getElem_cons_zero, Act.put, List.setIfInBounds_toArray, List.set_cons_zero, List.set_cons_succ]
              refine wpAnyH_take (i := 9) (v := ?va32) rfl (by kernel_rfl) (by kernel_rfl) (by kernel_rfl) (fun _ _ _ h => h) (Or.inl ⟨by rfl, ?hya32⟩) (by assumption) ?rest32
              case hya32 => (intro wz hSw; (try dsimp only at hSw); go_simp; all_goals with_reducible rfl)
              try simp only [List.getElem_toArray, List.getElem_cons_succ, List.getElem_cons_zero, Act.put, List.setIfInBounds_toArray, List.set_cons_zero, List.set_cons_succ]
              refine wpAnyH_done (by kernel_rfl) ?_ _
              go_wp2
              go_ret
              exact ⟨by rw [E.out]; rfl, HW.out.drew⟩
            · go_wp2_with (first | (go_at_call 168; refine (l05Node_any _ _).mono ?_; rintro e w2 ⟨rfl, rfl⟩; rw [H1.out]) | (go_at_call 182; refine (skind_any _ _).mono ?_; rintro e w2 ⟨rfl, rfl⟩; rw [H2.out]) | (go_at_call 183; refine (ssize_any _ _ _).mono ?_; rintro e w2 ⟨rfl, rfl⟩; rw [H3.out]))
              refine wp_region_held_drew (S := (fun w' => w'.cell? ⟨w.heap.size, 1, none⟩ = some (.int .i64 x.kd) ∧ w'.cell? ⟨w.heap.size, 2, none⟩ = some (.int .i64 x.sz) ∧ w'.cell? ⟨w.heap.size, 3, none⟩ = some (.int .i64 x.du))) (by kernel_rfl) ?_ (fun hHeld => ?_)
              · (try dsimp only)
                go_keep
              refine wpAnyH_take (i := 0) (v := ?va33) rfl (by kernel_rfl) (by kernel_rfl) (by kernel_rfl) (fun _ _ _ h => h) (Or.inl ⟨by rfl, ?hya33⟩) (by assumption) ?rest33
              case hya33 => (intro wz hSw; (try dsimp only at hSw); go_simp; all_goals with_reducible rfl)
              try simp only [List.getElem_toArray, List.getElem_cons_succ, List.getElem_cons_zero, Act.put, List.setIfInBounds_toArray, List.set_cons_zero, List.set_cons_succ]
              refine wpAnyH_take (i := 1) (v := ?va34) rfl (by kernel_rfl) (by kernel_rfl) (by kernel_rfl) (fun _ _ _ h => h) (Or.inl ⟨by rfl, ?hya34⟩) (by assumption) ?rest34
              case hya34 => (intro wz hSw; (try dsimp only at hSw); go_simp; all_goals with_reducible rfl)
              try simp only [List.getElem_toArray, List.getElem_cons_succ, List.getElem_cons_zero, Act.put, List.setIfInBounds_toArray, List.set_cons_zero, List.set_cons_succ]
              refine wpAnyH_take (i := 2) (v := ?va35) rfl (by kernel_rfl) (by kernel_rfl) (by kernel_rfl) (fun _ _ _ h => h) (Or.inl ⟨by rfl, ?hya35⟩) (by assumption) ?rest35
              case hya35 => (intro wz hSw; (try dsimp only at hSw); go_simp; all_goals with_reducible rfl)
              try simp only [List.getElem_toArray, List.getElem_cons_succ, List.getElem_cons_zero, Act.put, List.setIfInBounds_toArray, List.set_cons_zero, List.set_cons_succ]
              refine wpAnyH_take (i := 3) (v := ?va36) rfl (by kernel_rfl) (by kernel_rfl) (by kernel_rfl) (fun _ _ _ h => h) (Or.inl ⟨by rfl, ?hya36⟩) (by assumption) ?rest36
              case hya36 => (intro wz hSw; (try dsimp only at hSw); go_simp; all_goals with_reducible rfl)
              try simp only [List.getElem_toArray, List.getElem_cons_succ, List.getElem_cons_zero, Act.put, List.setIfInBounds_toArray, List.set_cons_zero, List.set_cons_succ]
              refine wpAnyH_take (i := 4) (v := ?va37) rfl (by kernel_rfl) (by kernel_rfl) (by kernel_rfl) (fun _ _ _ h => h) (Or.inl ⟨by rfl, ?hya37⟩) (by assumption) ?rest37
              case hya37 => (intro wz hSw; (try dsimp only at hSw); go_simp; all_goals with_reducible rfl)
              try simp only [List.getElem_toArray, List.getElem_cons_succ, List.getElem_cons_zero, Act.put, List.setIfInBounds_toArray, List.set_cons_zero, List.set_cons_succ]
              refine wpAnyH_take (i := 5) (v := ?va38) rfl (by kernel_rfl) (by kernel_rfl) (by kernel_rfl) (fun _ _ _ h => h) (Or.inl ⟨by rfl, ?hya38⟩) (by assumption) ?rest38
              case hya38 => (intro wz hSw; (try dsimp only at hSw); go_simp; all_goals with_reducible rfl)
              try simp only [List.getElem_toArray, List.getElem_cons_succ, List.getElem_cons_zero, Act.put, List.setIfInBounds_toArray, List.set_cons_zero, List.set_cons_succ]
              refine wpAnyH_ready (rs := [6]) (by kernel_rfl) (by simp) ?_
              refine AllReadyH.cons rfl (fun K hK => ?_) AllReadyH.nil
              go_simp
              (go_at_call 74; (with_reducible refine (scells_any x.kd x.sz _ HZ.out).mono ?_); rintro e w2 ⟨rfl, rfl⟩; rw [HC.out])
              go_wp2_with fail
              refine hK.out _ _ ?_ (fun hHeld6 => ?_)
              · (try dsimp only)
                go_keep
              clear hK K
              try simp only [List.getElem_toArray, List.getElem_cons_succ, List.getElem_cons_zero, Act.put, List.setIfInBounds_toArray, List.set_cons_zero, List.set_cons_succ]
              refine wpAnyH_take (i := 7) (v := ?va39) rfl (by kernel_rfl) (by kernel_rfl) (by kernel_rfl) (fun _ _ _ h => h) (Or.inl ⟨by rfl, ?hya39⟩) (by assumption) ?rest39
              case hya39 => (intro wz hSw; (try dsimp only at hSw); go_simp; all_goals with_reducible rfl)
              try simp only [List.getElem_toArray, List.getElem_cons_succ, List.getElem_cons_zero, Act.put, List.setIfInBounds_toArray, List.set_cons_zero, List.set_cons_succ]
              refine wpAnyH_ready (rs := [8]) (by kernel_rfl) (by simp) ?_
              refine AllReadyH.cons rfl (fun K hK => ?_) AllReadyH.nil
              go_simp
              (go_at_call 122; (with_reducible refine (l01In_any x.du (y + 20) 1000 _).mono ?_); rintro e w2 ⟨rfl, rfl⟩)
              go_wp2_with fail
              refine hK.out _ _ ?_ (fun hHeld8 => ?_)
              · (try dsimp only)
                go_keep
              clear hK K
              try simp only [List.getElem_toArray, List.getElem_cons_succ, List.getElem_cons_zero, Act.put, List.setIfInBounds_toArray, List.set_cons_zero, List.set_cons_succ]
              refine wpAnyH_take (i := 9) (v := ?va40) rfl (by kernel_rfl) (by kernel_rfl) (by kernel_rfl) (fun _ _ _ h => h) (Or.inl ⟨by rfl, ?hya40⟩) (by assumption) ?rest40
              case hya40 => (intro wz hSw; (try dsimp only at hSw); go_simp; all_goals with_reducible rfl)
              try simp only [List.getElem_toArray, List.getElem_cons_succ, List.getElem_cons_zero, Act.put, List.setIfInBounds_toArray, List.set_cons_zero, List.set_cons_succ]
              refine wpAnyH_done (by kernel_rfl) ?_ _
              go_wp2
              go_ret
              exact ⟨by rw [E.out]; rfl, HW.out.drew⟩
          · have h6 : (x.kd == 3) = false := by rw [h5] at h4; simpa using h4
            rw [h5] at HB ⊢
            clear h1 h2 h3 h4 hy h5
            go_enter Tryz.func174, Tryz.ntmps174
            go_wp2_with (first | (go_at_call 168; refine (l05Node_any _ _).mono ?_; rintro e w2 ⟨rfl, rfl⟩; rw [H1.out]) | (go_at_call 182; refine (skind_any _ _).mono ?_; rintro e w2 ⟨rfl, rfl⟩; rw [H2.out]) | (go_at_call 183; refine (ssize_any _ _ _).mono ?_; rintro e w2 ⟨rfl, rfl⟩; rw [H3.out]))
            refine wp_region_held_drew (S := (fun w' => w'.cell? ⟨w.heap.size, 1, none⟩ = some (.int .i64 x.kd) ∧ w'.cell? ⟨w.heap.size, 2, none⟩ = some (.int .i64 x.sz) ∧ w'.cell? ⟨w.heap.size, 3, none⟩ = some (.int .i64 x.du))) (by kernel_rfl) ?_ (fun hHeld => ?_)
            · (try dsimp only)
              go_keep
            refine wpAnyH_take (i := 0) (v := ?va41) rfl (by kernel_rfl) (by kernel_rfl) (by kernel_rfl) (fun _ _ _ h => h) (Or.inl ⟨by rfl, ?hya41⟩) (by assumption) ?rest41
            case hya41 => (intro wz hSw; (try dsimp only at hSw); go_simp; all_goals with_reducible rfl)
            try simp only [List.getElem_toArray, List.getElem_cons_succ, List.getElem_cons_zero, Act.put, List.setIfInBounds_toArray, List.set_cons_zero, List.set_cons_succ]
            refine wpAnyH_take (i := 1) (v := ?va42) rfl (by kernel_rfl) (by kernel_rfl) (by kernel_rfl) (fun _ _ _ h => h) (Or.inl ⟨by rfl, ?hya42⟩) (by assumption) ?rest42
            case hya42 => (intro wz hSw; (try dsimp only at hSw); go_simp; all_goals with_reducible rfl)
            try simp only [List.getElem_toArray, List.getElem_cons_succ, List.getElem_cons_zero, Act.put, List.setIfInBounds_toArray, List.set_cons_zero, List.set_cons_succ]
            refine wpAnyH_take (i := 2) (v := ?va43) rfl (by kernel_rfl) (by kernel_rfl) (by kernel_rfl) (fun _ _ _ h => h) (Or.inl ⟨by rfl, ?hya43⟩) (by assumption) ?rest43
            case hya43 => (intro wz hSw; (try dsimp only at hSw); go_simp; all_goals with_reducible rfl)
            try simp only [List.getElem_toArray, List.getElem_cons_succ, List.getElem_cons_zero, Act.put, List.setIfInBounds_toArray, List.set_cons_zero, List.set_cons_succ]
            refine wpAnyH_take (i := 3) (v := ?va44) rfl (by kernel_rfl) (by kernel_rfl) (by kernel_rfl) (fun _ _ _ h => h) (Or.inl ⟨by rfl, ?hya44⟩) (by assumption) ?rest44
            case hya44 => (intro wz hSw; (try dsimp only at hSw); go_simp; all_goals with_reducible rfl)
            try simp only [List.getElem_toArray, List.getElem_cons_succ, List.getElem_cons_zero, Act.put, List.setIfInBounds_toArray, List.set_cons_zero, List.set_cons_succ]
            refine wpAnyH_take (i := 4) (v := ?va45) rfl (by kernel_rfl) (by kernel_rfl) (by kernel_rfl) (fun _ _ _ h => h) (Or.inl ⟨by rfl, ?hya45⟩) (by assumption) ?rest45
            case hya45 => (intro wz hSw; (try dsimp only at hSw); go_simp; all_goals with_reducible rfl)
            try simp only [List.getElem_toArray, List.getElem_cons_succ, List.getElem_cons_zero, Act.put, List.setIfInBounds_toArray, List.set_cons_zero, List.set_cons_succ]
            refine wpAnyH_take (i := 5) (v := ?va46) rfl (by kernel_rfl) (by kernel_rfl) (by kernel_rfl) (fun _ _ _ h => h) (Or.inl ⟨by rfl, ?hya46⟩) (by assumption) ?rest46
            case hya46 => (intro wz hSw; (try dsimp only at hSw); go_simp; all_goals with_reducible rfl)
            try simp only [List.getElem_toArray, List.getElem_cons_succ, List.getElem_cons_zero, Act.put, List.setIfInBounds_toArray, List.set_cons_zero, List.set_cons_succ]
            refine wpAnyH_ready (rs := [6]) (by kernel_rfl) (by simp) ?_
            refine AllReadyH.cons rfl (fun K hK => ?_) AllReadyH.nil
            go_simp
            (go_at_call 74; (with_reducible refine (scells_any x.kd x.sz _ HZ.out).mono ?_); rintro e w2 ⟨rfl, rfl⟩; rw [HC.out])
            go_wp2_with fail
            refine hK.out _ _ ?_ (fun hHeld6 => ?_)
            · (try dsimp only)
              go_keep
            clear hK K
            try simp only [List.getElem_toArray, List.getElem_cons_succ, List.getElem_cons_zero, Act.put, List.setIfInBounds_toArray, List.set_cons_zero, List.set_cons_succ]
            refine wpAnyH_take (i := 7) (v := ?va47) rfl (by kernel_rfl) (by kernel_rfl) (by kernel_rfl) (fun _ _ _ h => h) (Or.inl ⟨by rfl, ?hya47⟩) (by assumption) ?rest47
            case hya47 => (intro wz hSw; (try dsimp only at hSw); go_simp; all_goals with_reducible rfl)
            try simp only [List.getElem_toArray, List.getElem_cons_succ, List.getElem_cons_zero, Act.put, List.setIfInBounds_toArray, List.set_cons_zero, List.set_cons_succ]
            refine wpAnyH_ready (rs := [8]) (by kernel_rfl) (by simp) ?_
            refine AllReadyH.cons rfl (fun K hK => ?_) AllReadyH.nil
            go_simp
            (go_at_call 122; (with_reducible refine (l01In_any x.du (y + 20) 1000 _).mono ?_); rintro e w2 ⟨rfl, rfl⟩)
            go_wp2_with fail
            refine hK.out _ _ ?_ (fun hHeld8 => ?_)
            · (try dsimp only)
              go_keep
            clear hK K
            try simp only [List.getElem_toArray, List.getElem_cons_succ, List.getElem_cons_zero, Act.put, List.setIfInBounds_toArray, List.set_cons_zero, List.set_cons_succ]
            refine wpAnyH_take (i := 9) (v := ?va48) rfl (by kernel_rfl) (by kernel_rfl) (by kernel_rfl) (fun _ _ _ h => h) (Or.inl ⟨by rfl, ?hya48⟩) (by assumption) ?rest48
            case hya48 => (intro wz hSw; (try dsimp only at hSw); go_simp; all_goals with_reducible rfl)
            try simp only [List.getElem_toArray, List.getElem_cons_succ, List.getElem_cons_zero, Act.put, List.setIfInBounds_toArray, List.set_cons_zero, List.set_cons_succ]
            refine wpAnyH_done (by kernel_rfl) ?_ _
            go_wp2
            go_ret
            exact ⟨by rw [E.out]; rfl, HB.out.drew⟩
        · have E := hide (show descB x = false by rw [D.out, h1, h2, h3, h4]; rfl)
          rw [Bool.and_eq_true] at h4
          obtain ⟨h5, h6⟩ := h4
          rw [h5] at HB ⊢
          clear h1 h2 h3 hy h5
          go_enter Tryz.func174, Tryz.ntmps174
          go_wp2_with (first | (go_at_call 168; refine (l05Node_any _ _).mono ?_; rintro e w2 ⟨rfl, rfl⟩; rw [H1.out]) | (go_at_call 182; refine (skind_any _ _).mono ?_; rintro e w2 ⟨rfl, rfl⟩; rw [H2.out]) | (go_at_call 183; refine (ssize_any _ _ _).mono ?_; rintro e w2 ⟨rfl, rfl⟩; rw [H3.out]))
          go_ret
          exact ⟨by rw [E.out]; rfl, HB.out⟩
end Go.Proofs.YtdkhldebnpmiiaaGreatDoor
