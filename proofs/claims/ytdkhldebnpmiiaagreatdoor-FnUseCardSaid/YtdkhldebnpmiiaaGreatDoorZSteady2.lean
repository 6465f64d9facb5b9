/- Contracts: the durations are steady, by the reference. -/
import Derived.Test.YtdkhldebnpmiiaaGreatDoorZSteady
import Derived.BigRegion
namespace Go.Proofs.YtdkhldebnpmiiaaGreatDoor
open Go.RowKit
set_option linter.unusedVariables false
set_option linter.unusedSimpArgs false
def pairB (x y : Slt) : Bool := !(x.md == y.md && x.sl == y.sl) || x.du == y.du
def allP (l : List Slt) (k j : Nat) : Bool := (List.range j).all (fun i => pairB (sltA l k) (sltA l i))
def allD (l : List Slt) (k : Nat) : Bool := (List.range k).all (fun i => allP l i i)
theorem allP_succ (l : List Slt) (k j : Nat) : allP l k (j + 1) = (allP l k j && pairB (sltA l k) (sltA l j)) := by simp [allP, List.range_succ]
theorem allD_succ (l : List Slt) (k : Nat) : allD l (k + 1) = (allD l k && allP l k k) := by simp [allD, List.range_succ]
theorem pairB_iff (x y : Slt) : pairB x y = true ↔ (x.md = y.md → x.sl = y.sl → x.du = y.du) := by
  rw [pairB, Bool.or_eq_true, Bool.not_eq_true', Bool.and_eq_false_iff, beq_eq_false_iff_ne, beq_eq_false_iff_ne, beq_iff_eq]
  constructor
  · rintro (⟨h | h⟩ | h) a b
    · exact absurd a h
    · exact absurd b h
    · exact h
  · intro h
    by_cases a : x.md = y.md
    · by_cases b : x.sl = y.sl
      · exact Or.inr (h a b)
      · exact Or.inl (Or.inr b)
    · exact Or.inl (Or.inl a)
theorem stdB_allD (l : List Slt) : stdB l = allD l l.length := by
  apply Bool.eq_iff_iff.mpr
  constructor
  · intro h
    refine List.all_eq_true.2 fun k hk => List.all_eq_true.2 fun j hj => ?_
    have hk2 := List.mem_range.1 hk
    have hj2 := List.mem_range.1 hj
    rw [sltA_eq (List.getElem?_eq_getElem hk2), sltA_eq (List.getElem?_eq_getElem (show j < l.length by omega))]
    exact List.all_eq_true.1 (List.all_eq_true.1 h _ (List.getElem_mem hk2)) _ (List.getElem_mem _)
  · intro h
    have lo : ∀ k j, j < k → (hk : k < l.length) → (hj : j < l.length) → pairB l[k] l[j] = true := fun k j hjk hk hj => by
      have := List.all_eq_true.1 (List.all_eq_true.1 h k (List.mem_range.2 hk)) j (List.mem_range.2 hjk)
      rwa [sltA_eq (List.getElem?_eq_getElem hk), sltA_eq (List.getElem?_eq_getElem hj)] at this
    refine List.all_eq_true.2 fun x hx => List.all_eq_true.2 fun y hy => ?_
    obtain ⟨k, hk, rfl⟩ := List.getElem_of_mem hx
    obtain ⟨j, hj, rfl⟩ := List.getElem_of_mem hy
    show pairB l[k] l[j] = true
    rcases Nat.lt_trichotomy k j with q | q | q
    · have := (pairB_iff _ _).1 (lo j k q hj hk)
      exact (pairB_iff _ _).2 fun a b => (this a.symm b.symm).symm
    · subst q
      exact (pairB_iff _ _).2 fun _ _ => rfl
    · exact lo k j q hk hj
theorem stdB_no {l : List Slt} {k j : Nat} {x y : Slt} (hx : l[k]? = some x) (hy : l[j]? = some y) (h : pairB x y = false) : stdB l = false := List.all_eq_false.2 ⟨x, List.mem_of_getElem? hx, by
  have : (l.all fun y => pairB x y) = false := List.all_eq_false.2 ⟨y, List.mem_of_getElem? hy, by rw [h]; simp⟩
  show ¬ (l.all fun y => pairB x y) = true
  rw [this]
  simp⟩
set_option maxHeartbeats 6400000 in
theorem l13Durations_any (v : Value) (m : Mdl) (w : World) (h : RdM w v m) :
    Calls Tryz.prog 149 #[v] w (BoolOut (stdB m.ss) w) := by
  obtain ⟨A1, n1, c1, A2, n2, c2, A3, n3, q3, rfl, h1, h2, h3⟩ := h
  have hlen := hide h3.len
  have hcap := h3.cap
  obtain ⟨W0, hW0⟩ : ∃ W0, W0 = w.alloc (.cells #[.int .i64 m.id, .slice A1 n1 c1, .slice A2 n2 c2, .slice A3 n3 q3] 28) := ⟨_, rfl⟩
  have F0 : At W0 w.heap.size 28 #[.int .i64 m.id, .slice A1 n1 c1, .slice A2 n2 c2, .slice A3 n3 q3] := by rw [hW0]; exact At.fresh _ _ _
  have BA := hide (show Below w.heap.size w W0 by rw [hW0]; exact (Below.refl _ _).alloc (Nat.le_refl _) _)
  have H3 := hide (h3.below BA.out)
  have HF := hide F0
  have HW := hide hW0
  clear hW0 F0 h1 h2 h3
  go_enter Tryz.func149, Tryz.ntmps149
  go_wp2_with fail
  rw [← HW.out]
  go_loopw [3] (fun i wr => ∃ k : Nat, k ≤ n3 ∧ i = .int .i64 k ∧ Hid (allD m.ss k = true) ∧ Hid (Below W0.heap.size W0 wr)) (fun i _ => n3 - (intOf i).toNat)
  case atStart => exact ⟨0, by omega, rfl, hide rfl, hide (Below.refl _ _)⟩
  case round =>
    obtain ⟨k, hk, rfl, hall, hbel⟩ := hrel
    have F1 := HF.out.keep hbel.out
    have d3 := F1.cell 3
    simp at d3
    clear F1
    by_cases hlt : k < n3
    · go_wp2_with fail
      go_loopw [4] (fun i wr2 => ∃ j : Nat, j ≤ k ∧ i = .int .i64 j ∧ Hid (allP m.ss k j = true) ∧ Hid (Below W0.heap.size W0 wr2)) (fun i _ => k - (intOf i).toNat)
      case atStart => exact ⟨0, by omega, rfl, hide rfl, hbel⟩
      case round =>
        clear hbel d3
        obtain ⟨j, hj, rfl, hall2, hbel⟩ := hrel
        by_cases hlj : j < k
        · have F1 := HF.out.keep hbel.out
          have d3 := F1.cell 3
          simp at d3
          obtain ⟨b, off, x, rfl, hb, hx, c0, c1, c2, c3, c4, c5, c6, c7⟩ := slt_at (H3.out.below hbel.out) hlt
          obtain ⟨b', off', y, hA', hb', hy, y0, y1, y2, y3, y4, y5, y6, y7⟩ := slt_at (H3.out.below hbel.out) (i := j) (by omega)
          simp only [Option.some.injEq, Addr.mk.injEq] at hA'
          obtain ⟨rfl, rfl, _⟩ := hA'
          have z1 : (j : Int) < (n3 : Int) := by omega
          have HP := hide (show pairB x y = (!(x.md == y.md && x.sl == y.sl) || x.du == y.du) from rfl)
          have HN := hide (show allP m.ss k (j + 1) = pairB x y by rw [allP_succ, hall2.out, sltA_eq hx, sltA_eq hy, Bool.true_and])
          have HR := hide (fun h => stdB_no hx hy h)
          clear hx hy F1
          cases e1 : (x.md == y.md)
          · have NN := hide (show allP m.ss k (j + 1) = true by rw [HN.out, HP.out, e1]; rfl)
            clear HN HP HR
            go_wp2_with fail
            refine wp_region_held_drew (S := (fun w' => w'.cell? ⟨w.heap.size, 3, none⟩ = some (.slice (some ⟨b, off, none⟩) n3 q3) ∧ w'.cell? ⟨b, off + k * 8, none⟩ = some (.int .i64 x.md) ∧ w'.cell? ⟨b, off + k * 8 + 1, none⟩ = some (.int .i64 x.rd) ∧ w'.cell? ⟨b, off + k * 8 + 2, none⟩ = some (.int .i64 x.sl) ∧ w'.cell? ⟨b, off + k * 8 + 3, none⟩ = some (.int .i64 x.nd) ∧ w'.cell? ⟨b, off + k * 8 + 4, none⟩ = some (.int .i64 x.kd) ∧ w'.cell? ⟨b, off + k * 8 + 5, none⟩ = some (.int .i64 x.sz) ∧ w'.cell? ⟨b, off + k * 8 + 6, none⟩ = some (.int .i64 x.du) ∧ w'.cell? ⟨b, off + k * 8 + 7, none⟩ = some (.bool x.ch) ∧ w'.cell? ⟨b, off + j * 8, none⟩ = some (.int .i64 y.md) ∧ w'.cell? ⟨b, off + j * 8 + 1, none⟩ = some (.int .i64 y.rd) ∧ w'.cell? ⟨b, off + j * 8 + 2, none⟩ = some (.int .i64 y.sl) ∧ w'.cell? ⟨b, off + j * 8 + 3, none⟩ = some (.int .i64 y.nd) ∧ w'.cell? ⟨b, off + j * 8 + 4, none⟩ = some (.int .i64 y.kd) ∧ w'.cell? ⟨b, off + j * 8 + 5, none⟩ = some (.int .i64 y.sz) ∧ w'.cell? ⟨b, off + j * 8 + 6, none⟩ = some (.int .i64 y.du) ∧ w'.cell? ⟨b, off + j * 8 + 7, none⟩ = some (.bool y.ch))) (by kernel_rfl) ?_ (fun hHeld => ?_)
            · (try dsimp only)
              go_keep
            refine wpAnyH_take (i := 0) (v := ?va1) rfl (by kernel_rfl) (by kernel_rfl) (by kernel_rfl) (fun _ _ _ h => h) (Or.inl ⟨by rfl, ?hya1⟩) (by assumption) ?rest1
            case hya1 => (intro wz hSw; (try dsimp only at hSw); go_simp; all_goals with_reducible rfl)
            try simp only [List.getElem_toArray, List.getElem_cons_succ, List.getElem_cons_zero, Act.put, List.setIfInBounds_toArray, List.set_cons_zero, List.set_cons_succ]
            refine wpAnyH_take (i := 1) (v := ?va2) rfl (by kernel_rfl) (by kernel_rfl) (by kernel_rfl) (fun _ _ _ h => h) (Or.inl ⟨by rfl, ?hya2⟩) (by assumption) ?rest2
            case hya2 => (intro wz hSw; (try dsimp only at hSw); go_simp; all_goals with_reducible rfl)
            try simp only [List.getElem_toArray, List.getElem_cons_succ, List.getElem_cons_zero, Act.put, List.setIfInBounds_toArray, List.set_cons_zero, List.set_cons_succ]
            refine wpAnyH_take (i := 2) (v := ?va3) rfl (by kernel_rfl) (by kernel_rfl) (by kernel_rfl) (fun _ _ _ h => h) (Or.inl ⟨by rfl, ?hya3⟩) (by assumption) ?rest3
            case hya3 => (intro wz hSw; (try dsimp only at hSw); go_simp; all_goals with_reducible rfl)
            try simp only [List.getElem_toArray, List.getElem_cons_succ, List.getElem_cons_zero, Act.put, List.setIfInBounds_toArray, List.set_cons_zero, List.set_cons_succ]
            refine wpAnyH_take (i := 3) (v := ?va4) rfl (by kernel_rfl) (by kernel_rfl) (by kernel_rfl) (fun _ _ _ h => h) (Or.inl ⟨by rfl, ?hya4⟩) (by assumption) ?rest4
            case hya4 => (intro wz hSw; (try dsimp only at hSw); go_simp; all_goals with_reducible rfl)
            try simp only [List.getElem_toArray, List.getElem_cons_succ, List.getElem_cons_zero, Act.put, List.setIfInBounds_toArray, List.set_cons_zero, List.set_cons_succ]
            refine wpAnyH_take (i := 4) (v := ?va5) rfl (by kernel_rfl) (by kernel_rfl) (by kernel_rfl) (fun _ _ _ h => h) (Or.inl ⟨by rfl, ?hya5⟩) (by assumption) ?rest5
            case hya5 => (intro wz hSw; (try dsimp only at hSw); go_simp; all_goals with_reducible rfl)
            try simp only [List.getElem_toArray, List.getElem_cons_succ, List.getElem_cons_zero, Act.put, List.setIfInBounds_toArray, List.set_cons_zero, List.set_cons_succ]
            refine wpAnyH_take (i := 5) (v := ?va6) rfl (by kernel_rfl) (by kernel_rfl) (by kernel_rfl) (fun _ _ _ h => h) (Or.inl ⟨by rfl, ?hya6⟩) (by assumption) ?rest6
            case hya6 => (intro wz hSw; (try dsimp only at hSw); go_simp; all_goals with_reducible rfl)
            try simp only [List.getElem_toArray, List.getElem_cons_succ, List.getElem_cons_zero, Act.put, List.setIfInBounds_toArray, List.set_cons_zero, List.set_cons_succ]
            refine wpAnyH_take (i := 6) (v := ?va7) rfl (by kernel_rfl) (by kernel_rfl) (by kernel_rfl) (fun _ _ _ h => h) (Or.inl ⟨by rfl, ?hya7⟩) (by assumption) ?rest7
            case hya7 => (intro wz hSw; (try dsimp only at hSw); go_simp; all_goals with_reducible rfl)
            try simp only [List.getElem_toArray, List.getElem_cons_succ, List.getElem_cons_zero, Act.put, List.setIfInBounds_toArray, List.set_cons_zero, List.set_cons_succ]
            refine wpAnyH_take (i := 7) (v := ?va8) rfl (by kernel_rfl) (by kernel_rfl) (by kernel_rfl) (fun _ _ _ h => h) (Or.inl ⟨by rfl, ?hya8⟩) (by assumption) ?rest8
            case hya8 => (intro wz hSw; (try dsimp only at hSw); go_simp; all_goals with_reducible rfl)
            try simp only [List.getElem_toArray, List.getElem_cons_succ, List.getElem_cons_zero, Act.put, List.setIfInBounds_toArray, List.set_cons_zero, List.set_cons_succ]
            refine wpAnyH_take (i := 8) (v := ?va9) rfl (by kernel_rfl) (by kernel_rfl) (by kernel_rfl) (fun _ _ _ h => h) (Or.inl ⟨by rfl, ?hya9⟩) (by assumption) ?rest9
            case hya9 => (intro wz hSw; (try dsimp only at hSw); go_simp; all_goals with_reducible rfl)
            try simp only [List.getElem_toArray, List.getElem_cons_succ, List.getElem_cons_zero, Act.put, List.setIfInBounds_toArray, List.set_cons_zero, List.set_cons_succ]
            refine wpAnyH_take (i := 9) (v := ?va10) rfl (by kernel_rfl) (by kernel_rfl) (by kernel_rfl) (fun _ _ _ h => h) (Or.inl ⟨by rfl, ?hya10⟩) (by assumption) ?rest10
            case hya10 => (intro wz hSw; (try dsimp only at hSw); go_simp; all_goals with_reducible rfl)
            try simp only [List.getElem_toArray, List.getElem_cons_succ, List.getElem_cons_zero, Act.put, List.setIfInBounds_toArray, List.set_cons_zero, List.set_cons_succ]
            refine wpAnyH_ready (rs := [10, 11]) (by kernel_rfl) (by simp) ?_
            refine AllReadyH.cons rfl (fun K hK => ?_) (AllReadyH.cons rfl (fun K hK => ?_) AllReadyH.nil)
            · go_simp
              refine hK.out _ _ ?_ (fun hHeld10 => ?_)
              · (try dsimp only)
                go_keep
              clear hK K
              try simp only [List.getElem_toArray, List.getElem_cons_succ, List.getElem_cons_zero, Act.put, List.setIfInBounds_toArray, List.set_cons_zero, List.set_cons_succ]
              refine wpAnyH_ready (rs := [11]) (by kernel_rfl) (by simp) ?_
              refine AllReadyH.cons rfl (fun K hK => ?_) AllReadyH.nil
              go_simp
              refine hK.out _ _ ?_ (fun hHeld11 => ?_)
              · (try dsimp only)
                go_keep
              clear hK K
              try simp only [List.getElem_toArray, List.getElem_cons_succ, List.getElem_cons_zero, Act.put, List.setIfInBounds_toArray, List.set_cons_zero, List.set_cons_succ]
              refine wpAnyH_ready (rs := [12]) (by kernel_rfl) (by simp) ?_
              refine AllReadyH.cons rfl (fun K hK => ?_) AllReadyH.nil
              go_simp
              refine hK.out _ _ ?_ (fun hHeld12 => ?_)
              · (try dsimp only)
                go_keep
              clear hK K
              try simp only [List.getElem_toArray, List.getElem_cons_succ, List.getElem_cons_zero, Act.put, List.setIfInBounds_toArray, List.set_cons_zero, List.set_cons_succ]
              refine wpAnyH_ready (rs := [13]) (by kernel_rfl) (by simp) ?_
              refine AllReadyH.cons rfl (fun K hK => ?_) AllReadyH.nil
              go_simp
              refine hK.out _ _ ?_ (fun hHeld13 => ?_)
              · (try dsimp only)
                go_keep
              clear hK K
              try simp only [List.getElem_toArray, List.getElem_cons_succ, List.getElem_cons_zero, Act.put, List.setIfInBounds_toArray, List.set_cons_zero, List.set_cons_succ]
              refine wpAnyH_done (by kernel_rfl) ?_ _
              have BX := hide (show Below W0.heap.size W0 ((wr.alloc (.cells #[.int .i64 x.md, .int .i64 x.rd, .int .i64 x.sl, .int .i64 x.nd, .int .i64 x.kd, .int .i64 x.sz, .int .i64 x.du, .bool x.ch] 61)).alloc (.cells #[.int .i64 y.md, .int .i64 y.rd, .int .i64 y.sl, .int .i64 y.nd, .int .i64 y.kd, .int .i64 y.sz, .int .i64 y.du, .bool y.ch] 61)).drew from below_drewT (((hbel.out.alloc hbel.out.size _).alloc (Nat.le_trans hbel.out.size (by simp)) _)))
              go_wp2
              go_roundw
              case rel => exact ⟨j + 1, by omega, by go_num, NN, BX⟩
              case measure => simp [intOf]; omega
            · go_simp
              refine hK.out _ _ ?_ (fun hHeld11 => ?_)
              · (try dsimp only)
                go_keep
              clear hK K
              try simp only [List.getElem_toArray, List.getElem_cons_succ, List.getElem_cons_zero, Act.put, List.setIfInBounds_toArray, List.set_cons_zero, List.set_cons_succ]
              refine wpAnyH_ready (rs := [10]) (by kernel_rfl) (by simp) ?_
              refine AllReadyH.cons rfl (fun K hK => ?_) AllReadyH.nil
              go_simp
              refine hK.out _ _ ?_ (fun hHeld10 => ?_)
              · (try dsimp only)
                go_keep
              clear hK K
              try simp only [List.getElem_toArray, List.getElem_cons_succ, List.getElem_cons_zero, Act.put, List.setIfInBounds_toArray, List.set_cons_zero, List.set_cons_succ]
              refine wpAnyH_ready (rs := [12]) (by kernel_rfl) (by simp) ?_
              refine AllReadyH.cons rfl (fun K hK => ?_) AllReadyH.nil
              go_simp
              refine hK.out _ _ ?_ (fun hHeld12 => ?_)
              · (try dsimp only)
                go_keep
              clear hK K
              try simp only [List.getElem_toArray, List.getElem_cons_succ, List.getElem_cons_zero, Act.put, List.setIfInBounds_toArray, List.set_cons_zero, List.set_cons_succ]
              refine wpAnyH_ready (rs := [13]) (by kernel_rfl) (by simp) ?_
              refine AllReadyH.cons rfl (fun K hK => ?_) AllReadyH.nil
              go_simp
              refine hK.out _ _ ?_ (fun hHeld13 => ?_)
              · (try dsimp only)
                go_keep
              clear hK K
              try simp only [List.getElem_toArray, List.getElem_cons_succ, List.getElem_cons_zero, Act.put, List.setIfInBounds_toArray, List.set_cons_zero, List.set_cons_succ]
              refine wpAnyH_done (by kernel_rfl) ?_ _
              have BX := hide (show Below W0.heap.size W0 ((wr.alloc (.cells #[.int .i64 y.md, .int .i64 y.rd, .int .i64 y.sl, .int .i64 y.nd, .int .i64 y.kd, .int .i64 y.sz, .int .i64 y.du, .bool y.ch] 61)).alloc (.cells #[.int .i64 x.md, .int .i64 x.rd, .int .i64 x.sl, .int .i64 x.nd, .int .i64 x.kd, .int .i64 x.sz, .int .i64 x.du, .bool x.ch] 61)).drew from below_drewT (((hbel.out.alloc hbel.out.size _).alloc (Nat.le_trans hbel.out.size (by simp)) _)))
              go_wp2
              go_roundw
              case rel => exact ⟨j + 1, by omega, by go_num, NN, BX⟩
              case measure => simp [intOf]; omega
          · cases e2 : (x.sl == y.sl)
            · have NN := hide (show allP m.ss k (j + 1) = true by rw [HN.out, HP.out, e1, e2]; rfl)
              clear HN HP HR
              go_wp2_with fail
              refine wp_region_held_drew (S := (fun w' => w'.cell? ⟨w.heap.size, 3, none⟩ = some (.slice (some ⟨b, off, none⟩) n3 q3) ∧ w'.cell? ⟨b, off + k * 8, none⟩ = some (.int .i64 x.md) ∧ w'.cell? ⟨b, off + k * 8 + 1, none⟩ = some (.int .i64 x.rd) ∧ w'.cell? ⟨b, off + k * 8 + 2, none⟩ = some (.int .i64 x.sl) ∧ w'.cell? ⟨b, off + k * 8 + 3, none⟩ = some (.int .i64 x.nd) ∧ w'.cell? ⟨b, off + k * 8 + 4, none⟩ = some (.int .i64 x.kd) ∧ w'.cell? ⟨b, off + k * 8 + 5, none⟩ = some (.int .i64 x.sz) ∧ w'.cell? ⟨b, off + k * 8 + 6, none⟩ = some (.int .i64 x.du) ∧ w'.cell? ⟨b, off + k * 8 + 7, none⟩ = some (.bool x.ch) ∧ w'.cell? ⟨b, off + j * 8, none⟩ = some (.int .i64 y.md) ∧ w'.cell? ⟨b, off + j * 8 + 1, none⟩ = some (.int .i64 y.rd) ∧ w'.cell? ⟨b, off + j * 8 + 2, none⟩ = some (.int .i64 y.sl) ∧ w'.cell? ⟨b, off + j * 8 + 3, none⟩ = some (.int .i64 y.nd) ∧ w'.cell? ⟨b, off + j * 8 + 4, none⟩ = some (.int .i64 y.kd) ∧ w'.cell? ⟨b, off + j * 8 + 5, none⟩ = some (.int .i64 y.sz) ∧ w'.cell? ⟨b, off + j * 8 + 6, none⟩ = some (.int .i64 y.du) ∧ w'.cell? ⟨b, off + j * 8 + 7, none⟩ = some (.bool y.ch))) (by kernel_rfl) ?_ (fun hHeld => ?_)
              · (try dsimp only)
                go_keep
              refine wpAnyH_take (i := 0) (v := ?va21) rfl (by kernel_rfl) (by kernel_rfl) (by kernel_rfl) (fun _ _ _ h => h) (Or.inl ⟨by rfl, ?hya21⟩) (by assumption) ?rest21
              case hya21 => (intro wz hSw; (try dsimp only at hSw); go_simp; all_goals with_reducible rfl)
              try simp only [List.getElem_toArray, List.getElem_cons_succ, List.getElem_cons_zero, Act.put, List.setIfInBounds_toArray, List.set_cons_zero, List.set_cons_succ]
              refine wpAnyH_take (i := 1) (v := ?va22) rfl (by kernel_rfl) (by kernel_rfl) (by kernel_rfl) (fun _ _ _ h => h) (Or.inl ⟨by rfl, ?hya22⟩) (by assumption) ?rest22
              case hya22 => (intro wz hSw; (try dsimp only at hSw); go_simp; all_goals with_reducible rfl)
              try simp only [List.getElem_toArray, List.getElem_cons_succ, List.getElem_cons_zero, Act.put, List.setIfInBounds_toArray, List.set_cons_zero, List.set_cons_succ]
              refine wpAnyH_take (i := 2) (v := ?va23) rfl (by kernel_rfl) (by kernel_rfl) (by kernel_rfl) (fun _ _ _ h => h) (Or.inl ⟨by rfl, ?hya23⟩) (by assumption) ?rest23
              case hya23 => (intro wz hSw; (try dsimp only at hSw); go_simp; all_goals with_reducible rfl)
              try simp only [List.getElem_toArray, List.getElem_cons_succ, List.getElem_cons_zero, Act.put, List.setIfInBounds_toArray, List.set_cons_zero, List.set_cons_succ]
              refine wpAnyH_take (i := 3) (v := ?va24) rfl (by kernel_rfl) (by kernel_rfl) (by kernel_rfl) (fun _ _ _ h => h) (Or.inl ⟨by rfl, ?hya24⟩) (by assumption) ?rest24
              case hya24 => (intro wz hSw; (try dsimp only at hSw); go_simp; all_goals with_reducible rfl)
              try simp only [List.getElem_toArray, List.getElem_cons_succ, List.getElem_cons_zero, Act.put, List.setIfInBounds_toArray, List.set_cons_zero, List.set_cons_succ]
              refine wpAnyH_take (i := 4) (v := ?va25) rfl (by kernel_rfl) (by kernel_rfl) (by kernel_rfl) (fun _ _ _ h => h) (Or.inl ⟨by rfl, ?hya25⟩) (by assumption) ?rest25
              case hya25 => (intro wz hSw; (try dsimp only at hSw); go_simp; all_goals with_reducible rfl)
              try simp only [List.getElem_toArray, List.getElem_cons_succ, List.getElem_cons_zero, Act.put, List.setIfInBounds_toArray, List.set_cons_zero, List.set_cons_succ]
              refine wpAnyH_take (i := 5) (v := ?va26) rfl (by kernel_rfl) (by kernel_rfl) (by kernel_rfl) (fun _ _ _ h => h) (Or.inl ⟨by rfl, ?hya26⟩) (by assumption) ?rest26
              case hya26 => (intro wz hSw; (try dsimp only at hSw); go_simp; all_goals with_reducible rfl)
              try simp only [List.getElem_toArray, List.getElem_cons_succ, List.getElem_cons_zero, Act.put, List.setIfInBounds_toArray, List.set_cons_zero, List.set_cons_succ]
              refine wpAnyH_take (i := 6) (v := ?va27) rfl (by kernel_rfl) (by kernel_rfl) (by kernel_rfl) (fun _ _ _ h => h) (Or.inl ⟨by rfl, ?hya27⟩) (by assumption) ?rest27
              case hya27 => (intro wz hSw; (try dsimp only at hSw); go_simp; all_goals with_reducible rfl)
              try simp only [List.getElem_toArray, List.getElem_cons_succ, List.getElem_cons_zero, Act.put, List.setIfInBounds_toArray, List.set_cons_zero, List.set_cons_succ]
              refine wpAnyH_take (i := 7) (v := ?va28) rfl (by kernel_rfl) (by kernel_rfl) (by kernel_rfl) (fun _ _ _ h => h) (Or.inl ⟨by rfl, ?hya28⟩) (by assumption) ?rest28
              case hya28 => (intro wz hSw; (try dsimp only at hSw); go_simp; all_goals with_reducible rfl)
              try simp only [List.getElem_toArray, List.getElem_cons_succ, List.getElem_cons_zero, Act.put, List.setIfInBounds_toArray, List.set_cons_zero, List.set_cons_succ]
              refine wpAnyH_take (i := 8) (v := ?va29) rfl (by kernel_rfl) (by kernel_rfl) (by kernel_rfl) (fun _ _ _ h => h) (Or.inl ⟨by rfl, ?hya29⟩) (by assumption) ?rest29
              case hya29 => (intro wz hSw; (try dsimp only at hSw); go_simp; all_goals with_reducible rfl)
              try simp only [List.getElem_toArray, List.getElem_cons_succ, List.getElem_cons_zero, Act.put, List.setIfInBounds_toArray, List.set_cons_zero, List.set_cons_succ]
              refine wpAnyH_take (i := 9) (v := ?va30) rfl (by kernel_rfl) (by kernel_rfl) (by kernel_rfl) (fun _ _ _ h => h) (Or.inl ⟨by rfl, ?hya30⟩) (by assumption) ?rest30
              case hya30 => (intro wz hSw; (try dsimp only at hSw); go_simp; all_goals with_reducible rfl)
              try simp only [List.getElem_toArray, List.getElem_cons_succ, List.getElem_cons_zero, Act.put, List.setIfInBounds_toArray, List.set_cons_zero, List.set_cons_succ]
              refine wpAnyH_ready (rs := [10, 11]) (by kernel_rfl) (by simp) ?_
              refine AllReadyH.cons rfl (fun K hK => ?_) (AllReadyH.cons rfl (fun K hK => ?_) AllReadyH.nil)
              · go_simp
                refine hK.out _ _ ?_ (fun hHeld10 => ?_)
                · (try dsimp only)
                  go_keep
                clear hK K
                try simp only [List.getElem_toArray, List.getElem_cons_succ, List.getElem_cons_zero, Act.put, List.setIfInBounds_toArray, List.set_cons_zero, List.set_cons_succ]
                refine wpAnyH_ready (rs := [11]) (by kernel_rfl) (by simp) ?_
                refine AllReadyH.cons rfl (fun K hK => ?_) AllReadyH.nil
                go_simp
                refine hK.out _ _ ?_ (fun hHeld11 => ?_)
                · (try dsimp only)
                  go_keep
                clear hK K
                try simp only [List.getElem_toArray, List.getElem_cons_succ, List.getElem_cons_zero, Act.put, List.setIfInBounds_toArray, List.set_cons_zero, List.set_cons_succ]
                refine wpAnyH_ready (rs := [12]) (by kernel_rfl) (by simp) ?_
                refine AllReadyH.cons rfl (fun K hK => ?_) AllReadyH.nil
                go_simp
                refine hK.out _ _ ?_ (fun hHeld12 => ?_)
                · (try dsimp only)
                  go_keep
                clear hK K
                try simp only [List.getElem_toArray, List.getElem_cons_succ, List.getElem_cons_zero, Act.put, List.setIfInBounds_toArray, List.set_cons_zero, List.set_cons_succ]
                refine wpAnyH_ready (rs := [13]) (by kernel_rfl) (by simp) ?_
                refine AllReadyH.cons rfl (fun K hK => ?_) AllReadyH.nil
                go_simp
                refine hK.out _ _ ?_ (fun hHeld13 => ?_)
                · (try dsimp only)
                  go_keep
                clear hK K
                try simp only [List.getElem_toArray, List.getElem_cons_succ, List.getElem_cons_zero, Act.put, List.setIfInBounds_toArray, List.set_cons_zero, List.set_cons_succ]
                refine wpAnyH_done (by kernel_rfl) ?_ _
                have BX := hide (show Below W0.heap.size W0 ((wr.alloc (.cells #[.int .i64 x.md, .int .i64 x.rd, .int .i64 x.sl, .int .i64 x.nd, .int .i64 x.kd, .int .i64 x.sz, .int .i64 x.du, .bool x.ch] 61)).alloc (.cells #[.int .i64 y.md, .int .i64 y.rd, .int .i64 y.sl, .int .i64 y.nd, .int .i64 y.kd, .int .i64 y.sz, .int .i64 y.du, .bool y.ch] 61)).drew from below_drewT (((hbel.out.alloc hbel.out.size _).alloc (Nat.le_trans hbel.out.size (by simp)) _)))
                go_wp2
                go_roundw
                case rel => exact ⟨j + 1, by omega, by go_num, NN, BX⟩
                case measure => simp [intOf]; omega
              · go_simp
                refine hK.out _ _ ?_ (fun hHeld11 => ?_)
                · (try dsimp only)
                  go_keep
                clear hK K
                try simp only [List.getElem_toArray, List.getElem_cons_succ, List.getElem_cons_zero, Act.put, List.setIfInBounds_toArray, List.set_cons_zero, List.set_cons_succ]
                refine wpAnyH_ready (rs := [10]) (by kernel_rfl) (by simp) ?_
                refine AllReadyH.cons rfl (fun K hK => ?_) AllReadyH.nil
                go_simp
                refine hK.out _ _ ?_ (fun hHeld10 => ?_)
                · (try dsimp only)
                  go_keep
                clear hK K
                try simp only [List.getElem_toArray, List.getElem_cons_succ, List.getElem_cons_zero, Act.put, List.setIfInBounds_toArray, List.set_cons_zero, List.set_cons_succ]
                refine wpAnyH_ready (rs := [12]) (by kernel_rfl) (by simp) ?_
                refine AllReadyH.cons rfl (fun K hK => ?_) AllReadyH.nil
                go_simp
                refine hK.out _ _ ?_ (fun hHeld12 => ?_)
                · (try dsimp only)
                  go_keep
                clear hK K
                try simp only [List.getElem_toArray, List.getElem_cons_succ, List.getElem_cons_zero, Act.put, List.setIfInBounds_toArray, List.set_cons_zero, List.set_cons_succ]
                refine wpAnyH_ready (rs := [13]) (by kernel_rfl) (by simp) ?_
                refine AllReadyH.cons rfl (fun K hK => ?_) AllReadyH.nil
                go_simp
                refine hK.out _ _ ?_ (fun hHeld13 => ?_)
                · (try dsimp only)
                  go_keep
                clear hK K
                try simp only [List.getElem_toArray, List.getElem_cons_succ, List.getElem_cons_zero, Act.put, List.setIfInBounds_toArray, List.set_cons_zero, List.set_cons_succ]
                refine wpAnyH_done (by kernel_rfl) ?_ _
                have BX := hide (show Below W0.heap.size W0 ((wr.alloc (.cells #[.int .i64 y.md, .int .i64 y.rd, .int .i64 y.sl, .int .i64 y.nd, .int .i64 y.kd, .int .i64 y.sz, .int .i64 y.du, .bool y.ch] 61)).alloc (.cells #[.int .i64 x.md, .int .i64 x.rd, .int .i64 x.sl, .int .i64 x.nd, .int .i64 x.kd, .int .i64 x.sz, .int .i64 x.du, .bool x.ch] 61)).drew from below_drewT (((hbel.out.alloc hbel.out.size _).alloc (Nat.le_trans hbel.out.size (by simp)) _)))
                go_wp2
                go_roundw
                case rel => exact ⟨j + 1, by omega, by go_num, NN, BX⟩
                case measure => simp [intOf]; omega
            · cases e3 : (x.du == y.du)
              · have E := hide (HR.out (by rw [HP.out, e1, e2, e3]; rfl))
                clear HN HP HR
                go_wp2_with fail
                refine wp_region_held_drew (S := (fun w' => w'.cell? ⟨w.heap.size, 3, none⟩ = some (.slice (some ⟨b, off, none⟩) n3 q3) ∧ w'.cell? ⟨b, off + k * 8, none⟩ = some (.int .i64 x.md) ∧ w'.cell? ⟨b, off + k * 8 + 1, none⟩ = some (.int .i64 x.rd) ∧ w'.cell? ⟨b, off + k * 8 + 2, none⟩ = some (.int .i64 x.sl) ∧ w'.cell? ⟨b, off + k * 8 + 3, none⟩ = some (.int .i64 x.nd) ∧ w'.cell? ⟨b, off + k * 8 + 4, none⟩ = some (.int .i64 x.kd) ∧ w'.cell? ⟨b, off + k * 8 + 5, none⟩ = some (.int .i64 x.sz) ∧ w'.cell? ⟨b, off + k * 8 + 6, none⟩ = some (.int .i64 x.du) ∧ w'.cell? ⟨b, off + k * 8 + 7, none⟩ = some (.bool x.ch) ∧ w'.cell? ⟨b, off + j * 8, none⟩ = some (.int .i64 y.md) ∧ w'.cell? ⟨b, off + j * 8 + 1, none⟩ = some (.int .i64 y.rd) ∧ w'.cell? ⟨b, off + j * 8 + 2, none⟩ = some (.int .i64 y.sl) ∧ w'.cell? ⟨b, off + j * 8 + 3, none⟩ = some (.int .i64 y.nd) ∧ w'.cell? ⟨b, off + j * 8 + 4, none⟩ = some (.int .i64 y.kd) ∧ w'.cell? ⟨b, off + j * 8 + 5, none⟩ = some (.int .i64 y.sz) ∧ w'.cell? ⟨b, off + j * 8 + 6, none⟩ = some (.int .i64 y.du) ∧ w'.cell? ⟨b, off + j * 8 + 7, none⟩ = some (.bool y.ch))) (by kernel_rfl) ?_ (fun hHeld => ?_)
                · (try dsimp only)
                  go_keep
                refine wpAnyH_take (i := 0) (v := ?va51) rfl (by kernel_rfl) (by kernel_rfl) (by kernel_rfl) (fun _ _ _ h => h) (Or.inl ⟨by rfl, ?hya51⟩) (by assumption) ?rest51
                case hya51 => (intro wz hSw; (try dsimp only at hSw); go_simp; all_goals with_reducible rfl)
                try simp only [List.getElem_toArray, List.getElem_cons_succ, List.getElem_cons_zero, Act.put, List.setIfInBounds_toArray, List.set_cons_zero, List.set_cons_succ]
                refine wpAnyH_take (i := 1) (v := ?va52) rfl (by kernel_rfl) (by kernel_rfl) (by kernel_rfl) (fun _ _ _ h => h) (Or.inl ⟨by rfl, ?hya52⟩) (by assumption) ?rest52
                case hya52 => (intro wz hSw; (try dsimp only at hSw); go_simp; all_goals with_reducible rfl)
                try simp only [List.getElem_toArray, List.getElem_cons_succ, List.getElem_cons_zero, Act.put, List.setIfInBounds_toArray, List.set_cons_zero, List.set_cons_succ]
                refine wpAnyH_take (i := 2) (v := ?va53) rfl (by kernel_rfl) (by kernel_rfl) (by kernel_rfl) (fun _ _ _ h => h) (Or.inl ⟨by rfl, ?hya53⟩) (by assumption) ?rest53
                case hya53 => (intro wz hSw; (try dsimp only at hSw); go_simp; all_goals with_reducible rfl)
                try simp only [List.getElem_toArray, List.getElem_cons_succ, List.getElem_cons_zero, Act.put, List.setIfInBounds_toArray, List.set_cons_zero, List.set_cons_succ]
                refine wpAnyH_take (i := 3) (v := ?va54) rfl (by kernel_rfl) (by kernel_rfl) (by kernel_rfl) (fun _ _ _ h => h) (Or.inl ⟨by rfl, ?hya54⟩) (by assumption) ?rest54
                case hya54 => (intro wz hSw; (try dsimp only at hSw); go_simp; all_goals with_reducible rfl)
                try simp only [List.getElem_toArray, List.getElem_cons_succ, List.getElem_cons_zero, Act.put, List.setIfInBounds_toArray, List.set_cons_zero, List.set_cons_succ]
                refine wpAnyH_take (i := 4) (v := ?va55) rfl (by kernel_rfl) (by kernel_rfl) (by kernel_rfl) (fun _ _ _ h => h) (Or.inl ⟨by rfl, ?hya55⟩) (by assumption) ?rest55
                case hya55 => (intro wz hSw; (try dsimp only at hSw); go_simp; all_goals with_reducible rfl)
                try simp only [List.getElem_toArray, List.getElem_cons_succ, List.getElem_cons_zero, Act.put, List.setIfInBounds_toArray, List.set_cons_zero, List.set_cons_succ]
                refine wpAnyH_take (i := 5) (v := ?va56) rfl (by kernel_rfl) (by kernel_rfl) (by kernel_rfl) (fun _ _ _ h => h) (Or.inl ⟨by rfl, ?hya56⟩) (by assumption) ?rest56
                case hya56 => (intro wz hSw; (try dsimp only at hSw); go_simp; all_goals with_reducible rfl)
                try simp only [List.getElem_toArray, List.getElem_cons_succ, List.getElem_cons_zero, Act.put, List.setIfInBounds_toArray, List.set_cons_zero, List.set_cons_succ]
                refine wpAnyH_take (i := 6) (v := ?va57) rfl (by kernel_rfl) (by kernel_rfl) (by kernel_rfl) (fun _ _ _ h => h) (Or.inl ⟨by rfl, ?hya57⟩) (by assumption) ?rest57
                case hya57 => (intro wz hSw; (try dsimp only at hSw); go_simp; all_goals with_reducible rfl)
                try simp only [List.getElem_toArray, List.getElem_cons_succ, List.getElem_cons_zero, Act.put, List.setIfInBounds_toArray, List.set_cons_zero, List.set_cons_succ]
                refine wpAnyH_take (i := 7) (v := ?va58) rfl (by kernel_rfl) (by kernel_rfl) (by kernel_rfl) (fun _ _ _ h => h) (Or.inl ⟨by rfl, ?hya58⟩) (by assumption) ?rest58
                case hya58 => (intro wz hSw; (try dsimp only at hSw); go_simp; all_goals with_reducible rfl)
                try simp only [List.getElem_toArray, List.getElem_cons_succ, List.getElem_cons_zero, Act.put, List.setIfInBounds_toArray, List.set_cons_zero, List.set_cons_succ]
                refine wpAnyH_take (i := 8) (v := ?va59) rfl (by kernel_rfl) (by kernel_rfl) (by kernel_rfl) (fun _ _ _ h => h) (Or.inl ⟨by rfl, ?hya59⟩) (by assumption) ?rest59
                case hya59 => (intro wz hSw; (try dsimp only at hSw); go_simp; all_goals with_reducible rfl)
                try simp only [List.getElem_toArray, List.getElem_cons_succ, List.getElem_cons_zero, Act.put, List.setIfInBounds_toArray, List.set_cons_zero, List.set_cons_succ]
                refine wpAnyH_take (i := 9) (v := ?va60) rfl (by kernel_rfl) (by kernel_rfl) (by kernel_rfl) (fun _ _ _ h => h) (Or.inl ⟨by rfl, ?hya60⟩) (by assumption) ?rest60
                case hya60 => (intro wz hSw; (try dsimp only at hSw); go_simp; all_goals with_reducible rfl)
                try simp only [List.getElem_toArray, List.getElem_cons_succ, List.getElem_cons_zero, Act.put, List.setIfInBounds_toArray, List.set_cons_zero, List.set_cons_succ]
                refine wpAnyH_ready (rs := [10, 11]) (by kernel_rfl) (by simp) ?_
                refine AllReadyH.cons rfl (fun K hK => ?_) (AllReadyH.cons rfl (fun K hK => ?_) AllReadyH.nil)
                · go_simp
                  refine hK.out _ _ ?_ (fun hHeld10 => ?_)
                  · (try dsimp only)
                    go_keep
                  clear hK K
                  try simp only [List.getElem_toArray, List.getElem_cons_succ, List.getElem_cons_zero, Act.put, List.setIfInBounds_toArray, List.set_cons_zero, List.set_cons_succ]
                  refine wpAnyH_ready (rs := [11]) (by kernel_rfl) (by simp) ?_
                  refine AllReadyH.cons rfl (fun K hK => ?_) AllReadyH.nil
                  go_simp
                  refine hK.out _ _ ?_ (fun hHeld11 => ?_)
                  · (try dsimp only)
                    go_keep
                  clear hK K
                  try simp only [List.getElem_toArray, List.getElem_cons_succ, List.getElem_cons_zero, Act.put, List.setIfInBounds_toArray, List.set_cons_zero, List.set_cons_succ]
                  refine wpAnyH_ready (rs := [12]) (by kernel_rfl) (by simp) ?_
                  refine AllReadyH.cons rfl (fun K hK => ?_) AllReadyH.nil
                  go_simp
                  refine hK.out _ _ ?_ (fun hHeld12 => ?_)
                  · (try dsimp only)
                    go_keep
                  clear hK K
                  try simp only [List.getElem_toArray, List.getElem_cons_succ, List.getElem_cons_zero, Act.put, List.setIfInBounds_toArray, List.set_cons_zero, List.set_cons_succ]
                  refine wpAnyH_ready (rs := [13]) (by kernel_rfl) (by simp) ?_
                  refine AllReadyH.cons rfl (fun K hK => ?_) AllReadyH.nil
                  go_simp
                  refine hK.out _ _ ?_ (fun hHeld13 => ?_)
                  · (try dsimp only)
                    go_keep
                  clear hK K
                  try simp only [List.getElem_toArray, List.getElem_cons_succ, List.getElem_cons_zero, Act.put, List.setIfInBounds_toArray, List.set_cons_zero, List.set_cons_succ]
                  refine wpAnyH_done (by kernel_rfl) ?_ _
                  have BX := hide (show Below W0.heap.size W0 ((wr.alloc (.cells #[.int .i64 x.md, .int .i64 x.rd, .int .i64 x.sl, .int .i64 x.nd, .int .i64 x.kd, .int .i64 x.sz, .int .i64 x.du, .bool x.ch] 61)).alloc (.cells #[.int .i64 y.md, .int .i64 y.rd, .int .i64 y.sl, .int .i64 y.nd, .int .i64 y.kd, .int .i64 y.sz, .int .i64 y.du, .bool y.ch] 61)).drew from below_drewT (((hbel.out.alloc hbel.out.size _).alloc (Nat.le_trans hbel.out.size (by simp)) _)))
                  go_wp2
                  go_ret
                  exact ⟨by rw [E.out]; rfl, below_trans BA.out BX.out⟩
                · go_simp
                  refine hK.out _ _ ?_ (fun hHeld11 => ?_)
                  · (try dsimp only)
                    go_keep
                  clear hK K
                  try simp only [List.getElem_toArray, List.getElem_cons_succ, List.getElem_cons_zero, Act.put, List.setIfInBounds_toArray, List.set_cons_zero, List.set_cons_succ]
                  refine wpAnyH_ready (rs := [10]) (by kernel_rfl) (by simp) ?_
                  refine AllReadyH.cons rfl (fun K hK => ?_) AllReadyH.nil
                  go_simp
                  refine hK.out _ _ ?_ (fun hHeld10 => ?_)
                  · (try dsimp only)
                    go_keep
                  clear hK K
                  try simp only [List.getElem_toArray, List.getElem_cons_succ, List.getElem_cons_zero, Act.put, List.setIfInBounds_toArray, List.set_cons_zero, List.set_cons_succ]
                  refine wpAnyH_ready (rs := [12]) (by kernel_rfl) (by simp) ?_
                  refine AllReadyH.cons rfl (fun K hK => ?_) AllReadyH.nil
                  go_simp
                  refine hK.out _ _ ?_ (fun hHeld12 => ?_)
                  · (try dsimp only)
                    go_keep
                  clear hK K
                  try simp only [List.getElem_toArray, List.getElem_cons_succ, List.getElem_cons_zero, Act.put, List.setIfInBounds_toArray, List.set_cons_zero, List.set_cons_succ]
                  refine wpAnyH_ready (rs := [13]) (by kernel_rfl) (by simp) ?_
                  refine AllReadyH.cons rfl (fun K hK => ?_) AllReadyH.nil
                  go_simp
                  refine hK.out _ _ ?_ (fun hHeld13 => ?_)
                  · (try dsimp only)
                    go_keep
                  clear hK K
                  try simp only [List.getElem_toArray, List.getElem_cons_succ, List.getElem_cons_zero, Act.put, List.setIfInBounds_toArray, List.set_cons_zero, List.set_cons_succ]
                  refine wpAnyH_done (by kernel_rfl) ?_ _
                  have BX := hide (show Below W0.heap.size W0 ((wr.alloc (.cells #[.int .i64 y.md, .int .i64 y.rd, .int .i64 y.sl, .int .i64 y.nd, .int .i64 y.kd, .int .i64 y.sz, .int .i64 y.du, .bool y.ch] 61)).alloc (.cells #[.int .i64 x.md, .int .i64 x.rd, .int .i64 x.sl, .int .i64 x.nd, .int .i64 x.kd, .int .i64 x.sz, .int .i64 x.du, .bool x.ch] 61)).drew from below_drewT (((hbel.out.alloc hbel.out.size _).alloc (Nat.le_trans hbel.out.size (by simp)) _)))
                  go_wp2
                  go_ret
                  exact ⟨by rw [E.out]; rfl, below_trans BA.out BX.out⟩
              · have NN := hide (show allP m.ss k (j + 1) = true by rw [HN.out, HP.out, e1, e2, e3]; rfl)
                clear HN HP HR
                go_wp2_with fail
                refine wp_region_held_drew (S := (fun w' => w'.cell? ⟨w.heap.size, 3, none⟩ = some (.slice (some ⟨b, off, none⟩) n3 q3) ∧ w'.cell? ⟨b, off + k * 8, none⟩ = some (.int .i64 x.md) ∧ w'.cell? ⟨b, off + k * 8 + 1, none⟩ = some (.int .i64 x.rd) ∧ w'.cell? ⟨b, off + k * 8 + 2, none⟩ = some (.int .i64 x.sl) ∧ w'.cell? ⟨b, off + k * 8 + 3, none⟩ = some (.int .i64 x.nd) ∧ w'.cell? ⟨b, off + k * 8 + 4, none⟩ = some (.int .i64 x.kd) ∧ w'.cell? ⟨b, off + k * 8 + 5, none⟩ = some (.int .i64 x.sz) ∧ w'.cell? ⟨b, off + k * 8 + 6, none⟩ = some (.int .i64 x.du) ∧ w'.cell? ⟨b, off + k * 8 + 7, none⟩ = some (.bool x.ch) ∧ w'.cell? ⟨b, off + j * 8, none⟩ = some (.int .i64 y.md) ∧ w'.cell? ⟨b, off + j * 8 + 1, none⟩ = some (.int .i64 y.rd) ∧ w'.cell? ⟨b, off + j * 8 + 2, none⟩ = some (.int .i64 y.sl) ∧ w'.cell? ⟨b, off + j * 8 + 3, none⟩ = some (.int .i64 y.nd) ∧ w'.cell? ⟨b, off + j * 8 + 4, none⟩ = some (.int .i64 y.kd) ∧ w'.cell? ⟨b, off + j * 8 + 5, none⟩ = some (.int .i64 y.sz) ∧ w'.cell? ⟨b, off + j * 8 + 6, none⟩ = some (.int .i64 y.du) ∧ w'.cell? ⟨b, off + j * 8 + 7, none⟩ = some (.bool y.ch))) (by kernel_rfl) ?_ (fun hHeld => ?_)
                · (try dsimp only)
                  go_keep
                refine wpAnyH_take (i := 0) (v := ?va41) rfl (by kernel_rfl) (by kernel_rfl) (by kernel_rfl) (fun _ _ _ h => h) (Or.inl ⟨by rfl, ?hya41⟩) (by assumption) ?rest41
                case hya41 => (intro wz hSw; (try dsimp only at hSw); go_simp; all_goals with_reducible rfl)
                try simp only [List.getElem_toArray, List.getElem_cons_succ, List.getElem_cons_zero, Act.put, List.setIfInBounds_toArray, List.set_cons_zero, List.set_cons_succ]
                refine wpAnyH_take (i := 1) (v := ?va42) rfl (by kernel_rfl) (by kernel_rfl) (by kernel_rfl) (fun _ _ _ h => h) (Or.inl ⟨by rfl, ?hya42⟩) (by assumption) ?rest42
                case hya42 => (intro wz hSw; (try dsimp only at hSw); go_simp; all_goals with_reducible rfl)
                try simp only [List.getElem_toArray, List.getElem_cons_succ, List.getElem_cons_zero, Act.put, List.setIfInBounds_toArray, List.set_cons_zero, List.set_cons_succ]
                refine wpAnyH_take (i := 2) (v := ?va43) rfl (by kernel_rfl) (by kernel_rfl) (by kernel_rfl) (fun _ _ _ h => h) (Or.inl ⟨by rfl, ?hya43⟩) (by assumption) ?rest43
                case hya43 => (intro wz hSw; (try dsimp only at hSw); go_simp; all_goals with_reducible rfl)
                try simp only [List.getElem_toArray, List.getElem_cons_succ, List.getElem_cons_zero, Act.put, List.setIfInBounds_toArray, List.set_cons_zero, List.set_cons_succ]
                refine wpAnyH_take (i := 3) (v := ?va44) rfl (by kernel_rfl) (by kernel_rfl) (by kernel_rfl) (fun _ _ _ h => h) (Or.inl ⟨by rfl, ?hya44⟩) (by assumption) ?rest44
                case hya44 => (intro wz hSw; (try dsimp only at hSw); go_simp; all_goals with_reducible rfl)
                try simp only [List.getElem_toArray, List.getElem_cons_succ, List.getElem_cons_zero, Act.put, List.setIfInBounds_toArray, List.set_cons_zero, List.set_cons_succ]
                refine wpAnyH_take (i := 4) (v := ?va45) rfl (by kernel_rfl) (by kernel_rfl) (by kernel_rfl) (fun _ _ _ h => h) (Or.inl ⟨by rfl, ?hya45⟩) (by assumption) ?rest45
                case hya45 => (intro wz hSw; (try dsimp only at hSw); go_simp; all_goals with_reducible rfl)
                try simp only [List.getElem_toArray, List.getElem_cons_succ, List.getElem_cons_zero, Act.put, List.setIfInBounds_toArray, List.set_cons_zero, List.set_cons_succ]
                refine wpAnyH_take (i := 5) (v := ?va46) rfl (by kernel_rfl) (by kernel_rfl) (by kernel_rfl) (fun _ _ _ h => h) (Or.inl ⟨by rfl, ?hya46⟩) (by assumption) ?rest46
                case hya46 => (intro wz hSw; (try dsimp only at hSw); go_simp; all_goals with_reducible rfl)
                try simp only [List.getElem_toArray, List.getElem_cons_succ, List.getElem_cons_zero, Act.put, List.setIfInBounds_toArray, List.set_cons_zero, List.set_cons_succ]
                refine wpAnyH_take (i := 6) (v := ?va47) rfl (by kernel_rfl) (by kernel_rfl) (by kernel_rfl) (fun _ _ _ h => h) (Or.inl ⟨by rfl, ?hya47⟩) (by assumption) ?rest47
                case hya47 => (intro wz hSw; (try dsimp only at hSw); go_simp; all_goals with_reducible rfl)
                try simp only [List.getElem_toArray, List.getElem_cons_succ, List.getElem_cons_zero, Act.put, List.setIfInBounds_toArray, List.set_cons_zero, List.set_cons_succ]
                refine wpAnyH_take (i := 7) (v := ?va48) rfl (by kernel_rfl) (by kernel_rfl) (by kernel_rfl) (fun _ _ _ h => h) (Or.inl ⟨by rfl, ?hya48⟩) (by assumption) ?rest48
                case hya48 => (intro wz hSw; (try dsimp only at hSw); go_simp; all_goals with_reducible rfl)
                try simp only [List.getElem_toArray, List.getElem_cons_succ, List.getElem_cons_zero, Act.put, List.setIfInBounds_toArray, List.set_cons_zero, List.set_cons_succ]
                refine wpAnyH_take (i := 8) (v := ?va49) rfl (by kernel_rfl) (by kernel_rfl) (by kernel_rfl) (fun _ _ _ h => h) (Or.inl ⟨by rfl, ?hya49⟩) (by assumption) ?rest49
                case hya49 => (intro wz hSw; (try dsimp only at hSw); go_simp; all_goals with_reducible rfl)
                try simp only [List.getElem_toArray, List.getElem_cons_succ, List.getElem_cons_zero, Act.put, List.setIfInBounds_toArray, List.set_cons_zero, List.set_cons_succ]
                refine wpAnyH_take (i := 9) (v := ?va50) rfl (by kernel_rfl) (by kernel_rfl) (by kernel_rfl) (fun _ _ _ h => h) (Or.inl ⟨by rfl, ?hya50⟩) (by assumption) ?rest50
                case hya50 => (intro wz hSw; (try dsimp only at hSw); go_simp; all_goals with_reducible rfl)
                try simp only [List.getElem_toArray, List.getElem_cons_succ, List.getElem_cons_zero, Act.put, List.setIfInBounds_toArray, List.set_cons_zero, List.set_cons_succ]
                refine wpAnyH_ready (rs := [10, 11]) (by kernel_rfl) (by simp) ?_
                refine AllReadyH.cons rfl (fun K hK => ?_) (AllReadyH.cons rfl (fun K hK => ?_) AllReadyH.nil)
                · go_simp
                  refine hK.out _ _ ?_ (fun hHeld10 => ?_)
                  · (try dsimp only)
                    go_keep
                  clear hK K
                  try simp only [List.getElem_toArray, List.getElem_cons_succ, List.getElem_cons_zero, Act.put, List.setIfInBounds_toArray, List.set_cons_zero, List.set_cons_succ]
                  refine wpAnyH_ready (rs := [11]) (by kernel_rfl) (by simp) ?_
                  refine AllReadyH.cons rfl (fun K hK => ?_) AllReadyH.nil
                  go_simp
                  refine hK.out _ _ ?_ (fun hHeld11 => ?_)
                  · (try dsimp only)
                    go_keep
                  clear hK K
                  try simp only [List.getElem_toArray, List.getElem_cons_succ, List.getElem_cons_zero, Act.put, List.setIfInBounds_toArray, List.set_cons_zero, List.set_cons_succ]
                  refine wpAnyH_ready (rs := [12]) (by kernel_rfl) (by simp) ?_
                  refine AllReadyH.cons rfl (fun K hK => ?_) AllReadyH.nil
                  go_simp
                  refine hK.out _ _ ?_ (fun hHeld12 => ?_)
                  · (try dsimp only)
                    go_keep
                  clear hK K
                  try simp only [List.getElem_toArray, List.getElem_cons_succ, List.getElem_cons_zero, Act.put, List.setIfInBounds_toArray, List.set_cons_zero, List.set_cons_succ]
                  refine wpAnyH_ready (rs := [13]) (by kernel_rfl) (by simp) ?_
                  refine AllReadyH.cons rfl (fun K hK => ?_) AllReadyH.nil
                  go_simp
                  refine hK.out _ _ ?_ (fun hHeld13 => ?_)
                  · (try dsimp only)
                    go_keep
                  clear hK K
                  try simp only [List.getElem_toArray, List.getElem_cons_succ, List.getElem_cons_zero, Act.put, List.setIfInBounds_toArray, List.set_cons_zero, List.set_cons_succ]
                  refine wpAnyH_done (by kernel_rfl) ?_ _
                  have BX := hide (show Below W0.heap.size W0 ((wr.alloc (.cells #[.int .i64 x.md, .int .i64 x.rd, .int .i64 x.sl, .int .i64 x.nd, .int .i64 x.kd, .int .i64 x.sz, .int .i64 x.du, .bool x.ch] 61)).alloc (.cells #[.int .i64 y.md, .int .i64 y.rd, .int .i64 y.sl, .int .i64 y.nd, .int .i64 y.kd, .int .i64 y.sz, .int .i64 y.du, .bool y.ch] 61)).drew from below_drewT (((hbel.out.alloc hbel.out.size _).alloc (Nat.le_trans hbel.out.size (by simp)) _)))
                  go_wp2
                  go_roundw
                  case rel => exact ⟨j + 1, by omega, by go_num, NN, BX⟩
                  case measure => simp [intOf]; omega
                · go_simp
                  refine hK.out _ _ ?_ (fun hHeld11 => ?_)
                  · (try dsimp only)
                    go_keep
                  clear hK K
                  try simp only [List.getElem_toArray, List.getElem_cons_succ, List.getElem_cons_zero, Act.put, List.setIfInBounds_toArray, List.set_cons_zero, List.set_cons_succ]
                  refine wpAnyH_ready (rs := [10]) (by kernel_rfl) (by simp) ?_
                  refine AllReadyH.cons rfl (fun K hK => ?_) AllReadyH.nil
                  go_simp
                  refine hK.out _ _ ?_ (fun hHeld10 => ?_)
                  · (try dsimp only)
                    go_keep
                  clear hK K
                  try simp only [List.getElem_toArray, List.getElem_cons_succ, List.getElem_cons_zero, Act.put, List.setIfInBounds_toArray, List.set_cons_zero, List.set_cons_succ]
                  refine wpAnyH_ready (rs := [12]) (by kernel_rfl) (by simp) ?_
                  refine AllReadyH.cons rfl (fun K hK => ?_) AllReadyH.nil
                  go_simp
                  refine hK.out _ _ ?_ (fun hHeld12 => ?_)
                  · (try dsimp only)
                    go_keep
                  clear hK K
                  try simp only [List.getElem_toArray, List.getElem_cons_succ, List.getElem_cons_zero, Act.put, List.setIfInBounds_toArray, List.set_cons_zero, List.set_cons_succ]
                  refine wpAnyH_ready (rs := [13]) (by kernel_rfl) (by simp) ?_
                  refine AllReadyH.cons rfl (fun K hK => ?_) AllReadyH.nil
                  go_simp
                  refine hK.out _ _ ?_ (fun hHeld13 => ?_)
                  · (try dsimp only)
                    go_keep
                  clear hK K
                  try simp only [List.getElem_toArray, List.getElem_cons_succ, List.getElem_cons_zero, Act.put, List.setIfInBounds_toArray, List.set_cons_zero, List.set_cons_succ]
                  refine wpAnyH_done (by kernel_rfl) ?_ _
                  have BX := hide (show Below W0.heap.size W0 ((wr.alloc (.cells #[.int .i64 y.md, .int .i64 y.rd, .int .i64 y.sl, .int .i64 y.nd, .int .i64 y.kd, .int .i64 y.sz, .int .i64 y.du, .bool y.ch] 61)).alloc (.cells #[.int .i64 x.md, .int .i64 x.rd, .int .i64 x.sl, .int .i64 x.nd, .int .i64 x.kd, .int .i64 x.sz, .int .i64 x.du, .bool x.ch] 61)).drew from below_drewT (((hbel.out.alloc hbel.out.size _).alloc (Nat.le_trans hbel.out.size (by simp)) _)))
                  go_wp2
                  go_roundw
                  case rel => exact ⟨j + 1, by omega, by go_num, NN, BX⟩
                  case measure => simp [intOf]; omega
        · obtain rfl : j = k := by omega
          have NN := hide (show allD m.ss (j + 1) = true by rw [allD_succ, hall.out, hall2.out]; rfl)
          go_wp2
          go_roundw
          case rel => exact ⟨j + 1, by omega, by go_num, NN, hbel⟩
          case measure => simp [intOf]; omega
    · obtain rfl : k = n3 := by omega
      have E := hide (show stdB m.ss = true by rw [stdB_allD, hlen.out]; exact hall.out)
      go_wp2
      go_ret
      exact ⟨by rw [E.out]; rfl, below_trans BA.out hbel.out⟩
end Go.Proofs.YtdkhldebnpmiiaaGreatDoor
