/- Contracts: a slot table, by the program and by the reference. -/
import Derived.Test.YtdkhldebnpmiiaaGreatDoorZBkD
import Derived.Test.YtdkhldebnpmiiaaGreatDoorZNTab
namespace Go.Proofs.YtdkhldebnpmiiaaGreatDoor
open Go.RowKit
set_option linter.unusedVariables false
set_option linter.unusedSimpArgs false
def sltA (l : List Slt) (k : Nat) : Slt := l.getD k ⟨0, 0, 0, 0, 0, 0, 0, false⟩
theorem sltA_eq {l : List Slt} {k : Nat} {x : Slt} (h : l[k]? = some x) : sltA l k = x := by simp [sltA, h]
def okS (l : List Slt) (k : Nat) : Bool := sltB (sltA l k) && (decide (k = 0) || decide (cmpS (sltA l (k - 1)) (sltA l k) < 0))
def allS (l : List Slt) (k : Nat) : Bool := (List.range k).all (okS l)
theorem allS_succ (l : List Slt) (k : Nat) : allS l (k + 1) = (allS l k && okS l k) := by simp [allS, List.range_succ]
def stB (l : List Slt) : Bool := allS l l.length && decide (l.length ≤ 120)
theorem stB_bad {l : List Slt} {k : Nat} (h : k < l.length) (hb : okS l k = false) : stB l = false := by
  have : allS l l.length = false := List.all_eq_false.2 ⟨k, List.mem_range.2 h, by rw [hb]; simp⟩
  rw [stB, this, Bool.false_and]
theorem okS_1 {l : List Slt} {k : Nat} {x : Slt} (h : l[k]? = some x) (hb : sltB x = false) : okS l k = false := by rw [okS, sltA_eq h, hb, Bool.false_and]
theorem okS_2 {l : List Slt} {k : Nat} {x y : Slt} (h : l[k + 1]? = some x) (hy : l[k]? = some y) (hb : 0 ≤ cmpS y x) : okS l (k + 1) = false := by
  rw [okS, sltA_eq h, Nat.add_sub_cancel, sltA_eq hy, decide_eq_false (p := cmpS y x < 0) (by omega)]
  simp
theorem okS_4 {l : List Slt} {x : Slt} (h : l[0]? = some x) (h1 : sltB x = true) : okS l 0 = true := by
  rw [okS, sltA_eq h, h1]
  simp
theorem okS_5 {l : List Slt} {k : Nat} {x y : Slt} (h : l[k + 1]? = some x) (hy : l[k]? = some y) (h1 : sltB x = true) (h2 : cmpS y x < 0) : okS l (k + 1) = true := by
  rw [okS, sltA_eq h, Nat.add_sub_cancel, sltA_eq hy, h1, decide_eq_true h2]
  simp
set_option maxHeartbeats 6400000 in
theorem iIsSlotTable_any (A : Option Addr) (n c : Nat) (l : List Slt) (w : World) (h : RdR Slt.v 8 w A n c l) : Calls Tryz.prog 139 #[.slice A n c] w (BoolOut (stB l) w) := by
  have hcap := h.cap
  have hlen := hide h.len
  go_enter Tryz.func139, Tryz.ntmps139
  go_wp2
  go_loopw [7] (fun i wr => ∃ k : Nat, k ≤ n ∧ i = .int .i64 k ∧ Hid (allS l k = true) ∧ Hid (Below w.heap.size w wr)) (fun i _ => n - (intOf i).toNat)
  case atStart => exact ⟨0, by omega, rfl, hide rfl, hide (Below.refl _ _)⟩
  case round =>
    obtain ⟨k, hk, rfl, hall, hbel⟩ := hrel
    by_cases hlt : k < n
    · obtain ⟨b, off, x, rfl, hb, hx, c0, c1, c2, c3, c4, c5, c6, c7⟩ := slt_at (h.below hbel.out) hlt
      have HX := hide hx
      obtain ⟨W0, hW0⟩ : ∃ W0, W0 = wr.alloc (.cells #[.int .i64 x.md, .int .i64 x.rd, .int .i64 x.sl, .int .i64 x.nd, .int .i64 x.kd, .int .i64 x.sz, .int .i64 x.du, .bool x.ch] 61) := ⟨_, rfl⟩
      have F0 : At W0 wr.heap.size 61 #[.int .i64 x.md, .int .i64 x.rd, .int .i64 x.sl, .int .i64 x.nd, .int .i64 x.kd, .int .i64 x.sz, .int .i64 x.du, .bool x.ch] := by rw [hW0]; exact At.fresh _ _ _
      have BA : Below wr.heap.size wr W0 := by rw [hW0]; exact (Below.refl _ _).alloc (Nat.le_refl _) _
      have HB := hide (below_trans hbel.out BA)
      have HW := hide hW0
      have HL := hide (show k < l.length by rw [hlen.out]; exact hlt)
      have d0 := F0.cell 0
      have d1 := F0.cell 1
      have d2 := F0.cell 2
      have d3 := F0.cell 3
      have d4 := F0.cell 4
      have d5 := F0.cell 5
      have d6 := F0.cell 6
      have d7 := F0.cell 7
      simp at d0 d1 d2 d3 d4 d5 d6 d7
      have hgl := F0.lt
      clear hx hW0
      cases hn : sltB x
      · have E := hide (stB_bad HL.out (okS_1 HX.out hn))
        have HN := hide hn
        clear hn
        go_wp2_with fail
        rw [← HW.out]
        clear c0 c1 c2 c3 c4 c5 c6 c7 F0 BA
        refine wp_region_held_drew (S := (fun w' => w'.cell? ⟨wr.heap.size, 0, none⟩ = some (.int .i64 x.md) ∧ w'.cell? ⟨wr.heap.size, 1, none⟩ = some (.int .i64 x.rd) ∧ w'.cell? ⟨wr.heap.size, 2, none⟩ = some (.int .i64 x.sl) ∧ w'.cell? ⟨wr.heap.size, 3, none⟩ = some (.int .i64 x.nd) ∧ w'.cell? ⟨wr.heap.size, 4, none⟩ = some (.int .i64 x.kd) ∧ w'.cell? ⟨wr.heap.size, 5, none⟩ = some (.int .i64 x.sz) ∧ w'.cell? ⟨wr.heap.size, 6, none⟩ = some (.int .i64 x.du) ∧ w'.cell? ⟨wr.heap.size, 7, none⟩ = some (.bool x.ch))) (by kernel_rfl) ?_ (fun hHeld => ?_)
        · (try dsimp only)
          go_keep
        refine wpAnyH_take (i := 0) (v := ?va1) rfl (by kernel_rfl) (by kernel_rfl) (by kernel_rfl) (fun _ _ _ h => h) (Or.inl ⟨by rfl, ?hya1⟩) (by assumption) ?rest1
        case hya1 => (intro wz hSw; (try dsimp only at hSw); go_simp; all_goals with_reducible rfl)
        try simp only [List.getElem_toArray, List.getElem_cons_succ, List.getElem_cons_zero, Act.put, List.setIfInBounds_toArray, List.set_cons_zero, List.set_cons_succ]
        refine wpAnyH_ready (rs := [1]) (by kernel_rfl) (by simp) ?_
        refine AllReadyH.cons rfl (fun K hK => ?_) AllReadyH.nil
        go_simp
        (go_at_call 159; (with_reducible refine (islot_any x _).mono ?_); rintro ee w1 ⟨rfl, b1⟩; rw [HN.out]; have b2 := below_drewS2 b1; have e0 := (b2.cell (p := ⟨wr.heap.size, 0, none⟩) hgl).trans d0; have e1 := (b2.cell (p := ⟨wr.heap.size, 1, none⟩) hgl).trans d1; have e2 := (b2.cell (p := ⟨wr.heap.size, 2, none⟩) hgl).trans d2; have e3 := (b2.cell (p := ⟨wr.heap.size, 3, none⟩) hgl).trans d3; have e4 := (b2.cell (p := ⟨wr.heap.size, 4, none⟩) hgl).trans d4; have e5 := (b2.cell (p := ⟨wr.heap.size, 5, none⟩) hgl).trans d5; have e6 := (b2.cell (p := ⟨wr.heap.size, 6, none⟩) hgl).trans d6; have e7 := (b2.cell (p := ⟨wr.heap.size, 7, none⟩) hgl).trans d7; have B2 := hide (below_trans HB.out b2); have hl1 : wr.heap.size < w1.heap.size := Nat.lt_of_lt_of_le hgl b2.size; clear b1 b2)
        go_wp2_with fail
        refine hK.out _ _ ?_ (fun hHeld1 => ?_)
        · (try dsimp only)
          go_keep
        clear hK K
        try simp only [List.getElem_toArray, List.getElem_cons_succ, List.getElem_cons_zero, Act.put, List.setIfInBounds_toArray, List.set_cons_zero, List.set_cons_succ]
        refine wpAnyH_take (i := 2) (v := ?va2) rfl (by kernel_rfl) (by kernel_rfl) (by kernel_rfl) (fun _ _ _ h => h) (Or.inl ⟨by rfl, ?hya2⟩) (by assumption) ?rest2
        case hya2 => (intro wz hSw; (try dsimp only at hSw); go_simp; all_goals with_reducible rfl)
        try simp only [List.getElem_toArray, List.getElem_cons_succ, List.getElem_cons_zero, Act.put, List.setIfInBounds_toArray, List.set_cons_zero, List.set_cons_succ]
        refine wpAnyH_take (i := 3) (v := ?va3) rfl (by kernel_rfl) (by kernel_rfl) (by kernel_rfl) (fun _ _ _ h => h) (Or.inl ⟨by rfl, ?hya3⟩) (by assumption) ?rest3
        case hya3 => (intro wz hSw; (try dsimp only at hSw); go_simp; all_goals with_reducible rfl)
        try simp only [List.getElem_toArray, List.getElem_cons_succ, List.getElem_cons_zero, Act.put, List.setIfInBounds_toArray, List.set_cons_zero, List.set_cons_succ]
        refine wpAnyH_take (i := 4) (v := undef) rfl (by kernel_rfl) (by kernel_rfl) (by kernel_rfl) (fun _ _ _ h => h) (Or.inr ⟨by rfl, rfl⟩) (by assumption) ?_
        try simp only [List.getElem_toArray, List.getElem_cons_succ, List.getElem_cons_zero, Act.put, List.setIfInBounds_toArray, List.set_cons_zero, List.set_cons_succ]
        refine wpAnyH_take (i := 5) (v := undef) rfl (by kernel_rfl) (by kernel_rfl) (by kernel_rfl) (fun _ _ _ h => h) (Or.inr ⟨by rfl, rfl⟩) (by assumption) ?_
        try simp only [List.getElem_toArray, List.getElem_cons_succ, List.getElem_cons_zero, Act.put, List.setIfInBounds_toArray, List.set_cons_zero, List.set_cons_succ]
        refine wpAnyH_take (i := 6) (v := undef) rfl (by kernel_rfl) (by kernel_rfl) (by kernel_rfl) (fun _ _ _ h => h) (Or.inr ⟨by rfl, rfl⟩) (by assumption) ?_
        try simp only [List.getElem_toArray, List.getElem_cons_succ, List.getElem_cons_zero, Act.put, List.setIfInBounds_toArray, List.set_cons_zero, List.set_cons_succ]
        refine wpAnyH_take (i := 7) (v := undef) rfl (by kernel_rfl) (by kernel_rfl) (by kernel_rfl) (fun _ _ _ h => h) (Or.inr ⟨by rfl, rfl⟩) (by assumption) ?_
        try simp only [List.getElem_toArray, List.getElem_cons_succ, List.getElem_cons_zero, Act.put, List.setIfInBounds_toArray, List.set_cons_zero, List.set_cons_succ]
        refine wpAnyH_take (i := 8) (v := undef) rfl (by kernel_rfl) (by kernel_rfl) (by kernel_rfl) (fun _ _ _ h => h) (Or.inr ⟨by rfl, rfl⟩) (by assumption) ?_
        try simp only [List.getElem_toArray, List.getElem_cons_succ, List.getElem_cons_zero, Act.put, List.setIfInBounds_toArray, List.set_cons_zero, List.set_cons_succ]
        refine wpAnyH_take (i := 9) (v := undef) rfl (by kernel_rfl) (by kernel_rfl) (by kernel_rfl) (fun _ _ _ h => h) (Or.inr ⟨by rfl, rfl⟩) (by assumption) ?_
        try simp only [List.getElem_toArray, List.getElem_cons_succ, List.getElem_cons_zero, Act.put, List.setIfInBounds_toArray, List.set_cons_zero, List.set_cons_succ]
        refine wpAnyH_take (i := 10) (v := undef) rfl (by kernel_rfl) (by kernel_rfl) (by kernel_rfl) (fun _ _ _ h => h) (Or.inr ⟨by rfl, rfl⟩) (by assumption) ?_
        try simp only [List.getElem_toArray, List.getElem_cons_succ, List.getElem_cons_zero, Act.put, List.setIfInBounds_toArray, List.set_cons_zero, List.set_cons_succ]
        refine wpAnyH_take (i := 11) (v := undef) rfl (by kernel_rfl) (by kernel_rfl) (by kernel_rfl) (fun _ _ _ h => h) (Or.inr ⟨by rfl, rfl⟩) (by assumption) ?_
        try simp only [List.getElem_toArray, List.getElem_cons_succ, List.getElem_cons_zero, Act.put, List.setIfInBounds_toArray, List.set_cons_zero, List.set_cons_succ]
        refine wpAnyH_take (i := 12) (v := undef) rfl (by kernel_rfl) (by kernel_rfl) (by kernel_rfl) (fun _ _ _ h => h) (Or.inr ⟨by rfl, rfl⟩) (by assumption) ?_
        try simp only [List.getElem_toArray, List.getElem_cons_succ, List.getElem_cons_zero, Act.put, List.setIfInBounds_toArray, List.set_cons_zero, List.set_cons_succ]
        refine wpAnyH_take (i := 13) (v := undef) rfl (by kernel_rfl) (by kernel_rfl) (by kernel_rfl) (fun _ _ _ h => h) (Or.inr ⟨by rfl, rfl⟩) (by assumption) ?_
        try simp only [List.getElem_toArray, List.getElem_cons_succ, List.getElem_cons_zero, Act.put, List.setIfInBounds_toArray, List.set_cons_zero, List.set_cons_succ]
        refine wpAnyH_take (i := 14) (v := undef) rfl (by kernel_rfl) (by kernel_rfl) (by kernel_rfl) (fun _ _ _ h => h) (Or.inr ⟨by rfl, rfl⟩) (by assumption) ?_
        try simp only [List.getElem_toArray, List.getElem_cons_succ, List.getElem_cons_zero, Act.put, List.setIfInBounds_toArray, List.set_cons_zero, List.set_cons_succ]
        refine wpAnyH_take (i := 15) (v := undef) rfl (by kernel_rfl) (by kernel_rfl) (by kernel_rfl) (fun _ _ _ h => h) (Or.inr ⟨by rfl, rfl⟩) (by assumption) ?_
        try simp only [List.getElem_toArray, List.getElem_cons_succ, List.getElem_cons_zero, Act.put, List.setIfInBounds_toArray, List.set_cons_zero, List.set_cons_succ]
        refine wpAnyH_take (i := 16) (v := ?va4) rfl (by kernel_rfl) (by kernel_rfl) (by kernel_rfl) (fun _ _ _ h => h) (Or.inl ⟨by rfl, ?hya4⟩) (by assumption) ?rest4
        case hya4 => (intro wz hSw; (try dsimp only at hSw); go_simp; all_goals with_reducible rfl)
        try simp only [List.getElem_toArray, List.getElem_cons_succ, List.getElem_cons_zero, Act.put, List.setIfInBounds_toArray, List.set_cons_zero, List.set_cons_succ]
        refine wpAnyH_done (by kernel_rfl) ?_ _
        go_wp2
        go_ret
        exact ⟨by rw [E.out]; rfl, B2.out⟩
      · have HN := hide hn
        rcases Nat.eq_zero_or_pos k with rfl | hpos
        · have NN := hide (show allS l 1 = true by rw [allS_succ, hall.out, okS_4 HX.out hn]; rfl)
          simp only [Nat.zero_mul, Nat.add_zero] at c0 c1 c2 c3 c4 c5 c6 c7
          clear hn
          go_wp2_with fail
          rw [← HW.out]
          clear c0 c1 c2 c3 c4 c5 c6 c7 F0 BA
          refine wp_region_held_drew (S := (fun w' => w'.cell? ⟨wr.heap.size, 0, none⟩ = some (.int .i64 x.md) ∧ w'.cell? ⟨wr.heap.size, 1, none⟩ = some (.int .i64 x.rd) ∧ w'.cell? ⟨wr.heap.size, 2, none⟩ = some (.int .i64 x.sl) ∧ w'.cell? ⟨wr.heap.size, 3, none⟩ = some (.int .i64 x.nd) ∧ w'.cell? ⟨wr.heap.size, 4, none⟩ = some (.int .i64 x.kd) ∧ w'.cell? ⟨wr.heap.size, 5, none⟩ = some (.int .i64 x.sz) ∧ w'.cell? ⟨wr.heap.size, 6, none⟩ = some (.int .i64 x.du) ∧ w'.cell? ⟨wr.heap.size, 7, none⟩ = some (.bool x.ch))) (by kernel_rfl) ?_ (fun hHeld => ?_)
          · (try dsimp only)
            go_keep
          refine wpAnyH_take (i := 0) (v := ?va5) rfl (by kernel_rfl) (by kernel_rfl) (by kernel_rfl) (fun _ _ _ h => h) (Or.inl ⟨by rfl, ?hya5⟩) (by assumption) ?rest5
          case hya5 => (intro wz hSw; (try dsimp only at hSw); go_simp; all_goals with_reducible rfl)
          try simp only [List.getElem_toArray, List.getElem_cons_succ, List.getElem_cons_zero, Act.put, List.setIfInBounds_toArray, List.set_cons_zero, List.set_cons_succ]
          refine wpAnyH_ready (rs := [1]) (by kernel_rfl) (by simp) ?_
          refine AllReadyH.cons rfl (fun K hK => ?_) AllReadyH.nil
          go_simp
          (go_at_call 159; (with_reducible refine (islot_any x _).mono ?_); rintro ee w1 ⟨rfl, b1⟩; rw [HN.out]; have b2 := below_drewS2 b1; have e0 := (b2.cell (p := ⟨wr.heap.size, 0, none⟩) hgl).trans d0; have e1 := (b2.cell (p := ⟨wr.heap.size, 1, none⟩) hgl).trans d1; have e2 := (b2.cell (p := ⟨wr.heap.size, 2, none⟩) hgl).trans d2; have e3 := (b2.cell (p := ⟨wr.heap.size, 3, none⟩) hgl).trans d3; have e4 := (b2.cell (p := ⟨wr.heap.size, 4, none⟩) hgl).trans d4; have e5 := (b2.cell (p := ⟨wr.heap.size, 5, none⟩) hgl).trans d5; have e6 := (b2.cell (p := ⟨wr.heap.size, 6, none⟩) hgl).trans d6; have e7 := (b2.cell (p := ⟨wr.heap.size, 7, none⟩) hgl).trans d7; have B2 := hide (below_trans HB.out b2); have hl1 : wr.heap.size < w1.heap.size := Nat.lt_of_lt_of_le hgl b2.size; clear b1 b2)
          go_wp2_with fail
          refine hK.out _ _ ?_ (fun hHeld1 => ?_)
          · (try dsimp only)
            go_keep
          clear hK K
          try simp only [List.getElem_toArray, List.getElem_cons_succ, List.getElem_cons_zero, Act.put, List.setIfInBounds_toArray, List.set_cons_zero, List.set_cons_succ]
          refine wpAnyH_take (i := 2) (v := ?va6) rfl (by kernel_rfl) (by kernel_rfl) (by kernel_rfl) (fun _ _ _ h => h) (Or.inl ⟨by rfl, ?hya6⟩) (by assumption) ?rest6
          case hya6 => (intro wz hSw; (try dsimp only at hSw); go_simp; all_goals with_reducible rfl)
          try simp only [List.getElem_toArray, List.getElem_cons_succ, List.getElem_cons_zero, Act.put, List.setIfInBounds_toArray, List.set_cons_zero, List.set_cons_succ]
          refine wpAnyH_take (i := 3) (v := ?va7) rfl (by kernel_rfl) (by kernel_rfl) (by kernel_rfl) (fun _ _ _ h => h) (Or.inl ⟨by rfl, ?hya7⟩) (by assumption) ?rest7
          case hya7 => (intro wz hSw; (try dsimp only at hSw); go_simp; all_goals with_reducible rfl)
          try simp only [List.getElem_toArray, List.getElem_cons_succ, List.getElem_cons_zero, Act.put, List.setIfInBounds_toArray, List.set_cons_zero, List.set_cons_succ]
          refine wpAnyH_take (i := 4) (v := ?va8) rfl (by kernel_rfl) (by kernel_rfl) (by kernel_rfl) (fun _ _ _ h => h) (Or.inl ⟨by rfl, ?hya8⟩) (by assumption) ?rest8
          case hya8 => (intro wz hSw; (try dsimp only at hSw); go_simp; all_goals with_reducible rfl)
          try simp only [List.getElem_toArray, List.getElem_cons_succ, List.getElem_cons_zero, Act.put, List.setIfInBounds_toArray, List.set_cons_zero, List.set_cons_succ]
          refine wpAnyH_take (i := 5) (v := ?va9) rfl (by kernel_rfl) (by kernel_rfl) (by kernel_rfl) (fun _ _ _ h => h) (Or.inl ⟨by rfl, ?hya9⟩) (by assumption) ?rest9
          case hya9 => (intro wz hSw; (try dsimp only at hSw); go_simp; all_goals with_reducible rfl)
          try simp only [List.getElem_toArray, List.getElem_cons_succ, List.getElem_cons_zero, Act.put, List.setIfInBounds_toArray, List.set_cons_zero, List.set_cons_succ]
          refine wpAnyH_take (i := 6) (v := ?va10) rfl (by kernel_rfl) (by kernel_rfl) (by kernel_rfl) (fun _ _ _ h => h) (Or.inl ⟨by rfl, ?hya10⟩) (by assumption) ?rest10
          case hya10 => (intro wz hSw; (try dsimp only at hSw); go_simp; all_goals with_reducible rfl)
          try simp only [List.getElem_toArray, List.getElem_cons_succ, List.getElem_cons_zero, Act.put, List.setIfInBounds_toArray, List.set_cons_zero, List.set_cons_succ]
          refine wpAnyH_take (i := 7) (v := undef) rfl (by kernel_rfl) (by kernel_rfl) (by kernel_rfl) (fun _ _ _ h => h) (Or.inr ⟨by rfl, rfl⟩) (by assumption) ?_
          try simp only [List.getElem_toArray, List.getElem_cons_succ, List.getElem_cons_zero, Act.put, List.setIfInBounds_toArray, List.set_cons_zero, List.set_cons_succ]
          refine wpAnyH_take (i := 8) (v := undef) rfl (by kernel_rfl) (by kernel_rfl) (by kernel_rfl) (fun _ _ _ h => h) (Or.inr ⟨by rfl, rfl⟩) (by assumption) ?_
          try simp only [List.getElem_toArray, List.getElem_cons_succ, List.getElem_cons_zero, Act.put, List.setIfInBounds_toArray, List.set_cons_zero, List.set_cons_succ]
          refine wpAnyH_take (i := 9) (v := undef) rfl (by kernel_rfl) (by kernel_rfl) (by kernel_rfl) (fun _ _ _ h => h) (Or.inr ⟨by rfl, rfl⟩) (by assumption) ?_
          try simp only [List.getElem_toArray, List.getElem_cons_succ, List.getElem_cons_zero, Act.put, List.setIfInBounds_toArray, List.set_cons_zero, List.set_cons_succ]
          refine wpAnyH_take (i := 10) (v := undef) rfl (by kernel_rfl) (by kernel_rfl) (by kernel_rfl) (fun _ _ _ h => h) (Or.inr ⟨by rfl, rfl⟩) (by assumption) ?_
          try simp only [List.getElem_toArray, List.getElem_cons_succ, List.getElem_cons_zero, Act.put, List.setIfInBounds_toArray, List.set_cons_zero, List.set_cons_succ]
          refine wpAnyH_take (i := 11) (v := undef) rfl (by kernel_rfl) (by kernel_rfl) (by kernel_rfl) (fun _ _ _ h => h) (Or.inr ⟨by rfl, rfl⟩) (by assumption) ?_
          try simp only [List.getElem_toArray, List.getElem_cons_succ, List.getElem_cons_zero, Act.put, List.setIfInBounds_toArray, List.set_cons_zero, List.set_cons_succ]
          refine wpAnyH_take (i := 12) (v := undef) rfl (by kernel_rfl) (by kernel_rfl) (by kernel_rfl) (fun _ _ _ h => h) (Or.inr ⟨by rfl, rfl⟩) (by assumption) ?_
          try simp only [List.getElem_toArray, List.getElem_cons_succ, List.getElem_cons_zero, Act.put, List.setIfInBounds_toArray, List.set_cons_zero, List.set_cons_succ]
          refine wpAnyH_take (i := 13) (v := undef) rfl (by kernel_rfl) (by kernel_rfl) (by kernel_rfl) (fun _ _ _ h => h) (Or.inr ⟨by rfl, rfl⟩) (by assumption) ?_
          try simp only [List.getElem_toArray, List.getElem_cons_succ, List.getElem_cons_zero, Act.put, List.setIfInBounds_toArray, List.set_cons_zero, List.set_cons_succ]
          refine wpAnyH_take (i := 14) (v := undef) rfl (by kernel_rfl) (by kernel_rfl) (by kernel_rfl) (fun _ _ _ h => h) (Or.inr ⟨by rfl, rfl⟩) (by assumption) ?_
          try simp only [List.getElem_toArray, List.getElem_cons_succ, List.getElem_cons_zero, Act.put, List.setIfInBounds_toArray, List.set_cons_zero, List.set_cons_succ]
          refine wpAnyH_take (i := 15) (v := ?va11) rfl (by kernel_rfl) (by kernel_rfl) (by kernel_rfl) (fun _ _ _ h => h) (Or.inl ⟨by rfl, ?hya11⟩) (by assumption) ?rest11
          case hya11 => (intro wz hSw; (try dsimp only at hSw); go_simp; all_goals with_reducible rfl)
          try simp only [List.getElem_toArray, List.getElem_cons_succ, List.getElem_cons_zero, Act.put, List.setIfInBounds_toArray, List.set_cons_zero, List.set_cons_succ]
          refine wpAnyH_take (i := 16) (v := ?va12) rfl (by kernel_rfl) (by kernel_rfl) (by kernel_rfl) (fun _ _ _ h => h) (Or.inl ⟨by rfl, ?hya12⟩) (by assumption) ?rest12
          case hya12 => (intro wz hSw; (try dsimp only at hSw); go_simp; all_goals with_reducible rfl)
          try simp only [List.getElem_toArray, List.getElem_cons_succ, List.getElem_cons_zero, Act.put, List.setIfInBounds_toArray, List.set_cons_zero, List.set_cons_succ]
          refine wpAnyH_done (by kernel_rfl) ?_ _
          go_wp2_with fail
          go_roundw
          case rel => exact ⟨1, by omega, by go_num, NN, B2⟩
          case measure => simp [intOf]; omega
        · clear hn
          obtain ⟨j, rfl⟩ : ∃ j, k = j + 1 := ⟨k - 1, by omega⟩
          obtain ⟨b', off', y, hA', hb', hy, p0', p1', p2', p3', p4', p5', p6', p7'⟩ := slt_at (h.below hbel.out) (i := j) (by omega)
          simp only [Option.some.injEq, Addr.mk.injEq] at hA'
          obtain ⟨rfl, rfl, _⟩ := hA'
          have p0 := (BA.cell (p := ⟨b, off + j * 8, none⟩) hb).trans p0'
          have p1 := (BA.cell (p := ⟨b, off + j * 8 + 1, none⟩) hb).trans p1'
          have p2 := (BA.cell (p := ⟨b, off + j * 8 + 2, none⟩) hb).trans p2'
          have p3 := (BA.cell (p := ⟨b, off + j * 8 + 3, none⟩) hb).trans p3'
          have p4 := (BA.cell (p := ⟨b, off + j * 8 + 4, none⟩) hb).trans p4'
          have p5 := (BA.cell (p := ⟨b, off + j * 8 + 5, none⟩) hb).trans p5'
          have p6 := (BA.cell (p := ⟨b, off + j * 8 + 6, none⟩) hb).trans p6'
          have p7 := (BA.cell (p := ⟨b, off + j * 8 + 7, none⟩) hb).trans p7'
          have hbl : b < W0.heap.size := Nat.lt_of_lt_of_le hb BA.size
          have HY := hide hy
          have tg : decide ((0 : Int) < ((j + 1 : Nat) : Int)) = true := decide_eq_true (by omega)
          have ei : (((j + 1 : Nat) : Int) - 1) = (j : Int) := by omega
          have z1 : (0 : Int) ≤ (j : Int) := by omega
          have z2 : (j : Int) < (n : Int) := by omega
          have z3 : (0 : Int) ≤ (j : Int) + 1 := by omega
          have z4 : (j : Int) + 1 < (n : Int) := by omega
          have tw : IntKind.i64.wrap (j : Int) = (j : Int) := IntWalk.i64_in _ ⟨by omega, by omega⟩
          obtain ⟨cv, hcv⟩ : ∃ cv, cv = cmpS y x := ⟨_, rfl⟩
          have HCV := hide hcv.symm
          clear hy p0' p1' p2' p3' p4' p5' p6' p7'
          by_cases hid : cv < 0
          · have tl : decide (0 ≤ cv) = false := decide_eq_false (by omega)
            have NN := hide (show allS l (j + 1 + 1) = true by rw [allS_succ, hall.out, okS_5 HX.out HY.out HN.out (by rw [HCV.out]; exact hid)]; rfl)
            clear hid hcv
            go_wp2_with fail
            rw [← HW.out]
            clear c0 c1 c2 c3 c4 c5 c6 c7 F0 BA
            refine wp_region_held_drew (S := (fun w' => w'.cell? ⟨wr.heap.size, 0, none⟩ = some (.int .i64 x.md) ∧ w'.cell? ⟨wr.heap.size, 1, none⟩ = some (.int .i64 x.rd) ∧ w'.cell? ⟨wr.heap.size, 2, none⟩ = some (.int .i64 x.sl) ∧ w'.cell? ⟨wr.heap.size, 3, none⟩ = some (.int .i64 x.nd) ∧ w'.cell? ⟨wr.heap.size, 4, none⟩ = some (.int .i64 x.kd) ∧ w'.cell? ⟨wr.heap.size, 5, none⟩ = some (.int .i64 x.sz) ∧ w'.cell? ⟨wr.heap.size, 6, none⟩ = some (.int .i64 x.du) ∧ w'.cell? ⟨wr.heap.size, 7, none⟩ = some (.bool x.ch) ∧ w'.cell? ⟨b, off + j * 8, none⟩ = some (.int .i64 y.md) ∧ w'.cell? ⟨b, off + j * 8 + 1, none⟩ = some (.int .i64 y.rd) ∧ w'.cell? ⟨b, off + j * 8 + 2, none⟩ = some (.int .i64 y.sl) ∧ w'.cell? ⟨b, off + j * 8 + 3, none⟩ = some (.int .i64 y.nd) ∧ w'.cell? ⟨b, off + j * 8 + 4, none⟩ = some (.int .i64 y.kd) ∧ w'.cell? ⟨b, off + j * 8 + 5, none⟩ = some (.int .i64 y.sz) ∧ w'.cell? ⟨b, off + j * 8 + 6, none⟩ = some (.int .i64 y.du) ∧ w'.cell? ⟨b, off + j * 8 + 7, none⟩ = some (.bool y.ch))) (by kernel_rfl) ?_ (fun hHeld => ?_)
            · (try dsimp only)
              go_keep
            refine wpAnyH_take (i := 0) (v := ?va13) rfl (by kernel_rfl) (by kernel_rfl) (by kernel_rfl) (fun _ _ _ h => h) (Or.inl ⟨by rfl, ?hya13⟩) (by assumption) ?rest13
            case hya13 => (intro wz hSw; (try dsimp only at hSw); go_simp; all_goals with_reducible rfl)
            try simp only [List.getElem_toArray, List.getElem_cons_succ, List.getElem_cons_zero, Act.put, List.setIfInBounds_toArray, List.set_cons_zero, List.set_cons_succ]
            refine wpAnyH_ready (rs := [1]) (by kernel_rfl) (by simp) ?_
            refine AllReadyH.cons rfl (fun K hK => ?_) AllReadyH.nil
            go_simp
            (go_at_call 159; (with_reducible refine (islot_any x _).mono ?_); rintro ee w1 ⟨rfl, b1⟩; rw [HN.out]; have b2 := below_drewS2 b1; have e0 := (b2.cell (p := ⟨wr.heap.size, 0, none⟩) hgl).trans d0; have e1 := (b2.cell (p := ⟨wr.heap.size, 1, none⟩) hgl).trans d1; have e2 := (b2.cell (p := ⟨wr.heap.size, 2, none⟩) hgl).trans d2; have e3 := (b2.cell (p := ⟨wr.heap.size, 3, none⟩) hgl).trans d3; have e4 := (b2.cell (p := ⟨wr.heap.size, 4, none⟩) hgl).trans d4; have e5 := (b2.cell (p := ⟨wr.heap.size, 5, none⟩) hgl).trans d5; have e6 := (b2.cell (p := ⟨wr.heap.size, 6, none⟩) hgl).trans d6; have e7 := (b2.cell (p := ⟨wr.heap.size, 7, none⟩) hgl).trans d7; have f0 := (b2.cell (p := ⟨b, off + j * 8, none⟩) hbl).trans p0; have f1 := (b2.cell (p := ⟨b, off + j * 8 + 1, none⟩) hbl).trans p1; have f2 := (b2.cell (p := ⟨b, off + j * 8 + 2, none⟩) hbl).trans p2; have f3 := (b2.cell (p := ⟨b, off + j * 8 + 3, none⟩) hbl).trans p3; have f4 := (b2.cell (p := ⟨b, off + j * 8 + 4, none⟩) hbl).trans p4; have f5 := (b2.cell (p := ⟨b, off + j * 8 + 5, none⟩) hbl).trans p5; have f6 := (b2.cell (p := ⟨b, off + j * 8 + 6, none⟩) hbl).trans p6; have f7 := (b2.cell (p := ⟨b, off + j * 8 + 7, none⟩) hbl).trans p7; have B2 := hide (below_trans HB.out b2); have hl1 : wr.heap.size < w1.heap.size := Nat.lt_of_lt_of_le hgl b2.size; have hl2 : b < w1.heap.size := Nat.lt_of_lt_of_le hbl b2.size; clear b1 b2)
            go_wp2_with fail
            refine hK.out _ _ ?_ (fun hHeld1 => ?_)
            · (try dsimp only)
              go_keep
            clear hK K
            try simp only [List.getElem_toArray, List.getElem_cons_succ, List.getElem_cons_zero, Act.put, List.setIfInBounds_toArray, List.set_cons_zero, List.set_cons_succ]
            refine wpAnyH_take (i := 2) (v := ?va14) rfl (by kernel_rfl) (by kernel_rfl) (by kernel_rfl) (fun _ _ _ h => h) (Or.inl ⟨by rfl, ?hya14⟩) (by assumption) ?rest14
            case hya14 => (intro wz hSw; (try dsimp only at hSw); go_simp; all_goals with_reducible rfl)
            try simp only [List.getElem_toArray, List.getElem_cons_succ, List.getElem_cons_zero, Act.put, List.setIfInBounds_toArray, List.set_cons_zero, List.set_cons_succ]
            refine wpAnyH_take (i := 3) (v := ?va15) rfl (by kernel_rfl) (by kernel_rfl) (by kernel_rfl) (fun _ _ _ h => h) (Or.inl ⟨by rfl, ?hya15⟩) (by assumption) ?rest15
            case hya15 => (intro wz hSw; (try dsimp only at hSw); go_simp; all_goals with_reducible rfl)
            try simp only [List.getElem_toArray, List.getElem_cons_succ, List.getElem_cons_zero, Act.put, List.setIfInBounds_toArray, List.set_cons_zero, List.set_cons_succ]
            refine wpAnyH_take (i := 4) (v := ?va16) rfl (by kernel_rfl) (by kernel_rfl) (by kernel_rfl) (fun _ _ _ h => h) (Or.inl ⟨by rfl, ?hya16⟩) (by assumption) ?rest16
            case hya16 => (intro wz hSw; (try dsimp only at hSw); go_simp; all_goals with_reducible rfl)
            try simp only [List.getElem_toArray, List.getElem_cons_succ, List.getElem_cons_zero, Act.put, List.setIfInBounds_toArray, List.set_cons_zero, List.set_cons_succ]
            refine wpAnyH_take (i := 5) (v := ?va17) rfl (by kernel_rfl) (by kernel_rfl) (by kernel_rfl) (fun _ _ _ h => h) (Or.inl ⟨by rfl, ?hya17⟩) (by assumption) ?rest17
            case hya17 => (intro wz hSw; (try dsimp only at hSw); go_simp; all_goals with_reducible rfl)
            try simp only [List.getElem_toArray, List.getElem_cons_succ, List.getElem_cons_zero, Act.put, List.setIfInBounds_toArray, List.set_cons_zero, List.set_cons_succ]
            refine wpAnyH_take (i := 6) (v := ?va18) rfl (by kernel_rfl) (by kernel_rfl) (by kernel_rfl) (fun _ _ _ h => h) (Or.inl ⟨by rfl, ?hya18⟩) (by assumption) ?rest18
            case hya18 => (intro wz hSw; (try dsimp only at hSw); go_simp; all_goals with_reducible rfl)
            try simp only [List.getElem_toArray, List.getElem_cons_succ, List.getElem_cons_zero, Act.put, List.setIfInBounds_toArray, List.set_cons_zero, List.set_cons_succ]
            refine wpAnyH_take (i := 7) (v := ?va19) rfl (by kernel_rfl) (by kernel_rfl) (by kernel_rfl) (fun _ _ _ h => h) (Or.inl ⟨by rfl, ?hya19⟩) (by assumption) ?rest19
            case hya19 => (intro wz hSw; (try dsimp only at hSw); go_simp; all_goals with_reducible rfl)
            try simp only [List.getElem_toArray, List.getElem_cons_succ, List.getElem_cons_zero, Act.put, List.setIfInBounds_toArray, List.set_cons_zero, List.set_cons_succ]
            refine wpAnyH_take (i := 8) (v := ?va20) rfl (by kernel_rfl) (by kernel_rfl) (by kernel_rfl) (fun _ _ _ h => h) (Or.inl ⟨by rfl, ?hya20⟩) (by assumption) ?rest20
            case hya20 => (intro wz hSw; (try dsimp only at hSw); go_simp; all_goals with_reducible rfl)
            try simp only [List.getElem_toArray, List.getElem_cons_succ, List.getElem_cons_zero, Act.put, List.setIfInBounds_toArray, List.set_cons_zero, List.set_cons_succ]
            refine wpAnyH_take (i := 9) (v := ?va21) rfl (by kernel_rfl) (by kernel_rfl) (by kernel_rfl) (fun _ _ _ h => h) (Or.inl ⟨by rfl, ?hya21⟩) (by assumption) ?rest21
            case hya21 => (intro wz hSw; (try dsimp only at hSw); go_simp; all_goals with_reducible rfl)
            try simp only [List.getElem_toArray, List.getElem_cons_succ, List.getElem_cons_zero, Act.put, List.setIfInBounds_toArray, List.set_cons_zero, List.set_cons_succ]
            refine wpAnyH_take (i := 10) (v := ?va22) rfl (by kernel_rfl) (by kernel_rfl) (by kernel_rfl) (fun _ _ _ h => h) (Or.inl ⟨by rfl, ?hya22⟩) (by assumption) ?rest22
            case hya22 => (intro wz hSw; (try dsimp only at hSw); go_simp; all_goals with_reducible rfl)
            try simp only [List.getElem_toArray, List.getElem_cons_succ, List.getElem_cons_zero, Act.put, List.setIfInBounds_toArray, List.set_cons_zero, List.set_cons_succ]
            refine wpAnyH_take (i := 11) (v := ?va23) rfl (by kernel_rfl) (by kernel_rfl) (by kernel_rfl) (fun _ _ _ h => h) (Or.inl ⟨by rfl, ?hya23⟩) (by assumption) ?rest23
            case hya23 => (intro wz hSw; (try dsimp only at hSw); go_simp; all_goals with_reducible rfl)
            try simp only [List.getElem_toArray, List.getElem_cons_succ, List.getElem_cons_zero, Act.put, List.setIfInBounds_toArray, List.set_cons_zero, List.set_cons_succ]
            refine wpAnyH_take (i := 12) (v := ?va24) rfl (by kernel_rfl) (by kernel_rfl) (by kernel_rfl) (fun _ _ _ h => h) (Or.inl ⟨by rfl, ?hya24⟩) (by assumption) ?rest24
            case hya24 => (intro wz hSw; (try dsimp only at hSw); go_simp; all_goals with_reducible rfl)
            try simp only [List.getElem_toArray, List.getElem_cons_succ, List.getElem_cons_zero, Act.put, List.setIfInBounds_toArray, List.set_cons_zero, List.set_cons_succ]
            refine wpAnyH_ready (rs := [13]) (by kernel_rfl) (by simp) ?_
            refine AllReadyH.cons rfl (fun K hK => ?_) AllReadyH.nil
            go_simp
            (go_at_call 160; (with_reducible refine (icmpS_any y x _).mono ?_); rintro ee w2 ⟨rfl, b3⟩; rw [HCV.out]; have e0 := (b3.cell (p := ⟨wr.heap.size, 0, none⟩) hl1).trans e0; have e1 := (b3.cell (p := ⟨wr.heap.size, 1, none⟩) hl1).trans e1; have e2 := (b3.cell (p := ⟨wr.heap.size, 2, none⟩) hl1).trans e2; have e3 := (b3.cell (p := ⟨wr.heap.size, 3, none⟩) hl1).trans e3; have e4 := (b3.cell (p := ⟨wr.heap.size, 4, none⟩) hl1).trans e4; have e5 := (b3.cell (p := ⟨wr.heap.size, 5, none⟩) hl1).trans e5; have e6 := (b3.cell (p := ⟨wr.heap.size, 6, none⟩) hl1).trans e6; have e7 := (b3.cell (p := ⟨wr.heap.size, 7, none⟩) hl1).trans e7; have f0 := (b3.cell (p := ⟨b, off + j * 8, none⟩) hl2).trans f0; have f1 := (b3.cell (p := ⟨b, off + j * 8 + 1, none⟩) hl2).trans f1; have f2 := (b3.cell (p := ⟨b, off + j * 8 + 2, none⟩) hl2).trans f2; have f3 := (b3.cell (p := ⟨b, off + j * 8 + 3, none⟩) hl2).trans f3; have f4 := (b3.cell (p := ⟨b, off + j * 8 + 4, none⟩) hl2).trans f4; have f5 := (b3.cell (p := ⟨b, off + j * 8 + 5, none⟩) hl2).trans f5; have f6 := (b3.cell (p := ⟨b, off + j * 8 + 6, none⟩) hl2).trans f6; have f7 := (b3.cell (p := ⟨b, off + j * 8 + 7, none⟩) hl2).trans f7; have B3 := hide (below_trans B2.out b3); clear b3)
            go_wp2_with fail
            refine hK.out _ _ ?_ (fun hHeld13 => ?_)
            · (try dsimp only)
              go_keep
            clear hK K
            try simp only [List.getElem_toArray, List.getElem_cons_succ, List.getElem_cons_zero, Act.put, List.setIfInBounds_toArray, List.set_cons_zero, List.set_cons_succ]
            refine wpAnyH_take (i := 14) (v := ?va25) rfl (by kernel_rfl) (by kernel_rfl) (by kernel_rfl) (fun _ _ _ h => h) (Or.inl ⟨by rfl, ?hya25⟩) (by assumption) ?rest25
            case hya25 => (intro wz hSw; (try dsimp only at hSw); go_simp; all_goals with_reducible rfl)
            try simp only [List.getElem_toArray, List.getElem_cons_succ, List.getElem_cons_zero, Act.put, List.setIfInBounds_toArray, List.set_cons_zero, List.set_cons_succ]
            refine wpAnyH_take (i := 15) (v := ?va26) rfl (by kernel_rfl) (by kernel_rfl) (by kernel_rfl) (fun _ _ _ h => h) (Or.inl ⟨by rfl, ?hya26⟩) (by assumption) ?rest26
            case hya26 => (intro wz hSw; (try dsimp only at hSw); go_simp; all_goals with_reducible rfl)
            try simp only [List.getElem_toArray, List.getElem_cons_succ, List.getElem_cons_zero, Act.put, List.setIfInBounds_toArray, List.set_cons_zero, List.set_cons_succ]
            refine wpAnyH_take (i := 16) (v := ?va27) rfl (by kernel_rfl) (by kernel_rfl) (by kernel_rfl) (fun _ _ _ h => h) (Or.inl ⟨by rfl, ?hya27⟩) (by assumption) ?rest27
            case hya27 => (intro wz hSw; (try dsimp only at hSw); go_simp; all_goals with_reducible rfl)
            try simp only [List.getElem_toArray, List.getElem_cons_succ, List.getElem_cons_zero, Act.put, List.setIfInBounds_toArray, List.set_cons_zero, List.set_cons_succ]
            refine wpAnyH_done (by kernel_rfl) ?_ _
            go_wp2_with fail
            go_roundw
            case rel => exact ⟨j + 1 + 1, by omega, by go_num, NN, B3⟩
            case measure => simp [intOf]; omega
          · have tl : decide (0 ≤ cv) = true := decide_eq_true (by omega)
            have E := hide (stB_bad HL.out (okS_2 HX.out HY.out (by rw [HCV.out]; omega)))
            clear hid hcv
            go_wp2_with fail
            rw [← HW.out]
            clear c0 c1 c2 c3 c4 c5 c6 c7 F0 BA
            refine wp_region_held_drew (S := (fun w' => w'.cell? ⟨wr.heap.size, 0, none⟩ = some (.int .i64 x.md) ∧ w'.cell? ⟨wr.heap.size, 1, none⟩ = some (.int .i64 x.rd) ∧ w'.cell? ⟨wr.heap.size, 2, none⟩ = some (.int .i64 x.sl) ∧ w'.cell? ⟨wr.heap.size, 3, none⟩ = some (.int .i64 x.nd) ∧ w'.cell? ⟨wr.heap.size, 4, none⟩ = some (.int .i64 x.kd) ∧ w'.cell? ⟨wr.heap.size, 5, none⟩ = some (.int .i64 x.sz) ∧ w'.cell? ⟨wr.heap.size, 6, none⟩ = some (.int .i64 x.du) ∧ w'.cell? ⟨wr.heap.size, 7, none⟩ = some (.bool x.ch) ∧ w'.cell? ⟨b, off + j * 8, none⟩ = some (.int .i64 y.md) ∧ w'.cell? ⟨b, off + j * 8 + 1, none⟩ = some (.int .i64 y.rd) ∧ w'.cell? ⟨b, off + j * 8 + 2, none⟩ = some (.int .i64 y.sl) ∧ w'.cell? ⟨b, off + j * 8 + 3, none⟩ = some (.int .i64 y.nd) ∧ w'.cell? ⟨b, off + j * 8 + 4, none⟩ = some (.int .i64 y.kd) ∧ w'.cell? ⟨b, off + j * 8 + 5, none⟩ = some (.int .i64 y.sz) ∧ w'.cell? ⟨b, off + j * 8 + 6, none⟩ = some (.int .i64 y.du) ∧ w'.cell? ⟨b, off + j * 8 + 7, none⟩ = some (.bool y.ch))) (by kernel_rfl) ?_ (fun hHeld => ?_)
            · (try dsimp only)
              go_keep
            refine wpAnyH_take (i := 0) (v := ?va28) rfl (by kernel_rfl) (by kernel_rfl) (by kernel_rfl) (fun _ _ _ h => h) (Or.inl ⟨by rfl, ?hya28⟩) (by assumption) ?rest28
            case hya28 => (intro wz hSw; (try dsimp only at hSw); go_simp; all_goals with_reducible rfl)
            try simp only [List.getElem_toArray, List.getElem_cons_succ, List.getElem_cons_zero, Act.put, List.setIfInBounds_toArray, List.set_cons_zero, List.set_cons_succ]
            refine wpAnyH_ready (rs := [1]) (by kernel_rfl) (by simp) ?_
            refine AllReadyH.cons rfl (fun K hK => ?_) AllReadyH.nil
            go_simp
            (go_at_call 159; (with_reducible refine (islot_any x _).mono ?_); rintro ee w1 ⟨rfl, b1⟩; rw [HN.out]; have b2 := below_drewS2 b1; have e0 := (b2.cell (p := ⟨wr.heap.size, 0, none⟩) hgl).trans d0; have e1 := (b2.cell (p := ⟨wr.heap.size, 1, none⟩) hgl).trans d1; have e2 := (b2.cell (p := ⟨wr.heap.size, 2, none⟩) hgl).trans d2; have e3 := (b2.cell (p := ⟨wr.heap.size, 3, none⟩) hgl).trans d3; have e4 := (b2.cell (p := ⟨wr.heap.size, 4, none⟩) hgl).trans d4; have e5 := (b2.cell (p := ⟨wr.heap.size, 5, none⟩) hgl).trans d5; have e6 := (b2.cell (p := ⟨wr.heap.size, 6, none⟩) hgl).trans d6; have e7 := (b2.cell (p := ⟨wr.heap.size, 7, none⟩) hgl).trans d7; have f0 := (b2.cell (p := ⟨b, off + j * 8, none⟩) hbl).trans p0; have f1 := (b2.cell (p := ⟨b, off + j * 8 + 1, none⟩) hbl).trans p1; have f2 := (b2.cell (p := ⟨b, off + j * 8 + 2, none⟩) hbl).trans p2; have f3 := (b2.cell (p := ⟨b, off + j * 8 + 3, none⟩) hbl).trans p3; have f4 := (b2.cell (p := ⟨b, off + j * 8 + 4, none⟩) hbl).trans p4; have f5 := (b2.cell (p := ⟨b, off + j * 8 + 5, none⟩) hbl).trans p5; have f6 := (b2.cell (p := ⟨b, off + j * 8 + 6, none⟩) hbl).trans p6; have f7 := (b2.cell (p := ⟨b, off + j * 8 + 7, none⟩) hbl).trans p7; have B2 := hide (below_trans HB.out b2); have hl1 : wr.heap.size < w1.heap.size := Nat.lt_of_lt_of_le hgl b2.size; have hl2 : b < w1.heap.size := Nat.lt_of_lt_of_le hbl b2.size; clear b1 b2)
            go_wp2_with fail
            refine hK.out _ _ ?_ (fun hHeld1 => ?_)
            · (try dsimp only)
              go_keep
            clear hK K
            try simp only [List.getElem_toArray, List.getElem_cons_succ, List.getElem_cons_zero, Act.put, List.setIfInBounds_toArray, List.set_cons_zero, List.set_cons_succ]
            refine wpAnyH_take (i := 2) (v := ?va29) rfl (by kernel_rfl) (by kernel_rfl) (by kernel_rfl) (fun _ _ _ h => h) (Or.inl ⟨by rfl, ?hya29⟩) (by assumption) ?rest29
            case hya29 => (intro wz hSw; (try dsimp only at hSw); go_simp; all_goals with_reducible rfl)
            try simp only [List.getElem_toArray, List.getElem_cons_succ, List.getElem_cons_zero, Act.put, List.setIfInBounds_toArray, List.set_cons_zero, List.set_cons_succ]
            refine wpAnyH_take (i := 3) (v := ?va30) rfl (by kernel_rfl) (by kernel_rfl) (by kernel_rfl) (fun _ _ _ h => h) (Or.inl ⟨by rfl, ?hya30⟩) (by assumption) ?rest30
            case hya30 => (intro wz hSw; (try dsimp only at hSw); go_simp; all_goals with_reducible rfl)
            try simp only [List.getElem_toArray, List.getElem_cons_succ, List.getElem_cons_zero, Act.put, List.setIfInBounds_toArray, List.set_cons_zero, List.set_cons_succ]
            refine wpAnyH_take (i := 4) (v := ?va31) rfl (by kernel_rfl) (by kernel_rfl) (by kernel_rfl) (fun _ _ _ h => h) (Or.inl ⟨by rfl, ?hya31⟩) (by assumption) ?rest31
            case hya31 => (intro wz hSw; (try dsimp only at hSw); go_simp; all_goals with_reducible rfl)
            try simp only [List.getElem_toArray, List.getElem_cons_succ, List.getElem_cons_zero, Act.put, List.setIfInBounds_toArray, List.set_cons_zero, List.set_cons_succ]
            refine wpAnyH_take (i := 5) (v := ?va32) rfl (by kernel_rfl) (by kernel_rfl) (by kernel_rfl) (fun _ _ _ h => h) (Or.inl ⟨by rfl, ?hya32⟩) (by assumption) ?rest32
            case hya32 => (intro wz hSw; (try dsimp only at hSw); go_simp; all_goals with_reducible rfl)
            try simp only [List.getElem_toArray, List.getElem_cons_succ, List.getElem_cons_zero, Act.put, List.setIfInBounds_toArray, List.set_cons_zero, List.set_cons_succ]
            refine wpAnyH_take (i := 6) (v := ?va33) rfl (by kernel_rfl) (by kernel_rfl) (by kernel_rfl) (fun _ _ _ h => h) (Or.inl ⟨by rfl, ?hya33⟩) (by assumption) ?rest33
            case hya33 => (intro wz hSw; (try dsimp only at hSw); go_simp; all_goals with_reducible rfl)
            try simp only [List.getElem_toArray, List.getElem_cons_succ, List.getElem_cons_zero, Act.put, List.setIfInBounds_toArray, List.set_cons_zero, List.set_cons_succ]
            refine wpAnyH_take (i := 7) (v := ?va34) rfl (by kernel_rfl) (by kernel_rfl) (by kernel_rfl) (fun _ _ _ h => h) (Or.inl ⟨by rfl, ?hya34⟩) (by assumption) ?rest34
            case hya34 => (intro wz hSw; (try dsimp only at hSw); go_simp; all_goals with_reducible rfl)
            try simp only [List.getElem_toArray, List.getElem_cons_succ, List.getElem_cons_zero, Act.put, List.setIfInBounds_toArray, List.set_cons_zero, List.set_cons_succ]
            refine wpAnyH_take (i := 8) (v := ?va35) rfl (by kernel_rfl) (by kernel_rfl) (by kernel_rfl) (fun _ _ _ h => h) (Or.inl ⟨by rfl, ?hya35⟩) (by assumption) ?rest35
            case hya35 => (intro wz hSw; (try dsimp only at hSw); go_simp; all_goals with_reducible rfl)
            try simp only [List.getElem_toArray, List.getElem_cons_succ, List.getElem_cons_zero, Act.put, List.setIfInBounds_toArray, List.set_cons_zero, List.set_cons_succ]
            refine wpAnyH_take (i := 9) (v := ?va36) rfl (by kernel_rfl) (by kernel_rfl) (by kernel_rfl) (fun _ _ _ h => h) (Or.inl ⟨by rfl, ?hya36⟩) (by assumption) ?rest36
            case hya36 => (intro wz hSw; (try dsimp only at hSw); go_simp; all_goals with_reducible rfl)
            try simp only [List.getElem_toArray, List.getElem_cons_succ, List.getElem_cons_zero, Act.put, List.setIfInBounds_toArray, List.set_cons_zero, List.set_cons_succ]
            refine wpAnyH_take (i := 10) (v := ?va37) rfl (by kernel_rfl) (by kernel_rfl) (by kernel_rfl) (fun _ _ _ h => h) (Or.inl ⟨by rfl, ?hya37⟩) (by assumption) ?rest37
            case hya37 => (intro wz hSw; (try dsimp only at hSw); go_simp; all_goals with_reducible rfl)
            try simp only [List.getElem_toArray, List.getElem_cons_succ, List.getElem_cons_zero, Act.put, List.setIfInBounds_toArray, List.set_cons_zero, List.set_cons_succ]
            refine wpAnyH_take (i := 11) (v := ?va38) rfl (by kernel_rfl) (by kernel_rfl) (by kernel_rfl) (fun _ _ _ h => h) (Or.inl ⟨by rfl, ?hya38⟩) (by assumption) ?rest38
            case hya38 => (intro wz hSw; (try dsimp only at hSw); go_simp; all_goals with_reducible rfl)
            try simp only [List.getElem_toArray, List.getElem_cons_succ, List.getElem_cons_zero, Act.put, List.setIfInBounds_toArray, List.set_cons_zero, List.set_cons_succ]
            refine wpAnyH_take (i := 12) (v := ?va39) rfl (by kernel_rfl) (by kernel_rfl) (by kernel_rfl) (fun _ _ _ h => h) (Or.inl ⟨by rfl, ?hya39⟩) (by assumption) ?rest39
            case hya39 => (intro wz hSw; (try dsimp only at hSw); go_simp; all_goals with_reducible rfl)
            try simp only [List.getElem_toArray, List.getElem_cons_succ, List.getElem_cons_zero, Act.put, List.setIfInBounds_toArray, List.set_cons_zero, List.set_cons_succ]
            refine wpAnyH_ready (rs := [13]) (by kernel_rfl) (by simp) ?_
            refine AllReadyH.cons rfl (fun K hK => ?_) AllReadyH.nil
            go_simp
            (go_at_call 160; (with_reducible refine (icmpS_any y x _).mono ?_); rintro ee w2 ⟨rfl, b3⟩; rw [HCV.out]; have e0 := (b3.cell (p := ⟨wr.heap.size, 0, none⟩) hl1).trans e0; have e1 := (b3.cell (p := ⟨wr.heap.size, 1, none⟩) hl1).trans e1; have e2 := (b3.cell (p := ⟨wr.heap.size, 2, none⟩) hl1).trans e2; have e3 := (b3.cell (p := ⟨wr.heap.size, 3, none⟩) hl1).trans e3; have e4 := (b3.cell (p := ⟨wr.heap.size, 4, none⟩) hl1).trans e4; have e5 := (b3.cell (p := ⟨wr.heap.size, 5, none⟩) hl1).trans e5; have e6 := (b3.cell (p := ⟨wr.heap.size, 6, none⟩) hl1).trans e6; have e7 := (b3.cell (p := ⟨wr.heap.size, 7, none⟩) hl1).trans e7; have f0 := (b3.cell (p := ⟨b, off + j * 8, none⟩) hl2).trans f0; have f1 := (b3.cell (p := ⟨b, off + j * 8 + 1, none⟩) hl2).trans f1; have f2 := (b3.cell (p := ⟨b, off + j * 8 + 2, none⟩) hl2).trans f2; have f3 := (b3.cell (p := ⟨b, off + j * 8 + 3, none⟩) hl2).trans f3; have f4 := (b3.cell (p := ⟨b, off + j * 8 + 4, none⟩) hl2).trans f4; have f5 := (b3.cell (p := ⟨b, off + j * 8 + 5, none⟩) hl2).trans f5; have f6 := (b3.cell (p := ⟨b, off + j * 8 + 6, none⟩) hl2).trans f6; have f7 := (b3.cell (p := ⟨b, off + j * 8 + 7, none⟩) hl2).trans f7; have B3 := hide (below_trans B2.out b3); clear b3)
            go_wp2_with fail
            refine hK.out _ _ ?_ (fun hHeld13 => ?_)
            · (try dsimp only)
              go_keep
            clear hK K
            try simp only [List.getElem_toArray, List.getElem_cons_succ, List.getElem_cons_zero, Act.put, List.setIfInBounds_toArray, List.set_cons_zero, List.set_cons_succ]
            refine wpAnyH_take (i := 14) (v := ?va40) rfl (by kernel_rfl) (by kernel_rfl) (by kernel_rfl) (fun _ _ _ h => h) (Or.inl ⟨by rfl, ?hya40⟩) (by assumption) ?rest40
            case hya40 => (intro wz hSw; (try dsimp only at hSw); go_simp; all_goals with_reducible rfl)
            try simp only [List.getElem_toArray, List.getElem_cons_succ, List.getElem_cons_zero, Act.put, List.setIfInBounds_toArray, List.set_cons_zero, List.set_cons_succ]
            refine wpAnyH_take (i := 15) (v := ?va41) rfl (by kernel_rfl) (by kernel_rfl) (by kernel_rfl) (fun _ _ _ h => h) (Or.inl ⟨by rfl, ?hya41⟩) (by assumption) ?rest41
            case hya41 => (intro wz hSw; (try dsimp only at hSw); go_simp; all_goals with_reducible rfl)
            try simp only [List.getElem_toArray, List.getElem_cons_succ, List.getElem_cons_zero, Act.put, List.setIfInBounds_toArray, List.set_cons_zero, List.set_cons_succ]
            refine wpAnyH_take (i := 16) (v := ?va42) rfl (by kernel_rfl) (by kernel_rfl) (by kernel_rfl) (fun _ _ _ h => h) (Or.inl ⟨by rfl, ?hya42⟩) (by assumption) ?rest42
            case hya42 => (intro wz hSw; (try dsimp only at hSw); go_simp; all_goals with_reducible rfl)
            try simp only [List.getElem_toArray, List.getElem_cons_succ, List.getElem_cons_zero, Act.put, List.setIfInBounds_toArray, List.set_cons_zero, List.set_cons_succ]
            refine wpAnyH_done (by kernel_rfl) ?_ _
            go_wp2
            go_ret
            exact ⟨by rw [E.out]; rfl, B3.out⟩
    · obtain rfl : k = n := by omega
      have E : Hid (stB l = decide ((k : Int) ≤ 120)) := by
        have h1 := hall.out
        show stB l = _
        rw [stB, hlen.out, h1, Bool.true_and]
        congr 1
        simp
        omega
      go_wp2
      go_ret
      exact ⟨by rw [E.out]; rfl, hbel.out⟩
end Go.Proofs.YtdkhldebnpmiiaaGreatDoor
