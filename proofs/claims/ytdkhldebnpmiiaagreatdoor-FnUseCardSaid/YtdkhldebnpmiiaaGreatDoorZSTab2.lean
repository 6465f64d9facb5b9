/- Contracts: a slot table, by the reference. -/
import Derived.Test.YtdkhldebnpmiiaaGreatDoorZSTab
namespace Go.Proofs.YtdkhldebnpmiiaaGreatDoor
open Go.RowKit
set_option linter.unusedVariables false
set_option linter.unusedSimpArgs false
set_option maxHeartbeats 6400000 in
theorem sIsSlotTable_any (A : Option Addr) (n c : Nat) (l : List Slt) (w : World) (h : RdR Slt.v 8 w A n c l) : Calls Tryz.prog 146 #[.slice A n c] w (BoolOut (stB l) w) := by
  have hcap := h.cap
  have hlen := hide h.len
  by_cases h120 : 120 < n
  · have t0 : decide ((120 : Int) < (n : Int)) = true := decide_eq_true (by omega)
    have E := hide (show stB l = false by rw [stB, hlen.out, decide_eq_false (by omega), Bool.and_false])
    go_enter Tryz.func146, Tryz.ntmps146
    go_wp2
    go_ret
    exact ⟨by rw [E.out]; rfl, Below.refl _ _⟩
  have t0 : decide ((120 : Int) < (n : Int)) = false := decide_eq_false (by omega)
  have E0 := hide (show stB l = allS l n by rw [stB, hlen.out, decide_eq_true (by omega), Bool.and_true])
  go_enter Tryz.func146, Tryz.ntmps146
  go_wp2
  go_loopw [3] (fun i wr => ∃ k : Nat, k ≤ n ∧ i = .int .i64 k ∧ Hid (allS l k = true) ∧ Hid (Below w.heap.size w wr)) (fun i _ => n - (intOf i).toNat)
  case atStart => exact ⟨0, by omega, rfl, hide rfl, hide (Below.refl _ _)⟩
  case round =>
    obtain ⟨k, hk, rfl, hall, hbel⟩ := hrel
    by_cases hlt : k < n
    · obtain ⟨b, off, x, rfl, hb, hx, c0, c1, c2, c3, c4, c5, c6, c7⟩ := slt_at (h.below hbel.out) hlt
      have HX := hide hx
      have HL := hide (show k < l.length by rw [hlen.out]; exact hlt)
      clear hx
      cases hn : sltB x
      · have E := hide (stB_bad HL.out (okS_1 HX.out hn))
        have HN := hide hn
        clear hn
        go_wp2_with fail
        refine wp_region_held_drew (S := (fun w' => w'.cell? ⟨b, off + k * 8, none⟩ = some (.int .i64 x.md) ∧ w'.cell? ⟨b, off + k * 8 + 1, none⟩ = some (.int .i64 x.rd) ∧ w'.cell? ⟨b, off + k * 8 + 2, none⟩ = some (.int .i64 x.sl) ∧ w'.cell? ⟨b, off + k * 8 + 3, none⟩ = some (.int .i64 x.nd) ∧ w'.cell? ⟨b, off + k * 8 + 4, none⟩ = some (.int .i64 x.kd) ∧ w'.cell? ⟨b, off + k * 8 + 5, none⟩ = some (.int .i64 x.sz) ∧ w'.cell? ⟨b, off + k * 8 + 6, none⟩ = some (.int .i64 x.du) ∧ w'.cell? ⟨b, off + k * 8 + 7, none⟩ = some (.bool x.ch))) (by kernel_rfl) ?_ (fun hHeld => ?_)
        · (try dsimp only)
          go_keep
        refine wpAnyH_take (i := 0) (v := ?va43) rfl (by kernel_rfl) (by kernel_rfl) (by kernel_rfl) (fun _ _ _ h => h) (Or.inl ⟨by rfl, ?hya43⟩) (by assumption) ?rest43
        case hya43 => (intro wz hSw; (try dsimp only at hSw); go_simp; all_goals with_reducible rfl)
        try simp only [List.getElem_toArray, List.getElem_cons_succ, List.getElem_cons_zero, Act.put, List.setIfInBounds_toArray, List.set_cons_zero, List.set_cons_succ]
        refine wpAnyH_take (i := 1) (v := ?va44) rfl (by kernel_rfl) (by kernel_rfl) (by kernel_rfl) (fun _ _ _ h => h) (Or.inl ⟨by rfl, ?hya44⟩) (by assumption) ?rest44
        case hya44 => (intro wz hSw; (try dsimp only at hSw); go_simp; all_goals with_reducible rfl)
        try simp only [List.getElem_toArray, List.getElem_cons_succ, List.getElem_cons_zero, Act.put, List.setIfInBounds_toArray, List.set_cons_zero, List.set_cons_succ]
        refine wpAnyH_take (i := 2) (v := ?va45) rfl (by kernel_rfl) (by kernel_rfl) (by kernel_rfl) (fun _ _ _ h => h) (Or.inl ⟨by rfl, ?hya45⟩) (by assumption) ?rest45
        case hya45 => (intro wz hSw; (try dsimp only at hSw); go_simp; all_goals with_reducible rfl)
        try simp only [List.getElem_toArray, List.getElem_cons_succ, List.getElem_cons_zero, Act.put, List.setIfInBounds_toArray, List.set_cons_zero, List.set_cons_succ]
        refine wpAnyH_take (i := 3) (v := ?va46) rfl (by kernel_rfl) (by kernel_rfl) (by kernel_rfl) (fun _ _ _ h => h) (Or.inl ⟨by rfl, ?hya46⟩) (by assumption) ?rest46
        case hya46 => (intro wz hSw; (try dsimp only at hSw); go_simp; all_goals with_reducible rfl)
        try simp only [List.getElem_toArray, List.getElem_cons_succ, List.getElem_cons_zero, Act.put, List.setIfInBounds_toArray, List.set_cons_zero, List.set_cons_succ]
        refine wpAnyH_ready (rs := [4]) (by kernel_rfl) (by simp) ?_
        refine AllReadyH.cons rfl (fun K hK => ?_) AllReadyH.nil
        go_simp
        (go_at_call 165; (with_reducible refine (sslot_any x _).mono ?_); rintro ee w1 ⟨rfl, b1⟩; rw [HN.out]; have b2 := below_drewS2 b1; have e0 := (b2.cell (p := ⟨b, off + k * 8, none⟩) hb).trans c0; have e1 := (b2.cell (p := ⟨b, off + k * 8 + 1, none⟩) hb).trans c1; have e2 := (b2.cell (p := ⟨b, off + k * 8 + 2, none⟩) hb).trans c2; have e3 := (b2.cell (p := ⟨b, off + k * 8 + 3, none⟩) hb).trans c3; have e4 := (b2.cell (p := ⟨b, off + k * 8 + 4, none⟩) hb).trans c4; have e5 := (b2.cell (p := ⟨b, off + k * 8 + 5, none⟩) hb).trans c5; have e6 := (b2.cell (p := ⟨b, off + k * 8 + 6, none⟩) hb).trans c6; have e7 := (b2.cell (p := ⟨b, off + k * 8 + 7, none⟩) hb).trans c7; have B2 := hide (below_trans hbel.out b2); have hl1 : b < w1.heap.size := Nat.lt_of_lt_of_le hb b2.size; have hl2 := hl1; clear b1 b2)
        go_wp2_with fail
        refine hK.out _ _ ?_ (fun hHeld4 => ?_)
        · (try dsimp only)
          go_keep
        clear hK K
        try simp only [List.getElem_toArray, List.getElem_cons_succ, List.getElem_cons_zero, Act.put, List.setIfInBounds_toArray, List.set_cons_zero, List.set_cons_succ]
        refine wpAnyH_take (i := 5) (v := ?va47) rfl (by kernel_rfl) (by kernel_rfl) (by kernel_rfl) (fun _ _ _ h => h) (Or.inl ⟨by rfl, ?hya47⟩) (by assumption) ?rest47
        case hya47 => (intro wz hSw; (try dsimp only at hSw); go_simp; all_goals with_reducible rfl)
        try simp only [List.getElem_toArray, List.getElem_cons_succ, List.getElem_cons_zero, Act.put, List.setIfInBounds_toArray, List.set_cons_zero, List.set_cons_succ]
        refine wpAnyH_take (i := 6) (v := ?va48) rfl (by kernel_rfl) (by kernel_rfl) (by kernel_rfl) (fun _ _ _ h => h) (Or.inl ⟨by rfl, ?hya48⟩) (by assumption) ?rest48
        case hya48 => (intro wz hSw; (try dsimp only at hSw); go_simp; all_goals with_reducible rfl)
        try simp only [List.getElem_toArray, List.getElem_cons_succ, List.getElem_cons_zero, Act.put, List.setIfInBounds_toArray, List.set_cons_zero, List.set_cons_succ]
        refine wpAnyH_take (i := 7) (v := undef) rfl (by kernel_rfl) (by kernel_rfl) (by kernel_rfl) (fun _ _ _ h => h) (Or.inr ⟨by rfl, rfl⟩) (by assumption) ?_
        try simp only [List.getElem_toArray, List.getElem_cons_succ, List.getElem_cons_zero, Act.put, List.setIfInBounds_toArray, List.set_cons_zero, List.set_cons_succ]
        refine wpAnyH_take (i := 8) (v := undef) rfl (by kernel_rfl) (by kernel_rfl) (by kernel_rfl) (fun _ _ _ h => h) (Or.inr ⟨by rfl, rfl⟩) (by assumption) ?_
        try simp only [List.getElem_toArray, List.getElem_cons_succ, List.getElem_cons_zero, Act.put, List.setIfInBounds_toArray, List.set_cons_zero, List.set_cons_succ]
        refine wpAnyH_take (i := 9) (v := undef) rfl (by kernel_rfl) (by kernel_rfl) (by kernel_rfl) (fun _ _ _ h => h) (Or.inr ⟨by rfl, rfl⟩) (by assumption) ?_
        try simp only [List.getElem_toArray, List.getElem_cons_succ, List.getElem_cons_zero, Act.put, List.setIfInBounds_toArray, List.set_cons_zero, List.set_cons_succ]
        refine wpAnyH_take (i := 10) (v := undef) rfl (by kernel_rfl) (by kernel_rfl) (by kernel_rfl) (fun _ _ _ h => h) (Or.inr ⟨by rfl, rfl⟩) (by assumption) ?_
        try simp only [List.getElem_toArray, List.getElem_cons_succ, List.getElem_cons_zero, Act.put, List.setIfInBounds_toArray, List.set_cons_zero, List.set_cons_succ]
        refine wpAnyH_take (i := 11) (v := undef) rfl (by kernel_rfl) (by kernel_rfl) (by kernel_rfl) (fun _ _ _ h => h) (Or.inr ⟨by rfl, rfl⟩) (by assumption) ?_
        try simp only [List.getElem_toArray, List.getElem_cons_succ, List.getElem_cons_zero, Act.put, List.setIfInBounds_toArray, List.set_cons_zero, List.set_cons_succ]
        refine wpAnyH_take (i := 12) (v := undef) rfl (by kernel_rfl) (by kernel_rfl) (by kernel_rfl) (fun _ _ _ h => h) (Or.inr ⟨by rfl, rfl⟩) (by assumption) ?_
        try simp only [List.getElem_toArray, List.getElem_cons_succ, List.getElem_cons_zero, Act.put, List.setIfInBounds_toArray, List.set_cons_zero, List.set_cons_succ]
        refine wpAnyH_take (i := 13) (v := undef) rfl (by kernel_rfl) (by kernel_rfl) (by kernel_rfl) (fun _ _ _ h => h) (Or.inr ⟨by rfl, rfl⟩) (by assumption) ?_
        try simp only [List.getElem_toArray, List.getElem_cons_succ, List.getElem_cons_zero, Act.put, List.setIfInBounds_toArray, List.set_cons_zero, List.set_cons_succ]
        refine wpAnyH_take (i := 14) (v := undef) rfl (by kernel_rfl) (by kernel_rfl) (by kernel_rfl) (fun _ _ _ h => h) (Or.inr ⟨by rfl, rfl⟩) (by assumption) ?_
        try simp only [List.getElem_toArray, List.getElem_cons_succ, List.getElem_cons_zero, Act.put, List.setIfInBounds_toArray, List.set_cons_zero, List.set_cons_succ]
        refine wpAnyH_take (i := 15) (v := undef) rfl (by kernel_rfl) (by kernel_rfl) (by kernel_rfl) (fun _ _ _ h => h) (Or.inr ⟨by rfl, rfl⟩) (by assumption) ?_
        try simp only [List.getElem_toArray, List.getElem_cons_succ, List.getElem_cons_zero, Act.put, List.setIfInBounds_toArray, List.set_cons_zero, List.set_cons_succ]
        refine wpAnyH_take (i := 16) (v := undef) rfl (by kernel_rfl) (by kernel_rfl) (by kernel_rfl) (fun _ _ _ h => h) (Or.inr ⟨by rfl, rfl⟩) (by assumption) ?_
        try simp only [List.getElem_toArray, List.getElem_cons_succ, List.getElem_cons_zero, Act.put, List.setIfInBounds_toArray, List.set_cons_zero, List.set_cons_succ]
        refine wpAnyH_take (i := 17) (v := undef) rfl (by kernel_rfl) (by kernel_rfl) (by kernel_rfl) (fun _ _ _ h => h) (Or.inr ⟨by rfl, rfl⟩) (by assumption) ?_
        try simp only [List.getElem_toArray, List.getElem_cons_succ, List.getElem_cons_zero, Act.put, List.setIfInBounds_toArray, List.set_cons_zero, List.set_cons_succ]
        refine wpAnyH_take (i := 18) (v := undef) rfl (by kernel_rfl) (by kernel_rfl) (by kernel_rfl) (fun _ _ _ h => h) (Or.inr ⟨by rfl, rfl⟩) (by assumption) ?_
        try simp only [List.getElem_toArray, List.getElem_cons_succ, List.getElem_cons_zero, Act.put, List.setIfInBounds_toArray, List.set_cons_zero, List.set_cons_succ]
        refine wpAnyH_take (i := 19) (v := undef) rfl (by kernel_rfl) (by kernel_rfl) (by kernel_rfl) (fun _ _ _ h => h) (Or.inr ⟨by rfl, rfl⟩) (by assumption) ?_
        try simp only [List.getElem_toArray, List.getElem_cons_succ, List.getElem_cons_zero, Act.put, List.setIfInBounds_toArray, List.set_cons_zero, List.set_cons_succ]
        refine wpAnyH_take (i := 20) (v := undef) rfl (by kernel_rfl) (by kernel_rfl) (by kernel_rfl) (fun _ _ _ h => h) (Or.inr ⟨by rfl, rfl⟩) (by assumption) ?_
        try simp only [List.getElem_toArray, List.getElem_cons_succ, List.getElem_cons_zero, Act.put, List.setIfInBounds_toArray, List.set_cons_zero, List.set_cons_succ]
        refine wpAnyH_take (i := 21) (v := undef) rfl (by kernel_rfl) (by kernel_rfl) (by kernel_rfl) (fun _ _ _ h => h) (Or.inr ⟨by rfl, rfl⟩) (by assumption) ?_
        try simp only [List.getElem_toArray, List.getElem_cons_succ, List.getElem_cons_zero, Act.put, List.setIfInBounds_toArray, List.set_cons_zero, List.set_cons_succ]
        refine wpAnyH_take (i := 22) (v := ?va49) rfl (by kernel_rfl) (by kernel_rfl) (by kernel_rfl) (fun _ _ _ h => h) (Or.inl ⟨by rfl, ?hya49⟩) (by assumption) ?rest49
        case hya49 => (intro wz hSw; (try dsimp only at hSw); go_simp; all_goals with_reducible rfl)
        try simp only [List.getElem_toArray, List.getElem_cons_succ, List.getElem_cons_zero, Act.put, List.setIfInBounds_toArray, List.set_cons_zero, List.set_cons_succ]
        refine wpAnyH_done (by kernel_rfl) ?_ _
        go_wp2
        go_ret
        exact ⟨by rw [E.out]; rfl, B2.out⟩
      · have HN := hide hn
        rcases Nat.eq_zero_or_pos k with rfl | hpos
        · have NN := hide (show allS l 1 = true by rw [allS_succ, hall.out, okS_4 HX.out hn]; rfl)
          simp only [Nat.zero_mul, Nat.add_zero] at c0 c1 c2 c3 c4 c5 c6 c7
          clear hn
          go_wp2_with fail
          refine wp_region_held_drew (S := (fun w' => w'.cell? ⟨b, off, none⟩ = some (.int .i64 x.md) ∧ w'.cell? ⟨b, off + 1, none⟩ = some (.int .i64 x.rd) ∧ w'.cell? ⟨b, off + 2, none⟩ = some (.int .i64 x.sl) ∧ w'.cell? ⟨b, off + 3, none⟩ = some (.int .i64 x.nd) ∧ w'.cell? ⟨b, off + 4, none⟩ = some (.int .i64 x.kd) ∧ w'.cell? ⟨b, off + 5, none⟩ = some (.int .i64 x.sz) ∧ w'.cell? ⟨b, off + 6, none⟩ = some (.int .i64 x.du) ∧ w'.cell? ⟨b, off + 7, none⟩ = some (.bool x.ch))) (by kernel_rfl) ?_ (fun hHeld => ?_)
          · (try dsimp only)
            go_keep
          refine wpAnyH_take (i := 0) (v := ?va50) rfl (by kernel_rfl) (by kernel_rfl) (by kernel_rfl) (fun _ _ _ h => h) (Or.inl ⟨by rfl, ?hya50⟩) (by assumption) ?rest50
          case hya50 => (intro wz hSw; (try dsimp only at hSw); go_simp; all_goals with_reducible rfl)
          try simp only [List.getElem_toArray, List.getElem_cons_succ, List.getElem_cons_zero, Act.put, List.setIfInBounds_toArray, List.set_cons_zero, List.set_cons_succ]
          refine wpAnyH_take (i := 1) (v := ?va51) rfl (by kernel_rfl) (by kernel_rfl) (by kernel_rfl) (fun _ _ _ h => h) (Or.inl ⟨by rfl, ?hya51⟩) (by assumption) ?rest51
          case hya51 => (intro wz hSw; (try dsimp only at hSw); go_simp; all_goals with_reducible rfl)
          try simp only [List.getElem_toArray, List.getElem_cons_succ, List.getElem_cons_zero, Act.put, List.setIfInBounds_toArray, List.set_cons_zero, List.set_cons_succ]
          refine wpAnyH_take (i := 2) (v := ?va52) rfl (by kernel_rfl) (by kernel_rfl) (by kernel_rfl) (fun _ _ _ h => h) (Or.inl ⟨by rfl, ?hya52⟩) (by assumption) ?rest52
          case hya52 => (intro wz hSw; (try dsimp only at hSw); go_simp; all_goals with_reducible rfl)
          try simp only [List.getElem_toArray, List.getElem_cons_succ, List.getElem_cons_zero, Act.put, List.setIfInBounds_toArray, List.set_cons_zero, List.set_cons_succ]
          refine wpAnyH_take (i := 3) (v := ?va53) rfl (by kernel_rfl) (by kernel_rfl) (by kernel_rfl) (fun _ _ _ h => h) (Or.inl ⟨by rfl, ?hya53⟩) (by assumption) ?rest53
          case hya53 => (intro wz hSw; (try dsimp only at hSw); go_simp; all_goals with_reducible rfl)
          try simp only [List.getElem_toArray, List.getElem_cons_succ, List.getElem_cons_zero, Act.put, List.setIfInBounds_toArray, List.set_cons_zero, List.set_cons_succ]
          refine wpAnyH_ready (rs := [4]) (by kernel_rfl) (by simp) ?_
          refine AllReadyH.cons rfl (fun K hK => ?_) AllReadyH.nil
          go_simp
          (go_at_call 165; (with_reducible refine (sslot_any x _).mono ?_); rintro ee w1 ⟨rfl, b1⟩; rw [HN.out]; have b2 := below_drewS2 b1; have e0 := (b2.cell (p := ⟨b, off, none⟩) hb).trans c0; have e1 := (b2.cell (p := ⟨b, off + 1, none⟩) hb).trans c1; have e2 := (b2.cell (p := ⟨b, off + 2, none⟩) hb).trans c2; have e3 := (b2.cell (p := ⟨b, off + 3, none⟩) hb).trans c3; have e4 := (b2.cell (p := ⟨b, off + 4, none⟩) hb).trans c4; have e5 := (b2.cell (p := ⟨b, off + 5, none⟩) hb).trans c5; have e6 := (b2.cell (p := ⟨b, off + 6, none⟩) hb).trans c6; have e7 := (b2.cell (p := ⟨b, off + 7, none⟩) hb).trans c7; have B2 := hide (below_trans hbel.out b2); have hl1 : b < w1.heap.size := Nat.lt_of_lt_of_le hb b2.size; have hl2 := hl1; clear b1 b2)
          go_wp2_with fail
          refine hK.out _ _ ?_ (fun hHeld4 => ?_)
          · (try dsimp only)
            go_keep
          clear hK K
          try simp only [List.getElem_toArray, List.getElem_cons_succ, List.getElem_cons_zero, Act.put, List.setIfInBounds_toArray, List.set_cons_zero, List.set_cons_succ]
          refine wpAnyH_take (i := 5) (v := ?va54) rfl (by kernel_rfl) (by kernel_rfl) (by kernel_rfl) (fun _ _ _ h => h) (Or.inl ⟨by rfl, ?hya54⟩) (by assumption) ?rest54
          case hya54 => (intro wz hSw; (try dsimp only at hSw); go_simp; all_goals with_reducible rfl)
          try simp only [List.getElem_toArray, List.getElem_cons_succ, List.getElem_cons_zero, Act.put, List.setIfInBounds_toArray, List.set_cons_zero, List.set_cons_succ]
          refine wpAnyH_take (i := 6) (v := ?va55) rfl (by kernel_rfl) (by kernel_rfl) (by kernel_rfl) (fun _ _ _ h => h) (Or.inl ⟨by rfl, ?hya55⟩) (by assumption) ?rest55
          case hya55 => (intro wz hSw; (try dsimp only at hSw); go_simp; all_goals with_reducible rfl)
          try simp only [List.getElem_toArray, List.getElem_cons_succ, List.getElem_cons_zero, Act.put, List.setIfInBounds_toArray, List.set_cons_zero, List.set_cons_succ]
          refine wpAnyH_take (i := 7) (v := ?va56) rfl (by kernel_rfl) (by kernel_rfl) (by kernel_rfl) (fun _ _ _ h => h) (Or.inl ⟨by rfl, ?hya56⟩) (by assumption) ?rest56
          case hya56 => (intro wz hSw; (try dsimp only at hSw); go_simp; all_goals with_reducible rfl)
          try simp only [List.getElem_toArray, List.getElem_cons_succ, List.getElem_cons_zero, Act.put, List.setIfInBounds_toArray, List.set_cons_zero, List.set_cons_succ]
          refine wpAnyH_take (i := 8) (v := ?va57) rfl (by kernel_rfl) (by kernel_rfl) (by kernel_rfl) (fun _ _ _ h => h) (Or.inl ⟨by rfl, ?hya57⟩) (by assumption) ?rest57
          case hya57 => (intro wz hSw; (try dsimp only at hSw); go_simp; all_goals with_reducible rfl)
          try simp only [List.getElem_toArray, List.getElem_cons_succ, List.getElem_cons_zero, Act.put, List.setIfInBounds_toArray, List.set_cons_zero, List.set_cons_succ]
          refine wpAnyH_take (i := 9) (v := ?va58) rfl (by kernel_rfl) (by kernel_rfl) (by kernel_rfl) (fun _ _ _ h => h) (Or.inl ⟨by rfl, ?hya58⟩) (by assumption) ?rest58
          case hya58 => (intro wz hSw; (try dsimp only at hSw); go_simp; all_goals with_reducible rfl)
          try simp only [List.getElem_toArray, List.getElem_cons_succ, List.getElem_cons_zero, Act.put, List.setIfInBounds_toArray, List.set_cons_zero, List.set_cons_succ]
          refine wpAnyH_take (i := 10) (v := undef) rfl (by kernel_rfl) (by kernel_rfl) (by kernel_rfl) (fun _ _ _ h => h) (Or.inr ⟨by rfl, rfl⟩) (by assumption) ?_
          try simp only [List.getElem_toArray, List.getElem_cons_succ, List.getElem_cons_zero, Act.put, List.setIfInBounds_toArray, List.set_cons_zero, List.set_cons_succ]
          refine wpAnyH_take (i := 11) (v := undef) rfl (by kernel_rfl) (by kernel_rfl) (by kernel_rfl) (fun _ _ _ h => h) (Or.inr ⟨by rfl, rfl⟩) (by assumption) ?_
          try simp only [List.getElem_toArray, List.getElem_cons_succ, List.getElem_cons_zero, Act.put, List.setIfInBounds_toArray, List.set_cons_zero, List.set_cons_succ]
          refine wpAnyH_take (i := 12) (v := undef) rfl (by kernel_rfl) (by kernel_rfl) (by kernel_rfl) (fun _ _ _ h => h) (Or.inr ⟨by rfl, rfl⟩) (by assumption) ?_
          try simp only [List.getElem_toArray, List.getElem_cons_succ, List.getElem_cons_zero, Act.put, List.setIfInBounds_toArray, List.set_cons_zero, List.set_cons_succ]
          refine wpAnyH_take (i := 13) (v := undef) rfl (by kernel_rfl) (by kernel_rfl) (by kernel_rfl) (fun _ _ _ h => h) (Or.inr ⟨by rfl, rfl⟩) (by assumption) ?_
          try simp only [List.getElem_toArray, List.getElem_cons_succ, List.getElem_cons_zero, Act.put, List.setIfInBounds_toArray, List.set_cons_zero, List.set_cons_succ]
          refine wpAnyH_take (i := 14) (v := undef) rfl (by kernel_rfl) (by kernel_rfl) (by kernel_rfl) (fun _ _ _ h => h) (Or.inr ⟨by rfl, rfl⟩) (by assumption) ?_
          try simp only [List.getElem_toArray, List.getElem_cons_succ, List.getElem_cons_zero, Act.put, List.setIfInBounds_toArray, List.set_cons_zero, List.set_cons_succ]
          refine wpAnyH_take (i := 15) (v := undef) rfl (by kernel_rfl) (by kernel_rfl) (by kernel_rfl) (fun _ _ _ h => h) (Or.inr ⟨by rfl, rfl⟩) (by assumption) ?_
          try simp only [List.getElem_toArray, List.getElem_cons_succ, List.getElem_cons_zero, Act.put, List.setIfInBounds_toArray, List.set_cons_zero, List.set_cons_succ]
          refine wpAnyH_take (i := 16) (v := undef) rfl (by kernel_rfl) (by kernel_rfl) (by kernel_rfl) (fun _ _ _ h => h) (Or.inr ⟨by rfl, rfl⟩) (by assumption) ?_
          try simp only [List.getElem_toArray, List.getElem_cons_succ, List.getElem_cons_zero, Act.put, List.setIfInBounds_toArray, List.set_cons_zero, List.set_cons_succ]
          refine wpAnyH_take (i := 17) (v := undef) rfl (by kernel_rfl) (by kernel_rfl) (by kernel_rfl) (fun _ _ _ h => h) (Or.inr ⟨by rfl, rfl⟩) (by assumption) ?_
          try simp only [List.getElem_toArray, List.getElem_cons_succ, List.getElem_cons_zero, Act.put, List.setIfInBounds_toArray, List.set_cons_zero, List.set_cons_succ]
          refine wpAnyH_take (i := 18) (v := undef) rfl (by kernel_rfl) (by kernel_rfl) (by kernel_rfl) (fun _ _ _ h => h) (Or.inr ⟨by rfl, rfl⟩) (by assumption) ?_
          try simp only [List.getElem_toArray, List.getElem_cons_succ, List.getElem_cons_zero, Act.put, List.setIfInBounds_toArray, List.set_cons_zero, List.set_cons_succ]
          refine wpAnyH_take (i := 19) (v := undef) rfl (by kernel_rfl) (by kernel_rfl) (by kernel_rfl) (fun _ _ _ h => h) (Or.inr ⟨by rfl, rfl⟩) (by assumption) ?_
          try simp only [List.getElem_toArray, List.getElem_cons_succ, List.getElem_cons_zero, Act.put, List.setIfInBounds_toArray, List.set_cons_zero, List.set_cons_succ]
          refine wpAnyH_take (i := 20) (v := undef) rfl (by kernel_rfl) (by kernel_rfl) (by kernel_rfl) (fun _ _ _ h => h) (Or.inr ⟨by rfl, rfl⟩) (by assumption) ?_
          try simp only [List.getElem_toArray, List.getElem_cons_succ, List.getElem_cons_zero, Act.put, List.setIfInBounds_toArray, List.set_cons_zero, List.set_cons_succ]
          refine wpAnyH_take (i := 21) (v := ?va59) rfl (by kernel_rfl) (by kernel_rfl) (by kernel_rfl) (fun _ _ _ h => h) (Or.inl ⟨by rfl, ?hya59⟩) (by assumption) ?rest59
          case hya59 => (intro wz hSw; (try dsimp only at hSw); go_simp; all_goals with_reducible rfl)
          try simp only [List.getElem_toArray, List.getElem_cons_succ, List.getElem_cons_zero, Act.put, List.setIfInBounds_toArray, List.set_cons_zero, List.set_cons_succ]
          refine wpAnyH_take (i := 22) (v := ?va60) rfl (by kernel_rfl) (by kernel_rfl) (by kernel_rfl) (fun _ _ _ h => h) (Or.inl ⟨by rfl, ?hya60⟩) (by assumption) ?rest60
          case hya60 => (intro wz hSw; (try dsimp only at hSw); go_simp; all_goals with_reducible rfl)
          try simp only [List.getElem_toArray, List.getElem_cons_succ, List.getElem_cons_zero, Act.put, List.setIfInBounds_toArray, List.set_cons_zero, List.set_cons_succ]
          refine wpAnyH_done (by kernel_rfl) ?_ _
          go_wp2_with fail
          go_roundw
          case rel => exact ⟨1, by omega, by go_num, NN, B2⟩
          case measure => simp [intOf]; omega
        · clear hn
          obtain ⟨j, rfl⟩ : ∃ j, k = j + 1 := ⟨k - 1, by omega⟩
          obtain ⟨b', off', y, hA', hb', hy, p0', p1', p2', p3', p4', p5', p6', p7'⟩ := slt_at (h.below hbel.out) (i := j) (by omega)
          simp only [Option.some.injEq, Addr.mk.injEq] at hA'
          obtain ⟨rfl, rfl, _⟩ := hA'
          have p0 := p0'
          have p1 := p1'
          have p2 := p2'
          have p3 := p3'
          have p4 := p4'
          have p5 := p5'
          have p6 := p6'
          have p7 := p7'
          have hbl := hb
          have HY := hide hy
          have tg : decide ((0 : Int) < ((j + 1 : Nat) : Int)) = true := decide_eq_true (by omega)
          have ei : (((j + 1 : Nat) : Int) - 1) = (j : Int) := by omega
          have z1 : (0 : Int) ≤ (j : Int) := by omega
          have z2 : (j : Int) < (n : Int) := by omega
          have z3 : (0 : Int) ≤ (j : Int) + 1 := by omega
          have z4 : (j : Int) + 1 < (n : Int) := by omega
          have tw : IntKind.i64.wrap (j : Int) = (j : Int) := IntWalk.i64_in _ ⟨by omega, by omega⟩
          obtain ⟨cv, hcv⟩ : ∃ cv, cv = cmpS y x := ⟨_, rfl⟩
          have HCV := hide hcv.symm
          clear hy p0' p1' p2' p3' p4' p5' p6' p7'
          by_cases hid : cv < 0
          · have tl : decide (0 ≤ cv) = false := decide_eq_false (by omega)
            have NN := hide (show allS l (j + 1 + 1) = true by rw [allS_succ, hall.out, okS_5 HX.out HY.out HN.out (by rw [HCV.out]; exact hid)]; rfl)
            clear hid hcv
            go_wp2_with fail
            refine wp_region_held_drew (S := (fun w' => w'.cell? ⟨b, off + (j + 1) * 8, none⟩ = some (.int .i64 x.md) ∧ w'.cell? ⟨b, off + (j + 1) * 8 + 1, none⟩ = some (.int .i64 x.rd) ∧ w'.cell? ⟨b, off + (j + 1) * 8 + 2, none⟩ = some (.int .i64 x.sl) ∧ w'.cell? ⟨b, off + (j + 1) * 8 + 3, none⟩ = some (.int .i64 x.nd) ∧ w'.cell? ⟨b, off + (j + 1) * 8 + 4, none⟩ = some (.int .i64 x.kd) ∧ w'.cell? ⟨b, off + (j + 1) * 8 + 5, none⟩ = some (.int .i64 x.sz) ∧ w'.cell? ⟨b, off + (j + 1) * 8 + 6, none⟩ = some (.int .i64 x.du) ∧ w'.cell? ⟨b, off + (j + 1) * 8 + 7, none⟩ = some (.bool x.ch) ∧ w'.cell? ⟨b, off + j * 8, none⟩ = some (.int .i64 y.md) ∧ w'.cell? ⟨b, off + j * 8 + 1, none⟩ = some (.int .i64 y.rd) ∧ w'.cell? ⟨b, off + j * 8 + 2, none⟩ = some (.int .i64 y.sl) ∧ w'.cell? ⟨b, off + j * 8 + 3, none⟩ = some (.int .i64 y.nd) ∧ w'.cell? ⟨b, off + j * 8 + 4, none⟩ = some (.int .i64 y.kd) ∧ w'.cell? ⟨b, off + j * 8 + 5, none⟩ = some (.int .i64 y.sz) ∧ w'.cell? ⟨b, off + j * 8 + 6, none⟩ = some (.int .i64 y.du) ∧ w'.cell? ⟨b, off + j * 8 + 7, none⟩ = some (.bool y.ch))) (by kernel_rfl) ?_ (fun hHeld => ?_)
            · (try dsimp only)
              go_keep
            refine wpAnyH_take (i := 0) (v := ?va61) rfl (by kernel_rfl) (by kernel_rfl) (by kernel_rfl) (fun _ _ _ h => h) (Or.inl ⟨by rfl, ?hya61⟩) (by assumption) ?rest61
            case hya61 => (intro wz hSw; (try dsimp only at hSw); go_simp; all_goals with_reducible rfl)
            try simp only [List.getElem_toArray, List.getElem_cons_succ, List.getElem_cons_zero, Act.put, List.setIfInBounds_toArray, List.set_cons_zero, List.set_cons_succ]
            refine wpAnyH_take (i := 1) (v := ?va62) rfl (by kernel_rfl) (by kernel_rfl) (by kernel_rfl) (fun _ _ _ h => h) (Or.inl ⟨by rfl, ?hya62⟩) (by assumption) ?rest62
            case hya62 => (intro wz hSw; (try dsimp only at hSw); go_simp; all_goals with_reducible rfl)
            try simp only [List.getElem_toArray, List.getElem_cons_succ, List.getElem_cons_zero, Act.put, List.setIfInBounds_toArray, List.set_cons_zero, List.set_cons_succ]
            refine wpAnyH_take (i := 2) (v := ?va63) rfl (by kernel_rfl) (by kernel_rfl) (by kernel_rfl) (fun _ _ _ h => h) (Or.inl ⟨by rfl, ?hya63⟩) (by assumption) ?rest63
            case hya63 => (intro wz hSw; (try dsimp only at hSw); go_simp; all_goals with_reducible rfl)
            try simp only [List.getElem_toArray, List.getElem_cons_succ, List.getElem_cons_zero, Act.put, List.setIfInBounds_toArray, List.set_cons_zero, List.set_cons_succ]
            refine wpAnyH_take (i := 3) (v := ?va64) rfl (by kernel_rfl) (by kernel_rfl) (by kernel_rfl) (fun _ _ _ h => h) (Or.inl ⟨by rfl, ?hya64⟩) (by assumption) ?rest64
            case hya64 => (intro wz hSw; (try dsimp only at hSw); go_simp; all_goals with_reducible rfl)
            try simp only [List.getElem_toArray, List.getElem_cons_succ, List.getElem_cons_zero, Act.put, List.setIfInBounds_toArray, List.set_cons_zero, List.set_cons_succ]
            refine wpAnyH_ready (rs := [4]) (by kernel_rfl) (by simp) ?_
            refine AllReadyH.cons rfl (fun K hK => ?_) AllReadyH.nil
            go_simp
            (go_at_call 165; (with_reducible refine (sslot_any x _).mono ?_); rintro ee w1 ⟨rfl, b1⟩; rw [HN.out]; have b2 := below_drewS2 b1; have e0 := (b2.cell (p := ⟨b, off + (j + 1) * 8, none⟩) hb).trans c0; have e1 := (b2.cell (p := ⟨b, off + (j + 1) * 8 + 1, none⟩) hb).trans c1; have e2 := (b2.cell (p := ⟨b, off + (j + 1) * 8 + 2, none⟩) hb).trans c2; have e3 := (b2.cell (p := ⟨b, off + (j + 1) * 8 + 3, none⟩) hb).trans c3; have e4 := (b2.cell (p := ⟨b, off + (j + 1) * 8 + 4, none⟩) hb).trans c4; have e5 := (b2.cell (p := ⟨b, off + (j + 1) * 8 + 5, none⟩) hb).trans c5; have e6 := (b2.cell (p := ⟨b, off + (j + 1) * 8 + 6, none⟩) hb).trans c6; have e7 := (b2.cell (p := ⟨b, off + (j + 1) * 8 + 7, none⟩) hb).trans c7; have f0 := (b2.cell (p := ⟨b, off + j * 8, none⟩) hb).trans p0; have f1 := (b2.cell (p := ⟨b, off + j * 8 + 1, none⟩) hb).trans p1; have f2 := (b2.cell (p := ⟨b, off + j * 8 + 2, none⟩) hb).trans p2; have f3 := (b2.cell (p := ⟨b, off + j * 8 + 3, none⟩) hb).trans p3; have f4 := (b2.cell (p := ⟨b, off + j * 8 + 4, none⟩) hb).trans p4; have f5 := (b2.cell (p := ⟨b, off + j * 8 + 5, none⟩) hb).trans p5; have f6 := (b2.cell (p := ⟨b, off + j * 8 + 6, none⟩) hb).trans p6; have f7 := (b2.cell (p := ⟨b, off + j * 8 + 7, none⟩) hb).trans p7; have B2 := hide (below_trans hbel.out b2); have hl1 : b < w1.heap.size := Nat.lt_of_lt_of_le hb b2.size; have hl2 := hl1; clear b1 b2)
            go_wp2_with fail
            refine hK.out _ _ ?_ (fun hHeld4 => ?_)
            · (try dsimp only)
              go_keep
            clear hK K
            try simp only [List.getElem_toArray, List.getElem_cons_succ, List.getElem_cons_zero, Act.put, List.setIfInBounds_toArray, List.set_cons_zero, List.set_cons_succ]
            refine wpAnyH_take (i := 5) (v := ?va65) rfl (by kernel_rfl) (by kernel_rfl) (by kernel_rfl) (fun _ _ _ h => h) (Or.inl ⟨by rfl, ?hya65⟩) (by assumption) ?rest65
            case hya65 => (intro wz hSw; (try dsimp only at hSw); go_simp; all_goals with_reducible rfl)
            try simp only [List.getElem_toArray, List.getElem_cons_succ, List.getElem_cons_zero, Act.put, List.setIfInBounds_toArray, List.set_cons_zero, List.set_cons_succ]
            refine wpAnyH_take (i := 6) (v := ?va66) rfl (by kernel_rfl) (by kernel_rfl) (by kernel_rfl) (fun _ _ _ h => h) (Or.inl ⟨by rfl, ?hya66⟩) (by assumption) ?rest66
            case hya66 => (intro wz hSw; (try dsimp only at hSw); go_simp; all_goals with_reducible rfl)
            try simp only [List.getElem_toArray, List.getElem_cons_succ, List.getElem_cons_zero, Act.put, List.setIfInBounds_toArray, List.set_cons_zero, List.set_cons_succ]
            refine wpAnyH_take (i := 7) (v := ?va67) rfl (by kernel_rfl) (by kernel_rfl) (by kernel_rfl) (fun _ _ _ h => h) (Or.inl ⟨by rfl, ?hya67⟩) (by assumption) ?rest67
            case hya67 => (intro wz hSw; (try dsimp only at hSw); go_simp; all_goals with_reducible rfl)
            try simp only [List.getElem_toArray, List.getElem_cons_succ, List.getElem_cons_zero, Act.put, List.setIfInBounds_toArray, List.set_cons_zero, List.set_cons_succ]
            refine wpAnyH_take (i := 8) (v := ?va68) rfl (by kernel_rfl) (by kernel_rfl) (by kernel_rfl) (fun _ _ _ h => h) (Or.inl ⟨by rfl, ?hya68⟩) (by assumption) ?rest68
            case hya68 => (intro wz hSw; (try dsimp only at hSw); go_simp; all_goals with_reducible rfl)
            try simp only [List.getElem_toArray, List.getElem_cons_succ, List.getElem_cons_zero, Act.put, List.setIfInBounds_toArray, List.set_cons_zero, List.set_cons_succ]
            refine wpAnyH_take (i := 9) (v := ?va69) rfl (by kernel_rfl) (by kernel_rfl) (by kernel_rfl) (fun _ _ _ h => h) (Or.inl ⟨by rfl, ?hya69⟩) (by assumption) ?rest69
            case hya69 => (intro wz hSw; (try dsimp only at hSw); go_simp; all_goals with_reducible rfl)
            try simp only [List.getElem_toArray, List.getElem_cons_succ, List.getElem_cons_zero, Act.put, List.setIfInBounds_toArray, List.set_cons_zero, List.set_cons_succ]
            refine wpAnyH_take (i := 10) (v := ?va70) rfl (by kernel_rfl) (by kernel_rfl) (by kernel_rfl) (fun _ _ _ h => h) (Or.inl ⟨by rfl, ?hya70⟩) (by assumption) ?rest70
            case hya70 => (intro wz hSw; (try dsimp only at hSw); go_simp; all_goals with_reducible rfl)
            try simp only [List.getElem_toArray, List.getElem_cons_succ, List.getElem_cons_zero, Act.put, List.setIfInBounds_toArray, List.set_cons_zero, List.set_cons_succ]
            refine wpAnyH_take (i := 11) (v := ?va71) rfl (by kernel_rfl) (by kernel_rfl) (by kernel_rfl) (fun _ _ _ h => h) (Or.inl ⟨by rfl, ?hya71⟩) (by assumption) ?rest71
            case hya71 => (intro wz hSw; (try dsimp only at hSw); go_simp; all_goals with_reducible rfl)
            try simp only [List.getElem_toArray, List.getElem_cons_succ, List.getElem_cons_zero, Act.put, List.setIfInBounds_toArray, List.set_cons_zero, List.set_cons_succ]
            refine wpAnyH_take (i := 12) (v := ?va72) rfl (by kernel_rfl) (by kernel_rfl) (by kernel_rfl) (fun _ _ _ h => h) (Or.inl ⟨by rfl, ?hya72⟩) (by assumption) ?rest72
            case hya72 => (intro wz hSw; (try dsimp only at hSw); go_simp; all_goals with_reducible rfl)
            try simp only [List.getElem_toArray, List.getElem_cons_succ, List.getElem_cons_zero, Act.put, List.setIfInBounds_toArray, List.set_cons_zero, List.set_cons_succ]
            refine wpAnyH_take (i := 13) (v := ?va73) rfl (by kernel_rfl) (by kernel_rfl) (by kernel_rfl) (fun _ _ _ h => h) (Or.inl ⟨by rfl, ?hya73⟩) (by assumption) ?rest73
            case hya73 => (intro wz hSw; (try dsimp only at hSw); go_simp; all_goals with_reducible rfl)
            try simp only [List.getElem_toArray, List.getElem_cons_succ, List.getElem_cons_zero, Act.put, List.setIfInBounds_toArray, List.set_cons_zero, List.set_cons_succ]
            refine wpAnyH_take (i := 14) (v := ?va74) rfl (by kernel_rfl) (by kernel_rfl) (by kernel_rfl) (fun _ _ _ h => h) (Or.inl ⟨by rfl, ?hya74⟩) (by assumption) ?rest74
            case hya74 => (intro wz hSw; (try dsimp only at hSw); go_simp; all_goals with_reducible rfl)
            try simp only [List.getElem_toArray, List.getElem_cons_succ, List.getElem_cons_zero, Act.put, List.setIfInBounds_toArray, List.set_cons_zero, List.set_cons_succ]
            refine wpAnyH_take (i := 15) (v := ?va75) rfl (by kernel_rfl) (by kernel_rfl) (by kernel_rfl) (fun _ _ _ h => h) (Or.inl ⟨by rfl, ?hya75⟩) (by assumption) ?rest75
            case hya75 => (intro wz hSw; (try dsimp only at hSw); go_simp; all_goals with_reducible rfl)
            try simp only [List.getElem_toArray, List.getElem_cons_succ, List.getElem_cons_zero, Act.put, List.setIfInBounds_toArray, List.set_cons_zero, List.set_cons_succ]
            refine wpAnyH_take (i := 16) (v := ?va76) rfl (by kernel_rfl) (by kernel_rfl) (by kernel_rfl) (fun _ _ _ h => h) (Or.inl ⟨by rfl, ?hya76⟩) (by assumption) ?rest76
            case hya76 => (intro wz hSw; (try dsimp only at hSw); go_simp; all_goals with_reducible rfl)
            try simp only [List.getElem_toArray, List.getElem_cons_succ, List.getElem_cons_zero, Act.put, List.setIfInBounds_toArray, List.set_cons_zero, List.set_cons_succ]
            refine wpAnyH_take (i := 17) (v := ?va77) rfl (by kernel_rfl) (by kernel_rfl) (by kernel_rfl) (fun _ _ _ h => h) (Or.inl ⟨by rfl, ?hya77⟩) (by assumption) ?rest77
            case hya77 => (intro wz hSw; (try dsimp only at hSw); go_simp; all_goals with_reducible rfl)
            try simp only [List.getElem_toArray, List.getElem_cons_succ, List.getElem_cons_zero, Act.put, List.setIfInBounds_toArray, List.set_cons_zero, List.set_cons_succ]
            refine wpAnyH_take (i := 18) (v := ?va78) rfl (by kernel_rfl) (by kernel_rfl) (by kernel_rfl) (fun _ _ _ h => h) (Or.inl ⟨by rfl, ?hya78⟩) (by assumption) ?rest78
            case hya78 => (intro wz hSw; (try dsimp only at hSw); go_simp; all_goals with_reducible rfl)
            try simp only [List.getElem_toArray, List.getElem_cons_succ, List.getElem_cons_zero, Act.put, List.setIfInBounds_toArray, List.set_cons_zero, List.set_cons_succ]
            refine wpAnyH_ready (rs := [19]) (by kernel_rfl) (by simp) ?_
            refine AllReadyH.cons rfl (fun K hK => ?_) AllReadyH.nil
            go_simp
            (go_at_call 166; (with_reducible refine (scmpS_any y x _).mono ?_); rintro ee w2 ⟨rfl, b3⟩; rw [HCV.out]; have e0 := (b3.cell (p := ⟨b, off + (j + 1) * 8, none⟩) hl1).trans e0; have e1 := (b3.cell (p := ⟨b, off + (j + 1) * 8 + 1, none⟩) hl1).trans e1; have e2 := (b3.cell (p := ⟨b, off + (j + 1) * 8 + 2, none⟩) hl1).trans e2; have e3 := (b3.cell (p := ⟨b, off + (j + 1) * 8 + 3, none⟩) hl1).trans e3; have e4 := (b3.cell (p := ⟨b, off + (j + 1) * 8 + 4, none⟩) hl1).trans e4; have e5 := (b3.cell (p := ⟨b, off + (j + 1) * 8 + 5, none⟩) hl1).trans e5; have e6 := (b3.cell (p := ⟨b, off + (j + 1) * 8 + 6, none⟩) hl1).trans e6; have e7 := (b3.cell (p := ⟨b, off + (j + 1) * 8 + 7, none⟩) hl1).trans e7; have f0 := (b3.cell (p := ⟨b, off + j * 8, none⟩) hl2).trans f0; have f1 := (b3.cell (p := ⟨b, off + j * 8 + 1, none⟩) hl2).trans f1; have f2 := (b3.cell (p := ⟨b, off + j * 8 + 2, none⟩) hl2).trans f2; have f3 := (b3.cell (p := ⟨b, off + j * 8 + 3, none⟩) hl2).trans f3; have f4 := (b3.cell (p := ⟨b, off + j * 8 + 4, none⟩) hl2).trans f4; have f5 := (b3.cell (p := ⟨b, off + j * 8 + 5, none⟩) hl2).trans f5; have f6 := (b3.cell (p := ⟨b, off + j * 8 + 6, none⟩) hl2).trans f6; have f7 := (b3.cell (p := ⟨b, off + j * 8 + 7, none⟩) hl2).trans f7; have B3 := hide (below_trans B2.out b3); clear b3)
            go_wp2_with fail
            refine hK.out _ _ ?_ (fun hHeld19 => ?_)
            · (try dsimp only)
              go_keep
            clear hK K
            try simp only [List.getElem_toArray, List.getElem_cons_succ, List.getElem_cons_zero, Act.put, List.setIfInBounds_toArray, List.set_cons_zero, List.set_cons_succ]
            refine wpAnyH_take (i := 20) (v := ?va79) rfl (by kernel_rfl) (by kernel_rfl) (by kernel_rfl) (fun _ _ _ h => h) (Or.inl ⟨by rfl, ?hya79⟩) (by assumption) ?rest79
            case hya79 => (intro wz hSw; (try dsimp only at hSw); go_simp; all_goals with_reducible rfl)
            try simp only [List.getElem_toArray, List.getElem_cons_succ, List.getElem_cons_zero, Act.put, List.setIfInBounds_toArray, List.set_cons_zero, List.set_cons_succ]
            refine wpAnyH_take (i := 21) (v := ?va80) rfl (by kernel_rfl) (by kernel_rfl) (by kernel_rfl) (fun _ _ _ h => h) (Or.inl ⟨by rfl, ?hya80⟩) (by assumption) ?rest80
            case hya80 => (intro wz hSw; (try dsimp only at hSw); go_simp; all_goals with_reducible rfl)
            try simp only [List.getElem_toArray, List.getElem_cons_succ, List.getElem_cons_zero, Act.put, List.setIfInBounds_toArray, List.set_cons_zero, List.set_cons_succ]
            refine wpAnyH_take (i := 22) (v := ?va81) rfl (by kernel_rfl) (by kernel_rfl) (by kernel_rfl) (fun _ _ _ h => h) (Or.inl ⟨by rfl, ?hya81⟩) (by assumption) ?rest81
            case hya81 => (intro wz hSw; (try dsimp only at hSw); go_simp; all_goals with_reducible rfl)
            try simp only [List.getElem_toArray, List.getElem_cons_succ, List.getElem_cons_zero, Act.put, List.setIfInBounds_toArray, List.set_cons_zero, List.set_cons_succ]
            refine wpAnyH_done (by kernel_rfl) ?_ _
            go_wp2_with fail
            go_roundw
            case rel => exact ⟨j + 1 + 1, by omega, by go_num, NN, B3⟩
            case measure => simp [intOf]; omega
          · have tl : decide (0 ≤ cv) = true := decide_eq_true (by omega)
            have E := hide (stB_bad HL.out (okS_2 HX.out HY.out (by rw [HCV.out]; omega)))
            clear hid hcv
            go_wp2_with fail
            refine wp_region_held_drew (S := (fun w' => w'.cell? ⟨b, off + (j + 1) * 8, none⟩ = some (.int .i64 x.md) ∧ w'.cell? ⟨b, off + (j + 1) * 8 + 1, none⟩ = some (.int .i64 x.rd) ∧ w'.cell? ⟨b, off + (j + 1) * 8 + 2, none⟩ = some (.int .i64 x.sl) ∧ w'.cell? ⟨b, off + (j + 1) * 8 + 3, none⟩ = some (.int .i64 x.nd) ∧ w'.cell? ⟨b, off + (j + 1) * 8 + 4, none⟩ = some (.int .i64 x.kd) ∧ w'.cell? ⟨b, off + (j + 1) * 8 + 5, none⟩ = some (.int .i64 x.sz) ∧ w'.cell? ⟨b, off + (j + 1) * 8 + 6, none⟩ = some (.int .i64 x.du) ∧ w'.cell? ⟨b, off + (j + 1) * 8 + 7, none⟩ = some (.bool x.ch) ∧ w'.cell? ⟨b, off + j * 8, none⟩ = some (.int .i64 y.md) ∧ w'.cell? ⟨b, off + j * 8 + 1, none⟩ = some (.int .i64 y.rd) ∧ w'.cell? ⟨b, off + j * 8 + 2, none⟩ = some (.int .i64 y.sl) ∧ w'.cell? ⟨b, off + j * 8 + 3, none⟩ = some (.int .i64 y.nd) ∧ w'.cell? ⟨b, off + j * 8 + 4, none⟩ = some (.int .i64 y.kd) ∧ w'.cell? ⟨b, off + j * 8 + 5, none⟩ = some (.int .i64 y.sz) ∧ w'.cell? ⟨b, off + j * 8 + 6, none⟩ = some (.int .i64 y.du) ∧ w'.cell? ⟨b, off + j * 8 + 7, none⟩ = some (.bool y.ch))) (by kernel_rfl) ?_ (fun hHeld => ?_)
            · (try dsimp only)
              go_keep
            refine wpAnyH_take (i := 0) (v := ?va82) rfl (by kernel_rfl) (by kernel_rfl) (by kernel_rfl) (fun _ _ _ h => h) (Or.inl ⟨by rfl, ?hya82⟩) (by assumption) ?rest82
            case hya82 => (intro wz hSw; (try dsimp only at hSw); go_simp; all_goals with_reducible rfl)
            try simp only [List.getElem_toArray, List.getElem_cons_succ, List.getElem_cons_zero, Act.put, List.setIfInBounds_toArray, List.set_cons_zero, List.set_cons_succ]
            refine wpAnyH_take (i := 1) (v := ?va83) rfl (by kernel_rfl) (by kernel_rfl) (by kernel_rfl) (fun _ _ _ h => h) (Or.inl ⟨by rfl, ?hya83⟩) (by assumption) ?rest83
            case hya83 => (intro wz hSw; (try dsimp only at hSw); go_simp; all_goals with_reducible rfl)
            try simp only [List.getElem_toArray, List.getElem_cons_succ, List.getElem_cons_zero, Act.put, List.setIfInBounds_toArray, List.set_cons_zero, List.set_cons_succ]
            refine wpAnyH_take (i := 2) (v := ?va84) rfl (by kernel_rfl) (by kernel_rfl) (by kernel_rfl) (fun _ _ _ h => h) (Or.inl ⟨by rfl, ?hya84⟩) (by assumption) ?rest84
            case hya84 => (intro wz hSw; (try dsimp only at hSw); go_simp; all_goals with_reducible rfl)
            try simp only [List.getElem_toArray, List.getElem_cons_succ, List.getElem_cons_zero, Act.put, List.setIfInBounds_toArray, List.set_cons_zero, List.set_cons_succ]
            refine wpAnyH_take (i := 3) (v := ?va85) rfl (by kernel_rfl) (by kernel_rfl) (by kernel_rfl) (fun _ _ _ h => h) (Or.inl ⟨by rfl, ?hya85⟩) (by assumption) ?rest85
            case hya85 => (intro wz hSw; (try dsimp only at hSw); go_simp; all_goals with_reducible rfl)
            try simp only [List.getElem_toArray, List.getElem_cons_succ, List.getElem_cons_zero, Act.put, List.setIfInBounds_toArray, List.set_cons_zero, List.set_cons_succ]
            refine wpAnyH_ready (rs := [4]) (by kernel_rfl) (by simp) ?_
            refine AllReadyH.cons rfl (fun K hK => ?_) AllReadyH.nil
            go_simp
            (go_at_call 165; (with_reducible refine (sslot_any x _).mono ?_); rintro ee w1 ⟨rfl, b1⟩; rw [HN.out]; have b2 := below_drewS2 b1; have e0 := (b2.cell (p := ⟨b, off + (j + 1) * 8, none⟩) hb).trans c0; have e1 := (b2.cell (p := ⟨b, off + (j + 1) * 8 + 1, none⟩) hb).trans c1; have e2 := (b2.cell (p := ⟨b, off + (j + 1) * 8 + 2, none⟩) hb).trans c2; have e3 := (b2.cell (p := ⟨b, off + (j + 1) * 8 + 3, none⟩) hb).trans c3; have e4 := (b2.cell (p := ⟨b, off + (j + 1) * 8 + 4, none⟩) hb).trans c4; have e5 := (b2.cell (p := ⟨b, off + (j + 1) * 8 + 5, none⟩) hb).trans c5; have e6 := (b2.cell (p := ⟨b, off + (j + 1) * 8 + 6, none⟩) hb).trans c6; have e7 := (b2.cell (p := ⟨b, off + (j + 1) * 8 + 7, none⟩) hb).trans c7; have f0 := (b2.cell (p := ⟨b, off + j * 8, none⟩) hb).trans p0; have f1 := (b2.cell (p := ⟨b, off + j * 8 + 1, none⟩) hb).trans p1; have f2 := (b2.cell (p := ⟨b, off + j * 8 + 2, none⟩) hb).trans p2; have f3 := (b2.cell (p := ⟨b, off + j * 8 + 3, none⟩) hb).trans p3; have f4 := (b2.cell (p := ⟨b, off + j * 8 + 4, none⟩) hb).trans p4; have f5 := (b2.cell (p := ⟨b, off + j * 8 + 5, none⟩) hb).trans p5; have f6 := (b2.cell (p := ⟨b, off + j * 8 + 6, none⟩) hb).trans p6; have f7 := (b2.cell (p := ⟨b, off + j * 8 + 7, none⟩) hb).trans p7; have B2 := hide (below_trans hbel.out b2); have hl1 : b < w1.heap.size := Nat.lt_of_lt_of_le hb b2.size; have hl2 := hl1; clear b1 b2)
            go_wp2_with fail
            refine hK.out _ _ ?_ (fun hHeld4 => ?_)
            · (try dsimp only)
              go_keep
            clear hK K
            try simp only [List.getElem_toArray, List.getElem_cons_succ, List.getElem_cons_zero, Act.put, List.setIfInBounds_toArray, List.set_cons_zero, List.set_cons_succ]
            refine wpAnyH_take (i := 5) (v := ?va86) rfl (by kernel_rfl) (by kernel_rfl) (by kernel_rfl) (fun _ _ _ h => h) (Or.inl ⟨by rfl, ?hya86⟩) (by assumption) ?rest86
            case hya86 => (intro wz hSw; (try dsimp only at hSw); go_simp; all_goals with_reducible rfl)
            try simp only [List.getElem_toArray, List.getElem_cons_succ, List.getElem_cons_zero, Act.put, List.setIfInBounds_toArray, List.set_cons_zero, List.set_cons_succ]
            refine wpAnyH_take (i := 6) (v := ?va87) rfl (by kernel_rfl) (by kernel_rfl) (by kernel_rfl) (fun _ _ _ h => h) (Or.inl ⟨by rfl, ?hya87⟩) (by assumption) ?rest87
            case hya87 => (intro wz hSw; (try dsimp only at hSw); go_simp; all_goals with_reducible rfl)
            try simp only [List.getElem_toArray, List.getElem_cons_succ, List.getElem_cons_zero, Act.put, List.setIfInBounds_toArray, List.set_cons_zero, List.set_cons_succ]
            refine wpAnyH_take (i := 7) (v := ?va88) rfl (by kernel_rfl) (by kernel_rfl) (by kernel_rfl) (fun _ _ _ h => h) (Or.inl ⟨by rfl, ?hya88⟩) (by assumption) ?rest88
            case hya88 => (intro wz hSw; (try dsimp only at hSw); go_simp; all_goals with_reducible rfl)
            try simp only [List.getElem_toArray, List.getElem_cons_succ, List.getElem_cons_zero, Act.put, List.setIfInBounds_toArray, List.set_cons_zero, List.set_cons_succ]
            refine wpAnyH_take (i := 8) (v := ?va89) rfl (by kernel_rfl) (by kernel_rfl) (by kernel_rfl) (fun _ _ _ h => h) (Or.inl ⟨by rfl, ?hya89⟩) (by assumption) ?rest89
            case hya89 => (intro wz hSw; (try dsimp only at hSw); go_simp; all_goals with_reducible rfl)
            try simp only [List.getElem_toArray, List.getElem_cons_succ, List.getElem_cons_zero, Act.put, List.setIfInBounds_toArray, List.set_cons_zero, List.set_cons_succ]
            refine wpAnyH_take (i := 9) (v := ?va90) rfl (by kernel_rfl) (by kernel_rfl) (by kernel_rfl) (fun _ _ _ h => h) (Or.inl ⟨by rfl, ?hya90⟩) (by assumption) ?rest90
            case hya90 => (intro wz hSw; (try dsimp only at hSw); go_simp; all_goals with_reducible rfl)
            try simp only [List.getElem_toArray, List.getElem_cons_succ, List.getElem_cons_zero, Act.put, List.setIfInBounds_toArray, List.set_cons_zero, List.set_cons_succ]
            refine wpAnyH_take (i := 10) (v := ?va91) rfl (by kernel_rfl) (by kernel_rfl) (by kernel_rfl) (fun _ _ _ h => h) (Or.inl ⟨by rfl, ?hya91⟩) (by assumption) ?rest91
            case hya91 => (intro wz hSw; (try dsimp only at hSw); go_simp; all_goals with_reducible rfl)
            try simp only [List.getElem_toArray, List.getElem_cons_succ, List.getElem_cons_zero, Act.put, List.setIfInBounds_toArray, List.set_cons_zero, List.set_cons_succ]
            refine wpAnyH_take (i := 11) (v := ?va92) rfl (by kernel_rfl) (by kernel_rfl) (by kernel_rfl) (fun _ _ _ h => h) (Or.inl ⟨by rfl, ?hya92⟩) (by assumption) ?rest92
            case hya92 => (intro wz hSw; (try dsimp only at hSw); go_simp; all_goals with_reducible rfl)
            try simp only [List.getElem_toArray, List.getElem_cons_succ, List.getElem_cons_zero, Act.put, List.setIfInBounds_toArray, List.set_cons_zero, List.set_cons_succ]
            refine wpAnyH_take (i := 12) (v := ?va93) rfl (by kernel_rfl) (by kernel_rfl) (by kernel_rfl) (fun _ _ _ h => h) (Or.inl ⟨by rfl, ?hya93⟩) (by assumption) ?rest93
            case hya93 => (intro wz hSw; (try dsimp only at hSw); go_simp; all_goals with_reducible rfl)
            try simp only [List.getElem_toArray, List.getElem_cons_succ, List.getElem_cons_zero, Act.put, List.setIfInBounds_toArray, List.set_cons_zero, List.set_cons_succ]
            refine wpAnyH_take (i := 13) (v := ?va94) rfl (by kernel_rfl) (by kernel_rfl) (by kernel_rfl) (fun _ _ _ h => h) (Or.inl ⟨by rfl, ?hya94⟩) (by assumption) ?rest94
            case hya94 => (intro wz hSw; (try dsimp only at hSw); go_simp; all_goals with_reducible rfl)
            try simp only [List.getElem_toArray, List.getElem_cons_succ, List.getElem_cons_zero, Act.put, List.setIfInBounds_toArray, List.set_cons_zero, List.set_cons_succ]
            refine wpAnyH_take (i := 14) (v := ?va95) rfl (by kernel_rfl) (by kernel_rfl) (by kernel_rfl) (fun _ _ _ h => h) (Or.inl ⟨by rfl, ?hya95⟩) (by assumption) ?rest95
            case hya95 => (intro wz hSw; (try dsimp only at hSw); go_simp; all_goals with_reducible rfl)
            try simp only [List.getElem_toArray, List.getElem_cons_succ, List.getElem_cons_zero, Act.put, List.setIfInBounds_toArray, List.set_cons_zero, List.set_cons_succ]
            refine wpAnyH_take (i := 15) (v := ?va96) rfl (by kernel_rfl) (by kernel_rfl) (by kernel_rfl) (fun _ _ _ h => h) (Or.inl ⟨by rfl, ?hya96⟩) (by assumption) ?rest96
            case hya96 => (intro wz hSw; (try dsimp only at hSw); go_simp; all_goals with_reducible rfl)
            try simp only [List.getElem_toArray, List.getElem_cons_succ, List.getElem_cons_zero, Act.put, List.setIfInBounds_toArray, List.set_cons_zero, List.set_cons_succ]
            refine wpAnyH_take (i := 16) (v := ?va97) rfl (by kernel_rfl) (by kernel_rfl) (by kernel_rfl) (fun _ _ _ h => h) (Or.inl ⟨by rfl, ?hya97⟩) (by assumption) ?rest97
            case hya97 => (intro wz hSw; (try dsimp only at hSw); go_simp; all_goals with_reducible rfl)
            try simp only [List.getElem_toArray, List.getElem_cons_succ, List.getElem_cons_zero, Act.put, List.setIfInBounds_toArray, List.set_cons_zero, List.set_cons_succ]
            refine wpAnyH_take (i := 17) (v := ?va98) rfl (by kernel_rfl) (by kernel_rfl) (by kernel_rfl) (fun _ _ _ h => h) (Or.inl ⟨by rfl, ?hya98⟩) (by assumption) ?rest98
            case hya98 => (intro wz hSw; (try dsimp only at hSw); go_simp; all_goals with_reducible rfl)
            try simp only [List.getElem_toArray, List.getElem_cons_succ, List.getElem_cons_zero, Act.put, List.setIfInBounds_toArray, List.set_cons_zero, List.set_cons_succ]
            refine wpAnyH_take (i := 18) (v := ?va99) rfl (by kernel_rfl) (by kernel_rfl) (by kernel_rfl) (fun _ _ _ h => h) (Or.inl ⟨by rfl, ?hya99⟩) (by assumption) ?rest99
            case hya99 => (intro wz hSw; (try dsimp only at hSw); go_simp; all_goals with_reducible rfl)
            try simp only [List.getElem_toArray, List.getElem_cons_succ, List.getElem_cons_zero, Act.put, List.setIfInBounds_toArray, List.set_cons_zero, List.set_cons_succ]
            refine wpAnyH_ready (rs := [19]) (by kernel_rfl) (by simp) ?_
            refine AllReadyH.cons rfl (fun K hK => ?_) AllReadyH.nil
            go_simp
            (go_at_call 166; (with_reducible refine (scmpS_any y x _).mono ?_); rintro ee w2 ⟨rfl, b3⟩; rw [HCV.out]; have e0 := (b3.cell (p := ⟨b, off + (j + 1) * 8, none⟩) hl1).trans e0; have e1 := (b3.cell (p := ⟨b, off + (j + 1) * 8 + 1, none⟩) hl1).trans e1; have e2 := (b3.cell (p := ⟨b, off + (j + 1) * 8 + 2, none⟩) hl1).trans e2; have e3 := (b3.cell (p := ⟨b, off + (j + 1) * 8 + 3, none⟩) hl1).trans e3; have e4 := (b3.cell (p := ⟨b, off + (j + 1) * 8 + 4, none⟩) hl1).trans e4; have e5 := (b3.cell (p := ⟨b, off + (j + 1) * 8 + 5, none⟩) hl1).trans e5; have e6 := (b3.cell (p := ⟨b, off + (j + 1) * 8 + 6, none⟩) hl1).trans e6; have e7 := (b3.cell (p := ⟨b, off + (j + 1) * 8 + 7, none⟩) hl1).trans e7; have f0 := (b3.cell (p := ⟨b, off + j * 8, none⟩) hl2).trans f0; have f1 := (b3.cell (p := ⟨b, off + j * 8 + 1, none⟩) hl2).trans f1; have f2 := (b3.cell (p := ⟨b, off + j * 8 + 2, none⟩) hl2).trans f2; have f3 := (b3.cell (p := ⟨b, off + j * 8 + 3, none⟩) hl2).trans f3; have f4 := (b3.cell (p := ⟨b, off + j * 8 + 4, none⟩) hl2).trans f4; have f5 := (b3.cell (p := ⟨b, off + j * 8 + 5, none⟩) hl2).trans f5; have f6 := (b3.cell (p := ⟨b, off + j * 8 + 6, none⟩) hl2).trans f6; have f7 := (b3.cell (p := ⟨b, off + j * 8 + 7, none⟩) hl2).trans f7; have B3 := hide (below_trans B2.out b3); clear b3)
            go_wp2_with fail
            refine hK.out _ _ ?_ (fun hHeld19 => ?_)
            · (try dsimp only)
              go_keep
            clear hK K
            try simp only [List.getElem_toArray, List.getElem_cons_succ, List.getElem_cons_zero, Act.put, List.setIfInBounds_toArray, List.set_cons_zero, List.set_cons_succ]
            refine wpAnyH_take (i := 20) (v := ?va100) rfl (by kernel_rfl) (by kernel_rfl) (by kernel_rfl) (fun _ _ _ h => h) (Or.inl ⟨by rfl, ?hya100⟩) (by assumption) ?rest100
            case hya100 => (intro wz hSw; (try dsimp only at hSw); go_simp; all_goals with_reducible rfl)
            try simp only [List.getElem_toArray, List.getElem_cons_succ, List.getElem_cons_zero, Act.put, List.setIfInBounds_toArray, List.set_cons_zero, List.set_cons_succ]
            refine wpAnyH_take (i := 21) (v := ?va101) rfl (by kernel_rfl) (by kernel_rfl) (by kernel_rfl) (fun _ _ _ h => h) (Or.inl ⟨by rfl, ?hya101⟩) (by assumption) ?rest101
            case hya101 => (intro wz hSw; (try dsimp only at hSw); go_simp; all_goals with_reducible rfl)
            try simp only [List.getElem_toArray, List.getElem_cons_succ, List.getElem_cons_zero, Act.put, List.setIfInBounds_toArray, List.set_cons_zero, List.set_cons_succ]
            refine wpAnyH_take (i := 22) (v := ?va102) rfl (by kernel_rfl) (by kernel_rfl) (by kernel_rfl) (fun _ _ _ h => h) (Or.inl ⟨by rfl, ?hya102⟩) (by assumption) ?rest102
            case hya102 => (intro wz hSw; (try dsimp only at hSw); go_simp; all_goals with_reducible rfl)
            try simp only [List.getElem_toArray, List.getElem_cons_succ, List.getElem_cons_zero, Act.put, List.setIfInBounds_toArray, List.set_cons_zero, List.set_cons_succ]
            refine wpAnyH_done (by kernel_rfl) ?_ _
            go_wp2
            go_ret
            exact ⟨by rw [E.out]; rfl, B3.out⟩
    · obtain rfl : k = n := by omega
      go_wp2
      go_ret
      exact ⟨by rw [E0.out, hall.out]; rfl, hbel.out⟩
end Go.Proofs.YtdkhldebnpmiiaaGreatDoor
