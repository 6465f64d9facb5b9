/- Contracts: a node known to a schedule; the codes, by the reference. -/
import Derived.Test.YtdkhldebnpmiiaaGreatDoorZBkG
namespace Go.Proofs.YtdkhldebnpmiiaaGreatDoor
open Go.RowKit
set_option linter.unusedVariables false
set_option linter.unusedSimpArgs false
set_option maxHeartbeats 1600000 in
theorem l15Known_any (v : Value) (m : Mdl) (z : Int) (w : World) (h : RdM w v m) (hq : Nms m) (ht : ntB m.ns = true) :
    Calls Tryz.prog 87 #[v, .int .i64 z] w (BoolOut (hasN m.ns z) w) := by
  have HQ := hide (show ∀ x ∈ m.ns, x.nm.size ≤ 9223372036854775807 from hq)
  have HM := hide h
  obtain ⟨A1, n1, c1, A2, n2, c2, A3, n3, q3, rfl, h1, h2, h3⟩ := h
  have hlen2 := hide h2.len
  have hlen := hide h3.len
  have hcap2 := h2.cap
  have hcap := h3.cap
  obtain ⟨W0, hW0⟩ : ∃ W0, W0 = w.alloc (.cells #[.int .i64 m.id, .slice A1 n1 c1, .slice A2 n2 c2, .slice A3 n3 q3] 28) := ⟨_, rfl⟩
  have F0 : At W0 w.heap.size 28 #[.int .i64 m.id, .slice A1 n1 c1, .slice A2 n2 c2, .slice A3 n3 q3] := by rw [hW0]; exact At.fresh _ _ _
  have BA := hide (show Below w.heap.size w W0 by rw [hW0]; exact (Below.refl _ _).alloc (Nat.le_refl _) _)
  have B0 := hide (Below.refl W0.heap.size W0)
  have H1 := hide (h1.below BA.out)
  have H2 := hide (h2.below BA.out)
  have H3 := hide (h3.below BA.out)
  have HM0 := hide (HM.out.below BA.out)
  have HF := hide F0
  have d0 := F0.cell 0
  have d1 := F0.cell 1
  have d2 := F0.cell 2
  have d3 := F0.cell 3
  simp at d0 d1 d2 d3
  have HW := hide hW0
  clear hW0 F0 h1 h2 h3 HM
  go_enter Tryz.func87, Tryz.ntmps87
  go_wp2_with fail
  rw [← HW.out]
  go_at_call 114
  (with_reducible refine (sFindNode_any _ _ _ _ m.ns _ H1.out HQ.out ht).mono ?_)
  rintro ee w1 ⟨y, rfl, b1⟩
  clear d0 d1 d2 d3
  have B1 := hide (below_trans BA.out b1)
  have BX := hide (below_trans B1.out ((Below.refl w1.heap.size w1).alloc (Nat.le_refl _) (.cells #[.int .i64 y.id, .string y.nm, .int .i64 y.dr, .bool y.pas] 68)))
  clear b1
  cases hp : hasN m.ns z
  · have E := hide hp
    go_wp2
    go_ret
    exact ⟨by rw [E.out]; rfl, BX.out⟩
  · have E := hide hp
    go_wp2
    go_ret
    exact ⟨by rw [E.out]; rfl, BX.out⟩
/-- the code behind k nodes: all known so far, or one unknown -/
def StK (m : Mdl) (zs : List Int) (k : Nat) (u : Int) : Prop := (u = 0 ∧ ∀ j, j < k → hasN m.ns (nth zs j) = true) ∨ (u = 2 ∧ zs.all (hasN m.ns) = false)
def StA (m : Mdl) (zs : List Int) (k : Nat) (u : Int) : Prop := (u = 0 ∧ ∀ j, j < k → actB m.ns (nth zs j) = true) ∨ (u = 4 ∧ zs.all (actB m.ns) = false)
set_option maxHeartbeats 6400000 in
theorem l17Code_any (v : Value) (m : Mdl) (mode : Int) (A : Option Addr) (n c : Nat) (zs : List Int) (w : World) (h : RdM w v m) (hq : Nms m) (hz : Rd w A n c zs) :
    Calls Tryz.prog 53 #[v, .int .i64 mode, .slice A n c] w (IntOut (scB m mode zs) w) := by
  have HM := hide h
  obtain ⟨A1, n1, c1, A2, n2, c2, A3, n3, q3, rfl, h1, h2, h3⟩ := h
  have hlen2 := hide h2.len
  have hlen := hide h3.len
  have hcap2 := h2.cap
  have hcap := h3.cap
  obtain ⟨W0, hW0⟩ : ∃ W0, W0 = w.alloc (.cells #[.int .i64 m.id, .slice A1 n1 c1, .slice A2 n2 c2, .slice A3 n3 q3] 28) := ⟨_, rfl⟩
  have F0 : At W0 w.heap.size 28 #[.int .i64 m.id, .slice A1 n1 c1, .slice A2 n2 c2, .slice A3 n3 q3] := by rw [hW0]; exact At.fresh _ _ _
  have BA := hide (show Below w.heap.size w W0 by rw [hW0]; exact (Below.refl _ _).alloc (Nat.le_refl _) _)
  have B0 := hide (Below.refl W0.heap.size W0)
  have H1 := hide (h1.below BA.out)
  have H2 := hide (h2.below BA.out)
  have H3 := hide (h3.below BA.out)
  have HM0 := hide (HM.out.below BA.out)
  have HF := hide F0
  have d0 := F0.cell 0
  have d1 := F0.cell 1
  have d2 := F0.cell 2
  have d3 := F0.cell 3
  simp at d0 d1 d2 d3
  have HW := hide hW0
  clear hW0 F0 h1 h2 h3 HM
  have hzc := hz.cap
  have hzl := hide hz.len
  have HZ := hide (hz.below BA.out)
  clear hz
  go_enter Tryz.func53, Tryz.ntmps53
  go_wp2_with fail
  rw [← HW.out]
  go_at_call 73
  (with_reducible refine (l13Mode_any _ m mode _ HM0.out hq).mono ?_)
  rintro ee w1 ⟨rfl, b1⟩
  clear d0 d1 d2 d3
  have B1 := hide (below_trans B0.out b1)
  clear b1
  obtain ⟨cz, hcz⟩ : ∃ cz, cz = mcB m mode := ⟨_, rfl⟩
  rw [← hcz]
  have HCZ := hide hcz
  by_cases hc0 : cz = 0
  · subst hc0
    clear hcz
    have HMD := hide (mcB_zero HCZ.out.symm).1
    have HT := hide (mdB_iff.1 HMD.out).2.1
    have HI := hide (ids_of HT.out)
    have HV := hide (actV_lt m.ns HI.out)
    have N1 := hide (show ncB m mode zs = bif zs.all (hasN m.ns) then 0 else 2 by rw [ncB, ← HCZ.out]; rfl)
    go_wp2_with fail
    go_loopw [7, 8] (fun q i wr => ∃ (k : Nat) (u : Int), k ≤ n ∧ i = .int .i64 k ∧ q = .int .i64 u ∧ Hid (StK m zs k u) ∧ Hid (Below W0.heap.size W0 wr)) (fun _ i _ => n - (intOf i).toNat)
    case atStart => exact ⟨0, 0, by omega, rfl, rfl, hide (Or.inl ⟨rfl, fun j hj => by omega⟩), B1⟩
    case round =>
      clear B1
      obtain ⟨k, u, hk, rfl, rfl, hu, B1⟩ := hrel
      by_cases hu0 : u = 0
      · subst hu0
        have hall := hide (show ∀ j, j < k → hasN m.ns (nth zs j) = true from by
          rcases hu.out with q | q
          · exact q.2
          · exact absurd q.1 (by decide))
        clear hu
        by_cases hlt : k < n
        · obtain ⟨b, off, rfl, hb, hc⟩ := (HZ.out.below B1.out).at_ (by omega)
          have c0 := hc k hlt
          have F := HF.out.keep B1.out
          have d0 := F.cell 0
          have d1 := F.cell 1
          have d2 := F.cell 2
          have d3 := F.cell 3
          simp at d0 d1 d2 d3
          have hl0 := F.lt
          have HL := hide (show k < zs.length by rw [hzl.out]; exact hlt)
          obtain ⟨z, hzz⟩ : ∃ z, z = nth zs k := ⟨_, rfl⟩
          rw [← hzz] at c0
          have HZZ := hide hzz
          have HMK := hide (show RdM wr.drew _ m from (HM0.out.below B1.out).drewN 1)
          have z1 : (k : Int) < (n : Int) := by omega
          clear hc F hzz
          cases hp : hasN m.ns z
          · have HP := hide hp
            have NN := hide (show StK m zs (k + 1) 2 from Or.inr ⟨rfl, all_not HL.out (by rw [← HZZ.out]; exact hp)⟩)
            clear hp
            go_wp2_with fail
            refine wp_region_held_drew (S := (fun w' => w'.cell? ⟨w.heap.size, 0, none⟩ = some (.int .i64 m.id) ∧ w'.cell? ⟨w.heap.size, 1, none⟩ = some (.slice A1 n1 c1) ∧ w'.cell? ⟨w.heap.size, 2, none⟩ = some (.slice A2 n2 c2) ∧ w'.cell? ⟨w.heap.size, 3, none⟩ = some (.slice A3 n3 q3) ∧ w'.cell? ⟨b, off + k, none⟩ = some (.int .i64 z))) (by kernel_rfl) ?_ (fun hHeld => ?_)
            · (try dsimp only)
              go_keep
            refine wpAnyH_take (i := 0) (v := ?va15) rfl (by kernel_rfl) (by kernel_rfl) (by kernel_rfl) (fun _ _ _ h => h) (Or.inl ⟨by rfl, ?hya15⟩) (by assumption) ?rest15
            case hya15 => (intro wz hSw; (try dsimp only at hSw); go_simp; all_goals with_reducible rfl)
            try simp only [List.getElem_toArray, List.getElem_cons_succ, List.getElem_cons_zero, Act.put, List.setIfInBounds_toArray, List.set_cons_zero, List.set_cons_succ]
            refine wpAnyH_take (i := 1) (v := ?va16) rfl (by kernel_rfl) (by kernel_rfl) (by kernel_rfl) (fun _ _ _ h => h) (Or.inl ⟨by rfl, ?hya16⟩) (by assumption) ?rest16
            case hya16 => (intro wz hSw; (try dsimp only at hSw); go_simp; all_goals with_reducible rfl)
            try simp only [List.getElem_toArray, List.getElem_cons_succ, List.getElem_cons_zero, Act.put, List.setIfInBounds_toArray, List.set_cons_zero, List.set_cons_succ]
            refine wpAnyH_take (i := 2) (v := ?va17) rfl (by kernel_rfl) (by kernel_rfl) (by kernel_rfl) (fun _ _ _ h => h) (Or.inl ⟨by rfl, ?hya17⟩) (by assumption) ?rest17
            case hya17 => (intro wz hSw; (try dsimp only at hSw); go_simp; all_goals with_reducible rfl)
            try simp only [List.getElem_toArray, List.getElem_cons_succ, List.getElem_cons_zero, Act.put, List.setIfInBounds_toArray, List.set_cons_zero, List.set_cons_succ]
            refine wpAnyH_take (i := 3) (v := ?va18) rfl (by kernel_rfl) (by kernel_rfl) (by kernel_rfl) (fun _ _ _ h => h) (Or.inl ⟨by rfl, ?hya18⟩) (by assumption) ?rest18
            case hya18 => (intro wz hSw; (try dsimp only at hSw); go_simp; all_goals with_reducible rfl)
            try simp only [List.getElem_toArray, List.getElem_cons_succ, List.getElem_cons_zero, Act.put, List.setIfInBounds_toArray, List.set_cons_zero, List.set_cons_succ]
            refine wpAnyH_take (i := 4) (v := ?va19) rfl (by kernel_rfl) (by kernel_rfl) (by kernel_rfl) (fun _ _ _ h => h) (Or.inl ⟨by rfl, ?hya19⟩) (by assumption) ?rest19
            case hya19 => (intro wz hSw; (try dsimp only at hSw); go_simp; all_goals with_reducible rfl)
            try simp only [List.getElem_toArray, List.getElem_cons_succ, List.getElem_cons_zero, Act.put, List.setIfInBounds_toArray, List.set_cons_zero, List.set_cons_succ]
            refine wpAnyH_ready (rs := [5]) (by kernel_rfl) (by simp) ?_
            refine AllReadyH.cons rfl (fun K hK => ?_) AllReadyH.nil
            go_simp
            (go_at_call 87; (with_reducible refine (l15Known_any _ m z _ HMK.out hq HT.out).mono ?_); rintro ee w2 ⟨rfl, b2⟩; rw [HP.out]; have b3 := below_drewS2 b2; have f0 := (b3.cell (p := ⟨w.heap.size, 0, none⟩) hl0).trans d0; have f1 := (b3.cell (p := ⟨w.heap.size, 1, none⟩) hl0).trans d1; have f2 := (b3.cell (p := ⟨w.heap.size, 2, none⟩) hl0).trans d2; have f3 := (b3.cell (p := ⟨w.heap.size, 3, none⟩) hl0).trans d3; have g0 := (b3.cell (p := ⟨b, off + k, none⟩) hb).trans c0; have BQ := hide (below_trans B1.out b3); clear b2 b3)
            go_wp2_with fail
            refine hK.out _ _ ?_ (fun hHeld5 => ?_)
            · (try dsimp only)
              go_keep
            clear hK K
            try simp only [List.getElem_toArray, List.getElem_cons_succ, List.getElem_cons_zero, Act.put, List.setIfInBounds_toArray, List.set_cons_zero, List.set_cons_succ]
            refine wpAnyH_take (i := 6) (v := ?va20) rfl (by kernel_rfl) (by kernel_rfl) (by kernel_rfl) (fun _ _ _ h => h) (Or.inl ⟨by rfl, ?hya20⟩) (by assumption) ?rest20
            case hya20 => (intro wz hSw; (try dsimp only at hSw); go_simp; all_goals with_reducible rfl)
            try simp only [List.getElem_toArray, List.getElem_cons_succ, List.getElem_cons_zero, Act.put, List.setIfInBounds_toArray, List.set_cons_zero, List.set_cons_succ]
            refine wpAnyH_done (by kernel_rfl) ?_ _
            go_wp2
            go_roundw
            case rel => exact ⟨k + 1, 2, by omega, by go_num, rfl, NN, BQ⟩
            case measure => simp [intOf]; omega
          · have HP := hide hp
            have NN := hide (show StK m zs (k + 1) 0 from Or.inl ⟨rfl, fun j hj => by
              rcases Nat.lt_succ_iff_lt_or_eq.1 hj with h1 | h1
              · exact hall.out j h1
              · subst h1
                rw [← HZZ.out]
                exact hp⟩)
            clear hp
            go_wp2_with fail
            refine wp_region_held_drew (S := (fun w' => w'.cell? ⟨w.heap.size, 0, none⟩ = some (.int .i64 m.id) ∧ w'.cell? ⟨w.heap.size, 1, none⟩ = some (.slice A1 n1 c1) ∧ w'.cell? ⟨w.heap.size, 2, none⟩ = some (.slice A2 n2 c2) ∧ w'.cell? ⟨w.heap.size, 3, none⟩ = some (.slice A3 n3 q3) ∧ w'.cell? ⟨b, off + k, none⟩ = some (.int .i64 z))) (by kernel_rfl) ?_ (fun hHeld => ?_)
            · (try dsimp only)
              go_keep
            refine wpAnyH_take (i := 0) (v := ?va21) rfl (by kernel_rfl) (by kernel_rfl) (by kernel_rfl) (fun _ _ _ h => h) (Or.inl ⟨by rfl, ?hya21⟩) (by assumption) ?rest21
            case hya21 => (intro wz hSw; (try dsimp only at hSw); go_simp; all_goals with_reducible rfl)
            try simp only [List.getElem_toArray, List.getElem_cons_succ, List.getElem_cons_zero, Act.put, List.setIfInBounds_toArray, List.set_cons_zero, List.set_cons_succ]
            refine wpAnyH_take (i := 1) (v := ?va22) rfl (by kernel_rfl) (by kernel_rfl) (by kernel_rfl) (fun _ _ _ h => h) (Or.inl ⟨by rfl, ?hya22⟩) (by assumption) ?rest22
            case hya22 => (intro wz hSw; (try dsimp only at hSw); go_simp; all_goals with_reducible rfl)
            try simp only [List.getElem_toArray, List.getElem_cons_succ, List.getElem_cons_zero, Act.put, List.setIfInBounds_toArray, List.set_cons_zero, List.set_cons_succ]
            refine wpAnyH_take (i := 2) (v := ?va23) rfl (by kernel_rfl) (by kernel_rfl) (by kernel_rfl) (fun _ _ _ h => h) (Or.inl ⟨by rfl, ?hya23⟩) (by assumption) ?rest23
            case hya23 => (intro wz hSw; (try dsimp only at hSw); go_simp; all_goals with_reducible rfl)
            try simp only [List.getElem_toArray, List.getElem_cons_succ, List.getElem_cons_zero, Act.put, List.setIfInBounds_toArray, List.set_cons_zero, List.set_cons_succ]
            refine wpAnyH_take (i := 3) (v := ?va24) rfl (by kernel_rfl) (by kernel_rfl) (by kernel_rfl) (fun _ _ _ h => h) (Or.inl ⟨by rfl, ?hya24⟩) (by assumption) ?rest24
            case hya24 => (intro wz hSw; (try dsimp only at hSw); go_simp; all_goals with_reducible rfl)
            try simp only [List.getElem_toArray, List.getElem_cons_succ, List.getElem_cons_zero, Act.put, List.setIfInBounds_toArray, List.set_cons_zero, List.set_cons_succ]
            refine wpAnyH_take (i := 4) (v := ?va25) rfl (by kernel_rfl) (by kernel_rfl) (by kernel_rfl) (fun _ _ _ h => h) (Or.inl ⟨by rfl, ?hya25⟩) (by assumption) ?rest25
            case hya25 => (intro wz hSw; (try dsimp only at hSw); go_simp; all_goals with_reducible rfl)
            try simp only [List.getElem_toArray, List.getElem_cons_succ, List.getElem_cons_zero, Act.put, List.setIfInBounds_toArray, List.set_cons_zero, List.set_cons_succ]
            refine wpAnyH_ready (rs := [5]) (by kernel_rfl) (by simp) ?_
            refine AllReadyH.cons rfl (fun K hK => ?_) AllReadyH.nil
            go_simp
            (go_at_call 87; (with_reducible refine (l15Known_any _ m z _ HMK.out hq HT.out).mono ?_); rintro ee w2 ⟨rfl, b2⟩; rw [HP.out]; have b3 := below_drewS2 b2; have f0 := (b3.cell (p := ⟨w.heap.size, 0, none⟩) hl0).trans d0; have f1 := (b3.cell (p := ⟨w.heap.size, 1, none⟩) hl0).trans d1; have f2 := (b3.cell (p := ⟨w.heap.size, 2, none⟩) hl0).trans d2; have f3 := (b3.cell (p := ⟨w.heap.size, 3, none⟩) hl0).trans d3; have g0 := (b3.cell (p := ⟨b, off + k, none⟩) hb).trans c0; have BQ := hide (below_trans B1.out b3); clear b2 b3)
            go_wp2_with fail
            refine hK.out _ _ ?_ (fun hHeld5 => ?_)
            · (try dsimp only)
              go_keep
            clear hK K
            try simp only [List.getElem_toArray, List.getElem_cons_succ, List.getElem_cons_zero, Act.put, List.setIfInBounds_toArray, List.set_cons_zero, List.set_cons_succ]
            refine wpAnyH_take (i := 6) (v := ?va26) rfl (by kernel_rfl) (by kernel_rfl) (by kernel_rfl) (fun _ _ _ h => h) (Or.inl ⟨by rfl, ?hya26⟩) (by assumption) ?rest26
            case hya26 => (intro wz hSw; (try dsimp only at hSw); go_simp; all_goals with_reducible rfl)
            try simp only [List.getElem_toArray, List.getElem_cons_succ, List.getElem_cons_zero, Act.put, List.setIfInBounds_toArray, List.set_cons_zero, List.set_cons_succ]
            refine wpAnyH_done (by kernel_rfl) ?_ _
            go_wp2
            go_roundw
            case rel => exact ⟨k + 1, 0, by omega, by go_num, rfl, NN, BQ⟩
            case measure => simp [intOf]; omega
        · obtain rfl : k = n := by omega
          have AN := hide (show zs.all (hasN m.ns) = true from all_upto (fun j hj => hall.out j (by rw [← hzl.out]; exact hj)))
          have NZ := hide (show ncB m mode zs = 0 by rw [N1.out, AN.out]; rfl)
          have E1 := hide (show scB m mode zs = bif zs.all (actB m.ns) then 0 else 4 by rw [scB, NZ.out]; rfl)
          clear N1 hall
          go_wp2_with fail
          go_loopw [7, 9] (fun q i wr => ∃ (j : Nat) (u : Int), j ≤ k ∧ i = .int .i64 j ∧ q = .int .i64 u ∧ Hid (StA m zs j u) ∧ Hid (Below W0.heap.size W0 wr)) (fun _ i _ => k - (intOf i).toNat)
          case atStart => exact ⟨0, 0, by omega, rfl, rfl, hide (Or.inl ⟨rfl, fun j hj => by omega⟩), B1⟩
          case round =>
            clear B1
            obtain ⟨j, u, hj, rfl, rfl, hu, B1⟩ := hrel
            by_cases hu0 : u = 0
            · subst hu0
              have hall := hide (show ∀ i, i < j → actB m.ns (nth zs i) = true from by
                rcases hu.out with q | q
                · exact q.2
                · exact absurd q.1 (by decide))
              clear hu
              by_cases hlt : j < k
              · obtain ⟨b, off, rfl, hb, hc⟩ := (HZ.out.below B1.out).at_ (by omega)
                have c0 := hc j hlt
                have F := HF.out.keep B1.out
                have d1 := F.cell 1
                simp at d1
                have HL := hide (show j < zs.length by rw [hzl.out]; exact hlt)
                have hid := hasN_id HI.out (List.all_eq_true.1 AN.out _ (nth_mem HL.out))
                obtain ⟨d, hd⟩ : ∃ d : Nat, nth zs j = d := ⟨(nth zs j).toNat, by omega⟩
                have hd32 : d < 32 := by omega
                rw [hd] at c0
                have HA := hide (show actB m.ns (nth zs j) = (actV m.ns).testBit d by rw [actB, hd]; rfl)
                have HN := hide (show RdR Nod.v 4 wr.drew A1 n1 c1 m.ns from (H1.out.below B1.out).drewN 1)
                have z1 : (j : Int) < (k : Int) := by omega
                clear hc F hid hd
                cases hp : (actV m.ns).testBit d
                · have HP := hide hp
                  have NN := hide (show StA m zs (j + 1) 4 from Or.inr ⟨rfl, all_not HL.out (by rw [HA.out]; exact hp)⟩)
                  clear hp
                  go_wp2_with fail
                  refine wp_region_held_drew (S := (fun w' => w'.cell? ⟨w.heap.size, 1, none⟩ = some (.slice A1 n1 c1) ∧ w'.cell? ⟨b, off + j, none⟩ = some (.int .i64 d))) (by kernel_rfl) ?_ (fun hHeld => ?_)
                  · (try dsimp only)
                    go_keep
                  refine wpAnyH_take (i := 0) (v := ?va1) rfl (by kernel_rfl) (by kernel_rfl) (by kernel_rfl) (fun _ _ _ h => h) (Or.inl ⟨by rfl, ?hya1⟩) (by assumption) ?rest1
                  case hya1 => (intro wz hSw; (try dsimp only at hSw); go_simp; all_goals with_reducible rfl)
                  try simp only [List.getElem_toArray, List.getElem_cons_succ, List.getElem_cons_zero, Act.put, List.setIfInBounds_toArray, List.set_cons_zero, List.set_cons_succ]
                  refine wpAnyH_take (i := 1) (v := ?va2) rfl (by kernel_rfl) (by kernel_rfl) (by kernel_rfl) (fun _ _ _ h => h) (Or.inl ⟨by rfl, ?hya2⟩) (by assumption) ?rest2
                  case hya2 => (intro wz hSw; (try dsimp only at hSw); go_simp; all_goals with_reducible rfl)
                  try simp only [List.getElem_toArray, List.getElem_cons_succ, List.getElem_cons_zero, Act.put, List.setIfInBounds_toArray, List.set_cons_zero, List.set_cons_succ]
                  refine wpAnyH_take (i := 3) (v := ?va3) rfl (by kernel_rfl) (by kernel_rfl) (by kernel_rfl) (fun _ _ _ h => h) (Or.inl ⟨by rfl, ?hya3⟩) (by assumption) ?rest3
                  case hya3 => (intro wz hSw; (try dsimp only at hSw); go_simp; all_goals with_reducible rfl)
                  try simp only [List.getElem_toArray, List.getElem_cons_succ, List.getElem_cons_zero, Act.put, List.setIfInBounds_toArray, List.set_cons_zero, List.set_cons_succ]
                  refine wpAnyH_take (i := 4) (v := ?va4) rfl (by kernel_rfl) (by kernel_rfl) (by kernel_rfl) (fun _ _ _ h => h) (Or.inl ⟨by rfl, ?hya4⟩) (by assumption) ?rest4
                  case hya4 => (intro wz hSw; (try dsimp only at hSw); go_simp; all_goals with_reducible rfl)
                  try simp only [List.getElem_toArray, List.getElem_cons_succ, List.getElem_cons_zero, Act.put, List.setIfInBounds_toArray, List.set_cons_zero, List.set_cons_succ]
                  refine wpAnyH_take (i := 5) (v := ?va5) rfl (by kernel_rfl) (by kernel_rfl) (by kernel_rfl) (fun _ _ _ h => h) (Or.inl ⟨by rfl, ?hya5⟩) (by assumption) ?rest5
                  case hya5 => (intro wz hSw; (try dsimp only at hSw); go_simp; all_goals with_reducible rfl)
                  try simp only [List.getElem_toArray, List.getElem_cons_succ, List.getElem_cons_zero, Act.put, List.setIfInBounds_toArray, List.set_cons_zero, List.set_cons_succ]
                  refine wpAnyH_take (i := 6) (v := ?va6) rfl (by kernel_rfl) (by kernel_rfl) (by kernel_rfl) (fun _ _ _ h => h) (Or.inl ⟨by rfl, ?hya6⟩) (by assumption) ?rest6
                  case hya6 => (intro wz hSw; (try dsimp only at hSw); go_simp; all_goals with_reducible rfl)
                  try simp only [List.getElem_toArray, List.getElem_cons_succ, List.getElem_cons_zero, Act.put, List.setIfInBounds_toArray, List.set_cons_zero, List.set_cons_succ]
                  refine wpAnyH_ready (rs := [2]) (by kernel_rfl) (by simp) ?_
                  refine AllReadyH.cons rfl (fun K hK => ?_) AllReadyH.nil
                  go_simp
                  (go_at_call 89; (with_reducible refine (l10Active_any _ _ _ _ _ HN.out HI.out).mono ?_); rintro ee w2 ⟨rfl, rfl⟩)
                  go_wp2_with fail
                  refine hK.out _ _ ?_ (fun hHeld2 => ?_)
                  · (try dsimp only)
                    go_keep
                  clear hK K
                  try simp only [List.getElem_toArray, List.getElem_cons_succ, List.getElem_cons_zero, Act.put, List.setIfInBounds_toArray, List.set_cons_zero, List.set_cons_succ]
                  refine wpAnyH_ready (rs := [7]) (by kernel_rfl) (by simp) ?_
                  refine AllReadyH.cons rfl (fun K hK => ?_) AllReadyH.nil
                  go_simp
                  (go_at_call 88; (with_reducible refine (l05Has_any _ _ HV.out hd32 _).mono ?_); rintro ee w2 ⟨rfl, rfl⟩; rw [HP.out])
                  go_wp2_with fail
                  refine hK.out _ _ ?_ (fun hHeld7 => ?_)
                  · (try dsimp only)
                    go_keep
                  clear hK K
                  try simp only [List.getElem_toArray, List.getElem_cons_succ, List.getElem_cons_zero, Act.put, List.setIfInBounds_toArray, List.set_cons_zero, List.set_cons_succ]
                  refine wpAnyH_take (i := 8) (v := ?va7) rfl (by kernel_rfl) (by kernel_rfl) (by kernel_rfl) (fun _ _ _ h => h) (Or.inl ⟨by rfl, ?hya7⟩) (by assumption) ?rest7
                  case hya7 => (intro wz hSw; (try dsimp only at hSw); go_simp; all_goals with_reducible rfl)
                  try simp only [List.getElem_toArray, List.getElem_cons_succ, List.getElem_cons_zero, Act.put, List.setIfInBounds_toArray, List.set_cons_zero, List.set_cons_succ]
                  refine wpAnyH_done (by kernel_rfl) ?_ _
                  have BQ := hide (below_drewT B1.out)
                  go_wp2
                  go_roundw
                  case rel => exact ⟨j + 1, 4, by omega, by go_num, rfl, NN, BQ⟩
                  case measure => simp [intOf]; omega
                · have HP := hide hp
                  have NN := hide (show StA m zs (j + 1) 0 from Or.inl ⟨rfl, fun i hi => by
                    rcases Nat.lt_succ_iff_lt_or_eq.1 hi with h1 | h1
                    · exact hall.out i h1
                    · subst h1
                      rw [HA.out]
                      exact hp⟩)
                  clear hp
                  go_wp2_with fail
                  refine wp_region_held_drew (S := (fun w' => w'.cell? ⟨w.heap.size, 1, none⟩ = some (.slice A1 n1 c1) ∧ w'.cell? ⟨b, off + j, none⟩ = some (.int .i64 d))) (by kernel_rfl) ?_ (fun hHeld => ?_)
                  · (try dsimp only)
                    go_keep
                  refine wpAnyH_take (i := 0) (v := ?va8) rfl (by kernel_rfl) (by kernel_rfl) (by kernel_rfl) (fun _ _ _ h => h) (Or.inl ⟨by rfl, ?hya8⟩) (by assumption) ?rest8
                  case hya8 => (intro wz hSw; (try dsimp only at hSw); go_simp; all_goals with_reducible rfl)
                  try simp only [List.getElem_toArray, List.getElem_cons_succ, List.getElem_cons_zero, Act.put, List.setIfInBounds_toArray, List.set_cons_zero, List.set_cons_succ]
                  refine wpAnyH_take (i := 1) (v := ?va9) rfl (by kernel_rfl) (by kernel_rfl) (by kernel_rfl) (fun _ _ _ h => h) (Or.inl ⟨by rfl, ?hya9⟩) (by assumption) ?rest9
                  case hya9 => (intro wz hSw; (try dsimp only at hSw); go_simp; all_goals with_reducible rfl)
                  try simp only [List.getElem_toArray, List.getElem_cons_succ, List.getElem_cons_zero, Act.put, List.setIfInBounds_toArray, List.set_cons_zero, List.set_cons_succ]
                  refine wpAnyH_take (i := 3) (v := ?va10) rfl (by kernel_rfl) (by kernel_rfl) (by kernel_rfl) (fun _ _ _ h => h) (Or.inl ⟨by rfl, ?hya10⟩) (by assumption) ?rest10
                  case hya10 => (intro wz hSw; (try dsimp only at hSw); go_simp; all_goals with_reducible rfl)
                  try simp only [List.getElem_toArray, List.getElem_cons_succ, List.getElem_cons_zero, Act.put, List.setIfInBounds_toArray, List.set_cons_zero, List.set_cons_succ]
                  refine wpAnyH_take (i := 4) (v := ?va11) rfl (by kernel_rfl) (by kernel_rfl) (by kernel_rfl) (fun _ _ _ h => h) (Or.inl ⟨by rfl, ?hya11⟩) (by assumption) ?rest11
                  case hya11 => (intro wz hSw; (try dsimp only at hSw); go_simp; all_goals with_reducible rfl)
                  try simp only [List.getElem_toArray, List.getElem_cons_succ, List.getElem_cons_zero, Act.put, List.setIfInBounds_toArray, List.set_cons_zero, List.set_cons_succ]
                  refine wpAnyH_take (i := 5) (v := ?va12) rfl (by kernel_rfl) (by kernel_rfl) (by kernel_rfl) (fun _ _ _ h => h) (Or.inl ⟨by rfl, ?hya12⟩) (by assumption) ?rest12
                  case hya12 => (intro wz hSw; (try dsimp only at hSw); go_simp; all_goals with_reducible rfl)
                  try simp only [List.getElem_toArray, List.getElem_cons_succ, List.getElem_cons_zero, Act.put, List.setIfInBounds_toArray, List.set_cons_zero, List.set_cons_succ]
                  refine wpAnyH_take (i := 6) (v := ?va13) rfl (by kernel_rfl) (by kernel_rfl) (by kernel_rfl) (fun _ _ _ h => h) (Or.inl ⟨by rfl, ?hya13⟩) (by assumption) ?rest13
                  case hya13 => (intro wz hSw; (try dsimp only at hSw); go_simp; all_goals with_reducible rfl)
                  try simp only [List.getElem_toArray, List.getElem_cons_succ, List.getElem_cons_zero, Act.put, List.setIfInBounds_toArray, List.set_cons_zero, List.set_cons_succ]
                  refine wpAnyH_ready (rs := [2]) (by kernel_rfl) (by simp) ?_
                  refine AllReadyH.cons rfl (fun K hK => ?_) AllReadyH.nil
                  go_simp
                  (go_at_call 89; (with_reducible refine (l10Active_any _ _ _ _ _ HN.out HI.out).mono ?_); rintro ee w2 ⟨rfl, rfl⟩)
                  go_wp2_with fail
                  refine hK.out _ _ ?_ (fun hHeld2 => ?_)
                  · (try dsimp only)
                    go_keep
                  clear hK K
                  try simp only [List.getElem_toArray, List.getElem_cons_succ, List.getElem_cons_zero, Act.put, List.setIfInBounds_toArray, List.set_cons_zero, List.set_cons_succ]
                  refine wpAnyH_ready (rs := [7]) (by kernel_rfl) (by simp) ?_
                  refine AllReadyH.cons rfl (fun K hK => ?_) AllReadyH.nil
                  go_simp
                  (go_at_call 88; (with_reducible refine (l05Has_any _ _ HV.out hd32 _).mono ?_); rintro ee w2 ⟨rfl, rfl⟩; rw [HP.out])
                  go_wp2_with fail
                  refine hK.out _ _ ?_ (fun hHeld7 => ?_)
                  · (try dsimp only)
                    go_keep
                  clear hK K
                  try simp only [List.getElem_toArray, List.getElem_cons_succ, List.getElem_cons_zero, Act.put, List.setIfInBounds_toArray, List.set_cons_zero, List.set_cons_succ]
                  refine wpAnyH_take (i := 8) (v := ?va14) rfl (by kernel_rfl) (by kernel_rfl) (by kernel_rfl) (fun _ _ _ h => h) (Or.inl ⟨by rfl, ?hya14⟩) (by assumption) ?rest14
                  case hya14 => (intro wz hSw; (try dsimp only at hSw); go_simp; all_goals with_reducible rfl)
                  try simp only [List.getElem_toArray, List.getElem_cons_succ, List.getElem_cons_zero, Act.put, List.setIfInBounds_toArray, List.set_cons_zero, List.set_cons_succ]
                  refine wpAnyH_done (by kernel_rfl) ?_ _
                  have BQ := hide (below_drewT B1.out)
                  go_wp2
                  go_roundw
                  case rel => exact ⟨j + 1, 0, by omega, by go_num, rfl, NN, BQ⟩
                  case measure => simp [intOf]; omega
              · obtain rfl : j = k := by omega
                have E := hide (show scB m mode zs = 0 by rw [E1.out, all_upto (fun i hi => hall.out i (by rw [← hzl.out]; exact hi))]; rfl)
                go_wp2
                go_ret
                exact ⟨by rw [E.out]; rfl, below_trans BA.out B1.out⟩
            · have t1 : (u == 0) = false := by simpa using hu0
              have E := hide (show scB m mode zs = u by
                rcases hu.out with q | q
                · exact absurd q.1 hu0
                · rw [E1.out, q.2, q.1]; rfl)
              clear hu hu0
              by_cases hlt : j < k
              · go_wp2
                go_ret
                exact ⟨by rw [E.out]; rfl, below_trans BA.out B1.out⟩
              · obtain rfl : j = k := by omega
                go_wp2
                go_ret
                exact ⟨by rw [E.out]; rfl, below_trans BA.out B1.out⟩
      · have t1 : (u == 0) = false := by simpa using hu0
        have E := hide (show scB m mode zs = u by
          rcases hu.out with q | q
          · exact absurd q.1 hu0
          · have e : ncB m mode zs = 2 := by rw [N1.out, q.2]; rfl
            rw [scB, e, q.1]; rfl)
        clear hu hu0
        by_cases hlt : k < n
        · go_wp2_with fail
          go_loopw [7, 9] (fun q i wr => i = .int .i64 0 ∧ q = .int .i64 u ∧ Hid (Below W0.heap.size W0 wr)) (fun _ i _ => 0)
          case atStart => exact ⟨rfl, rfl, B1⟩
          case round =>
            clear B1
            obtain ⟨rfl, rfl, B1⟩ := hrel
            by_cases hn1 : 0 < n
            · have tn1 : decide ((0 : Int) < (n : Int)) = true := decide_eq_true (by omega)
              go_wp2
              go_ret
              exact ⟨by rw [E.out]; rfl, below_trans BA.out B1.out⟩
            · have tn1 : decide ((0 : Int) < (n : Int)) = false := decide_eq_false (by omega)
              go_wp2
              go_ret
              exact ⟨by rw [E.out]; rfl, below_trans BA.out B1.out⟩
        · obtain rfl : k = n := by omega
          go_wp2_with fail
          go_loopw [7, 9] (fun q i wr => i = .int .i64 0 ∧ q = .int .i64 u ∧ Hid (Below W0.heap.size W0 wr)) (fun _ i _ => 0)
          case atStart => exact ⟨rfl, rfl, B1⟩
          case round =>
            clear B1
            obtain ⟨rfl, rfl, B1⟩ := hrel
            by_cases hn1 : 0 < k
            · have tn1 : decide ((0 : Int) < (k : Int)) = true := decide_eq_true (by omega)
              go_wp2
              go_ret
              exact ⟨by rw [E.out]; rfl, below_trans BA.out B1.out⟩
            · have tn1 : decide ((0 : Int) < (k : Int)) = false := decide_eq_false (by omega)
              go_wp2
              go_ret
              exact ⟨by rw [E.out]; rfl, below_trans BA.out B1.out⟩
  · have t1 : (cz == 0) = false := by simpa using hc0
    have E := hide (show scB m mode zs = cz by
      have e : ncB m mode zs = cz := by rw [ncB, ← hcz, t1]; rfl
      rw [scB, e, t1]; rfl)
    clear hcz hc0
    go_wp2_with fail
    go_loopw [7, 8] (fun q i wr => i = .int .i64 0 ∧ q = .int .i64 cz ∧ Hid (Below W0.heap.size W0 wr)) (fun _ i _ => 0)
    case atStart => exact ⟨rfl, rfl, B1⟩
    case round =>
      clear B1
      obtain ⟨rfl, rfl, B1⟩ := hrel
      by_cases hn0 : 0 < n
      · have tn : decide ((0 : Int) < (n : Int)) = true := decide_eq_true (by omega)
        go_wp2_with fail
        go_loopw [7, 9] (fun q i wr => i = .int .i64 0 ∧ q = .int .i64 cz ∧ Hid (Below W0.heap.size W0 wr)) (fun _ i _ => 0)
        case atStart => exact ⟨rfl, rfl, B1⟩
        case round =>
          clear B1
          obtain ⟨rfl, rfl, B1⟩ := hrel
          by_cases hn1 : 0 < n
          · have tn1 : decide ((0 : Int) < (n : Int)) = true := decide_eq_true (by omega)
            go_wp2
            go_ret
            exact ⟨by rw [E.out]; rfl, below_trans BA.out B1.out⟩
          · have tn1 : decide ((0 : Int) < (n : Int)) = false := decide_eq_false (by omega)
            go_wp2
            go_ret
            exact ⟨by rw [E.out]; rfl, below_trans BA.out B1.out⟩
      · have tn : decide ((0 : Int) < (n : Int)) = false := decide_eq_false (by omega)
        go_wp2_with fail
        go_loopw [7, 9] (fun q i wr => i = .int .i64 0 ∧ q = .int .i64 cz ∧ Hid (Below W0.heap.size W0 wr)) (fun _ i _ => 0)
        case atStart => exact ⟨rfl, rfl, B1⟩
        case round =>
          clear B1
          obtain ⟨rfl, rfl, B1⟩ := hrel
          by_cases hn1 : 0 < n
          · have tn1 : decide ((0 : Int) < (n : Int)) = true := decide_eq_true (by omega)
            go_wp2
            go_ret
            exact ⟨by rw [E.out]; rfl, below_trans BA.out B1.out⟩
          · have tn1 : decide ((0 : Int) < (n : Int)) = false := decide_eq_false (by omega)
            go_wp2
            go_ret
            exact ⟨by rw [E.out]; rfl, below_trans BA.out B1.out⟩
end Go.Proofs.YtdkhldebnpmiiaaGreatDoor
