/- Contracts: the durations are steady, by the program. -/
import Derived.Test.YtdkhldebnpmiiaaGreatDoorZComp2
namespace Go.Proofs.YtdkhldebnpmiiaaGreatDoor
open Go.RowKit
set_option linter.unusedVariables false
set_option linter.unusedSimpArgs false
/-- the first round's entry of the same slot -/
def fstS (l : List Slt) (x : Slt) : Slt := sltA l (idx (slotB x.md 0 x.sl) l).toNat
def okF (l : List Slt) (k : Nat) : Bool := (sltA l k).du == (fstS l (sltA l k)).du
def allF (l : List Slt) (k : Nat) : Bool := (List.range k).all (okF l)
theorem allF_succ (l : List Slt) (k : Nat) : allF l (k + 1) = (allF l k && okF l k) := by simp [allF, List.range_succ]
/-- equal slots last equally long -/
def stdB (l : List Slt) : Bool := l.all (fun x => l.all (fun y => !(x.md == y.md && x.sl == y.sl) || x.du == y.du))
theorem fst_found {m : Mdl} (hc : compB m = true) (hr : Rds m.ms) {x : Slt} (hx : x ∈ m.ss) : ∃ (t : Nat) (y : Slt), idx (slotB x.md 0 x.sl) m.ss = t ∧ m.ss[t]? = some y ∧ y.md = x.md ∧ y.sl = x.sl ∧ fstS m.ss x = y := by
  have hE : key x ∈ Eto m.ms m.ms.length := by rw [← of_decide_eq_true hc]; exact List.mem_map_of_mem hx
  rw [Eto, List.mem_flatMap] at hE
  obtain ⟨k, hk, hb⟩ := hE
  have hkl := List.mem_range.1 hk
  rw [blockE, List.mem_map] at hb
  obtain ⟨i, hi, he⟩ := hb
  have hi2 := List.mem_range.1 hi
  have hS0 : 0 < slA m.ms k := by
    rcases Nat.eq_zero_or_pos (slA m.ms k) with h | h
    · rw [h] at hi2; simp at hi2
    · exact h
  have hR0 : 0 < rdA m.ms k := by
    rcases Nat.eq_zero_or_pos (rdA m.ms k) with h | h
    · rw [h] at hi2; simp at hi2
    · exact h
  have hs := Nat.mod_lt i hS0
  have hii : i % slA m.ms k < rdA m.ms k * slA m.ms k := by
    have : 1 * slA m.ms k ≤ rdA m.ms k * slA m.ms k := Nat.mul_le_mul_right _ hR0
    omega
  have hm := pre_mem (ms := m.ms) (K := m.ms.length) hii hkl
  rw [← of_decide_eq_true hc] at hm
  have hh := hasE_mem.2 hm
  have hg : gE k (slA m.ms k) (i % slA m.ms k) = (x.md, 0, x.sl) := by
    simp only [gE, key, Prod.mk.injEq] at he ⊢
    rw [Nat.mod_mod, Nat.div_eq_of_lt hs]
    exact ⟨he.1, rfl, he.2.2⟩
  rw [hg, hasE, ← idx_any, decide_eq_true_iff] at hh
  obtain ⟨t, y, h1, h2, h3⟩ := idx_get hh
  simp [slotB] at h3
  exact ⟨t, y, h1, h2, h3.1, h3.2.2, by rw [fstS, h1]; exact sltA_eq h2⟩
theorem std_iff {m : Mdl} (hc : compB m = true) (hr : Rds m.ms) : stdB m.ss = allF m.ss m.ss.length := by
  apply Bool.eq_iff_iff.mpr
  constructor
  · intro h
    refine List.all_eq_true.2 fun k hk => ?_
    have hkl := List.mem_range.1 hk
    have hx : m.ss[k]? = some m.ss[k] := List.getElem?_eq_getElem hkl
    obtain ⟨t, y, h1, h2, h3, h4, h5⟩ := fst_found hc hr (List.getElem_mem hkl)
    rw [okF, sltA_eq hx, h5]
    have := List.all_eq_true.1 (List.all_eq_true.1 h _ (List.getElem_mem hkl)) y (List.mem_of_getElem? h2)
    simpa [h3, h4] using this
  · intro h
    have key2 : ∀ x ∈ m.ss, x.du = (fstS m.ss x).du := fun x hx => by
      obtain ⟨k, hk, rfl⟩ := List.getElem_of_mem hx
      have := List.all_eq_true.1 h k (List.mem_range.2 hk)
      rw [okF, sltA_eq (List.getElem?_eq_getElem hk)] at this
      simpa using this
    refine List.all_eq_true.2 fun x hx => List.all_eq_true.2 fun y hy => ?_
    by_cases e : x.md = y.md ∧ x.sl = y.sl
    · have : fstS m.ss x = fstS m.ss y := by rw [fstS, fstS, e.1, e.2]
      have a := key2 x hx
      have b := key2 y hy
      simp [a, b, this]
    · have : (x.md == y.md && x.sl == y.sl) = false := by
        rw [Bool.eq_false_iff]
        intro q
        simp at q
        exact e q
      rw [this]
      rfl
set_option maxHeartbeats 6400000 in
theorem isSteady_any (v : Value) (m : Mdl) (w : World) (h : RdM w v m) (hr : Rds m.ms) (hc : compB m = true) :
    Calls Tryz.prog 142 #[v] w (BoolOut (stdB m.ss) w) := by
  have SI := hide (std_iff hc hr)
  have FF := hide (fun x hx => fst_found (x := x) hc hr hx)
  obtain ⟨A1, n1, c1, A2, n2, c2, A3, n3, q3, rfl, h1, h2, h3⟩ := h
  have hlen := hide h3.len
  have hcap := h3.cap
  obtain ⟨W0, hW0⟩ : ∃ W0, W0 = w.alloc (.cells #[.int .i64 m.id, .slice A1 n1 c1, .slice A2 n2 c2, .slice A3 n3 q3] 28) := ⟨_, rfl⟩
  have F0 : At W0 w.heap.size 28 #[.int .i64 m.id, .slice A1 n1 c1, .slice A2 n2 c2, .slice A3 n3 q3] := by rw [hW0]; exact At.fresh _ _ _
  have BA := hide (show Below w.heap.size w W0 by rw [hW0]; exact (Below.refl _ _).alloc (Nat.le_refl _) _)
  have H3 := hide (h3.below BA.out)
  have HF := hide F0
  have d3 := F0.cell 3
  simp at d3
  have HW := hide hW0
  clear hW0 F0 h1 h2 h3 hc
  go_enter Tryz.func142, Tryz.ntmps142
  go_wp2_with fail
  rw [← HW.out]
  go_loopw [9] (fun i wr => ∃ k : Nat, k ≤ n3 ∧ i = .int .i64 k ∧ Hid (allF m.ss k = true) ∧ Hid (Below W0.heap.size W0 wr)) (fun i _ => n3 - (intOf i).toNat)
  case atStart => exact ⟨0, by omega, rfl, hide rfl, hide (Below.refl _ _)⟩
  case round =>
    obtain ⟨k, hk, rfl, hall, hbel⟩ := hrel
    by_cases hlt : k < n3
    · obtain ⟨b, off, x, rfl, hb, hx, c0, c1, c2, c3, c4, c5, c6, c7⟩ := slt_at (H3.out.below hbel.out) hlt
      obtain ⟨t, y, ht, hy, hym, hys, hyf⟩ := FF.out x (List.mem_of_getElem? hx)
      have HX := hide hx
      have hty : t < n3 := by rw [← hlen.out]; exact get_lt hy
      obtain ⟨W1, hW1⟩ : ∃ W1, W1 = wr.alloc (.cells #[.int .i64 x.md, .int .i64 x.rd, .int .i64 x.sl, .int .i64 x.nd, .int .i64 x.kd, .int .i64 x.sz, .int .i64 x.du, .bool x.ch] 61) := ⟨_, rfl⟩
      obtain ⟨G, hG⟩ : ∃ G, G = wr.heap.size := ⟨_, rfl⟩
      have F1 : At W1 G 61 #[.int .i64 x.md, .int .i64 x.rd, .int .i64 x.sl, .int .i64 x.nd, .int .i64 x.kd, .int .i64 x.sz, .int .i64 x.du, .bool x.ch] := by rw [hW1, hG]; exact At.fresh _ _ _
      have BW0 : Below wr.heap.size wr W1 := by rw [hW1]; exact (Below.refl _ _).alloc (Nat.le_refl _) _
      have BW := hide (below_trans hbel.out BW0)
      have HW1 := hide hW1
      have HG := hide hG
      obtain ⟨b3, off3, y', hA', hb3, hy', y0, y1, y2, y3, y4, y5, y6, y7⟩ := slt_at (H3.out.below BW.out) hty
      rw [hy] at hy'
      obtain rfl := Option.some.inj hy'
      simp only [Option.some.injEq, Addr.mk.injEq] at hA'
      obtain ⟨rfl, rfl, _⟩ := hA'
      have g0 := F1.cell 0
      have g2 := F1.cell 2
      have g6 := F1.cell 6
      have e3 := (HF.out.keep BW.out).cell 3
      simp at g0 g2 g6 e3
      have hlG := F1.lt
      have hl3 := (HF.out.keep BW.out).lt
      have HSA := hide (show RdR Slt.v 8 W1.drew (some ⟨b, off, none⟩) n3 q3 m.ss from (H3.out.below BW.out).drewN 1)
      have BWB := hide (show Below W0.heap.size W0 (W1.alloc (.cells #[.int .i64 0, .int .i64 0, .int .i64 0, .int .i64 0, .int .i64 0, .int .i64 0, .int .i64 0, .bool false] 61)) from below_trans BW.out ((Below.refl _ _).alloc (Nat.le_refl _) _))
      have HSB := hide (show RdR Slt.v 8 (W1.alloc (.cells #[.int .i64 0, .int .i64 0, .int .i64 0, .int .i64 0, .int .i64 0, .int .i64 0, .int .i64 0, .bool false] 61)).drew (some ⟨b, off, none⟩) n3 q3 m.ss from (H3.out.below BWB.out).drewN 1)
      have FB := hide (At.fresh W1 61 #[.int .i64 0, .int .i64 0, .int .i64 0, .int .i64 0, .int .i64 0, .int .i64 0, .int .i64 0, .bool false])
      have HT := hide ht
      have z1 : (0 : Int) ≤ (t : Int) := by omega
      have z2 : (t : Int) < (n3 : Int) := by omega
      have HOK := hide (show okF m.ss k = (x.du == y.du) by rw [okF, sltA_eq HX.out, hyf])
      have HL := hide (show k < m.ss.length from get_lt HX.out)
      clear hx hy hy' ht hym hys hyf F1 BW0 hW1 hG
      by_cases hd : x.du = y.du
      · have t1 : (x.du == y.du) = true := by simpa using hd
        have NN := hide (show allF m.ss (k + 1) = true by rw [allF_succ, hall.out, HOK.out, t1]; rfl)
        clear hd HOK
        go_wp2_with fail
        rw [← HW1.out, ← HG.out]
        refine wp_region_held_drew (S := (fun w' => w'.cell? ⟨w.heap.size, 3, none⟩ = some (.slice (some ⟨b, off, none⟩) n3 q3) ∧ w'.cell? ⟨G, 0, none⟩ = some (.int .i64 x.md) ∧ w'.cell? ⟨G, 2, none⟩ = some (.int .i64 x.sl) ∧ w'.cell? ⟨G, 6, none⟩ = some (.int .i64 x.du) ∧ w'.cell? ⟨b, off + t * 8, none⟩ = some (.int .i64 y.md) ∧ w'.cell? ⟨b, off + t * 8 + 1, none⟩ = some (.int .i64 y.rd) ∧ w'.cell? ⟨b, off + t * 8 + 2, none⟩ = some (.int .i64 y.sl) ∧ w'.cell? ⟨b, off + t * 8 + 3, none⟩ = some (.int .i64 y.nd) ∧ w'.cell? ⟨b, off + t * 8 + 4, none⟩ = some (.int .i64 y.kd) ∧ w'.cell? ⟨b, off + t * 8 + 5, none⟩ = some (.int .i64 y.sz) ∧ w'.cell? ⟨b, off + t * 8 + 6, none⟩ = some (.int .i64 y.du) ∧ w'.cell? ⟨b, off + t * 8 + 7, none⟩ = some (.bool y.ch))) (by kernel_rfl) ?_ (fun hHeld => ?_)
        · (try dsimp only)
          go_keep
        refine wpAnyH_take (i := 0) (v := ?va13) rfl (by kernel_rfl) (by kernel_rfl) (by kernel_rfl) (fun _ _ _ h => h) (Or.inl ⟨by rfl, ?hya13⟩) (by assumption) ?rest13
        case hya13 => (intro wz hSw; (try dsimp only at hSw); go_simp; all_goals with_reducible rfl)
        try simp only [List.getElem_toArray, List.getElem_cons_succ, List.getElem_cons_zero, Act.put, List.setIfInBounds_toArray, List.set_cons_zero, List.set_cons_succ]
        refine wpAnyH_take (i := 1) (v := ?va14) rfl (by kernel_rfl) (by kernel_rfl) (by kernel_rfl) (fun _ _ _ h => h) (Or.inl ⟨by rfl, ?hya14⟩) (by assumption) ?rest14
        case hya14 => (intro wz hSw; (try dsimp only at hSw); go_simp; all_goals with_reducible rfl)
        try simp only [List.getElem_toArray, List.getElem_cons_succ, List.getElem_cons_zero, Act.put, List.setIfInBounds_toArray, List.set_cons_zero, List.set_cons_succ]
        refine wpAnyH_take (i := 2) (v := ?va15) rfl (by kernel_rfl) (by kernel_rfl) (by kernel_rfl) (fun _ _ _ h => h) (Or.inl ⟨by rfl, ?hya15⟩) (by assumption) ?rest15
        case hya15 => (intro wz hSw; (try dsimp only at hSw); go_simp; all_goals with_reducible rfl)
        try simp only [List.getElem_toArray, List.getElem_cons_succ, List.getElem_cons_zero, Act.put, List.setIfInBounds_toArray, List.set_cons_zero, List.set_cons_succ]
        refine wpAnyH_take (i := 3) (v := ?va16) rfl (by kernel_rfl) (by kernel_rfl) (by kernel_rfl) (fun _ _ _ h => h) (Or.inl ⟨by rfl, ?hya16⟩) (by assumption) ?rest16
        case hya16 => (intro wz hSw; (try dsimp only at hSw); go_simp; all_goals with_reducible rfl)
        try simp only [List.getElem_toArray, List.getElem_cons_succ, List.getElem_cons_zero, Act.put, List.setIfInBounds_toArray, List.set_cons_zero, List.set_cons_succ]
        refine wpAnyH_take (i := 4) (v := ?va17) rfl (by kernel_rfl) (by kernel_rfl) (by kernel_rfl) (fun _ _ _ h => h) (Or.inl ⟨by rfl, ?hya17⟩) (by assumption) ?rest17
        case hya17 => (intro wz hSw; (try dsimp only at hSw); go_simp; all_goals with_reducible rfl)
        try simp only [List.getElem_toArray, List.getElem_cons_succ, List.getElem_cons_zero, Act.put, List.setIfInBounds_toArray, List.set_cons_zero, List.set_cons_succ]
        refine wpAnyH_take (i := 5) (v := ?va18) rfl (by kernel_rfl) (by kernel_rfl) (by kernel_rfl) (fun _ _ _ h => h) (Or.inl ⟨by rfl, ?hya18⟩) (by assumption) ?rest18
        case hya18 => (intro wz hSw; (try dsimp only at hSw); go_simp; all_goals with_reducible rfl)
        try simp only [List.getElem_toArray, List.getElem_cons_succ, List.getElem_cons_zero, Act.put, List.setIfInBounds_toArray, List.set_cons_zero, List.set_cons_succ]
        refine wpAnyH_take (i := 6) (v := ?va19) rfl (by kernel_rfl) (by kernel_rfl) (by kernel_rfl) (fun _ _ _ h => h) (Or.inl ⟨by rfl, ?hya19⟩) (by assumption) ?rest19
        case hya19 => (intro wz hSw; (try dsimp only at hSw); go_simp; all_goals with_reducible rfl)
        try simp only [List.getElem_toArray, List.getElem_cons_succ, List.getElem_cons_zero, Act.put, List.setIfInBounds_toArray, List.set_cons_zero, List.set_cons_succ]
        refine wpAnyH_take (i := 7) (v := ?va20) rfl (by kernel_rfl) (by kernel_rfl) (by kernel_rfl) (fun _ _ _ h => h) (Or.inl ⟨by rfl, ?hya20⟩) (by assumption) ?rest20
        case hya20 => (intro wz hSw; (try dsimp only at hSw); go_simp; all_goals with_reducible rfl)
        try simp only [List.getElem_toArray, List.getElem_cons_succ, List.getElem_cons_zero, Act.put, List.setIfInBounds_toArray, List.set_cons_zero, List.set_cons_succ]
        refine wpAnyH_ready (rs := [8, 11]) (by kernel_rfl) (by simp) ?_
        refine AllReadyH.cons rfl (fun K hK => ?_) (AllReadyH.cons rfl (fun K hK => ?_) AllReadyH.nil)
        · go_simp
          (go_at_call 162; (with_reducible refine (findSlot_any _ _ _ _ _ _ _ _ HSA.out).mono ?_); rintro ee w1 ⟨rfl, b1⟩; rw [HT.out]; have b2 := below_drewS2 b1; have f3 := (b2.cell (p := ⟨w.heap.size, 3, none⟩) hl3).trans e3; have fg0 := (b2.cell (p := ⟨G, 0, none⟩) hlG).trans g0; have fg2 := (b2.cell (p := ⟨G, 2, none⟩) hlG).trans g2; have fg6 := (b2.cell (p := ⟨G, 6, none⟩) hlG).trans g6; have f10 := (b2.cell (p := ⟨b, off + t * 8, none⟩) hb3).trans y0; have f11 := (b2.cell (p := ⟨b, off + t * 8 + 1, none⟩) hb3).trans y1; have f12 := (b2.cell (p := ⟨b, off + t * 8 + 2, none⟩) hb3).trans y2; have f13 := (b2.cell (p := ⟨b, off + t * 8 + 3, none⟩) hb3).trans y3; have f14 := (b2.cell (p := ⟨b, off + t * 8 + 4, none⟩) hb3).trans y4; have f15 := (b2.cell (p := ⟨b, off + t * 8 + 5, none⟩) hb3).trans y5; have f16 := (b2.cell (p := ⟨b, off + t * 8 + 6, none⟩) hb3).trans y6; have f17 := (b2.cell (p := ⟨b, off + t * 8 + 7, none⟩) hb3).trans y7; have BQ := hide (below_trans BW.out b2); have lb := Nat.lt_of_lt_of_le hb3 b2.size; have lg := Nat.lt_of_lt_of_le hlG b2.size; have l3 := Nat.lt_of_lt_of_le hl3 b2.size; clear b1 b2)
          go_wp2_with fail
          refine hK.out _ _ ?_ (fun hHeld8 => ?_)
          · (try dsimp only)
            go_keep
          clear hK K
          try simp only [List.getElem_toArray, List.getElem_cons_succ, List.getElem_cons_zero, Act.put, List.setIfInBounds_toArray, List.set_cons_zero, List.set_cons_succ]
          refine wpAnyH_take (i := 9) (v := ?va21) rfl (by kernel_rfl) (by kernel_rfl) (by kernel_rfl) (fun _ _ _ h => h) (Or.inl ⟨by rfl, ?hya21⟩) (by assumption) ?rest21
          case hya21 => (intro wz hSw; (try dsimp only at hSw); go_simp; all_goals with_reducible rfl)
          try simp only [List.getElem_toArray, List.getElem_cons_succ, List.getElem_cons_zero, Act.put, List.setIfInBounds_toArray, List.set_cons_zero, List.set_cons_succ]
          refine wpAnyH_take (i := 10) (v := ?va22) rfl (by kernel_rfl) (by kernel_rfl) (by kernel_rfl) (fun _ _ _ h => h) (Or.inl ⟨by rfl, ?hya22⟩) (by assumption) ?rest22
          case hya22 => (intro wz hSw; (try dsimp only at hSw); go_simp; all_goals with_reducible rfl)
          try simp only [List.getElem_toArray, List.getElem_cons_succ, List.getElem_cons_zero, Act.put, List.setIfInBounds_toArray, List.set_cons_zero, List.set_cons_succ]
          refine wpAnyH_ready (rs := [11]) (by kernel_rfl) (by simp) ?_
          refine AllReadyH.cons rfl (fun K hK => ?_) AllReadyH.nil
          go_simp
          refine hK.out _ _ ?_ (fun hHeld11 => ?_)
          · (try dsimp only)
            go_keep
          clear hK K
          try simp only [List.getElem_toArray, List.getElem_cons_succ, List.getElem_cons_zero, Act.put, List.setIfInBounds_toArray, List.set_cons_zero, List.set_cons_succ]
          refine wpAnyH_ready (rs := [12]) (by kernel_rfl) (by simp) ?_
          refine AllReadyH.cons rfl (fun K hK => ?_) AllReadyH.nil
          go_simp
          refine hK.out _ _ ?_ (fun hHeld12 => ?_)
          · (try dsimp only)
            go_keep
          clear hK K
          try simp only [List.getElem_toArray, List.getElem_cons_succ, List.getElem_cons_zero, Act.put, List.setIfInBounds_toArray, List.set_cons_zero, List.set_cons_succ]
          refine wpAnyH_done (by kernel_rfl) ?_ _
          have BX := hide (show Below W0.heap.size W0 (w1.alloc (.cells #[.int .i64 y.md, .int .i64 y.rd, .int .i64 y.sl, .int .i64 y.nd, .int .i64 y.kd, .int .i64 y.sz, .int .i64 y.du, .bool y.ch] 61)) from below_trans BQ.out ((Below.refl _ _).alloc (Nat.le_refl _) _))
          go_wp2
          go_roundw
          case rel => exact ⟨k + 1, by omega, by go_num, NN, BX⟩
          case measure => simp [intOf]; omega
        · go_simp
          refine hK.out _ _ ?_ (fun hHeld11 => ?_)
          · (try dsimp only)
            go_keep
          clear hK K
          try simp only [List.getElem_toArray, List.getElem_cons_succ, List.getElem_cons_zero, Act.put, List.setIfInBounds_toArray, List.set_cons_zero, List.set_cons_succ]
          refine wpAnyH_ready (rs := [8]) (by kernel_rfl) (by simp) ?_
          refine AllReadyH.cons rfl (fun K hK => ?_) AllReadyH.nil
          go_simp
          (go_at_call 162; (with_reducible refine (findSlot_any _ _ _ _ _ _ _ _ HSB.out).mono ?_); rintro ee w1 ⟨rfl, b1⟩; rw [HT.out]; have b2 := below_drewS2 b1; have ba := (Below.refl W1.heap.size W1).alloc (Nat.le_refl _) (.cells #[.int .i64 0, .int .i64 0, .int .i64 0, .int .i64 0, .int .i64 0, .int .i64 0, .int .i64 0, .bool false] 61); have f3 := (b2.cell (p := ⟨w.heap.size, 3, none⟩) (Nat.lt_of_lt_of_le hl3 ba.size)).trans ((ba.cell (p := ⟨w.heap.size, 3, none⟩) hl3).trans e3); have fg0 := (b2.cell (p := ⟨G, 0, none⟩) (Nat.lt_of_lt_of_le hlG ba.size)).trans ((ba.cell (p := ⟨G, 0, none⟩) hlG).trans g0); have fg2 := (b2.cell (p := ⟨G, 2, none⟩) (Nat.lt_of_lt_of_le hlG ba.size)).trans ((ba.cell (p := ⟨G, 2, none⟩) hlG).trans g2); have fg6 := (b2.cell (p := ⟨G, 6, none⟩) (Nat.lt_of_lt_of_le hlG ba.size)).trans ((ba.cell (p := ⟨G, 6, none⟩) hlG).trans g6); have f10 := (b2.cell (p := ⟨b, off + t * 8, none⟩) (Nat.lt_of_lt_of_le hb3 ba.size)).trans ((ba.cell (p := ⟨b, off + t * 8, none⟩) hb3).trans y0); have f11 := (b2.cell (p := ⟨b, off + t * 8 + 1, none⟩) (Nat.lt_of_lt_of_le hb3 ba.size)).trans ((ba.cell (p := ⟨b, off + t * 8 + 1, none⟩) hb3).trans y1); have f12 := (b2.cell (p := ⟨b, off + t * 8 + 2, none⟩) (Nat.lt_of_lt_of_le hb3 ba.size)).trans ((ba.cell (p := ⟨b, off + t * 8 + 2, none⟩) hb3).trans y2); have f13 := (b2.cell (p := ⟨b, off + t * 8 + 3, none⟩) (Nat.lt_of_lt_of_le hb3 ba.size)).trans ((ba.cell (p := ⟨b, off + t * 8 + 3, none⟩) hb3).trans y3); have f14 := (b2.cell (p := ⟨b, off + t * 8 + 4, none⟩) (Nat.lt_of_lt_of_le hb3 ba.size)).trans ((ba.cell (p := ⟨b, off + t * 8 + 4, none⟩) hb3).trans y4); have f15 := (b2.cell (p := ⟨b, off + t * 8 + 5, none⟩) (Nat.lt_of_lt_of_le hb3 ba.size)).trans ((ba.cell (p := ⟨b, off + t * 8 + 5, none⟩) hb3).trans y5); have f16 := (b2.cell (p := ⟨b, off + t * 8 + 6, none⟩) (Nat.lt_of_lt_of_le hb3 ba.size)).trans ((ba.cell (p := ⟨b, off + t * 8 + 6, none⟩) hb3).trans y6); have f17 := (b2.cell (p := ⟨b, off + t * 8 + 7, none⟩) (Nat.lt_of_lt_of_le hb3 ba.size)).trans ((ba.cell (p := ⟨b, off + t * 8 + 7, none⟩) hb3).trans y7); have BQ := hide (below_trans BWB.out b2); have FZ := FB.out.keep b2; have m0 : w1.cell? ⟨W1.heap.size, 0, none⟩ = some (.int .i64 0) := FZ.cell 0; have l0 := FZ.frozen 0; have m1 : w1.cell? ⟨W1.heap.size, 1, none⟩ = some (.int .i64 0) := FZ.cell 1; have l1 := FZ.frozen 1; have m2 : w1.cell? ⟨W1.heap.size, 2, none⟩ = some (.int .i64 0) := FZ.cell 2; have l2 := FZ.frozen 2; have m3 : w1.cell? ⟨W1.heap.size, 3, none⟩ = some (.int .i64 0) := FZ.cell 3; have l3 := FZ.frozen 3; have m4 : w1.cell? ⟨W1.heap.size, 4, none⟩ = some (.int .i64 0) := FZ.cell 4; have l4 := FZ.frozen 4; have m5 : w1.cell? ⟨W1.heap.size, 5, none⟩ = some (.int .i64 0) := FZ.cell 5; have l5 := FZ.frozen 5; have m6 : w1.cell? ⟨W1.heap.size, 6, none⟩ = some (.int .i64 0) := FZ.cell 6; have l6 := FZ.frozen 6; have m7 : w1.cell? ⟨W1.heap.size, 7, none⟩ = some (.bool false) := FZ.cell 7; have l7 := FZ.frozen 7; have lz := FZ.lt; have sz0 := BW.out.size; have ne1 : ¬ W1.heap.size = G := Nat.ne_of_gt hlG; have ne2 : ¬ G = W1.heap.size := Nat.ne_of_lt hlG; have ne3 : ¬ W1.heap.size = w.heap.size := Nat.ne_of_gt hl3; have ne4 : ¬ w.heap.size = W1.heap.size := Nat.ne_of_lt hl3; have ne5 : ¬ W1.heap.size = b := Nat.ne_of_gt hb3; have ne6 : ¬ b = W1.heap.size := Nat.ne_of_lt hb3; clear b1 b2 ba FZ)
          go_wp2_with fail
          refine hK.out _ _ ?_ (fun hHeld8 => ?_)
          · (try dsimp only)
            go_keep
          clear hK K
          try simp only [List.getElem_toArray, List.getElem_cons_succ, List.getElem_cons_zero, Act.put, List.setIfInBounds_toArray, List.set_cons_zero, List.set_cons_succ]
          refine wpAnyH_take (i := 9) (v := ?va23) rfl (by kernel_rfl) (by kernel_rfl) (by kernel_rfl) (fun _ _ _ h => h) (Or.inl ⟨by rfl, ?hya23⟩) (by assumption) ?rest23
          case hya23 => (intro wz hSw; (try dsimp only at hSw); go_simp; all_goals with_reducible rfl)
          try simp only [List.getElem_toArray, List.getElem_cons_succ, List.getElem_cons_zero, Act.put, List.setIfInBounds_toArray, List.set_cons_zero, List.set_cons_succ]
          refine wpAnyH_take (i := 10) (v := ?va24) rfl (by kernel_rfl) (by kernel_rfl) (by kernel_rfl) (fun _ _ _ h => h) (Or.inl ⟨by rfl, ?hya24⟩) (by assumption) ?rest24
          case hya24 => (intro wz hSw; (try dsimp only at hSw); go_simp; all_goals with_reducible rfl)
          try simp only [List.getElem_toArray, List.getElem_cons_succ, List.getElem_cons_zero, Act.put, List.setIfInBounds_toArray, List.set_cons_zero, List.set_cons_succ]
          refine wpAnyH_ready (rs := [12]) (by kernel_rfl) (by simp) ?_
          refine AllReadyH.cons rfl (fun K hK => ?_) AllReadyH.nil
          go_simp
          refine hK.out _ _ ?_ (fun hHeld12 => ?_)
          · (try dsimp only)
            go_keep
          clear hK K
          try simp only [List.getElem_toArray, List.getElem_cons_succ, List.getElem_cons_zero, Act.put, List.setIfInBounds_toArray, List.set_cons_zero, List.set_cons_succ]
          refine wpAnyH_done (by kernel_rfl) ?_ _
          have BX := hide (show Below W0.heap.size W0 ((((((((w1.setCell ⟨W1.heap.size, 0, none⟩ (.int .i64 y.md)).setCell ⟨W1.heap.size, 1, none⟩ (.int .i64 y.rd)).setCell ⟨W1.heap.size, 2, none⟩ (.int .i64 y.sl)).setCell ⟨W1.heap.size, 3, none⟩ (.int .i64 y.nd)).setCell ⟨W1.heap.size, 4, none⟩ (.int .i64 y.kd)).setCell ⟨W1.heap.size, 5, none⟩ (.int .i64 y.sz)).setCell ⟨W1.heap.size, 6, none⟩ (.int .i64 y.du)).setCell ⟨W1.heap.size, 7, none⟩ (.bool y.ch)) from (Below.setCell (Below.setCell (Below.setCell (Below.setCell (Below.setCell (Below.setCell (Below.setCell (Below.setCell BQ.out sz0 _) sz0 _) sz0 _) sz0 _) sz0 _) sz0 _) sz0 _) sz0 _))
          go_wp2
          go_roundw
          case rel => exact ⟨k + 1, by omega, by go_num, NN, BX⟩
          case measure => simp [intOf]; omega
      · have t1 : (x.du == y.du) = false := by simpa using hd
        have E := hide (show stdB m.ss = false by rw [SI.out]; exact List.all_eq_false.2 ⟨k, List.mem_range.2 HL.out, by rw [HOK.out, t1]; simp⟩)
        clear hd HOK
        go_wp2_with fail
        rw [← HW1.out, ← HG.out]
        refine wp_region_held_drew (S := (fun w' => w'.cell? ⟨w.heap.size, 3, none⟩ = some (.slice (some ⟨b, off, none⟩) n3 q3) ∧ w'.cell? ⟨G, 0, none⟩ = some (.int .i64 x.md) ∧ w'.cell? ⟨G, 2, none⟩ = some (.int .i64 x.sl) ∧ w'.cell? ⟨G, 6, none⟩ = some (.int .i64 x.du) ∧ w'.cell? ⟨b, off + t * 8, none⟩ = some (.int .i64 y.md) ∧ w'.cell? ⟨b, off + t * 8 + 1, none⟩ = some (.int .i64 y.rd) ∧ w'.cell? ⟨b, off + t * 8 + 2, none⟩ = some (.int .i64 y.sl) ∧ w'.cell? ⟨b, off + t * 8 + 3, none⟩ = some (.int .i64 y.nd) ∧ w'.cell? ⟨b, off + t * 8 + 4, none⟩ = some (.int .i64 y.kd) ∧ w'.cell? ⟨b, off + t * 8 + 5, none⟩ = some (.int .i64 y.sz) ∧ w'.cell? ⟨b, off + t * 8 + 6, none⟩ = some (.int .i64 y.du) ∧ w'.cell? ⟨b, off + t * 8 + 7, none⟩ = some (.bool y.ch))) (by kernel_rfl) ?_ (fun hHeld => ?_)
        · (try dsimp only)
          go_keep
        refine wpAnyH_take (i := 0) (v := ?va1) rfl (by kernel_rfl) (by kernel_rfl) (by kernel_rfl) (fun _ _ _ h => h) (Or.inl ⟨by rfl, ?hya1⟩) (by assumption) ?rest1
        case hya1 => (intro wz hSw; (try dsimp only at hSw); go_simp; all_goals with_reducible rfl)
        try simp only [List.getElem_toArray, List.getElem_cons_succ, List.getElem_cons_zero, Act.put, List.setIfInBounds_toArray, List.set_cons_zero, List.set_cons_succ]
        refine wpAnyH_take (i := 1) (v := ?va2) rfl (by kernel_rfl) (by kernel_rfl) (by kernel_rfl) (fun _ _ _ h => h) (Or.inl ⟨by rfl, ?hya2⟩) (by assumption) ?rest2
        case hya2 => (intro wz hSw; (try dsimp only at hSw); go_simp; all_goals with_reducible rfl)
        try simp only [List.getElem_toArray, List.getElem_cons_succ, List.getElem_cons_zero, Act.put, List.setIfInBounds_toArray, List.set_cons_zero, List.set_cons_succ]
        refine wpAnyH_take (i := 2) (v := ?va3) rfl (by kernel_rfl) (by kernel_rfl) (by kernel_rfl) (fun _ _ _ h => h) (Or.inl ⟨by rfl, ?hya3⟩) (by assumption) ?rest3
        case hya3 => (intro wz hSw; (try dsimp only at hSw); go_simp; all_goals with_reducible rfl)
        try simp only [List.getElem_toArray, List.getElem_cons_succ, List.getElem_cons_zero, Act.put, List.setIfInBounds_toArray, List.set_cons_zero, List.set_cons_succ]
        refine wpAnyH_take (i := 3) (v := ?va4) rfl (by kernel_rfl) (by kernel_rfl) (by kernel_rfl) (fun _ _ _ h => h) (Or.inl ⟨by rfl, ?hya4⟩) (by assumption) ?rest4
        case hya4 => (intro wz hSw; (try dsimp only at hSw); go_simp; all_goals with_reducible rfl)
        try simp only [List.getElem_toArray, List.getElem_cons_succ, List.getElem_cons_zero, Act.put, List.setIfInBounds_toArray, List.set_cons_zero, List.set_cons_succ]
        refine wpAnyH_take (i := 4) (v := ?va5) rfl (by kernel_rfl) (by kernel_rfl) (by kernel_rfl) (fun _ _ _ h => h) (Or.inl ⟨by rfl, ?hya5⟩) (by assumption) ?rest5
        case hya5 => (intro wz hSw; (try dsimp only at hSw); go_simp; all_goals with_reducible rfl)
        try simp only [List.getElem_toArray, List.getElem_cons_succ, List.getElem_cons_zero, Act.put, List.setIfInBounds_toArray, List.set_cons_zero, List.set_cons_succ]
        refine wpAnyH_take (i := 5) (v := ?va6) rfl (by kernel_rfl) (by kernel_rfl) (by kernel_rfl) (fun _ _ _ h => h) (Or.inl ⟨by rfl, ?hya6⟩) (by assumption) ?rest6
        case hya6 => (intro wz hSw; (try dsimp only at hSw); go_simp; all_goals with_reducible rfl)
        try simp only [List.getElem_toArray, List.getElem_cons_succ, List.getElem_cons_zero, Act.put, List.setIfInBounds_toArray, List.set_cons_zero, List.set_cons_succ]
        refine wpAnyH_take (i := 6) (v := ?va7) rfl (by kernel_rfl) (by kernel_rfl) (by kernel_rfl) (fun _ _ _ h => h) (Or.inl ⟨by rfl, ?hya7⟩) (by assumption) ?rest7
        case hya7 => (intro wz hSw; (try dsimp only at hSw); go_simp; all_goals with_reducible rfl)
        try simp only [List.getElem_toArray, List.getElem_cons_succ, List.getElem_cons_zero, Act.put, List.setIfInBounds_toArray, List.set_cons_zero, List.set_cons_succ]
        refine wpAnyH_take (i := 7) (v := ?va8) rfl (by kernel_rfl) (by kernel_rfl) (by kernel_rfl) (fun _ _ _ h => h) (Or.inl ⟨by rfl, ?hya8⟩) (by assumption) ?rest8
        case hya8 => (intro wz hSw; (try dsimp only at hSw); go_simp; all_goals with_reducible rfl)
        try simp only [List.getElem_toArray, List.getElem_cons_succ, List.getElem_cons_zero, Act.put, List.setIfInBounds_toArray, List.set_cons_zero, List.set_cons_succ]
        refine wpAnyH_ready (rs := [8, 11]) (by kernel_rfl) (by simp) ?_
        refine AllReadyH.cons rfl (fun K hK => ?_) (AllReadyH.cons rfl (fun K hK => ?_) AllReadyH.nil)
        · go_simp
          (go_at_call 162; (with_reducible refine (findSlot_any _ _ _ _ _ _ _ _ HSA.out).mono ?_); rintro ee w1 ⟨rfl, b1⟩; rw [HT.out]; have b2 := below_drewS2 b1; have f3 := (b2.cell (p := ⟨w.heap.size, 3, none⟩) hl3).trans e3; have fg0 := (b2.cell (p := ⟨G, 0, none⟩) hlG).trans g0; have fg2 := (b2.cell (p := ⟨G, 2, none⟩) hlG).trans g2; have fg6 := (b2.cell (p := ⟨G, 6, none⟩) hlG).trans g6; have f10 := (b2.cell (p := ⟨b, off + t * 8, none⟩) hb3).trans y0; have f11 := (b2.cell (p := ⟨b, off + t * 8 + 1, none⟩) hb3).trans y1; have f12 := (b2.cell (p := ⟨b, off + t * 8 + 2, none⟩) hb3).trans y2; have f13 := (b2.cell (p := ⟨b, off + t * 8 + 3, none⟩) hb3).trans y3; have f14 := (b2.cell (p := ⟨b, off + t * 8 + 4, none⟩) hb3).trans y4; have f15 := (b2.cell (p := ⟨b, off + t * 8 + 5, none⟩) hb3).trans y5; have f16 := (b2.cell (p := ⟨b, off + t * 8 + 6, none⟩) hb3).trans y6; have f17 := (b2.cell (p := ⟨b, off + t * 8 + 7, none⟩) hb3).trans y7; have BQ := hide (below_trans BW.out b2); have lb := Nat.lt_of_lt_of_le hb3 b2.size; have lg := Nat.lt_of_lt_of_le hlG b2.size; have l3 := Nat.lt_of_lt_of_le hl3 b2.size; clear b1 b2)
          go_wp2_with fail
          refine hK.out _ _ ?_ (fun hHeld8 => ?_)
          · (try dsimp only)
            go_keep
          clear hK K
          try simp only [List.getElem_toArray, List.getElem_cons_succ, List.getElem_cons_zero, Act.put, List.setIfInBounds_toArray, List.set_cons_zero, List.set_cons_succ]
          refine wpAnyH_take (i := 9) (v := ?va9) rfl (by kernel_rfl) (by kernel_rfl) (by kernel_rfl) (fun _ _ _ h => h) (Or.inl ⟨by rfl, ?hya9⟩) (by assumption) ?rest9
          case hya9 => (intro wz hSw; (try dsimp only at hSw); go_simp; all_goals with_reducible rfl)
          try simp only [List.getElem_toArray, List.getElem_cons_succ, List.getElem_cons_zero, Act.put, List.setIfInBounds_toArray, List.set_cons_zero, List.set_cons_succ]
          refine wpAnyH_take (i := 10) (v := ?va10) rfl (by kernel_rfl) (by kernel_rfl) (by kernel_rfl) (fun _ _ _ h => h) (Or.inl ⟨by rfl, ?hya10⟩) (by assumption) ?rest10
          case hya10 => (intro wz hSw; (try dsimp only at hSw); go_simp; all_goals with_reducible rfl)
          try simp only [List.getElem_toArray, List.getElem_cons_succ, List.getElem_cons_zero, Act.put, List.setIfInBounds_toArray, List.set_cons_zero, List.set_cons_succ]
          refine wpAnyH_ready (rs := [11]) (by kernel_rfl) (by simp) ?_
          refine AllReadyH.cons rfl (fun K hK => ?_) AllReadyH.nil
          go_simp
          refine hK.out _ _ ?_ (fun hHeld11 => ?_)
          · (try dsimp only)
            go_keep
          clear hK K
          try simp only [List.getElem_toArray, List.getElem_cons_succ, List.getElem_cons_zero, Act.put, List.setIfInBounds_toArray, List.set_cons_zero, List.set_cons_succ]
          refine wpAnyH_ready (rs := [12]) (by kernel_rfl) (by simp) ?_
          refine AllReadyH.cons rfl (fun K hK => ?_) AllReadyH.nil
          go_simp
          refine hK.out _ _ ?_ (fun hHeld12 => ?_)
          · (try dsimp only)
            go_keep
          clear hK K
          try simp only [List.getElem_toArray, List.getElem_cons_succ, List.getElem_cons_zero, Act.put, List.setIfInBounds_toArray, List.set_cons_zero, List.set_cons_succ]
          refine wpAnyH_done (by kernel_rfl) ?_ _
          have BX := hide (show Below W0.heap.size W0 (w1.alloc (.cells #[.int .i64 y.md, .int .i64 y.rd, .int .i64 y.sl, .int .i64 y.nd, .int .i64 y.kd, .int .i64 y.sz, .int .i64 y.du, .bool y.ch] 61)) from below_trans BQ.out ((Below.refl _ _).alloc (Nat.le_refl _) _))
          go_wp2
          go_ret
          exact ⟨by rw [E.out]; rfl, below_trans BA.out BX.out⟩
        · go_simp
          refine hK.out _ _ ?_ (fun hHeld11 => ?_)
          · (try dsimp only)
            go_keep
          clear hK K
          try simp only [List.getElem_toArray, List.getElem_cons_succ, List.getElem_cons_zero, Act.put, List.setIfInBounds_toArray, List.set_cons_zero, List.set_cons_succ]
          refine wpAnyH_ready (rs := [8]) (by kernel_rfl) (by simp) ?_
          refine AllReadyH.cons rfl (fun K hK => ?_) AllReadyH.nil
          go_simp
          (go_at_call 162; (with_reducible refine (findSlot_any _ _ _ _ _ _ _ _ HSB.out).mono ?_); rintro ee w1 ⟨rfl, b1⟩; rw [HT.out]; have b2 := below_drewS2 b1; have ba := (Below.refl W1.heap.size W1).alloc (Nat.le_refl _) (.cells #[.int .i64 0, .int .i64 0, .int .i64 0, .int .i64 0, .int .i64 0, .int .i64 0, .int .i64 0, .bool false] 61); have f3 := (b2.cell (p := ⟨w.heap.size, 3, none⟩) (Nat.lt_of_lt_of_le hl3 ba.size)).trans ((ba.cell (p := ⟨w.heap.size, 3, none⟩) hl3).trans e3); have fg0 := (b2.cell (p := ⟨G, 0, none⟩) (Nat.lt_of_lt_of_le hlG ba.size)).trans ((ba.cell (p := ⟨G, 0, none⟩) hlG).trans g0); have fg2 := (b2.cell (p := ⟨G, 2, none⟩) (Nat.lt_of_lt_of_le hlG ba.size)).trans ((ba.cell (p := ⟨G, 2, none⟩) hlG).trans g2); have fg6 := (b2.cell (p := ⟨G, 6, none⟩) (Nat.lt_of_lt_of_le hlG ba.size)).trans ((ba.cell (p := ⟨G, 6, none⟩) hlG).trans g6); have f10 := (b2.cell (p := ⟨b, off + t * 8, none⟩) (Nat.lt_of_lt_of_le hb3 ba.size)).trans ((ba.cell (p := ⟨b, off + t * 8, none⟩) hb3).trans y0); have f11 := (b2.cell (p := ⟨b, off + t * 8 + 1, none⟩) (Nat.lt_of_lt_of_le hb3 ba.size)).trans ((ba.cell (p := ⟨b, off + t * 8 + 1, none⟩) hb3).trans y1); have f12 := (b2.cell (p := ⟨b, off + t * 8 + 2, none⟩) (Nat.lt_of_lt_of_le hb3 ba.size)).trans ((ba.cell (p := ⟨b, off + t * 8 + 2, none⟩) hb3).trans y2); have f13 := (b2.cell (p := ⟨b, off + t * 8 + 3, none⟩) (Nat.lt_of_lt_of_le hb3 ba.size)).trans ((ba.cell (p := ⟨b, off + t * 8 + 3, none⟩) hb3).trans y3); have f14 := (b2.cell (p := ⟨b, off + t * 8 + 4, none⟩) (Nat.lt_of_lt_of_le hb3 ba.size)).trans ((ba.cell (p := ⟨b, off + t * 8 + 4, none⟩) hb3).trans y4); have f15 := (b2.cell (p := ⟨b, off + t * 8 + 5, none⟩) (Nat.lt_of_lt_of_le hb3 ba.size)).trans ((ba.cell (p := ⟨b, off + t * 8 + 5, none⟩) hb3).trans y5); have f16 := (b2.cell (p := ⟨b, off + t * 8 + 6, none⟩) (Nat.lt_of_lt_of_le hb3 ba.size)).trans ((ba.cell (p := ⟨b, off + t * 8 + 6, none⟩) hb3).trans y6); have f17 := (b2.cell (p := ⟨b, off + t * 8 + 7, none⟩) (Nat.lt_of_lt_of_le hb3 ba.size)).trans ((ba.cell (p := ⟨b, off + t * 8 + 7, none⟩) hb3).trans y7); have BQ := hide (below_trans BWB.out b2); have FZ := FB.out.keep b2; have m0 : w1.cell? ⟨W1.heap.size, 0, none⟩ = some (.int .i64 0) := FZ.cell 0; have l0 := FZ.frozen 0; have m1 : w1.cell? ⟨W1.heap.size, 1, none⟩ = some (.int .i64 0) := FZ.cell 1; have l1 := FZ.frozen 1; have m2 : w1.cell? ⟨W1.heap.size, 2, none⟩ = some (.int .i64 0) := FZ.cell 2; have l2 := FZ.frozen 2; have m3 : w1.cell? ⟨W1.heap.size, 3, none⟩ = some (.int .i64 0) := FZ.cell 3; have l3 := FZ.frozen 3; have m4 : w1.cell? ⟨W1.heap.size, 4, none⟩ = some (.int .i64 0) := FZ.cell 4; have l4 := FZ.frozen 4; have m5 : w1.cell? ⟨W1.heap.size, 5, none⟩ = some (.int .i64 0) := FZ.cell 5; have l5 := FZ.frozen 5; have m6 : w1.cell? ⟨W1.heap.size, 6, none⟩ = some (.int .i64 0) := FZ.cell 6; have l6 := FZ.frozen 6; have m7 : w1.cell? ⟨W1.heap.size, 7, none⟩ = some (.bool false) := FZ.cell 7; have l7 := FZ.frozen 7; have lz := FZ.lt; have sz0 := BW.out.size; have ne1 : ¬ W1.heap.size = G := Nat.ne_of_gt hlG; have ne2 : ¬ G = W1.heap.size := Nat.ne_of_lt hlG; have ne3 : ¬ W1.heap.size = w.heap.size := Nat.ne_of_gt hl3; have ne4 : ¬ w.heap.size = W1.heap.size := Nat.ne_of_lt hl3; have ne5 : ¬ W1.heap.size = b := Nat.ne_of_gt hb3; have ne6 : ¬ b = W1.heap.size := Nat.ne_of_lt hb3; clear b1 b2 ba FZ)
          go_wp2_with fail
          refine hK.out _ _ ?_ (fun hHeld8 => ?_)
          · (try dsimp only)
            go_keep
          clear hK K
          try simp only [List.getElem_toArray, List.getElem_cons_succ, List.getElem_cons_zero, Act.put, List.setIfInBounds_toArray, List.set_cons_zero, List.set_cons_succ]
          refine wpAnyH_take (i := 9) (v := ?va11) rfl (by kernel_rfl) (by kernel_rfl) (by kernel_rfl) (fun _ _ _ h => h) (Or.inl ⟨by rfl, ?hya11⟩) (by assumption) ?rest11
          case hya11 => (intro wz hSw; (try dsimp only at hSw); go_simp; all_goals with_reducible rfl)
          try simp only [List.getElem_toArray, List.getElem_cons_succ, List.getElem_cons_zero, Act.put, List.setIfInBounds_toArray, List.set_cons_zero, List.set_cons_succ]
          refine wpAnyH_take (i := 10) (v := ?va12) rfl (by kernel_rfl) (by kernel_rfl) (by kernel_rfl) (fun _ _ _ h => h) (Or.inl ⟨by rfl, ?hya12⟩) (by assumption) ?rest12
          case hya12 => (intro wz hSw; (try dsimp only at hSw); go_simp; all_goals with_reducible rfl)
          try simp only [List.getElem_toArray, List.getElem_cons_succ, List.getElem_cons_zero, Act.put, List.setIfInBounds_toArray, List.set_cons_zero, List.set_cons_succ]
          refine wpAnyH_ready (rs := [12]) (by kernel_rfl) (by simp) ?_
          refine AllReadyH.cons rfl (fun K hK => ?_) AllReadyH.nil
          go_simp
          refine hK.out _ _ ?_ (fun hHeld12 => ?_)
          · (try dsimp only)
            go_keep
          clear hK K
          try simp only [List.getElem_toArray, List.getElem_cons_succ, List.getElem_cons_zero, Act.put, List.setIfInBounds_toArray, List.set_cons_zero, List.set_cons_succ]
          refine wpAnyH_done (by kernel_rfl) ?_ _
          have BX := hide (show Below W0.heap.size W0 ((((((((w1.setCell ⟨W1.heap.size, 0, none⟩ (.int .i64 y.md)).setCell ⟨W1.heap.size, 1, none⟩ (.int .i64 y.rd)).setCell ⟨W1.heap.size, 2, none⟩ (.int .i64 y.sl)).setCell ⟨W1.heap.size, 3, none⟩ (.int .i64 y.nd)).setCell ⟨W1.heap.size, 4, none⟩ (.int .i64 y.kd)).setCell ⟨W1.heap.size, 5, none⟩ (.int .i64 y.sz)).setCell ⟨W1.heap.size, 6, none⟩ (.int .i64 y.du)).setCell ⟨W1.heap.size, 7, none⟩ (.bool y.ch)) from (Below.setCell (Below.setCell (Below.setCell (Below.setCell (Below.setCell (Below.setCell (Below.setCell (Below.setCell BQ.out sz0 _) sz0 _) sz0 _) sz0 _) sz0 _) sz0 _) sz0 _) sz0 _))
          go_wp2
          go_ret
          exact ⟨by rw [E.out]; rfl, below_trans BA.out BX.out⟩
    · obtain rfl : k = n3 := by omega
      have E := hide (show stdB m.ss = true by rw [SI.out, hlen.out]; exact hall.out)
      go_wp2
      go_ret
      exact ⟨by rw [E.out]; rfl, below_trans BA.out hbel.out⟩
end Go.Proofs.YtdkhldebnpmiiaaGreatDoor
