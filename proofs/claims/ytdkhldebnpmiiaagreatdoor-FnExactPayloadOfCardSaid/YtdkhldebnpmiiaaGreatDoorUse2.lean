/- Contracts: the use of a mode, by the program and by the reference. -/
import Derived.Test.YtdkhldebnpmiiaaGreatDoorSlack
namespace Go.Proofs.YtdkhldebnpmiiaaGreatDoor
open Go.RowKit
set_option linter.unusedVariables false
set_option linter.unusedSimpArgs false

/-- the cells that a mode's frames need -/
def useL (l : List Slt) : Int := (l.map (fun x => cellI x.kd x.sz)).sum
theorem useL_snoc (l : List Slt) (x : Slt) : useL (l ++ [x]) = useL l + cellI x.kd x.sz := by simp [useL]
theorem useL_bound (l : List Slt) : Fits l → 0 ≤ useL l ∧ useL l ≤ 1000 * l.length := by
  refine snoc_ind (P := fun l => Fits l → 0 ≤ useL l ∧ useL l ≤ 1000 * l.length) ?_ ?_ l
  · intro _
    show (0 : Int) ≤ 0 ∧ (0 : Int) ≤ 1000 * ((0 : Nat) : Int)
    omega
  · intro l x ih h
    have h1 := ih (fun y hy => h y (by simp [hy]))
    have h2 := h x (by simp)
    rw [useL_snoc, List.length_append]
    show 0 ≤ useL l + cellI x.kd x.sz ∧ useL l + cellI x.kd x.sz ≤ 1000 * ((l.length + 1 : Nat) : Int)
    omega
/-- a mode's cycle takes time -/
theorem durs_pos {m : Mdl} {mode : Int} (h : mcB m mode = 0) : 0 < durs (modeL mode m.ss) := by
  obtain ⟨h1, h2, h3⟩ := mcB_zero h
  have hm := mdB_iff.1 h1
  have hr := (rds_of hm.2.2.1).1
  obtain ⟨k, rfl⟩ : ∃ k : Nat, mode = k := ⟨mode.toNat, by omega⟩
  have hk : k < m.ms.length := by omega
  have hx := hr _ (List.getElem_mem hk)
  have e1 : rdA m.ms k = m.ms[k].rd.toNat := by rw [rdA, List.getElem?_eq_getElem hk]
  have e2 : slA m.ms k = m.ms[k].sl.toNat := by rw [slA, List.getElem?_eq_getElem hk]
  have hp : 0 < rdA m.ms k * slA m.ms k := Nat.mul_pos (by omega) (by omega)
  have he := pre_mem (ms := m.ms) hp hk
  rw [← of_decide_eq_true hm.2.2.2.2.1, List.mem_map] at he
  obtain ⟨y, hy, hyk⟩ := he
  have hmd : y.md = k := congrArg Prod.fst hyk
  have hyl : y ∈ modeL (k : Int) m.ss := List.mem_filter.2 ⟨hy, by simpa using hmd⟩
  have hdu := (durs_of hm.2.2.2.1).modeL (k : Int)
  have hyd : 1 ≤ y.du := by
    obtain ⟨i, hi, rfl⟩ := List.getElem_of_mem hy
    have b := slt_bounds (stB_at hm.2.2.2.1 (List.getElem?_eq_getElem hi))
    have := cellI_le (kd := m.ss[i].kd) (szB_ge b.2.2.2.2.2.1)
    omega
  have H : ∀ l : List Slt, Durs l → y ∈ l → y.du ≤ durs l := by
    intro l
    induction l with
    | nil => intro _ h; cases h
    | cons x l ih =>
      intro hd hm
      have hb := durs_bound (l := l) (fun z hz => hd z (by simp [hz]))
      have hx := hd x (by simp)
      have e : durs (x :: l) = x.du + durs l := by simp [durs]
      rw [e]
      rcases List.mem_cons.1 hm with q | q
      · subst q; omega
      · have := ih (fun z hz => hd z (by simp [hz])) q
        omega
  have := H _ hdu hyl
  omega
set_option maxHeartbeats 1600000 in
theorem cycleTime_any (v : Value) (m : Mdl) (mode : Int) (w : World) (h : RdM w v m) (hn : m.ss.length ≤ 120) (hd : Durs m.ss) :
    Calls Tryz.prog 50 #[v, .int .i64 mode] w (IntOut (durs (modeL mode m.ss)) w) := by
  have HM := hide h
  obtain ⟨A1, n1, c1, A2, n2, c2, A3, n3, q3, rfl, h1, h2, h3⟩ := h
  clear h1 h2 h3
  have H0 := hide (show RdM (w.alloc (.cells #[.int .i64 m.id, .slice A1 n1 c1, .slice A2 n2 c2, .slice A3 n3 q3] 28)) _ m from HM.out.below ((Below.refl _ _).alloc (Nat.le_refl _) _))
  have BA := hide (show Below w.heap.size w (w.alloc (.cells #[.int .i64 m.id, .slice A1 n1 c1, .slice A2 n2 c2, .slice A3 n3 q3] 28)) from (Below.refl _ _).alloc (Nat.le_refl _) _)
  go_enter Tryz.func50, Tryz.ntmps50
  go_wp2_with fail
  go_at_call 75
  (with_reducible refine (modeSlots_any _ m mode _ H0.out hn).mono ?_)
  rintro ee w1 ⟨A', c', rfl, own, b1⟩
  have B := hide (below_trans BA.out b1)
  clear b1
  go_wp2_with fail
  go_at_call 86
  (with_reducible refine (sumDurations_any _ _ _ _ _ own.rd (Nat.le_trans (modeL_len _ _) hn) (hd.modeL _)).mono ?_)
  rintro ee w2 ⟨rfl, b2⟩
  have B2 := hide (below_trans B.out b2)
  clear b2
  go_wp2
  go_ret
  exact ⟨rfl, B2.out⟩
def useV (l : List Slt) : Int := (1000 * useL l) / durs l
set_option maxHeartbeats 6400000 in
theorem iUseOf_any (v : Value) (m : Mdl) (mode : Int) (w : World) (h : RdM w v m) :
    Calls Tryz.prog 38 #[v, .int .i64 mode] w (TwoOut (bif mcB m mode == 0 then useV (modeL mode m.ss) else 0) (mcB m mode) w) := by
  have HM := hide h
  obtain ⟨A1, n1, c1, A2, n2, c2, A3, n3, q3, rfl, h1, h2, h3⟩ := h
  have hlen2 := hide h2.len
  have hlen := hide h3.len
  have hcap2 := h2.cap
  have hcap := h3.cap
  obtain ⟨W0, hW0⟩ : ∃ W0, W0 = w.alloc (.cells #[.int .i64 m.id, .slice A1 n1 c1, .slice A2 n2 c2, .slice A3 n3 q3] 28) := ⟨_, rfl⟩
  have F0 : At W0 w.heap.size 28 #[.int .i64 m.id, .slice A1 n1 c1, .slice A2 n2 c2, .slice A3 n3 q3] := by rw [hW0]; exact At.fresh _ _ _
  have BA := hide (show Below w.heap.size w W0 by rw [hW0]; exact (Below.refl _ _).alloc (Nat.le_refl _) _)
  have B0 := hide (Below.refl W0.heap.size W0)
  have H1 := hide (h1.below BA.out)
  have H2 := hide (h2.below BA.out)
  have H3 := hide (h3.below BA.out)
  have HM0 := hide (HM.out.below BA.out)
  have HF := hide F0
  have d0 := F0.cell 0
  have d1 := F0.cell 1
  have d2 := F0.cell 2
  have d3 := F0.cell 3
  simp at d0 d1 d2 d3
  have HW := hide hW0
  clear hW0 F0 h1 h2 h3 HM
  go_enter Tryz.func38, Tryz.ntmps38
  go_wp2_with fail
  rw [← HW.out]
  go_at_call 72
  (with_reducible refine (modeCode_any _ m mode _ HM0.out).mono ?_)
  rintro ee w1 ⟨rfl, b1⟩
  clear d0 d1 d2 d3
  have B1 := hide (below_trans B0.out b1)
  have F := HF.out.keep B1.out
  have d0 := F.cell 0
  have d1 := F.cell 1
  have d2 := F.cell 2
  have d3 := F.cell 3
  simp at d0 d1 d2 d3
  clear F b1
  obtain ⟨cz, hcz⟩ : ∃ cz, cz = mcB m mode := ⟨_, rfl⟩
  rw [← hcz]
  have HCZ := hide hcz
  by_cases hc0 : cz = 0
  · subst hc0
    have MB := hide (mcB_zero hcz.symm)
    have HFt := hide (fits_of (mdB_iff.1 MB.out.1).2.2.2.1)
    have hDu := hide (durs_of (mdB_iff.1 MB.out.1).2.2.2.1)
    have HLn := hide (len_of (mdB_iff.1 MB.out.1).2.2.2.1)
    clear hcz
    go_wp2_with fail
    go_at_call 75
    (with_reducible refine (modeSlots_any _ m mode _ (HM0.out.below B1.out) HLn.out).mono ?_)
    rintro ee w2 ⟨A', c', rfl, own, b1⟩
    have B2 := hide (below_trans B1.out b1)
    have HO := hide own.rd
    have hL := hide own.len
    obtain ⟨L, hLe⟩ : ∃ L, L = modeL mode m.ss := ⟨_, rfl⟩
    have HLe := hide hLe
    have HFL := hide (show Fits L by rw [hLe]; exact HFt.out.modeL mode)
    have hN : L.length ≤ 120 := by rw [hLe]; exact Nat.le_trans (modeL_len _ _) HLn.out
    rw [← hLe] at HO hL
    rw [← hLe]
    obtain ⟨N, hNe⟩ : ∃ N, N = L.length := ⟨_, rfl⟩
    rw [← hNe] at HO hL hN
    rw [← hNe]
    have HNe := hide hNe
    clear b1 own hLe hNe d0 d1 d2 d3
    go_wp2_with fail
    go_loopw [7, 20] (fun q i wr => ∃ (k : Nat) (u : Int), k ≤ N ∧ i = .int .i64 k ∧ q = .int .i64 u ∧ Hid (u = useL (L.take k)) ∧ Hid (Below w2.heap.size w2 wr)) (fun _ i _ => N - (intOf i).toNat)
    case atStart => exact ⟨0, 0, by omega, rfl, rfl, hide (by simp [useL]), hide (Below.refl _ _)⟩
    case round =>
      obtain ⟨k, u, hk, rfl, rfl, hu, hb2⟩ := hrel
      by_cases hlt : k < N
      · obtain ⟨b, off, x, rfl, hb, hx, c0, c1, c2, c3, c4, c5, c6, c7⟩ := slt_at (HO.out.below hb2.out) hlt
        have NN := hide (show u + cellI x.kd x.sz = useL (L.take (k + 1)) by rw [takeR hx, useL_snoc, hu.out])
        have fx := HFL.out x (List.mem_of_getElem? hx)
        have fsz := hide fx.1
        have fbl : (L.take k).length ≤ 120 := by rw [List.length_take]; omega
        have fb := useL_bound (L.take k) (HFL.out.take k)
        rw [← hu.out] at fb
        obtain ⟨z, hz⟩ : ∃ z, z = cellI x.kd x.sz := ⟨_, rfl⟩
        rw [← hz] at NN fx
        have HZ := hide hz
        have HX := hide hx
        obtain ⟨fx1, fx2, fx3, fx4⟩ := fx
        obtain ⟨fb1, fb2⟩ := fb
        obtain ⟨W1, hW1⟩ : ∃ W1, W1 = wr.alloc (.cells #[.int .i64 x.md, .int .i64 x.rd, .int .i64 x.sl, .int .i64 x.nd, .int .i64 x.kd, .int .i64 x.sz, .int .i64 x.du, .bool x.ch] 61) := ⟨_, rfl⟩
        obtain ⟨G, hG⟩ : ∃ G, G = wr.heap.size := ⟨_, rfl⟩
        have F1 : At W1 G 61 #[.int .i64 x.md, .int .i64 x.rd, .int .i64 x.sl, .int .i64 x.nd, .int .i64 x.kd, .int .i64 x.sz, .int .i64 x.du, .bool x.ch] := by rw [hW1, hG]; exact At.fresh _ _ _
        have BW := hide (show Below w2.heap.size w2 W1 from below_trans hb2.out (by rw [hW1]; exact (Below.refl _ _).alloc (Nat.le_refl _) _))
        have g4 := F1.cell 4
        have g5 := F1.cell 5
        have g6 := F1.cell 6
        simp at g4 g5 g6
        have HW1 := hide hW1
        have HG := hide hG
        clear hx hz F1 hW1 hG
        go_wp2_with fail
        rw [← HW1.out, ← HG.out]
        (go_at_call 76; (with_reducible refine (icells_any _ _ _ fsz.out).mono ?_); rintro ee w3 ⟨rfl, rfl⟩; rw [← HZ.out])
        have BX := BW
        have tw : IntKind.i64.wrap (u + z) = u + z := IntWalk.i64_in _ ⟨by omega, by omega⟩
        go_wp2
        go_roundw
        case rel => exact ⟨k + 1, u + z, by omega, by go_num, by first | rfl | rw [tw], NN, BX⟩
        case measure => simp [intOf]; omega
      · obtain rfl : k = N := by omega
        have E := hide (show u = useL (modeL mode m.ss) by rw [hu.out, HNe.out, List.take_length, HLe.out])
        have HBX := hide (below_trans B2.out hb2.out)
        have F := HF.out.keep HBX.out
        have d0 := F.cell 0
        have d1 := F.cell 1
        have d2 := F.cell 2
        have d3 := F.cell 3
        simp at d0 d1 d2 d3
        clear F
        have hpos := durs_pos HCZ.out.symm
        have hbd := durs_bound (hDu.out.modeL mode)
        have hml := Nat.le_trans (modeL_len mode m.ss) HLn.out
        have hub := useL_bound (modeL mode m.ss) (HFt.out.modeL mode)
        rw [← E.out] at hub
        obtain ⟨U, rfl⟩ : ∃ U : Nat, u = U := ⟨u.toNat, by omega⟩
        obtain ⟨D, hD⟩ : ∃ D : Nat, durs (modeL mode m.ss) = D := ⟨(durs (modeL mode m.ss)).toNat, by omega⟩
        rw [hD] at hpos hbd
        have HD := hide hD
        have hD1 : 0 < D := by omega
        have hU1 : U ≤ 120000 := by omega
        clear hD hbd hub
        have hD0 : ¬ D = 0 := by omega
        go_wp2_with fail
        go_at_call 50
        (with_reducible refine (cycleTime_any _ m mode _ (HM0.out.below HBX.out) HLn.out hDu.out).mono ?_)
        rintro ee w9 ⟨rfl, b9⟩
        rw [HD.out]
        have B9 := hide (below_trans BA.out (below_trans HBX.out b9))
        clear b9 d0 d1 d2 d3
        go_wp2
        go_ret2
        exact ⟨ret_pair (by rw [← HCZ.out]; show (1000 * (U : Int) / (D : Int)) = useV (modeL mode m.ss); rw [useV, HD.out, ← E.out]) HCZ.out, B9.out⟩
  · have t1 : (cz == 0) = false := by simpa using hc0
    have HT1 := hide t1
    have E := hide (show (bif cz == 0 then useV (modeL mode m.ss) else 0) = 0 by rw [t1]; rfl)
    clear hcz hc0
    go_wp2
    go_ret2
    exact ⟨ret_pair (by rw [← HCZ.out, HT1.out]; rfl) HCZ.out, below_trans BA.out B1.out⟩
set_option maxHeartbeats 6400000 in
theorem sUseOf_any (v : Value) (m : Mdl) (mode : Int) (w : World) (h : RdM w v m) (hq : Nms m) :
    Calls Tryz.prog 37 #[v, .int .i64 mode] w (TwoOut (bif mcB m mode == 0 then useV (modeL mode m.ss) else 0) (mcB m mode) w) := by
  have HM := hide h
  obtain ⟨A1, n1, c1, A2, n2, c2, A3, n3, q3, rfl, h1, h2, h3⟩ := h
  have hlen2 := hide h2.len
  have hlen := hide h3.len
  have hcap2 := h2.cap
  have hcap := h3.cap
  obtain ⟨W0, hW0⟩ : ∃ W0, W0 = w.alloc (.cells #[.int .i64 m.id, .slice A1 n1 c1, .slice A2 n2 c2, .slice A3 n3 q3] 28) := ⟨_, rfl⟩
  have F0 : At W0 w.heap.size 28 #[.int .i64 m.id, .slice A1 n1 c1, .slice A2 n2 c2, .slice A3 n3 q3] := by rw [hW0]; exact At.fresh _ _ _
  have BA := hide (show Below w.heap.size w W0 by rw [hW0]; exact (Below.refl _ _).alloc (Nat.le_refl _) _)
  have B0 := hide (Below.refl W0.heap.size W0)
  have H1 := hide (h1.below BA.out)
  have H2 := hide (h2.below BA.out)
  have H3 := hide (h3.below BA.out)
  have HM0 := hide (HM.out.below BA.out)
  have HF := hide F0
  have d0 := F0.cell 0
  have d1 := F0.cell 1
  have d2 := F0.cell 2
  have d3 := F0.cell 3
  simp at d0 d1 d2 d3
  have HW := hide hW0
  clear hW0 F0 h1 h2 h3 HM
  go_enter Tryz.func37, Tryz.ntmps37
  go_wp2_with fail
  rw [← HW.out]
  go_at_call 73
  (with_reducible refine (l13Mode_any _ m mode _ HM0.out hq).mono ?_)
  rintro ee w1 ⟨rfl, b1⟩
  clear d0 d1 d2 d3
  have B1 := hide (below_trans B0.out b1)
  clear b1
  obtain ⟨cz, hcz⟩ : ∃ cz, cz = mcB m mode := ⟨_, rfl⟩
  rw [← hcz]
  have HCZ := hide hcz
  by_cases hc0 : cz = 0
  · subst hc0
    have MB := hide (mcB_zero hcz.symm)
    have HFt := hide (fits_of (mdB_iff.1 MB.out.1).2.2.2.1)
    have hDu := hide (durs_of (mdB_iff.1 MB.out.1).2.2.2.1)
    have HLn := hide (len_of (mdB_iff.1 MB.out.1).2.2.2.1)
    clear hcz
    go_wp2_with fail
    go_loopw [7, 8] (fun q i wr => ∃ (k : Nat) (u : Int), k ≤ n3 ∧ i = .int .i64 k ∧ q = .int .i64 u ∧ Hid (u = useL (modeL mode (m.ss.take k))) ∧ Hid (Below W0.heap.size W0 wr)) (fun _ i _ => n3 - (intOf i).toNat)
    case atStart => exact ⟨0, 0, by omega, rfl, rfl, hide (by simp [useL, modeL]), B1⟩
    case round =>
      obtain ⟨k, u, hk, rfl, rfl, hu, hb2⟩ := hrel
      have F := HF.out.keep hb2.out
      have d3 := F.cell 3
      simp at d3
      clear F
      by_cases hlt : k < n3
      · obtain ⟨b, off, x, rfl, hb, hx, c0, c1, c2, c3, c4, c5, c6, c7⟩ := slt_at (H3.out.below hb2.out) hlt
        have HN := hide (show useL (modeL mode (m.ss.take (k + 1))) = _ by rw [takeR hx, modeL_snoc])
        have fx := HFt.out x (List.mem_of_getElem? hx)
        have fsz := hide fx.1
        have fbl : (modeL mode (m.ss.take k)).length ≤ 120 := Nat.le_trans (modeL_len _ _) (by rw [List.length_take]; have := HLn.out; omega)
        have fb := useL_bound (modeL mode (m.ss.take k)) ((HFt.out.take k).modeL mode)
        rw [← hu.out] at fb
        obtain ⟨z, hz⟩ : ∃ z, z = cellI x.kd x.sz := ⟨_, rfl⟩
        rw [← hz] at fx
        have HZ := hide hz
        have HX := hide hx
        obtain ⟨fx1, fx2, fx3, fx4⟩ := fx
        obtain ⟨fb1, fb2⟩ := fb
        cases e : (x.md == mode)
        · have NN := hide (show u = useL (modeL mode (m.ss.take (k + 1))) by rw [HN.out, e, if_neg (by simp), List.append_nil, hu.out])
          clear hx hz HN
          go_wp2
          go_roundw
          case rel => exact ⟨k + 1, u, by omega, by go_num, rfl, NN, hb2⟩
          case measure => simp [intOf]; omega
        · have NN := hide (show u + z = useL (modeL mode (m.ss.take (k + 1))) by rw [HN.out, e, if_pos rfl, useL_snoc, hu.out, HZ.out])
          clear hx hz HN
          go_wp2_with fail
          refine wp_region_held_drew (S := (fun w' => w'.cell? ⟨w.heap.size, 3, none⟩ = some (.slice (some ⟨b, off, none⟩) n3 q3) ∧ w'.cell? ⟨b, off + k * 8 + 4, none⟩ = some (.int .i64 x.kd) ∧ w'.cell? ⟨b, off + k * 8 + 5, none⟩ = some (.int .i64 x.sz))) (by kernel_rfl) ?_ (fun hHeld => ?_)
          · (try dsimp only)
            go_keep
          refine wpAnyH_take (i := 0) (v := ?va1) rfl (by kernel_rfl) (by kernel_rfl) (by kernel_rfl) (fun _ _ _ h => h) (Or.inl ⟨by rfl, ?hya1⟩) (by assumption) ?rest1
          case hya1 => (intro wz hSw; (try dsimp only at hSw); go_simp; all_goals with_reducible rfl)
          try simp only [List.getElem_toArray, List.getElem_cons_succ, List.getElem_cons_zero, Act.put, List.setIfInBounds_toArray, List.set_cons_zero, List.set_cons_succ]
          refine wpAnyH_take (i := 1) (v := ?va2) rfl (by kernel_rfl) (by kernel_rfl) (by kernel_rfl) (fun _ _ _ h => h) (Or.inl ⟨by rfl, ?hya2⟩) (by assumption) ?rest2
          case hya2 => (intro wz hSw; (try dsimp only at hSw); go_simp; all_goals with_reducible rfl)
          try simp only [List.getElem_toArray, List.getElem_cons_succ, List.getElem_cons_zero, Act.put, List.setIfInBounds_toArray, List.set_cons_zero, List.set_cons_succ]
          refine wpAnyH_take (i := 2) (v := ?va3) rfl (by kernel_rfl) (by kernel_rfl) (by kernel_rfl) (fun _ _ _ h => h) (Or.inl ⟨by rfl, ?hya3⟩) (by assumption) ?rest3
          case hya3 => (intro wz hSw; (try dsimp only at hSw); go_simp; all_goals with_reducible rfl)
          try simp only [List.getElem_toArray, List.getElem_cons_succ, List.getElem_cons_zero, Act.put, List.setIfInBounds_toArray, List.set_cons_zero, List.set_cons_succ]
          refine wpAnyH_take (i := 3) (v := ?va4) rfl (by kernel_rfl) (by kernel_rfl) (by kernel_rfl) (fun _ _ _ h => h) (Or.inl ⟨by rfl, ?hya4⟩) (by assumption) ?rest4
          case hya4 => (intro wz hSw; (try dsimp only at hSw); go_simp; all_goals with_reducible rfl)
          try simp only [List.getElem_toArray, List.getElem_cons_succ, List.getElem_cons_zero, Act.put, List.setIfInBounds_toArray, List.set_cons_zero, List.set_cons_succ]
          refine wpAnyH_take (i := 4) (v := ?va5) rfl (by kernel_rfl) (by kernel_rfl) (by kernel_rfl) (fun _ _ _ h => h) (Or.inl ⟨by rfl, ?hya5⟩) (by assumption) ?rest5
          case hya5 => (intro wz hSw; (try dsimp only at hSw); go_simp; all_goals with_reducible rfl)
          try simp only [List.getElem_toArray, List.getElem_cons_succ, List.getElem_cons_zero, Act.put, List.setIfInBounds_toArray, List.set_cons_zero, List.set_cons_succ]
          refine wpAnyH_take (i := 5) (v := ?va6) rfl (by kernel_rfl) (by kernel_rfl) (by kernel_rfl) (fun _ _ _ h => h) (Or.inl ⟨by rfl, ?hya6⟩) (by assumption) ?rest6
          case hya6 => (intro wz hSw; (try dsimp only at hSw); go_simp; all_goals with_reducible rfl)
          try simp only [List.getElem_toArray, List.getElem_cons_succ, List.getElem_cons_zero, Act.put, List.setIfInBounds_toArray, List.set_cons_zero, List.set_cons_succ]
          refine wpAnyH_take (i := 6) (v := ?va7) rfl (by kernel_rfl) (by kernel_rfl) (by kernel_rfl) (fun _ _ _ h => h) (Or.inl ⟨by rfl, ?hya7⟩) (by assumption) ?rest7
          case hya7 => (intro wz hSw; (try dsimp only at hSw); go_simp; all_goals with_reducible rfl)
          try simp only [List.getElem_toArray, List.getElem_cons_succ, List.getElem_cons_zero, Act.put, List.setIfInBounds_toArray, List.set_cons_zero, List.set_cons_succ]
          refine wpAnyH_take (i := 7) (v := ?va8) rfl (by kernel_rfl) (by kernel_rfl) (by kernel_rfl) (fun _ _ _ h => h) (Or.inl ⟨by rfl, ?hya8⟩) (by assumption) ?rest8
          case hya8 => (intro wz hSw; (try dsimp only at hSw); go_simp; all_goals with_reducible rfl)
          try simp only [List.getElem_toArray, List.getElem_cons_succ, List.getElem_cons_zero, Act.put, List.setIfInBounds_toArray, List.set_cons_zero, List.set_cons_succ]
          refine wpAnyH_take (i := 8) (v := ?va9) rfl (by kernel_rfl) (by kernel_rfl) (by kernel_rfl) (fun _ _ _ h => h) (Or.inl ⟨by rfl, ?hya9⟩) (by assumption) ?rest9
          case hya9 => (intro wz hSw; (try dsimp only at hSw); go_simp; all_goals with_reducible rfl)
          try simp only [List.getElem_toArray, List.getElem_cons_succ, List.getElem_cons_zero, Act.put, List.setIfInBounds_toArray, List.set_cons_zero, List.set_cons_succ]
          refine wpAnyH_take (i := 9) (v := ?va10) rfl (by kernel_rfl) (by kernel_rfl) (by kernel_rfl) (fun _ _ _ h => h) (Or.inl ⟨by rfl, ?hya10⟩) (by assumption) ?rest10
          case hya10 => (intro wz hSw; (try dsimp only at hSw); go_simp; all_goals with_reducible rfl)
          try simp only [List.getElem_toArray, List.getElem_cons_succ, List.getElem_cons_zero, Act.put, List.setIfInBounds_toArray, List.set_cons_zero, List.set_cons_succ]
          refine wpAnyH_take (i := 10) (v := ?va11) rfl (by kernel_rfl) (by kernel_rfl) (by kernel_rfl) (fun _ _ _ h => h) (Or.inl ⟨by rfl, ?hya11⟩) (by assumption) ?rest11
          case hya11 => (intro wz hSw; (try dsimp only at hSw); go_simp; all_goals with_reducible rfl)
          try simp only [List.getElem_toArray, List.getElem_cons_succ, List.getElem_cons_zero, Act.put, List.setIfInBounds_toArray, List.set_cons_zero, List.set_cons_succ]
          refine wpAnyH_take (i := 11) (v := ?va12) rfl (by kernel_rfl) (by kernel_rfl) (by kernel_rfl) (fun _ _ _ h => h) (Or.inl ⟨by rfl, ?hya12⟩) (by assumption) ?rest12
          case hya12 => (intro wz hSw; (try dsimp only at hSw); go_simp; all_goals with_reducible rfl)
          try simp only [List.getElem_toArray, List.getElem_cons_succ, List.getElem_cons_zero, Act.put, List.setIfInBounds_toArray, List.set_cons_zero, List.set_cons_succ]
          refine wpAnyH_take (i := 12) (v := ?va13) rfl (by kernel_rfl) (by kernel_rfl) (by kernel_rfl) (fun _ _ _ h => h) (Or.inl ⟨by rfl, ?hya13⟩) (by assumption) ?rest13
          case hya13 => (intro wz hSw; (try dsimp only at hSw); go_simp; all_goals with_reducible rfl)
          try simp only [List.getElem_toArray, List.getElem_cons_succ, List.getElem_cons_zero, Act.put, List.setIfInBounds_toArray, List.set_cons_zero, List.set_cons_succ]
          refine wpAnyH_take (i := 13) (v := ?va14) rfl (by kernel_rfl) (by kernel_rfl) (by kernel_rfl) (fun _ _ _ h => h) (Or.inl ⟨by rfl, ?hya14⟩) (by assumption) ?rest14
          case hya14 => (intro wz hSw; (try dsimp only at hSw); go_simp; all_goals with_reducible rfl)
          try simp only [List.getElem_toArray, List.getElem_cons_succ, List.getElem_cons_zero, Act.put, List.setIfInBounds_toArray, List.set_cons_zero, List.set_cons_succ]
          refine wpAnyH_take (i := 14) (v := ?va15) rfl (by kernel_rfl) (by kernel_rfl) (by kernel_rfl) (fun _ _ _ h => h) (Or.inl ⟨by rfl, ?hya15⟩) (by assumption) ?rest15
          case hya15 => (intro wz hSw; (try dsimp only at hSw); go_simp; all_goals with_reducible rfl)
          try simp only [List.getElem_toArray, List.getElem_cons_succ, List.getElem_cons_zero, Act.put, List.setIfInBounds_toArray, List.set_cons_zero, List.set_cons_succ]
          refine wpAnyH_ready (rs := [15]) (by kernel_rfl) (by simp) ?_
          refine AllReadyH.cons rfl (fun K hK => ?_) AllReadyH.nil
          go_simp
          (go_at_call 74; (with_reducible refine (scells_any _ _ _ fsz.out).mono ?_); rintro ee w3 ⟨rfl, rfl⟩; rw [← HZ.out])
          go_wp2_with fail
          refine hK.out _ _ ?_ (fun hHeld15 => ?_)
          · (try dsimp only)
            go_keep
          clear hK K
          try simp only [List.getElem_toArray, List.getElem_cons_succ, List.getElem_cons_zero, Act.put, List.setIfInBounds_toArray, List.set_cons_zero, List.set_cons_succ]
          refine wpAnyH_take (i := 16) (v := ?va16) rfl (by kernel_rfl) (by kernel_rfl) (by kernel_rfl) (fun _ _ _ h => h) (Or.inl ⟨by rfl, ?hya16⟩) (by assumption) ?rest16
          case hya16 => (intro wz hSw; (try dsimp only at hSw); go_simp; all_goals with_reducible rfl)
          try simp only [List.getElem_toArray, List.getElem_cons_succ, List.getElem_cons_zero, Act.put, List.setIfInBounds_toArray, List.set_cons_zero, List.set_cons_succ]
          refine wpAnyH_take (i := 17) (v := ?va17) rfl (by kernel_rfl) (by kernel_rfl) (by kernel_rfl) (fun _ _ _ h => h) (Or.inl ⟨by rfl, ?hya17⟩) (by assumption) ?rest17
          case hya17 => (intro wz hSw; (try dsimp only at hSw); go_simp; all_goals with_reducible rfl)
          try simp only [List.getElem_toArray, List.getElem_cons_succ, List.getElem_cons_zero, Act.put, List.setIfInBounds_toArray, List.set_cons_zero, List.set_cons_succ]
          refine wpAnyH_done (by kernel_rfl) ?_ _
          have BX := hide (below_drewT hb2.out)
          have tw : IntKind.i64.wrap (u + z) = u + z := IntWalk.i64_in _ ⟨by omega, by omega⟩
          go_wp2
          go_roundw
          case rel => exact ⟨k + 1, u + z, by omega, by go_num, by first | rfl | rw [tw], NN, BX⟩
          case measure => simp [intOf]; omega
      · obtain rfl : k = n3 := by omega
        have E := hide (show u = useL (modeL mode m.ss) by rw [hu.out, ← hlen.out, List.take_length])
        have HBX := hide (hb2.out)
        have F := HF.out.keep HBX.out
        have d0 := F.cell 0
        have d1 := F.cell 1
        have d2 := F.cell 2
        have d3 := F.cell 3
        simp at d0 d1 d2 d3
        clear F
        have hpos := durs_pos HCZ.out.symm
        have hbd := durs_bound (hDu.out.modeL mode)
        have hml := Nat.le_trans (modeL_len mode m.ss) HLn.out
        have hub := useL_bound (modeL mode m.ss) (HFt.out.modeL mode)
        rw [← E.out] at hub
        obtain ⟨U, rfl⟩ : ∃ U : Nat, u = U := ⟨u.toNat, by omega⟩
        obtain ⟨D, hD⟩ : ∃ D : Nat, durs (modeL mode m.ss) = D := ⟨(durs (modeL mode m.ss)).toNat, by omega⟩
        rw [hD] at hpos hbd
        have HD := hide hD
        have hD1 : 0 < D := by omega
        have hU1 : U ≤ 120000 := by omega
        clear hD hbd hub
        have hD0 : ¬ D = 0 := by omega
        go_wp2_with fail
        go_at_call 77
        (with_reducible refine (l13Cycle_any _ m mode _ (HM0.out.below HBX.out) HLn.out hDu.out).mono ?_)
        rintro ee w9 ⟨rfl, b9⟩
        rw [HD.out]
        have B9 := hide (below_trans BA.out (below_trans HBX.out b9))
        clear b9 d0 d1 d2 d3
        go_wp2
        go_ret2
        exact ⟨ret_pair (by rw [← HCZ.out]; show (1000 * (U : Int) / (D : Int)) = useV (modeL mode m.ss); rw [useV, HD.out, ← E.out]) HCZ.out, B9.out⟩
  · have t1 : (cz == 0) = false := by simpa using hc0
    have HT1 := hide t1
    have E := hide (show (bif cz == 0 then useV (modeL mode m.ss) else 0) = 0 by rw [t1]; rfl)
    clear hcz hc0
    go_wp2
    go_ret2
    exact ⟨ret_pair (by rw [← HCZ.out, HT1.out]; rfl) HCZ.out, below_trans BA.out B1.out⟩
end Go.Proofs.YtdkhldebnpmiiaaGreatDoor
