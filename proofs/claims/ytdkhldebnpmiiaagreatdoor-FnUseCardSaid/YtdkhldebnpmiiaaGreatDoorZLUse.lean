/- The walk of the law FnUse. -/
import Derived.Test.YtdkhldebnpmiiaaGreatDoorZDrQ
namespace Go.Proofs.YtdkhldebnpmiiaaGreatDoor
open Go.RowKit
set_option linter.unusedVariables false
set_option linter.unusedSimpArgs false
theorem slackL_least {l : List Slt} {x : Slt} (h : x ∈ l) : slackL l ≤ x.du - cellI x.kd x.sz := by
  refine snoc_ind (P := fun l => x ∈ l → slackL l ≤ x.du - cellI x.kd x.sz) ?_ ?_ l h
  · intro h; cases h
  · intro l y ih h
    rw [slackL_snoc]
    rcases List.mem_append.1 h with q | q
    · have := ih q; omega
    · obtain rfl : x = y := by simpa using q
      omega
theorem slackL_one (l : List Slt) : slackL l = 1000 ∨ ∃ x ∈ l, x.du - cellI x.kd x.sz = slackL l := by
  refine snoc_ind (P := fun l => slackL l = 1000 ∨ ∃ x ∈ l, x.du - cellI x.kd x.sz = slackL l) ?_ ?_ l
  · exact .inl rfl
  · intro l y ih
    rw [slackL_snoc]
    by_cases hy : slackL l ≤ y.du - cellI y.kd y.sz
    · rw [Int.min_eq_left hy]
      rcases ih with q | ⟨x, hx, q⟩
      · exact .inl q
      · exact .inr ⟨x, List.mem_append.2 (.inl hx), q⟩
    · rw [Int.min_eq_right (by omega)]
      exact .inr ⟨y, by simp, rfl⟩
theorem slackL_has {l : List Slt} (hf : Fits l) (hn : l ≠ []) : l.any (fun x => x.du - cellI x.kd x.sz == slackL l) = true := by
  rcases slackL_one l with q | ⟨x, hx, q⟩
  · obtain ⟨x, hx⟩ := List.exists_mem_of_ne_nil l hn
    have h1 := slackL_least hx
    have h2 := hf x hx
    refine List.any_eq_true.2 ⟨x, hx, ?_⟩
    simp
    omega
  · exact List.any_eq_true.2 ⟨x, hx, by simpa using q⟩
theorem use_law {m : Mdl} {mode : Int} (h : mcB m mode = 0) : stB m.ss = true ∧ 0 < durs (modeL mode m.ss) ∧ (modeL mode m.ss).any (fun x => x.du - cellI x.kd x.sz == slackL (modeL mode m.ss)) = true := by
  have hst := (mdB_iff.1 (mcB_zero h).1).2.2.2.1
  have hp := durs_pos h
  refine ⟨hst, hp, slackL_has ((fits_of hst).modeL mode) ?_⟩
  intro e
  rw [e] at hp
  exact absurd hp (by decide)
theorem slt_desc {x : Slt} (h : sltB x = true) : descB x = true := by
  simp only [sltB, Bool.and_eq_true] at h
  exact h.2.2.2
set_option maxRecDepth 8000 in
set_option maxHeartbeats 12800000 in
theorem walkUse (A : Option Addr) (n c : Nat) (bs : List Int) (w : World) (h : Rd8 w A n c bs) :
    Calls Tryz.prog 11 #[.slice A n c] w (TrueOut w) := by
  have HH := hide h
  go_enter Tryz.func11, Tryz.ntmps11
  go_wp2_with fail
  go_at_call 13
  refine (big_any _ _ _ _ _ h).mono ?_
  rintro ee w0 ⟨rfl, rfl⟩
  by_cases hn : 4096 < n
  · have t1 : decide (4096 < n) = true := decide_eq_true hn
    go_wp2
    go_ret
    exact ⟨rfl, Below.refl _ _⟩
  have t1 : decide (4096 < n) = false := decide_eq_false hn
  go_wp2_with fail
  go_at_call 41
  refine (DrawUseOf_d _ _ _ _ _ h (by omega)).mono ?_
  rintro ee w0 ⟨v, m, mode, rfl, rdh, nok, b0⟩
  have NM := hide nok.nms
  have HM := hide rdh.rd
  obtain ⟨A1, n1, c1, A2, n2, c2, A3, n3, q3, rfl, r1, r2, r3⟩ := rdh
  have hc3 := r3.1.cap
  obtain ⟨w1, hw1⟩ : ∃ w1, w1 = w0.alloc (.cells #[.int .i64 m.id, .slice A1 n1 c1, .slice A2 n2 c2, .slice A3 n3 q3] 28) := ⟨_, rfl⟩
  obtain ⟨G, hG⟩ : ∃ G, G = w0.heap.size := ⟨_, rfl⟩
  have E1 := hide (show At w1 G 28 #[.int .i64 m.id, .slice A1 n1 c1, .slice A2 n2 c2, .slice A3 n3 q3] by rw [hw1, hG]; exact At.fresh _ _ _)
  have bw : Below w0.heap.size w0 w1 := by rw [hw1]; exact (Below.refl _ _).alloc (Nat.le_refl _) _
  have B1 := hide (below_trans b0 bw)
  have R1 := hide (HM.out.below bw)
  have HW1 := hide hw1
  have HG := hide hG
  have HN4 := hide (show n ≤ 4096 by omega)
  have SR1 := hide (r3.1.below bw)
  have hlen := hide r3.1.len
  clear nok r1 r2 r3 b0 bw hw1 hG HM h
  have d0 := E1.out.cell 0
  have d1 := E1.out.cell 1
  have d2 := E1.out.cell 2
  have d3 := E1.out.cell 3
  simp at d0 d1 d2 d3
  obtain ⟨cz, hcz⟩ : ∃ cz, cz = mcB m mode := ⟨_, rfl⟩
  have HCZ := hide hcz
  obtain ⟨u0, hu0⟩ : ∃ u0, u0 = (bif mcB m mode == 0 then useV (modeL mode m.ss) else 0) := ⟨_, rfl⟩
  have HU := hide hu0
  obtain ⟨s0, hs0⟩ : ∃ s0, s0 = (bif mcB m mode == 0 then slackL (modeL mode m.ss) else 0) := ⟨_, rfl⟩
  have HS := hide hs0
  clear hcz hu0 hs0
  go_upto_region 4 with (fail)
  rw [← HW1.out, ← HG.out]
  go_wp2_with fail
  go_at_call 38
  (with_reducible refine (iUseOf_any _ m mode _ R1.out).mono ?_)
  rintro ee w2 ⟨rfl, b2⟩
  have B2 := hide (below_trans B1.out b2)
  have E2 := hide (E1.out.keep b2)
  have R2 := hide (R1.out.below b2)
  have SR2 := hide (SR1.out.below b2)
  clear d0 d1 d2 d3 b2
  have d0 := E2.out.cell 0
  have d1 := E2.out.cell 1
  have d2 := E2.out.cell 2
  have d3 := E2.out.cell 3
  simp at d0 d1 d2 d3
  rw [← HU.out, ← HCZ.out]
  go_wp2_with fail
  go_at_call 37
  (with_reducible refine (sUseOf_any _ m mode _ R2.out NM.out).mono ?_)
  rintro ee w3 ⟨rfl, b3⟩
  have B3 := hide (below_trans B2.out b3)
  have E3 := hide (E2.out.keep b3)
  have R3 := hide (R2.out.below b3)
  have SR3 := hide (SR2.out.below b3)
  clear d0 d1 d2 d3 b3
  have d0 := E3.out.cell 0
  have d1 := E3.out.cell 1
  have d2 := E3.out.cell 2
  have d3 := E3.out.cell 3
  simp at d0 d1 d2 d3
  rw [← HU.out, ← HCZ.out]
  go_wp2_with fail
  go_at_call 36
  (with_reducible refine (iSlackOf_any _ m mode _ R3.out).mono ?_)
  rintro ee w4 ⟨rfl, b4⟩
  have B4 := hide (below_trans B3.out b4)
  have E4 := hide (E3.out.keep b4)
  have R4 := hide (R3.out.below b4)
  have SR4 := hide (SR3.out.below b4)
  clear d0 d1 d2 d3 b4
  have d0 := E4.out.cell 0
  have d1 := E4.out.cell 1
  have d2 := E4.out.cell 2
  have d3 := E4.out.cell 3
  simp at d0 d1 d2 d3
  rw [← HS.out, ← HCZ.out]
  go_wp2_with fail
  go_at_call 35
  (with_reducible refine (sSlackOf_any _ m mode _ R4.out NM.out).mono ?_)
  rintro ee w5 ⟨rfl, b5⟩
  have B5 := hide (below_trans B4.out b5)
  have E5 := hide (E4.out.keep b5)
  have R5 := hide (R4.out.below b5)
  have SR5 := hide (SR4.out.below b5)
  clear d0 d1 d2 d3 b5
  have d0 := E5.out.cell 0
  have d1 := E5.out.cell 1
  have d2 := E5.out.cell 2
  have d3 := E5.out.cell 3
  simp at d0 d1 d2 d3
  rw [← HS.out, ← HCZ.out]
  go_wp2_with fail
  go_at_call 42
  (with_reducible refine (DrawPayloadOf_d _ _ _ bs _ (HH.out.below B5.out) HN4.out).mono ?_)
  rintro ee w6 ⟨vy, y, id, node, rfl, rdy, noky, iy, b6⟩
  have IY := hide (show I64 [node] from I64.one (by omega) (by omega))
  have NY := hide noky.nms
  have HY := hide rdy.rd
  obtain ⟨A4, n4, c4, A5, n5, c5, A6, n6, q6, rfl, s1, s2, s3⟩ := rdy
  obtain ⟨w7, hw7⟩ : ∃ w7, w7 = w6.alloc (.cells #[.int .i64 y.id, .slice A4 n4 c4, .slice A5 n5 c5, .slice A6 n6 q6] 28) := ⟨_, rfl⟩
  obtain ⟨G2, hG2⟩ : ∃ G2, G2 = w6.heap.size := ⟨_, rfl⟩
  have Y7 := hide (show At w7 G2 28 #[.int .i64 y.id, .slice A4 n4 c4, .slice A5 n5 c5, .slice A6 n6 q6] by rw [hw7, hG2]; exact At.fresh _ _ _)
  have bw7 : Below w6.heap.size w6 w7 := by rw [hw7]; exact (Below.refl _ _).alloc (Nat.le_refl _) _
  have B7 := hide (below_trans (below_trans B5.out b6) bw7)
  have E7 := hide ((E5.out.keep b6).keep bw7)
  have R7 := hide ((R5.out.below b6).below bw7)
  have SR7 := hide ((SR5.out.below b6).below bw7)
  have RY7 := hide (HY.out.below bw7)
  have HW7 := hide hw7
  have HG2 := hide hG2
  obtain ⟨p0, hp0⟩ : ∃ p0, p0 = (bif scB y id [node] == 0 then payL node (modeL id y.ss) else 0) := ⟨_, rfl⟩
  have HP := hide hp0
  obtain ⟨cy, hcy⟩ : ∃ cy, cy = scB y id [node] := ⟨_, rfl⟩
  have HCY := hide hcy
  clear d0 d1 d2 d3 noky s1 s2 s3 b6 bw7 hw7 hG2 HY hp0 hcy
  have d0 := E7.out.cell 0
  have d1 := E7.out.cell 1
  have d2 := E7.out.cell 2
  have d3 := E7.out.cell 3
  simp at d0 d1 d2 d3
  have e0 := Y7.out.cell 0
  have e1 := Y7.out.cell 1
  have e2 := Y7.out.cell 2
  have e3 := Y7.out.cell 3
  simp at e0 e1 e2 e3
  go_upto_region 9 with (fail)
  rw [← HW7.out, ← HG2.out]
  go_wp2_with fail
  go_at_call 40
  (with_reducible refine (iPayloadOf_any _ y id node _ RY7.out IY.out).mono ?_)
  rintro ee w8 ⟨rfl, b8⟩
  have B8 := hide (below_trans B7.out b8)
  have E8 := hide (E7.out.keep b8)
  have R8 := hide (R7.out.below b8)
  have SR8 := hide (SR7.out.below b8)
  have Y8 := hide (Y7.out.keep b8)
  have RY8 := hide (RY7.out.below b8)
  clear d0 d1 d2 d3 e0 e1 e2 e3 b8
  have d0 := E8.out.cell 0
  have d1 := E8.out.cell 1
  have d2 := E8.out.cell 2
  have d3 := E8.out.cell 3
  simp at d0 d1 d2 d3
  have e0 := Y8.out.cell 0
  have e1 := Y8.out.cell 1
  have e2 := Y8.out.cell 2
  have e3 := Y8.out.cell 3
  simp at e0 e1 e2 e3
  rw [← HP.out, ← HCY.out]
  go_wp2_with fail
  go_at_call 39
  (with_reducible refine (sPayloadOf_any _ y id node _ RY8.out NY.out IY.out).mono ?_)
  rintro ee w9 ⟨rfl, b9⟩
  have B9 := hide (below_trans B8.out b9)
  have E9 := hide (E8.out.keep b9)
  have R9 := hide (R8.out.below b9)
  have SR9 := hide (SR8.out.below b9)
  have Y9 := hide (Y8.out.keep b9)
  have RY9 := hide (RY8.out.below b9)
  clear d0 d1 d2 d3 e0 e1 e2 e3 b9
  have d0 := E9.out.cell 0
  have d1 := E9.out.cell 1
  have d2 := E9.out.cell 2
  have d3 := E9.out.cell 3
  simp at d0 d1 d2 d3
  have e0 := Y9.out.cell 0
  have e1 := Y9.out.cell 1
  have e2 := Y9.out.cell 2
  have e3 := Y9.out.cell 3
  simp at e0 e1 e2 e3
  rw [← HP.out, ← HCY.out]
  by_cases hc0 : cz = 0
  · subst hc0
    obtain ⟨hst, hpos, hany⟩ := use_law HCZ.out.symm
    have HST := hide hst
    have HFt := hide (fits_of hst)
    have hDu := hide (durs_of hst)
    have HLn := hide (len_of hst)
    have HANY := hide hany
    have HS2 := hide (show s0 = slackL (modeL mode m.ss) by rw [HS.out, ← HCZ.out]; rfl)
    have HU2 := hide (show u0 = useV (modeL mode m.ss) by rw [HU.out, ← HCZ.out]; rfl)
    have hN3 : n3 ≤ 120 := by rw [← hlen.out]; exact HLn.out
    have hbd := durs_bound (hDu.out.modeL mode)
    have hml := Nat.le_trans (modeL_len mode m.ss) HLn.out
    obtain ⟨D, hD⟩ : ∃ D : Nat, durs (modeL mode m.ss) = D := ⟨(durs (modeL mode m.ss)).toNat, by omega⟩
    rw [hD] at hpos hbd
    have HD := hide hD
    have hD1 : 0 < D := by omega
    have hD2 : D ≤ 1000000 := by omega
    have HC9 := hide (show (bif mcB m mode == 0 then durs (modeL mode m.ss) else 0) = (D : Int) by rw [← HCZ.out]; exact hD)
    have hsb := slackL_bound (modeL mode m.ss) (HFt.out.modeL mode)
    rw [← HS2.out] at hsb
    obtain ⟨hsb1, hsb2⟩ := hsb
    clear hst hpos hany hD hbd hml d0 d1 d2 d3 e0 e1 e2 e3
    have d3 := E9.out.cell 3
    simp at d3
    go_wp2_with fail
    clear d3
    go_loopw [20, 21, 22] (fun q g i wr => ∃ (k : Nat) (u : Int) (f : Bool), k ≤ n3 ∧ i = .int .i64 k ∧ q = .int .i64 u ∧ g = .bool f ∧ Hid (u = useL (modeL mode (m.ss.take k))) ∧ Hid (f = (modeL mode (m.ss.take k)).any (fun x => x.du - cellI x.kd x.sz == s0)) ∧ Hid (Below w9.heap.size w9 wr)) (fun _ _ i _ => n3 - (intOf i).toNat)
    case atStart => exact ⟨0, 0, false, by omega, rfl, rfl, rfl, hide (by simp [useL, modeL]), hide (by simp [modeL]), hide (Below.refl _ _)⟩
    case round =>
      obtain ⟨k, u, f, hk, rfl, rfl, rfl, hu, hf, hb2⟩ := hrel
      have F := E9.out.keep hb2.out
      have d0 := F.cell 0
      have d1 := F.cell 1
      have d2 := F.cell 2
      have d3 := F.cell 3
      simp at d0 d1 d2 d3
      clear F
      by_cases hlt : k < n3
      · clear d0 d1 d2
        obtain ⟨b, off, x, rfl, hb, hx, c0, c1, c2, c3, c4, c5, c6, c7⟩ := slt_at (SR9.out.below hb2.out) hlt
        have HN := hide (show modeL mode (m.ss.take (k + 1)) = _ by rw [takeR hx, modeL_snoc])
        have sb := stB_at HST.out hx
        have hds := hide (slt_desc sb)
        have bs2 := slt_bounds sb
        have hkd := hide (show inB 0 3 x.kd = true from inB_yes bs2.2.2.2.2.1.1 bs2.2.2.2.2.1.2)
        have hsz := hide bs2.2.2.2.2.2.1
        have cl := cellI_le (kd := x.kd) (szB_ge hsz.out)
        have hdu := bs2.2.2.2.2.2.2
        have fbl : (modeL mode (m.ss.take k)).length ≤ 120 := Nat.le_trans (modeL_len _ _) (by rw [List.length_take]; have := HLn.out; omega)
        have fb := useL_bound (modeL mode (m.ss.take k)) ((HFt.out.take k).modeL mode)
        rw [← hu.out] at fb
        have HM2 := hide (List.mem_of_getElem? hx)
        obtain ⟨z, hz⟩ : ∃ z, z = cellI x.kd x.sz := ⟨_, rfl⟩
        rw [← hz] at cl hdu
        have HZ := hide hz
        obtain ⟨p, hp⟩ : ∃ p, p = x.du - z := ⟨_, rfl⟩
        have HP2 := hide hp
        obtain ⟨cl1, cl2⟩ := cl
        obtain ⟨hdu1, hdu2⟩ := hdu
        have fb1 := fb.1
        have fb2 : u ≤ 120000 := by have := fb.2; omega
        have HX := hide hx
        clear hx sb bs2 fbl fb hz
        cases e : (x.md == mode)
        · have NN := hide (show u = useL (modeL mode (m.ss.take (k + 1))) by rw [HN.out, e, if_neg (by simp), List.append_nil, hu.out])
          have NF := hide (show f = (modeL mode (m.ss.take (k + 1))).any (fun x => x.du - cellI x.kd x.sz == s0) by rw [HN.out, e, if_neg (by simp), List.append_nil, hf.out])
          clear HN hp
          go_wp2
          go_roundw
          case rel => exact ⟨k + 1, u, f, by omega, by go_num, rfl, rfl, NN, NF, hb2⟩
          case measure => simp [intOf]; omega
        · have NN := hide (show u + z = useL (modeL mode (m.ss.take (k + 1))) by rw [HN.out, e, if_pos rfl, useL_snoc, hu.out, HZ.out])
          have NF := hide (show (f || (p == s0)) = (modeL mode (m.ss.take (k + 1))).any (fun x => x.du - cellI x.kd x.sz == s0) by rw [HN.out, e, if_pos rfl, List.any_append, hf.out, HP2.out, HZ.out]; simp)
          have hle : s0 ≤ p := by
            rw [HP2.out, HZ.out, HS2.out]
            exact slackL_least (List.mem_filter.2 ⟨HM2.out, by simpa using e⟩)
          have tp : decide (p < s0) = false := decide_eq_false (by omega)
          clear HN hp
          go_wp2_with fail
          refine wp_region_held_drew (S := (fun w' => w'.cell? ⟨G, 3, none⟩ = some (.slice (some ⟨b, off, none⟩) n3 q3) ∧ w'.cell? ⟨b, off + k * 8 + 4, none⟩ = some (.int .i64 x.kd) ∧ w'.cell? ⟨b, off + k * 8 + 5, none⟩ = some (.int .i64 x.sz))) (by kernel_rfl) ?_ (fun hHeld => ?_)
          · (try dsimp only)
            go_keep
          refine wpAnyH_take (i := 0) (v := ?va1) rfl (by kernel_rfl) (by kernel_rfl) (by kernel_rfl) (fun _ _ _ h => h) (Or.inl ⟨by rfl, ?hya1⟩) (by assumption) ?rest1
          case hya1 => (intro wz hSw; (try dsimp only at hSw); go_simp; all_goals with_reducible rfl)
          try simp only [List.getElem_toArray, List.getElem_cons_succ, List.getElem_cons_zero, Act.put, List.setIfInBounds_toArray, List.set_cons_zero, List.set_cons_succ]
          refine wpAnyH_take (i := 1) (v := ?va2) rfl (by kernel_rfl) (by kernel_rfl) (by kernel_rfl) (fun _ _ _ h => h) (Or.inl ⟨by rfl, ?hya2⟩) (by assumption) ?rest2
          case hya2 => (intro wz hSw; (try dsimp only at hSw); go_simp; all_goals with_reducible rfl)
          try simp only [List.getElem_toArray, List.getElem_cons_succ, List.getElem_cons_zero, Act.put, List.setIfInBounds_toArray, List.set_cons_zero, List.set_cons_succ]
          refine wpAnyH_take (i := 2) (v := ?va3) rfl (by kernel_rfl) (by kernel_rfl) (by kernel_rfl) (fun _ _ _ h => h) (Or.inl ⟨by rfl, ?hya3⟩) (by assumption) ?rest3
          case hya3 => (intro wz hSw; (try dsimp only at hSw); go_simp; all_goals with_reducible rfl)
          try simp only [List.getElem_toArray, List.getElem_cons_succ, List.getElem_cons_zero, Act.put, List.setIfInBounds_toArray, List.set_cons_zero, List.set_cons_succ]
          refine wpAnyH_take (i := 3) (v := ?va4) rfl (by kernel_rfl) (by kernel_rfl) (by kernel_rfl) (fun _ _ _ h => h) (Or.inl ⟨by rfl, ?hya4⟩) (by assumption) ?rest4
          case hya4 => (intro wz hSw; (try dsimp only at hSw); go_simp; all_goals with_reducible rfl)
          try simp only [List.getElem_toArray, List.getElem_cons_succ, List.getElem_cons_zero, Act.put, List.setIfInBounds_toArray, List.set_cons_zero, List.set_cons_succ]
          refine wpAnyH_take (i := 4) (v := ?va5) rfl (by kernel_rfl) (by kernel_rfl) (by kernel_rfl) (fun _ _ _ h => h) (Or.inl ⟨by rfl, ?hya5⟩) (by assumption) ?rest5
          case hya5 => (intro wz hSw; (try dsimp only at hSw); go_simp; all_goals with_reducible rfl)
          try simp only [List.getElem_toArray, List.getElem_cons_succ, List.getElem_cons_zero, Act.put, List.setIfInBounds_toArray, List.set_cons_zero, List.set_cons_succ]
          refine wpAnyH_take (i := 5) (v := ?va6) rfl (by kernel_rfl) (by kernel_rfl) (by kernel_rfl) (fun _ _ _ h => h) (Or.inl ⟨by rfl, ?hya6⟩) (by assumption) ?rest6
          case hya6 => (intro wz hSw; (try dsimp only at hSw); go_simp; all_goals with_reducible rfl)
          try simp only [List.getElem_toArray, List.getElem_cons_succ, List.getElem_cons_zero, Act.put, List.setIfInBounds_toArray, List.set_cons_zero, List.set_cons_succ]
          refine wpAnyH_take (i := 6) (v := ?va7) rfl (by kernel_rfl) (by kernel_rfl) (by kernel_rfl) (fun _ _ _ h => h) (Or.inl ⟨by rfl, ?hya7⟩) (by assumption) ?rest7
          case hya7 => (intro wz hSw; (try dsimp only at hSw); go_simp; all_goals with_reducible rfl)
          try simp only [List.getElem_toArray, List.getElem_cons_succ, List.getElem_cons_zero, Act.put, List.setIfInBounds_toArray, List.set_cons_zero, List.set_cons_succ]
          refine wpAnyH_take (i := 7) (v := ?va8) rfl (by kernel_rfl) (by kernel_rfl) (by kernel_rfl) (fun _ _ _ h => h) (Or.inl ⟨by rfl, ?hya8⟩) (by assumption) ?rest8
          case hya8 => (intro wz hSw; (try dsimp only at hSw); go_simp; all_goals with_reducible rfl)
          try simp only [List.getElem_toArray, List.getElem_cons_succ, List.getElem_cons_zero, Act.put, List.setIfInBounds_toArray, List.set_cons_zero, List.set_cons_succ]
          refine wpAnyH_take (i := 8) (v := ?va9) rfl (by kernel_rfl) (by kernel_rfl) (by kernel_rfl) (fun _ _ _ h => h) (Or.inl ⟨by rfl, ?hya9⟩) (by assumption) ?rest9
          case hya9 => (intro wz hSw; (try dsimp only at hSw); go_simp; all_goals with_reducible rfl)
          try simp only [List.getElem_toArray, List.getElem_cons_succ, List.getElem_cons_zero, Act.put, List.setIfInBounds_toArray, List.set_cons_zero, List.set_cons_succ]
          refine wpAnyH_take (i := 9) (v := ?va10) rfl (by kernel_rfl) (by kernel_rfl) (by kernel_rfl) (fun _ _ _ h => h) (Or.inl ⟨by rfl, ?hya10⟩) (by assumption) ?rest10
          case hya10 => (intro wz hSw; (try dsimp only at hSw); go_simp; all_goals with_reducible rfl)
          try simp only [List.getElem_toArray, List.getElem_cons_succ, List.getElem_cons_zero, Act.put, List.setIfInBounds_toArray, List.set_cons_zero, List.set_cons_succ]
          refine wpAnyH_take (i := 10) (v := ?va11) rfl (by kernel_rfl) (by kernel_rfl) (by kernel_rfl) (fun _ _ _ h => h) (Or.inl ⟨by rfl, ?hya11⟩) (by assumption) ?rest11
          case hya11 => (intro wz hSw; (try dsimp only at hSw); go_simp; all_goals with_reducible rfl)
          try simp only [List.getElem_toArray, List.getElem_cons_succ, List.getElem_cons_zero, Act.put, List.setIfInBounds_toArray, List.set_cons_zero, List.set_cons_succ]
          refine wpAnyH_take (i := 11) (v := ?va12) rfl (by kernel_rfl) (by kernel_rfl) (by kernel_rfl) (fun _ _ _ h => h) (Or.inl ⟨by rfl, ?hya12⟩) (by assumption) ?rest12
          case hya12 => (intro wz hSw; (try dsimp only at hSw); go_simp; all_goals with_reducible rfl)
          try simp only [List.getElem_toArray, List.getElem_cons_succ, List.getElem_cons_zero, Act.put, List.setIfInBounds_toArray, List.set_cons_zero, List.set_cons_succ]
          refine wpAnyH_take (i := 12) (v := ?va13) rfl (by kernel_rfl) (by kernel_rfl) (by kernel_rfl) (fun _ _ _ h => h) (Or.inl ⟨by rfl, ?hya13⟩) (by assumption) ?rest13
          case hya13 => (intro wz hSw; (try dsimp only at hSw); go_simp; all_goals with_reducible rfl)
          try simp only [List.getElem_toArray, List.getElem_cons_succ, List.getElem_cons_zero, Act.put, List.setIfInBounds_toArray, List.set_cons_zero, List.set_cons_succ]
          refine wpAnyH_take (i := 13) (v := ?va14) rfl (by kernel_rfl) (by kernel_rfl) (by kernel_rfl) (fun _ _ _ h => h) (Or.inl ⟨by rfl, ?hya14⟩) (by assumption) ?rest14
          case hya14 => (intro wz hSw; (try dsimp only at hSw); go_simp; all_goals with_reducible rfl)
          try simp only [List.getElem_toArray, List.getElem_cons_succ, List.getElem_cons_zero, Act.put, List.setIfInBounds_toArray, List.set_cons_zero, List.set_cons_succ]
          refine wpAnyH_ready (rs := [14]) (by kernel_rfl) (by simp) ?_
          refine AllReadyH.cons rfl (fun K hK => ?_) AllReadyH.nil
          go_simp
          (go_at_call 43; (with_reducible refine (CellsNeeded_ok _ _ _ hkd.out hsz.out).mono ?_); rintro ee w3 ⟨rfl, rfl⟩; rw [← HZ.out])
          go_wp2_with fail
          refine hK.out _ _ ?_ (fun hHeld14 => ?_)
          · (try dsimp only)
            go_keep
          clear hK K
          try simp only [List.getElem_toArray, List.getElem_cons_succ, List.getElem_cons_zero, Act.put, List.setIfInBounds_toArray, List.set_cons_zero, List.set_cons_succ]
          refine wpAnyH_take (i := 15) (v := ?va15) rfl (by kernel_rfl) (by kernel_rfl) (by kernel_rfl) (fun _ _ _ h => h) (Or.inl ⟨by rfl, ?hya15⟩) (by assumption) ?rest15
          case hya15 => (intro wz hSw; (try dsimp only at hSw); go_simp; all_goals with_reducible rfl)
          try simp only [List.getElem_toArray, List.getElem_cons_succ, List.getElem_cons_zero, Act.put, List.setIfInBounds_toArray, List.set_cons_zero, List.set_cons_succ]
          refine wpAnyH_take (i := 16) (v := ?va16) rfl (by kernel_rfl) (by kernel_rfl) (by kernel_rfl) (fun _ _ _ h => h) (Or.inl ⟨by rfl, ?hya16⟩) (by assumption) ?rest16
          case hya16 => (intro wz hSw; (try dsimp only at hSw); go_simp; all_goals with_reducible rfl)
          try simp only [List.getElem_toArray, List.getElem_cons_succ, List.getElem_cons_zero, Act.put, List.setIfInBounds_toArray, List.set_cons_zero, List.set_cons_succ]
          refine wpAnyH_take (i := 17) (v := ?va17) rfl (by kernel_rfl) (by kernel_rfl) (by kernel_rfl) (fun _ _ _ h => h) (Or.inl ⟨by rfl, ?hya17⟩) (by assumption) ?rest17
          case hya17 => (intro wz hSw; (try dsimp only at hSw); go_simp; all_goals with_reducible rfl)
          try simp only [List.getElem_toArray, List.getElem_cons_succ, List.getElem_cons_zero, Act.put, List.setIfInBounds_toArray, List.set_cons_zero, List.set_cons_succ]
          refine wpAnyH_take (i := 18) (v := ?va18) rfl (by kernel_rfl) (by kernel_rfl) (by kernel_rfl) (fun _ _ _ h => h) (Or.inl ⟨by rfl, ?hya18⟩) (by assumption) ?rest18
          case hya18 => (intro wz hSw; (try dsimp only at hSw); go_simp; all_goals with_reducible rfl)
          try simp only [List.getElem_toArray, List.getElem_cons_succ, List.getElem_cons_zero, Act.put, List.setIfInBounds_toArray, List.set_cons_zero, List.set_cons_succ]
          refine wpAnyH_take (i := 19) (v := ?va19) rfl (by kernel_rfl) (by kernel_rfl) (by kernel_rfl) (fun _ _ _ h => h) (Or.inl ⟨by rfl, ?hya19⟩) (by assumption) ?rest19
          case hya19 => (intro wz hSw; (try dsimp only at hSw); go_simp; all_goals with_reducible rfl)
          try simp only [List.getElem_toArray, List.getElem_cons_succ, List.getElem_cons_zero, Act.put, List.setIfInBounds_toArray, List.set_cons_zero, List.set_cons_succ]
          refine wpAnyH_done (by kernel_rfl) ?_ _
          have BX := hide (below_drewT hb2.out)
          go_wp2_with fail
          go_at_call 44
          (with_reducible refine (PauseOf_ok x _ hds.out).mono ?_)
          rintro ee w11 ⟨rfl, b11⟩
          rw [← HZ.out, ← HP2.out]
          have BY := hide (below_trans BX.out b11)
          clear b11 d3
          cases f
          · go_wp2
            go_roundw
            case rel => exact ⟨k + 1, u + z, (p == s0), by omega, by go_num, by go_num, rfl, NN, NF, BY⟩
            case measure => simp [intOf]; omega
          · go_wp2
            go_roundw
            case rel => exact ⟨k + 1, u + z, true, by omega, by go_num, by go_num, rfl, NN, NF, BY⟩
            case measure => simp [intOf]; omega
      · obtain rfl : k = n3 := by omega
        have E1' := hide (show u = useL (modeL mode m.ss) by rw [hu.out, ← hlen.out, List.take_length])
        have E2' : f = true := by rw [hf.out, ← hlen.out, List.take_length, HS2.out]; exact HANY.out
        subst E2'
        have hml := Nat.le_trans (modeL_len mode m.ss) HLn.out
        have hub := useL_bound (modeL mode m.ss) (HFt.out.modeL mode)
        rw [← E1'.out] at hub
        obtain ⟨U, rfl⟩ : ∃ U : Nat, u = U := ⟨u.toNat, by omega⟩
        have hU1 : U ≤ 120000 := by omega
        have EU := hide (show u0 = 1000 * (U : Int) / (D : Int) by rw [HU2.out, useV, HD.out, ← E1'.out])
        clear hml hub
        go_wp2_with fail
        go_at_call 32
        (with_reducible refine (iCycleTime_any _ m mode _ (R9.out.below hb2.out)).mono ?_)
        rintro ee w10 ⟨rfl, b10⟩
        have B10 := hide (below_trans B9.out (below_trans hb2.out b10))
        rw [HC9.out, ← HCZ.out]
        clear d0 d1 d2 d3 b10
        have hD0 : ¬ D = 0 := by omega
        have hD3 : decide ((0 : Int) < (D : Int)) = true := decide_eq_true (by omega)
        have teq : (u0 == 1000 * (U : Int) / (D : Int)) = true := by rw [← EU.out]; simp
        go_wp2
        go_ret
        exact ⟨rfl, B10.out⟩
  · have t2 : (cz != 0) = true := by simpa using hc0
    have t3 : (cz == 0) = false := by simpa using hc0
    go_wp2
    go_ret
    exact ⟨rfl, B9.out⟩
end Go.Proofs.YtdkhldebnpmiiaaGreatDoor
