/- Contracts: the end of the first slot of a node from a time on, by the program and by the reference. -/
import Derived.Test.YtdkhldebnpmiiaaGreatDoorZSending
import Derived.Test.YtdkhldebnpmiiaaGreatDoorZBkI
namespace Go.Proofs.YtdkhldebnpmiiaaGreatDoor
open Go.RowKit
set_option linter.unusedVariables false
set_option linter.unusedSimpArgs false
theorem prL_snoc (nd : Int) (l : List Slt) (x : Slt) : prL nd (l ++ [x]) = prL nd l ++ (if x.nd == nd then [(durs l, durs l + x.du)] else []) := by
  rw [prL, prs_append, Int.zero_add, prs, prs, List.append_nil]
  rfl
theorem prL_pre (nd mode : Int) (l : List Slt) (k : Nat) : ∃ R, prL nd (modeL mode l) = prL nd (modeL mode (l.take k)) ++ R := by
  have e : modeL mode l = modeL mode (l.take k) ++ modeL mode (l.drop k) := by rw [modeL, modeL, modeL, ← List.filter_append, List.take_append_drop]
  rw [e, prL, prs_append]
  exact ⟨_, rfl⟩
/-- where the loop over cycles stands: at the first, or at the second with nothing found in the first -/
def StZ (ps : List (Int × Int)) (c t z : Int) : Prop := z = t / c * c ∨ (z = t / c * c + c ∧ ∀ y ∈ ps, t / c * c + y.1 < t)
/-- nothing found at z: the next cycle -/
theorem StZ.next {ps : List (Int × Int)} {c t z : Int} (h : StZ ps c t z) (hw : WfP c ps) (hne : ps ≠ []) (ht : 0 ≤ t) (hc : 0 < c) (hall : ∀ y ∈ ps, z + y.1 < t) : StZ ps c t (z + c) ∧ z = t / c * c := by
  have hd := div_bounds ht hc
  rcases h with h | ⟨h, _⟩
  · subst h
    exact ⟨.inr ⟨rfl, hall⟩, rfl⟩
  · obtain ⟨p, r, rfl⟩ := List.exists_cons_of_ne_nil hne
    have h1 := hall p (by simp)
    have h2 := hw.each p (by simp)
    omega
/-- found at z -/
theorem StZ.found {ps qs : List (Int × Int)} {c t z s e : Int} {R : List (Int × Int)} (h : StZ ps c t z) (hw : WfP c ps) (ht : 0 ≤ t) (hc : 0 < c) (hp : ps = qs ++ (s, e) :: R) (hb : ∀ y ∈ qs, z + y.1 < t) (hs : t ≤ z + s) : ansL ps c t = z + e := by
  have hd := div_bounds ht hc
  rcases h with h | ⟨h, ha⟩
  · subst h
    have e1 : ps[qs.length]? = some (s, e) := by rw [hp, List.getElem?_append_right (Nat.le_refl _), Nat.sub_self]; rfl
    rw [ans_at e1 hs (fun j y hj hy => by
      rw [hp, List.getElem?_append_left hj] at hy
      exact hb y (List.mem_of_getElem? hy))]
  · have e1 : qs = [] := by
      cases qs with
      | nil => rfl
      | cons q r =>
        have h1 := hb q (by simp)
        have h2 := hw.each q (by rw [hp]; simp)
        omega
    subst e1
    rw [ans_next ha, h, hp]
    rfl
theorem take_split {α : Type} {l : List α} {k : Nat} {x : α} (h : l[k]? = some x) : l = l.take k ++ x :: l.drop (k + 1) := by
  obtain ⟨hk, rfl⟩ := List.getElem?_eq_some_iff.1 h
  rw [← List.drop_eq_getElem_cons, List.take_append_drop]
set_option maxHeartbeats 3200000 in
theorem answerEnd_any (A1 : Option Addr) (n c1 : Nat) (S : List Int) (A2 : Option Addr) (c2 : Nat) (E : List Int) (C t : Int) (ps : List (Int × Int)) (w : World) (h1 : Rd w A1 n c1 S) (h2 : Rd w A2 n c2 E) (hl : ps.length = n)
    (hps : ∀ k, k < n → ps[k]? = some (nth S k, nth E k)) (hw : WfP C ps) (hn : 0 < n) (ht : 0 ≤ t) (ht2 : t ≤ 1000000) (hc : 0 < C) (hc2 : C ≤ 120000) :
    Calls Tryz.prog 52 #[.slice A1 n c1, .slice A2 n c2, .int .i64 C, .int .i64 t] w (fun e w' => e = .returned (.int .i64 (ansL ps C t)) ∧ w' = w) := by
  have hcap1 := h1.cap
  have hcap2 := h2.cap
  obtain ⟨b, off, rfl, hb, hcA⟩ := h1.at_ hn
  obtain ⟨b2, off2, rfl, hb2, hcB⟩ := h2.at_ hn
  have hd := div_bounds ht hc
  obtain ⟨tn, rfl⟩ := Int.eq_ofNat_of_zero_le ht
  obtain ⟨cn, rfl⟩ := Int.eq_ofNat_of_zero_le (Int.le_of_lt hc)
  have hcn : ¬ cn = 0 := by omega
  have hq0 : 0 ≤ (tn : Int) / (cn : Int) := Int.ediv_nonneg (by omega) (by omega)
  have hq1 : (tn : Int) / (cn : Int) ≤ tn := Int.ediv_le_self _ (by omega)
  have TQ := hide (show wrap64 ((tn : Int) / (cn : Int)) = (tn : Int) / (cn : Int) from IntWalk.wrap64_in _ ⟨by omega, by omega⟩)
  have TW := hide (show wrap64 ((tn : Int) / (cn : Int) * (cn : Int)) = (tn : Int) / (cn : Int) * (cn : Int) from IntWalk.wrap64_in _ ⟨by omega, by omega⟩)
  clear hq0 hq1
  have HW := hide hw
  have HPS := hide hps
  have HC1 := hide hcA
  have HC2 := hide hcB
  have HL := hide hl
  have hne : Hid (ps ≠ []) := hide (List.length_pos_iff.1 (by rw [hl]; exact hn))
  clear h1 h2 hps hcA hcB hl hw
  have hd1 := hd.2.1
  have HD := hide hd
  clear hd
  go_enter Tryz.func52, Tryz.ntmps52
  go_wp2
  go_loop [9] (fun q => ∃ z : Int, q = .int .i64 z ∧ 0 ≤ z ∧ z ≤ 1120000 ∧ Hid (StZ ps cn tn z)) (fun q => ((tn : Int) + 2 * cn + 1 - intOf q).toNat)
  case atStart => exact ⟨(tn : Int) / (cn : Int) * (cn : Int), by rw [TQ.out, TW.out], HD.out.1, by have := HD.out; omega, hide (.inl rfl)⟩
  case round =>
    obtain ⟨z, rfl, z0, z1, hz⟩ := hrel
    go_wp2
    go_loop [22] (fun i => ∃ k : Nat, k ≤ n ∧ i = .int .i64 k ∧ Hid (∀ j, j < k → z + nth S j < tn)) (fun i => n - (intOf i).toNat)
    case atStart => exact ⟨0, by omega, rfl, hide (fun j hj => by omega)⟩
    case round =>
      obtain ⟨k, hk, rfl, hall⟩ := hrel
      by_cases hlt : k < n
      · have e1 := HC1.out k hlt
        have e2 := HC2.out k hlt
        have hp := HPS.out k hlt
        have hpe := HW.out.each _ (List.mem_of_getElem? hp)
        have HP := hide hp
        obtain ⟨s, hs⟩ : ∃ s, s = nth S k := ⟨_, rfl⟩
        obtain ⟨d, hd0⟩ : ∃ d, d = nth E k := ⟨_, rfl⟩
        rw [← hs, ← hd0] at HP hpe
        rw [← hs] at e1
        rw [← hd0] at e2
        obtain ⟨p0, p1, p2, p3⟩ := hpe
        simp only at p0 p1 p2 p3
        have HS := hide hs
        clear hs hd0 hp
        by_cases hge : (tn : Int) ≤ z + s
        · have EE := hide (hz.out.found HW.out (by omega) (by omega) (take_split HP.out) (fun y hy => by
            obtain ⟨j, hj, rfl⟩ := List.getElem_of_mem hy
            rw [List.length_take] at hj
            have q := HPS.out j (by omega)
            rw [List.getElem_take]
            have q2 := hall.out j (by omega)
            have q3 := (List.getElem?_eq_some_iff.1 q).2
            rw [q3]
            exact q2) hge)
          go_wp2
          go_ret
          exact ⟨by rw [EE.out]; rfl, rfl⟩
        · have NN := hide (show ∀ j, j < k + 1 → z + nth S j < tn from fun j hj => by
            rcases Nat.lt_succ_iff_lt_or_eq.1 hj with q | q
            · exact hall.out j q
            · subst q
              rw [← HS.out]
              omega)
          go_wp2
          go_round
          case rel => exact ⟨k + 1, by omega, by go_num, NN⟩
          case measure => simp [intOf]; omega
      · obtain rfl : k = n := by omega
        have hnx := hz.out.next HW.out hne.out (by omega) (by omega) (fun y hy => by
          obtain ⟨j, hj, rfl⟩ := List.getElem_of_mem hy
          have hjk : j < k := by rw [← HL.out]; exact hj
          have q := HPS.out j hjk
          rw [(List.getElem?_eq_some_iff.1 q).2]
          exact hall.out j hjk)
        have hzz := hnx.2
        have HZ := hide hnx.1
        clear hnx
        have HZ2 := hide hzz
        have z2 : z ≤ 1000000 := by have := HD.out; omega
        have z3 : z ≤ tn := by have := HD.out; omega
        clear hzz
        go_wp2
        go_round
        case rel => exact ⟨z + cn, by go_num, by omega, by omega, HZ⟩
        case measure => simp [intOf]; omega
set_option maxHeartbeats 6400000 in
theorem l17End_any (v : Value) (m : Mdl) (mode node t : Int) (w : World) (h : RdM w v m) (hst : stB m.ss = true) (hne : stL node (modeL mode m.ss) ≠ []) (hc : 0 < durs (modeL mode m.ss)) (ht : 0 ≤ t) (ht2 : t ≤ 1000000) :
    Calls Tryz.prog 55 #[v, .int .i64 mode, .int .i64 node, .int .i64 t] w (IntOut (ansL (prL node (modeL mode m.ss)) (durs (modeL mode m.ss)) t) w) := by
  have HM := hide h
  obtain ⟨A1, n1, c1, A2, n2, c2, A3, n3, q3, rfl, h1, h2, h3⟩ := h
  have hlen2 := hide h2.len
  have hlen := hide h3.len
  have hcap2 := h2.cap
  have hcap := h3.cap
  obtain ⟨W0, hW0⟩ : ∃ W0, W0 = w.alloc (.cells #[.int .i64 m.id, .slice A1 n1 c1, .slice A2 n2 c2, .slice A3 n3 q3] 28) := ⟨_, rfl⟩
  have F0 : At W0 w.heap.size 28 #[.int .i64 m.id, .slice A1 n1 c1, .slice A2 n2 c2, .slice A3 n3 q3] := by rw [hW0]; exact At.fresh _ _ _
  have BA := hide (show Below w.heap.size w W0 by rw [hW0]; exact (Below.refl _ _).alloc (Nat.le_refl _) _)
  have B0 := hide (Below.refl W0.heap.size W0)
  have H1 := hide (h1.below BA.out)
  have H2 := hide (h2.below BA.out)
  have H3 := hide (h3.below BA.out)
  have HM0 := hide (HM.out.below BA.out)
  have HF := hide F0
  have d0 := F0.cell 0
  have d1 := F0.cell 1
  have d2 := F0.cell 2
  have d3 := F0.cell 3
  simp at d0 d1 d2 d3
  have HW := hide hW0
  clear hW0 F0 h1 h2 h3 HM
  have HLn := hide (len_of hst)
  have HDu := hide (durs_of hst)
  have HST := hide hst
  have hN := len_of hst
  rw [hlen.out] at hN
  obtain ⟨ps, hps⟩ : ∃ ps, ps = prL node (modeL mode m.ss) := ⟨_, rfl⟩
  obtain ⟨C, hC⟩ : ∃ C, C = durs (modeL mode m.ss) := ⟨_, rfl⟩
  have HW2 := hide (show WfP C ps by rw [hC, hps]; exact WfP.of node ((durs20_of hst).modeL mode))
  have hpne : Hid (ps ≠ []) := hide (List.length_pos_iff.1 (by rw [hps, prL_len]; exact List.length_pos_iff.2 hne))
  have hc2 : C ≤ 120000 := by
    have h1 := durs_bound ((durs_of hst).modeL mode)
    have h2 := modeL_len mode m.ss
    rw [hC]
    have := len_of hst
    omega
  rw [← hC] at hc
  rw [← hps, ← hC]
  have HPS := hide hps
  have HC := hide hC
  have hd := div_bounds ht hc
  obtain ⟨tn, rfl⟩ := Int.eq_ofNat_of_zero_le ht
  obtain ⟨cn, rfl⟩ := Int.eq_ofNat_of_zero_le (Int.le_of_lt hc)
  have hcn : ¬ cn = 0 := by omega
  have hq0 : 0 ≤ (tn : Int) / (cn : Int) := Int.ediv_nonneg (by omega) (by omega)
  have hq1 : (tn : Int) / (cn : Int) ≤ tn := Int.ediv_le_self _ (by omega)
  have TQ := hide (show wrap64 ((tn : Int) / (cn : Int)) = (tn : Int) / (cn : Int) from IntWalk.wrap64_in _ ⟨by omega, by omega⟩)
  have TW := hide (show wrap64 ((tn : Int) / (cn : Int) * (cn : Int)) = (tn : Int) / (cn : Int) * (cn : Int) from IntWalk.wrap64_in _ ⟨by omega, by omega⟩)
  clear hq0 hq1
  have hd1 := hd.2.1
  have HD := hide hd
  clear hst hne hps hC hd
  go_enter Tryz.func55, Tryz.ntmps55
  go_wp2_with fail
  rw [← HW.out]
  go_at_call 77
  (with_reducible refine (l13Cycle_any _ m mode _ HM0.out HLn.out HDu.out).mono ?_)
  rintro ee w1 ⟨rfl, b1⟩
  rw [← HC.out]
  have B1 := hide b1
  clear b1 d0 d1 d2 d3
  go_wp2_with fail
  go_loopw [10] (fun q wr => ∃ z : Int, q = .int .i64 z ∧ 0 ≤ z ∧ z ≤ 1120000 ∧ Hid (StZ ps cn tn z) ∧ Hid (Below W0.heap.size W0 wr)) (fun q _ => ((tn : Int) + 2 * cn + 1 - intOf q).toNat)
  case atStart => exact ⟨(tn : Int) / (cn : Int) * (cn : Int), by rw [TQ.out, TW.out], HD.out.1, by have := HD.out; omega, hide (.inl rfl), B1⟩
  case round =>
    obtain ⟨z, rfl, z0, z1, hz, hb2⟩ := hrel
    go_wp2_with fail
    go_loopw [11] (fun i wr => ∃ k : Nat, k ≤ n3 ∧ i = .int .i64 k ∧ Hid (∀ y ∈ prL node (modeL mode (m.ss.take k)), z + y.1 < tn) ∧ Hid (Below W0.heap.size W0 wr)) (fun i _ => n3 - (intOf i).toNat)
    case atStart => exact ⟨0, by omega, rfl, hide (fun y hy => by cases hy), hb2⟩
    case round =>
      obtain ⟨k, hk, rfl, hall, hb3⟩ := hrel
      have F := HF.out.keep hb3.out
      have hlw := F.lt
      have d0 := F.cell 0
      have d1 := F.cell 1
      have d2 := F.cell 2
      have d3 := F.cell 3
      simp at d0 d1 d2 d3
      clear F
      by_cases hlt : k < n3
      · obtain ⟨b, off, x, rfl, hb, hx, c0, c1, c2, c3, c4, c5, c6, c7⟩ := slt_at (H3.out.below hb3.out) hlt
        have HN := hide (show modeL mode (m.ss.take (k + 1)) = _ by rw [takeR hx, modeL_snoc])
        have HS := hide (startL_at HST.out hx)
        have hxb := HDu.out x (List.mem_of_getElem? hx)
        clear hx
        cases e : (x.md == mode)
        · have t1 : ¬ x.md = mode := by simpa using e
          obtain ⟨WX, hWX⟩ : ∃ WX, WX = wr.alloc (.cells #[.int .i64 x.md, .int .i64 x.rd, .int .i64 x.sl, .int .i64 x.nd, .int .i64 x.kd, .int .i64 x.sz, .int .i64 x.du, .bool x.ch] 61) := ⟨_, rfl⟩
          have BWr := hide (show Below wr.heap.size wr WX by rw [hWX]; exact (Below.refl _ _).alloc (Nat.le_refl _) _)
          have BW := hide (show Below W0.heap.size W0 WX from below_trans hb3.out BWr.out)
          have HWX := hide hWX
          clear hWX
          have NN := hide (show ∀ y ∈ prL node (modeL mode (m.ss.take (k + 1))), z + y.1 < tn by rw [HN.out, e, if_neg (by simp), List.append_nil]; exact hall.out)
          clear HN
          go_wp2_with fail
          rw [← HWX.out]
          go_roundw
          case rel => exact ⟨k + 1, by omega, by go_num, NN, BW⟩
          case measure => simp [intOf]; omega
        · have hm : x.md = mode := by simpa using e
          rw [hm] at c0
          have HE := hide hm
          have HEe := hide e
          clear hm e
          cases e2 : (x.nd == node)
          · obtain ⟨WX, hWX⟩ : ∃ WX, WX = wr.alloc (.cells #[.int .i64 mode, .int .i64 x.rd, .int .i64 x.sl, .int .i64 x.nd, .int .i64 x.kd, .int .i64 x.sz, .int .i64 x.du, .bool x.ch] 61) := ⟨_, rfl⟩
            have BWr := hide (show Below wr.heap.size wr WX by rw [hWX]; exact (Below.refl _ _).alloc (Nat.le_refl _) _)
            have BW := hide (show Below W0.heap.size W0 WX from below_trans hb3.out BWr.out)
            have HWX := hide hWX
            clear hWX
            have t2 : ¬ x.nd = node := by simpa using e2
            have NN := hide (show ∀ y ∈ prL node (modeL mode (m.ss.take (k + 1))), z + y.1 < tn by rw [HN.out, HEe.out, if_pos rfl, prL_snoc, e2, if_neg (by simp), List.append_nil]; exact hall.out)
            clear HN
            go_wp2_with fail
            rw [← HWX.out]
            go_roundw
            case rel => exact ⟨k + 1, by omega, by go_num, NN, BW⟩
            case measure => simp [intOf]; omega
          · have hn2 : x.nd = node := by simpa using e2
            rw [hn2] at c3
            have HE2 := hide e2
            clear hn2 e2
            obtain ⟨WX, hWX⟩ : ∃ WX, WX = wr.alloc (.cells #[.int .i64 mode, .int .i64 x.rd, .int .i64 x.sl, .int .i64 node, .int .i64 x.kd, .int .i64 x.sz, .int .i64 x.du, .bool x.ch] 61) := ⟨_, rfl⟩
            have BWr := hide (show Below wr.heap.size wr WX by rw [hWX]; exact (Below.refl _ _).alloc (Nat.le_refl _) _)
            have BW := hide (show Below W0.heap.size W0 WX from below_trans hb3.out BWr.out)
            have HWX := hide hWX
            clear hWX
            obtain ⟨s, hs⟩ : ∃ s, s = startL mode x.rd x.sl m.ss := ⟨_, rfl⟩
            have HZ := hide (show s = durs (modeL mode (m.ss.take k)) by rw [hs]; have q := HS.out; rw [HE.out] at q; exact q)
            have hzb := startL_bound HDu.out mode x.rd x.sl
            rw [← hs, hlen.out] at hzb
            have s0 : 0 ≤ s := hzb.1
            have s1 : s ≤ 120000 := by omega
            have NP := hide (show prL node (modeL mode (m.ss.take (k + 1))) = prL node (modeL mode (m.ss.take k)) ++ [(s, s + x.du)] by rw [HN.out, HEe.out, if_pos rfl, prL_snoc, HE2.out, if_pos rfl, HZ.out])
            have HZZ := hide hs
            have GX := hide (show At WX wr.heap.size 61 _ by rw [HWX.out]; exact At.fresh _ _ _)
            clear HN hzb hs HS
            go_wp2_with fail
            rw [← HWX.out]
            go_at_call 90
            (with_reducible refine (l15Start_any _ m mode x.rd x.sl _ (HM0.out.below BW.out) HLn.out HDu.out).mono ?_)
            rintro ee w2 ⟨rfl, b2⟩
            rw [← HZZ.out]
            have B2 := hide (below_trans BW.out b2)
            have g6 : w2.cell? ⟨wr.heap.size, 6, none⟩ = some (.int .i64 x.du) := (GX.out.keep b2).cell 6
            clear d0 d1 d2 d3 b2
            by_cases hge : (tn : Int) ≤ z + s
            · have EE := hide (show ansL ps cn tn = z + (s + x.du) by
                obtain ⟨R, hR⟩ := prL_pre node mode m.ss (k + 1)
                rw [NP.out, ← HPS.out, List.append_assoc] at hR
                exact hz.out.found HW2.out (by omega) (by omega) hR hall.out hge)
              go_wp2
              go_ret
              exact ⟨by rw [EE.out, ← Int.add_assoc]; rfl, below_trans BA.out B2.out⟩
            · have NN := hide (show ∀ y ∈ prL node (modeL mode (m.ss.take (k + 1))), z + y.1 < tn by
                rw [NP.out]
                intro y hy
                rcases List.mem_append.1 hy with q | q
                · exact hall.out y q
                · simp at q
                  subst q
                  show z + s < tn
                  omega)
              go_wp2
              go_roundw
              case rel => exact ⟨k + 1, by omega, by go_num, NN, B2⟩
              case measure => simp [intOf]; omega
      · obtain rfl : k = n3 := by omega
        have E := hide (show m.ss.take k = m.ss by rw [← hlen.out, List.take_length])
        have hnx := hz.out.next HW2.out hpne.out (by omega) (by omega) (by rw [HPS.out]; have q := hall.out; rw [E.out] at q; exact q)
        have hzz := hnx.2
        have HZ := hide hnx.1
        clear hnx
        have z2 : z ≤ 1000000 := by have := HD.out; omega
        have z3 : z ≤ tn := by have := HD.out; omega
        clear hzz
        go_wp2
        go_roundw
        case rel => exact ⟨z + cn, by go_num, by omega, by omega, HZ, hb3⟩
        case measure => simp [intOf]; omega
end Go.Proofs.YtdkhldebnpmiiaaGreatDoor
