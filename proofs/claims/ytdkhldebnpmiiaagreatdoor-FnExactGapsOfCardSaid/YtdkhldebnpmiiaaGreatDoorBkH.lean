/- Contracts: the bytes that a node sends in a cycle, by the program and by the reference. The laws' own copies of modes and of whole schedules. The laws' own comparison of two schedules that read alike. -/
import Derived.Test.YtdkhldebnpmiiaaGreatDoorKnown2
import Derived.Test.YtdkhldebnpmiiaaGreatDoorBkB
import Derived.Test.YtdkhldebnpmiiaaGreatDoorBkA
import Derived.Deep.RegionWith
namespace Go.Proofs.YtdkhldebnpmiiaaGreatDoor
open Go.RowKit
set_option linter.unusedVariables false
set_option linter.unusedSimpArgs false

theorem scB_zero {m : Mdl} {mode : Int} {zs : List Int} (h : scB m mode zs = 0) : mcB m mode = 0 := by
  rw [scB] at h
  cases h1 : (ncB m mode zs == 0)
  · rw [h1] at h
    have : ncB m mode zs = 0 := h
    rw [this] at h1
    cases h1
  · exact (ncB_zero (by simpa using h1)).1
theorem scB_act {m : Mdl} {mode : Int} {zs : List Int} (h : scB m mode zs = 0) : zs.all (hasN m.ns) = true ∧ zs.all (actB m.ns) = true := by
  rw [scB] at h
  cases h1 : (ncB m mode zs == 0)
  · rw [h1] at h
    have : ncB m mode zs = 0 := h
    rw [this] at h1
    cases h1
  · rw [h1] at h
    refine ⟨(ncB_zero (by simpa using h1)).2, ?_⟩
    cases h2 : zs.all (actB m.ns)
    · rw [h2] at h; cases h
    · rfl
/-- the bytes of a node's frames -/
def payL (node : Int) (l : List Slt) : Int := ((l.filter (fun x => x.nd == node)).map (·.sz)).sum
theorem payL_snoc (node : Int) (l : List Slt) (x : Slt) : payL node (l ++ [x]) = payL node l + (if x.nd == node then x.sz else 0) := by
  rw [payL, List.filter_append, List.map_append]
  cases h : (x.nd == node) <;> simp [payL, h]
theorem payL_bound (node : Int) (l : List Slt) : Fits l → 0 ≤ payL node l ∧ payL node l ≤ 32 * l.length := by
  refine snoc_ind (P := fun l => Fits l → 0 ≤ payL node l ∧ payL node l ≤ 32 * l.length) ?_ ?_ l
  · intro _
    show (0 : Int) ≤ 0 ∧ (0 : Int) ≤ 32 * ((0 : Nat) : Int)
    omega
  · intro l x ih h
    have h1 := ih (fun y hy => h y (by simp [hy]))
    have h2 := h x (by simp)
    rw [payL_snoc, List.length_append]
    show 0 ≤ payL node l + (if x.nd == node then x.sz else 0) ∧ payL node l + (if x.nd == node then x.sz else 0) ≤ 32 * ((l.length + 1 : Nat) : Int)
    split <;> omega
set_option maxHeartbeats 6400000 in
theorem iPayloadOf_any (v : Value) (m : Mdl) (mode node : Int) (w : World) (h : RdM w v m) (hnode : I64 [node]) :
    Calls Tryz.prog 40 #[v, .int .i64 mode, .int .i64 node] w (TwoOut (bif scB m mode [node] == 0 then payL node (modeL mode m.ss) else 0) (scB m mode [node]) w) := by
  have HM := hide h
  obtain ⟨A1, n1, c1, A2, n2, c2, A3, n3, q3, rfl, h1, h2, h3⟩ := h
  have hlen2 := hide h2.len
  have hlen := hide h3.len
  have hcap2 := h2.cap
  have hcap := h3.cap
  obtain ⟨W0, hW0⟩ : ∃ W0, W0 = w.alloc (.cells #[.int .i64 m.id, .slice A1 n1 c1, .slice A2 n2 c2, .slice A3 n3 q3] 28) := ⟨_, rfl⟩
  have F0 : At W0 w.heap.size 28 #[.int .i64 m.id, .slice A1 n1 c1, .slice A2 n2 c2, .slice A3 n3 q3] := by rw [hW0]; exact At.fresh _ _ _
  have BA := hide (show Below w.heap.size w W0 by rw [hW0]; exact (Below.refl _ _).alloc (Nat.le_refl _) _)
  have B0 := hide (Below.refl W0.heap.size W0)
  have H1 := hide (h1.below BA.out)
  have H2 := hide (h2.below BA.out)
  have H3 := hide (h3.below BA.out)
  have HM0 := hide (HM.out.below BA.out)
  have HF := hide F0
  have d0 := F0.cell 0
  have d1 := F0.cell 1
  have d2 := F0.cell 2
  have d3 := F0.cell 3
  simp at d0 d1 d2 d3
  have HW := hide hW0
  clear hW0 F0 h1 h2 h3 HM
  obtain ⟨WL, hWL⟩ : ∃ WL, WL = W0.alloc (.cells #[.int .i64 node] 2) := ⟨_, rfl⟩
  have OL := hide (show Rd WL (some ⟨W0.heap.size, 0, none⟩) 1 1 [node] by rw [hWL]; exact (Own.lit W0 (Nat.le_refl _) #[.int .i64 node] [node] rfl hnode 1 rfl (by omega)).rd)
  have BL := hide (show Below W0.heap.size W0 WL by rw [hWL]; exact (Below.refl _ _).alloc (Nat.le_refl _) _)
  rw [show W0.heap.size = w.heap.size + 1 by rw [HW.out]; simp] at OL
  have HWL := hide hWL
  have HML := hide (HM0.out.below BL.out)
  clear hWL
  go_enter Tryz.func40, Tryz.ntmps40
  go_wp2_with fail
  rw [← HW.out, ← HWL.out]
  go_at_call 49
  (with_reducible refine (sendersCode_any _ m mode _ _ _ [node] _ HML.out OL.out).mono ?_)
  rintro ee w1 ⟨rfl, b1⟩
  clear d0 d1 d2 d3
  have B1 := hide (below_trans BL.out b1)
  have F := HF.out.keep B1.out
  have d0 := F.cell 0
  have d1 := F.cell 1
  have d2 := F.cell 2
  have d3 := F.cell 3
  simp at d0 d1 d2 d3
  clear F b1
  obtain ⟨cz, hcz⟩ : ∃ cz, cz = scB m mode [node] := ⟨_, rfl⟩
  rw [← hcz]
  have HCZ := hide hcz
  by_cases hc0 : cz = 0
  · subst hc0
    have MB := hide (scB_zero HCZ.out.symm)
    have HFt := hide (fits_of (mdB_iff.1 (mcB_zero MB.out).1).2.2.2.1)
    have HLn := hide (len_of (mdB_iff.1 (mcB_zero MB.out).1).2.2.2.1)
    clear hcz
    go_wp2_with fail
    go_at_call 75
    (with_reducible refine (modeSlots_any _ m mode _ (HM0.out.below B1.out) HLn.out).mono ?_)
    rintro ee w2 ⟨A', c', rfl, own, b1⟩
    have B2 := hide (below_trans B1.out b1)
    have HO := hide own.rd
    have hL := hide own.len
    obtain ⟨L, hLe⟩ : ∃ L, L = modeL mode m.ss := ⟨_, rfl⟩
    have HLe := hide hLe
    have HFL := hide (show Fits L by rw [hLe]; exact HFt.out.modeL mode)
    have hN : L.length ≤ 120 := by rw [hLe]; exact Nat.le_trans (modeL_len _ _) HLn.out
    rw [← hLe] at HO hL
    rw [← hLe]
    obtain ⟨N, hNe⟩ : ∃ N, N = L.length := ⟨_, rfl⟩
    rw [← hNe] at HO hL hN
    rw [← hNe]
    have HNe := hide hNe
    clear b1 own hLe hNe d0 d1 d2 d3
    go_wp2_with fail
    go_loopw [9, 24] (fun q i wr => ∃ (k : Nat) (u : Int), k ≤ N ∧ i = .int .i64 k ∧ q = .int .i64 u ∧ Hid (u = payL node (L.take k)) ∧ Hid (Below w2.heap.size w2 wr)) (fun _ i _ => N - (intOf i).toNat)
    case atStart => exact ⟨0, 0, by omega, rfl, rfl, hide (by simp [payL]), hide (Below.refl _ _)⟩
    case round =>
      obtain ⟨k, u, hk, rfl, rfl, hu, hb2⟩ := hrel
      by_cases hlt : k < N
      · obtain ⟨b, off, x, rfl, hb, hx, c0, c1, c2, c3, c4, c5, c6, c7⟩ := slt_at (HO.out.below hb2.out) hlt
        have HN := hide (show payL node (L.take (k + 1)) = _ by rw [takeR hx, payL_snoc])
        have fsz := (HFL.out x (List.mem_of_getElem? hx)).1
        have fb := payL_bound node (L.take k) (HFL.out.take k)
        have fbl : (L.take k).length ≤ 120 := by rw [List.length_take]; omega
        rw [← hu.out] at fb
        obtain ⟨fb1, fb2⟩ := fb
        have fb3 : u ≤ 4000 := by omega
        have BW := hide (show Below w2.heap.size w2 (wr.alloc (.cells #[.int .i64 x.md, .int .i64 x.rd, .int .i64 x.sl, .int .i64 x.nd, .int .i64 x.kd, .int .i64 x.sz, .int .i64 x.du, .bool x.ch] 61)) from below_trans hb2.out ((Below.refl _ _).alloc (Nat.le_refl _) _))
        clear hx fb2
        cases e : (x.nd == node)
        · have NN := hide (show u = payL node (L.take (k + 1)) by rw [HN.out, e, hu.out]; simp)
          clear HN
          go_wp2
          go_roundw
          case rel => exact ⟨k + 1, u, by omega, by go_num, rfl, NN, BW⟩
          case measure => simp [intOf]; omega
        · have NN := hide (show u + x.sz = payL node (L.take (k + 1)) by rw [HN.out, e, hu.out]; simp)
          clear HN
          go_wp2
          go_roundw
          case rel => exact ⟨k + 1, u + x.sz, by omega, by go_num, by go_num, NN, BW⟩
          case measure => simp [intOf]; omega
      · obtain rfl : k = N := by omega
        have E := hide (show u = payL node L by rw [hu.out, HNe.out, List.take_length])
        go_wp2
        go_ret2
        exact ⟨ret_pair (by rw [← HCZ.out, ← HLe.out]; exact E.out) HCZ.out, below_trans BA.out (below_trans B2.out hb2.out)⟩
  · have t1 : (cz == 0) = false := by simpa using hc0
    have HT1 := hide t1
    clear hcz hc0
    go_wp2
    go_ret2
    exact ⟨ret_pair (by rw [← HCZ.out, HT1.out]; rfl) HCZ.out, below_trans BA.out B1.out⟩
set_option maxHeartbeats 6400000 in
theorem sPayloadOf_any (v : Value) (m : Mdl) (mode node : Int) (w : World) (h : RdM w v m) (hq : Nms m) (hnode : I64 [node]) :
    Calls Tryz.prog 39 #[v, .int .i64 mode, .int .i64 node] w (TwoOut (bif scB m mode [node] == 0 then payL node (modeL mode m.ss) else 0) (scB m mode [node]) w) := by
  have HM := hide h
  obtain ⟨A1, n1, c1, A2, n2, c2, A3, n3, q3, rfl, h1, h2, h3⟩ := h
  have hlen2 := hide h2.len
  have hlen := hide h3.len
  have hcap2 := h2.cap
  have hcap := h3.cap
  obtain ⟨W0, hW0⟩ : ∃ W0, W0 = w.alloc (.cells #[.int .i64 m.id, .slice A1 n1 c1, .slice A2 n2 c2, .slice A3 n3 q3] 28) := ⟨_, rfl⟩
  have F0 : At W0 w.heap.size 28 #[.int .i64 m.id, .slice A1 n1 c1, .slice A2 n2 c2, .slice A3 n3 q3] := by rw [hW0]; exact At.fresh _ _ _
  have BA := hide (show Below w.heap.size w W0 by rw [hW0]; exact (Below.refl _ _).alloc (Nat.le_refl _) _)
  have B0 := hide (Below.refl W0.heap.size W0)
  have H1 := hide (h1.below BA.out)
  have H2 := hide (h2.below BA.out)
  have H3 := hide (h3.below BA.out)
  have HM0 := hide (HM.out.below BA.out)
  have HF := hide F0
  have d0 := F0.cell 0
  have d1 := F0.cell 1
  have d2 := F0.cell 2
  have d3 := F0.cell 3
  simp at d0 d1 d2 d3
  have HW := hide hW0
  clear hW0 F0 h1 h2 h3 HM
  obtain ⟨WL, hWL⟩ : ∃ WL, WL = W0.alloc (.cells #[.int .i64 node] 2) := ⟨_, rfl⟩
  have OL := hide (show Rd WL (some ⟨W0.heap.size, 0, none⟩) 1 1 [node] by rw [hWL]; exact (Own.lit W0 (Nat.le_refl _) #[.int .i64 node] [node] rfl hnode 1 rfl (by omega)).rd)
  have BL := hide (show Below W0.heap.size W0 WL by rw [hWL]; exact (Below.refl _ _).alloc (Nat.le_refl _) _)
  rw [show W0.heap.size = w.heap.size + 1 by rw [HW.out]; simp] at OL
  have HWL := hide hWL
  have HML := hide (HM0.out.below BL.out)
  clear hWL
  go_enter Tryz.func39, Tryz.ntmps39
  go_wp2_with fail
  rw [← HW.out, ← HWL.out]
  go_at_call 53
  (with_reducible refine (l17Code_any _ m mode _ _ _ [node] _ HML.out hq OL.out).mono ?_)
  rintro ee w1 ⟨rfl, b1⟩
  clear d0 d1 d2 d3
  have B1 := hide (below_trans BL.out b1)
  have F := HF.out.keep B1.out
  have d0 := F.cell 0
  have d1 := F.cell 1
  have d2 := F.cell 2
  have d3 := F.cell 3
  simp at d0 d1 d2 d3
  clear F b1
  obtain ⟨cz, hcz⟩ : ∃ cz, cz = scB m mode [node] := ⟨_, rfl⟩
  rw [← hcz]
  have HCZ := hide hcz
  by_cases hc0 : cz = 0
  · subst hc0
    have MB := hide (scB_zero HCZ.out.symm)
    have HFt := hide (fits_of (mdB_iff.1 (mcB_zero MB.out).1).2.2.2.1)
    have HLn := hide (len_of (mdB_iff.1 (mcB_zero MB.out).1).2.2.2.1)
    clear hcz
    have hN := HLn.out
    rw [hlen.out] at hN
    go_wp2_with fail
    clear d0 d1 d2 d3
    go_loopw [9, 10] (fun q i wr => ∃ (k : Nat) (u : Int), k ≤ n3 ∧ i = .int .i64 k ∧ q = .int .i64 u ∧ Hid (u = payL node (modeL mode (m.ss.take k))) ∧ Hid (Below W0.heap.size W0 wr)) (fun _ i _ => n3 - (intOf i).toNat)
    case atStart => exact ⟨0, 0, by omega, rfl, rfl, hide (by simp [payL, modeL]), B1⟩
    case round =>
      obtain ⟨k, u, hk, rfl, rfl, hu, hb2⟩ := hrel
      have F := HF.out.keep hb2.out
      have d3 := F.cell 3
      simp at d3
      clear F
      by_cases hlt : k < n3
      · obtain ⟨b, off, x, rfl, hb, hx, c0, c1, c2, c3, c4, c5, c6, c7⟩ := slt_at (H3.out.below hb2.out) hlt
        have HN := hide (show modeL mode (m.ss.take (k + 1)) = _ by rw [takeR hx, modeL_snoc])
        have fsz := (HFt.out x (List.mem_of_getElem? hx)).1
        have fb := payL_bound node (modeL mode (m.ss.take k)) ((HFt.out.take k).modeL mode)
        have fbl : (modeL mode (m.ss.take k)).length ≤ 120 := Nat.le_trans (modeL_len _ _) (by rw [List.length_take]; omega)
        rw [← hu.out] at fb
        obtain ⟨fb1, fb2⟩ := fb
        have fb3 : u ≤ 4000 := by omega
        clear hx fb2
        cases e : (x.md == mode)
        · have NN := hide (show u = payL node (modeL mode (m.ss.take (k + 1))) by rw [HN.out, e, if_neg (by simp), List.append_nil, hu.out])
          clear HN
          go_wp2
          go_roundw
          case rel => exact ⟨k + 1, u, by omega, by go_num, rfl, NN, hb2⟩
          case measure => simp [intOf]; omega
        · cases e2 : (x.nd == node)
          · have NN := hide (show u = payL node (modeL mode (m.ss.take (k + 1))) by rw [HN.out, e, if_pos rfl, payL_snoc, e2, hu.out]; simp)
            clear HN
            go_wp2
            go_roundw
            case rel => exact ⟨k + 1, u, by omega, by go_num, rfl, NN, hb2⟩
            case measure => simp [intOf]; omega
          · have NN := hide (show u + x.sz = payL node (modeL mode (m.ss.take (k + 1))) by rw [HN.out, e, if_pos rfl, payL_snoc, e2, hu.out]; simp)
            clear HN
            go_wp2
            go_roundw
            case rel => exact ⟨k + 1, u + x.sz, by omega, by go_num, by go_num, NN, hb2⟩
            case measure => simp [intOf]; omega
      · obtain rfl : k = n3 := by omega
        have E := hide (show u = payL node (modeL mode m.ss) by rw [hu.out, ← hlen.out, List.take_length])
        go_wp2
        go_ret2
        exact ⟨ret_pair (by rw [← HCZ.out]; exact E.out) HCZ.out, below_trans BA.out hb2.out⟩
  · have t1 : (cz == 0) = false := by simpa using hc0
    have HT1 := hide t1
    clear hcz hc0
    go_wp2
    go_ret2
    exact ⟨ret_pair (by rw [← HCZ.out, HT1.out]; rfl) HCZ.out, below_trans BA.out B1.out⟩
end Go.Proofs.YtdkhldebnpmiiaaGreatDoor
namespace Go.Proofs.YtdkhldebnpmiiaaGreatDoor
open Go.RowKit
set_option linter.unusedVariables false
set_option linter.unusedSimpArgs false

set_option maxHeartbeats 1600000 in
theorem toModeInfo_any (x : Mod) (w : World) (h : Rd w x.A x.n x.c x.nx) (hn : x.n ≤ 16777216) :
    Calls Tryz.prog 94 #[.agg #[.int .i64 x.rd, .int .i64 x.sl, .slice x.A x.n x.c]] w fun e w' => ∃ g, e = .returned (.agg #[.int .i64 x.rd, .int .i64 x.sl, .slice (some ⟨g, 0, none⟩) x.n x.n]) ∧ Own w' w.heap.size (some ⟨g, 0, none⟩) x.n x.n x.nx ∧ Below w.heap.size w w' := by
  have H := hide h
  clear h
  go_enter Tryz.func94, Tryz.ntmps94
  go_wp2_with fail
  refine (toInt64S_any _ _ _ _ _ (H.out.below (by (repeat (first | exact Below.refl _ _ | (refine Below.alloc ?_ (by simp <;> omega) _) | (refine Below.setCell ?_ (by simp <;> omega) _))))) hn).mono ?_
  rintro e w1 ⟨g, rfl, own1, b1⟩
  have hs : w.heap.size + 3 ≤ w1.heap.size := by have := b1.size; simp at this; omega
  have A3 := (At.fresh2 w (.cells #[.int .i64 x.rd, .int .i64 x.sl, .slice x.A x.n x.c] 105) (.cells #[.int .i64 0, .int .i64 0, .slice none 0 0] 107) 107 #[.int .i64 x.rd, .int .i64 x.sl, .slice none 0 0]).keep b1
  have A2 := ((At.fresh1 w (.cells #[.int .i64 x.rd, .int .i64 x.sl, .slice x.A x.n x.c] 105) 107 #[.int .i64 0, .int .i64 0, .slice none 0 0]).alloc (.cells #[.int .i64 x.rd, .int .i64 x.sl, .slice none 0 0] 107)).keep b1
  have e0 := A3.cell 0
  have e1 := A3.cell 1
  have e2 := A3.cell 2
  have d0 := A2.cell 0
  have d1 := A2.cell 1
  have d2 := A2.cell 2
  have z2 := A3.frozen 2
  have y0 := A2.frozen 0
  have y1 := A2.frozen 1
  have y2 := A2.frozen 2
  simp at e0 e1 e2 d0 d1 d2
  have AA := hide A2
  clear A2 A3
  have O1 := hide own1
  have B1 := hide ((show Below w.heap.size w (((w.alloc (.cells #[.int .i64 x.rd, .int .i64 x.sl, .slice x.A x.n x.c] 105)).alloc (.cells #[.int .i64 0, .int .i64 0, .slice none 0 0] 107)).alloc (.cells #[.int .i64 x.rd, .int .i64 x.sl, .slice none 0 0] 107)) by (repeat (first | exact Below.refl _ _ | (refine Below.alloc ?_ (by simp <;> omega) _) | (refine Below.setCell ?_ (by simp <;> omega) _)))).trans (b1.mono (by simp <;> omega)))
  clear own1 b1
  go_wp2
  have fin := (((AA.out.other (by omega : w.heap.size + 1 ≠ w.heap.size + 1 + 1) 2 (.slice (some ⟨g, 0, none⟩) x.n x.n)).set 0 (.int .i64 x.rd)).set 1 (.int .i64 x.sl)).set 2 (.slice (some ⟨g, 0, none⟩) x.n x.n)
  have hres := fun (tmps : Array Value) (hp : tmps.getD 2 undef = .pointer (some ⟨w.heap.size + 1, 0, none⟩)) => results_Mo (tmps := tmps) Tryz.results94 hp fin
  refine bodyPost_ret (hres _ rfl) rfl ?_
  refine ⟨g, rfl, ?_, ?_⟩
  · exact Own.mono ((((O1.out.setLow (by simp <;> omega) _ _).setLow (by simp <;> omega) _ _).setLow (by simp <;> omega) _ _).setLow (by simp <;> omega) _ _) (by simp <;> omega)
  · exact (((B1.out.setCell (by simp <;> omega) _).setCell (by simp) _).setCell (by simp) _).setCell (by simp) _
theorem blocks_ne {w : World} {B B' : Nat} {e t : TypeId} {k j n m : Nat} {v u : Value} {xs ys : List Value} (h : w.ownsRow B e k v n xs) (o : w.ownsRow B' t j u m ys) (hne : e ≠ t) : v.ownBlock = none ∨ v.ownBlock ≠ u.ownBlock := by
  rcases h.2 with ⟨rfl, _⟩ | ⟨g, cap, cur, rfl, _, hh, _⟩
  · exact .inl rfl
  · right
    rcases o.2 with ⟨rfl, _⟩ | ⟨g', cap', cur', rfl, _, hh', _⟩
    · simp [Value.ownBlock]
    · intro e1
      simp [Value.ownBlock] at e1
      subst e1
      rw [hh] at hh'
      simp at hh'
      exact hne hh'.2
section
variable {w w' : World} {B : Nat} {A : Option Addr} {n c : Nat} {ms : List PMod}
/-- a row of modes of the call's own -/
def OwnMs (w : World) (B : Nat) (A : Option Addr) (n c : Nat) (ms : List PMod) : Prop := ∃ l : List Mod, OwnR 107 Mod.v 3 w B A n c l ∧ (∀ x ∈ l, Own w B x.A x.n x.c x.nx) ∧ l.map Mod.p = ms
theorem OwnMs.rd (h : OwnMs w B A n c ms) : RdMs w A n c ms := by
  obtain ⟨l, h1, h2, h3⟩ := h
  exact ⟨l, h1.rd, fun x hx => (h2 x hx).rd, h3⟩
theorem OwnMs.below (h : OwnMs w B A n c ms) (hb : Below w.heap.size w w') : OwnMs w' B A n c ms := by
  obtain ⟨l, h1, h2, h3⟩ := h
  exact ⟨l, h1.below hb, fun x hx => (h2 x hx).below hb, h3⟩
theorem OwnMs.mono {B' : Nat} (h : OwnMs w B A n c ms) (hB : B' ≤ B) : OwnMs w B' A n c ms := by
  obtain ⟨l, h1, h2, h3⟩ := h
  exact ⟨l, h1.mono hB, fun x hx => (h2 x hx).mono hB, h3⟩
theorem OwnMs.setLow (h : OwnMs w B A n c ms) {b : Nat} (hb : b < B) (j : Nat) (v : Value) : OwnMs (w.setCell ⟨b, j, none⟩ v) B A n c ms := by
  obtain ⟨l, h1, h2, h3⟩ := h
  exact ⟨l, h1.setLow hb j v, fun x hx => (h2 x hx).setLow hb j v, h3⟩
/-- a schedule of the call's own -/
def OwnM (w : World) (B : Nat) (v : Value) (m : Mdl) : Prop := ∃ (A1 : Option Addr) (n1 c1 : Nat) (A2 : Option Addr) (n2 c2 : Nat) (A3 : Option Addr) (n3 c3 : Nat), v = .agg #[.int .i64 m.id, .slice A1 n1 c1, .slice A2 n2 c2, .slice A3 n3 c3] ∧ OwnR 68 Nod.v 4 w B A1 n1 c1 m.ns ∧ OwnMs w B A2 n2 c2 m.ms ∧ OwnR 61 Slt.v 8 w B A3 n3 c3 m.ss
theorem OwnM.rd {v : Value} {m : Mdl} (h : OwnM w B v m) : RdM w v m := by
  obtain ⟨A1, n1, c1, A2, n2, c2, A3, n3, c3, rfl, h1, h2, h3⟩ := h
  exact ⟨A1, n1, c1, A2, n2, c2, A3, n3, c3, rfl, h1.rd, h2.rd, h3.rd⟩
theorem OwnM.below {v : Value} {m : Mdl} (h : OwnM w B v m) (hb : Below w.heap.size w w') : OwnM w' B v m := by
  obtain ⟨A1, n1, c1, A2, n2, c2, A3, n3, c3, rfl, h1, h2, h3⟩ := h
  exact ⟨A1, n1, c1, A2, n2, c2, A3, n3, c3, rfl, h1.below hb, h2.below hb, h3.below hb⟩
theorem OwnM.mono {B' : Nat} {v : Value} {m : Mdl} (h : OwnM w B v m) (hB : B' ≤ B) : OwnM w B' v m := by
  obtain ⟨A1, n1, c1, A2, n2, c2, A3, n3, c3, rfl, h1, h2, h3⟩ := h
  exact ⟨A1, n1, c1, A2, n2, c2, A3, n3, c3, rfl, h1.mono hB, h2.mono hB, h3.mono hB⟩
end
set_option maxHeartbeats 1600000 in
theorem toModeInfoS_any (A : Option Addr) (n c : Nat) (ms : List PMod) (w : World) (h : RdMs w A n c ms) (hn : n ≤ 16777216) (hx : ∀ x ∈ ms, x.nx.length ≤ 16777216) :
    Calls Tryz.prog 62 #[.slice A n c] w fun e w' => ∃ g, e = .returned (.slice (some ⟨g, 0, none⟩) n n) ∧ OwnMs w' w.heap.size (some ⟨g, 0, none⟩) n n ms ∧ Below w.heap.size w w' := by
  have hcap := h.cap
  have hlen := hide h.len
  have HX := hide hx
  have hmk := make_rec Tryz.underlying25 info_mod n (by omega) (by omega)
  clear hx
  go_enter Tryz.func62, Tryz.ntmps62
  go_wp2
  go_loopw [4] (fun i wr => ∃ (k : Nat) (ls : List Mod), k ≤ n ∧ i = .int .i64 k ∧ Hid (ls.length = k ∧ ls.map Mod.p = ms.take k) ∧ OwnR 107 Mod.v 3 wr w.heap.size (some ⟨w.heap.size, 0, none⟩) n n (ls ++ List.replicate (n - k) mod0) ∧ Hid (∀ x ∈ ls, Own wr w.heap.size x.A x.n x.c x.nx) ∧ Below w.heap.size w wr) (fun i _ => n - (intOf i).toNat)
  case atStart => exact ⟨0, [], Nat.zero_le _, rfl, hide ⟨rfl, rfl⟩, OwnR.made Mod.k (by decide) _ mod0 rfl w (Nat.le_refl _) (by omega), hide (fun x hx => by cases hx), (Below.refl _ _).alloc (Nat.le_refl _) _⟩
  case round =>
    obtain ⟨k, ls, hk, rfl, hls, hown, hrows, hbel⟩ := hrel
    by_cases hlt : k < n
    · obtain ⟨b, off, x, rfl, hb, hx, rx, c0, c1, c2⟩ := mod_at (h.below hbel) hlt
      have HO := hide hown
      have HB := hide hbel
      have HQ := hide hx
      have hxn : x.n ≤ 16777216 := by
        have h1 := HX.out _ (List.mem_of_getElem? hx)
        have h2 := rx.len
        have h3 : (Mod.p x).nx = x.nx := rfl
        rw [h3] at h1
        omega
      have RX := hide rx
      clear hown hbel hx hmk rx
      go_wp2_with fail
      refine (toModeInfo_any x wr RX.out hxn).mono ?_
      rintro e w1 ⟨g, rfl, own1, b1⟩
      have O1 := HO.out.below b1
      have B1 := below_trans HB.out b1
      obtain ⟨y, _, ⟨s0, s1, s2⟩, z0, z1, z2⟩ := O1.spotMo hlt
      have PP := O1.putMo hlt ⟨x.rd, x.sl, some ⟨g, 0, none⟩, x.n, x.n, x.nx⟩
      have BB := hide (below_ownR B1 B1.size O1 (Nat.le_refl _) PP.2)
      have P1 := hide PP.1
      have R1 := hide (fun (y : Mod) (hy : y ∈ ls ++ [(⟨x.rd, x.sl, some ⟨g, 0, none⟩, x.n, x.n, x.nx⟩ : Mod)]) => show Own _ w.heap.size y.A y.n y.c y.nx from by
        rcases List.mem_append.1 hy with h1 | h1
        · have h2 := (hrows.out y h1).below b1
          exact h2.keepG PP.2 (blocks_ne h2.1 O1.1 (by decide))
        · simp at h1
          subst h1
          have h2 := own1.mono HB.out.size
          exact h2.keepG PP.2 (blocks_ne h2.1 O1.1 (by decide)))
      clear PP O1 B1 b1 HB HO own1
      go_wp2
      go_roundw
      case rel =>
        have e := P1.out
        rw [fill_step hls.out.1 hlt] at e
        refine ⟨k + 1, _, by omega, by go_num, hide ⟨by rw [List.length_append, hls.out.1]; rfl, ?_⟩, e, R1, BB.out⟩
        rw [take_one HQ.out, List.map_append, hls.out.2]
        rfl
      case measure => simp [intOf]; omega
    · obtain rfl : k = n := by omega
      rw [Nat.sub_self, List.replicate_zero, List.append_nil] at hown
      have e := hls.out.2
      rw [List.take_of_length_le (by rw [hlen.out]; exact Nat.le_refl _)] at e
      have E := hide e
      clear e
      go_wp2
      go_ret
      exact ⟨_, rfl, ⟨ls, hown, hrows.out, E.out⟩, hbel⟩
set_option maxHeartbeats 3200000 in
theorem toMedl_any (v : Value) (m : Mdl) (w : World) (h : RdM w v m) (hs : SmlM m) :
    Calls Tryz.prog 20 #[v] w fun e w' => ∃ v', e = .returned v' ∧ OwnM w' w.heap.size v' m ∧ Below w.heap.size w w' := by
  obtain ⟨A1, n1, c1, A2, n2, c2, A3, n3, c3, rfl, h1, h2, h3⟩ := h
  have hl1 := h1.len
  have hl2 := h2.len
  have hl3 := h3.len
  have q1 : n1 ≤ 16777216 := by have := hs.ns; omega
  have q2 : n2 ≤ 16777216 := by have := hs.ms; omega
  have q3 : n3 ≤ 16777216 := by have := hs.ss; omega
  have q4 := hide (fun x (hx : x ∈ m.ms) => show x.nx.length ≤ 16777216 by have := hs.nx x hx; omega)
  have H1 := hide h1
  have H2 := hide h2
  have H3 := hide h3
  clear h1 h2 h3 hl1 hl2 hl3 hs
  go_enter Tryz.func20, Tryz.ntmps20
  go_wp2_with fail
  have B0 : Below w.heap.size w (((w.alloc (.cells #[.int .i64 m.id, .slice A1 n1 c1, .slice A2 n2 c2, .slice A3 n3 c3] 38)).alloc (.cells #[.int .i64 0, .slice none 0 0, .slice none 0 0, .slice none 0 0] 28)).alloc (.cells #[.int .i64 m.id, .slice none 0 0, .slice none 0 0, .slice none 0 0] 28)) := by (repeat (first | exact Below.refl _ _ | (refine Below.alloc ?_ (by simp <;> omega) _) | (refine Below.setCell ?_ (by simp <;> omega) _)))
  refine (toNodeInfoS_any _ _ _ _ _ (H1.out.below B0) q1).mono ?_
  rintro e w1 ⟨g1, rfl, own1, b1⟩
  have S1 : w.heap.size + 3 ≤ w1.heap.size := by have := b1.size; simp at this; omega
  have F3 := (At.fresh2 w (.cells #[.int .i64 m.id, .slice A1 n1 c1, .slice A2 n2 c2, .slice A3 n3 c3] 38) (.cells #[.int .i64 0, .slice none 0 0, .slice none 0 0, .slice none 0 0] 28) 28 #[.int .i64 m.id, .slice none 0 0, .slice none 0 0, .slice none 0 0]).keep b1
  have F2 := ((At.fresh1 w (.cells #[.int .i64 m.id, .slice A1 n1 c1, .slice A2 n2 c2, .slice A3 n3 c3] 38) 28 #[.int .i64 0, .slice none 0 0, .slice none 0 0, .slice none 0 0]).alloc (.cells #[.int .i64 m.id, .slice none 0 0, .slice none 0 0, .slice none 0 0] 28)).keep b1
  have F1 := (((At.fresh w 38 #[.int .i64 m.id, .slice A1 n1 c1, .slice A2 n2 c2, .slice A3 n3 c3]).alloc (.cells #[.int .i64 0, .slice none 0 0, .slice none 0 0, .slice none 0 0] 28)).alloc (.cells #[.int .i64 m.id, .slice none 0 0, .slice none 0 0, .slice none 0 0] 28)).keep b1
  have B1 := B0.trans (b1.mono (by simp <;> omega))
  obtain ⟨x1, hx1⟩ : ∃ x, x = w1.setCell ⟨w.heap.size + 1 + 1, 1, none⟩ (.slice (some ⟨g1, 0, none⟩) n1 n1) := ⟨_, rfl⟩
  have G3 : At x1 (w.heap.size + 1 + 1) 28 #[.int .i64 m.id, .slice (some ⟨g1, 0, none⟩) n1 n1, .slice none 0 0, .slice none 0 0] := by rw [hx1]; exact F3.set 1 _
  have G2 : At x1 (w.heap.size + 1) 28 #[.int .i64 0, .slice none 0 0, .slice none 0 0, .slice none 0 0] := by rw [hx1]; exact F2.other (by omega) _ _
  have G1 : At x1 w.heap.size 38 #[.int .i64 m.id, .slice A1 n1 c1, .slice A2 n2 c2, .slice A3 n3 c3] := by rw [hx1]; exact F1.other (by omega) _ _
  have C1 : Below w.heap.size w x1 := by rw [hx1]; exact B1.setCell (by simp <;> omega) _
  have P1 : OwnR 68 Nod.v 4 x1 (w.heap.size + 3) (some ⟨g1, 0, none⟩) n1 n1 m.ns := by
    rw [hx1]
    exact (own1.mono (by simp <;> omega)).setLow (by omega) _ _
  have e3 := F3.cell 1
  have z3 := F3.frozen 1
  have e1 := F1.cell 2
  simp at e3 e1
  have k1 := hide G1
  have k2 := hide G2
  have k3 := hide G3
  have k4 := hide C1
  have k5 := hide P1
  have k6 := hide hx1
  clear F3 F2 F1 B1 G3 G2 G1 C1 P1 b1 own1 hx1 B0
  go_wp2_with fail
  rw [← k6.out]
  have S2 : w.heap.size + 3 ≤ x1.heap.size := by have := k6.out; rw [this]; simpa using S1
  refine (toModeInfoS_any _ _ _ _ x1 (H2.out.below k4.out) q2 q4.out).mono ?_
  rintro e w2 ⟨g2, rfl, own2, b2⟩
  have S3 := Nat.le_trans S2 b2.size
  have F3 := k3.out.keep b2
  have F2 := k2.out.keep b2
  have F1 := k1.out.keep b2
  have B1 := k4.out.trans (b2.mono (by omega))
  obtain ⟨x2, hx2⟩ : ∃ x, x = w2.setCell ⟨w.heap.size + 1 + 1, 2, none⟩ (.slice (some ⟨g2, 0, none⟩) n2 n2) := ⟨_, rfl⟩
  have G3 : At x2 (w.heap.size + 1 + 1) 28 #[.int .i64 m.id, .slice (some ⟨g1, 0, none⟩) n1 n1, .slice (some ⟨g2, 0, none⟩) n2 n2, .slice none 0 0] := by rw [hx2]; exact F3.set 2 _
  have G2 : At x2 (w.heap.size + 1) 28 #[.int .i64 0, .slice none 0 0, .slice none 0 0, .slice none 0 0] := by rw [hx2]; exact F2.other (by omega) _ _
  have G1 : At x2 w.heap.size 38 #[.int .i64 m.id, .slice A1 n1 c1, .slice A2 n2 c2, .slice A3 n3 c3] := by rw [hx2]; exact F1.other (by omega) _ _
  have C1 : Below w.heap.size w x2 := by rw [hx2]; exact B1.setCell (by simp <;> omega) _
  have P1 : OwnR 68 Nod.v 4 x2 (w.heap.size + 3) (some ⟨g1, 0, none⟩) n1 n1 m.ns := by
    rw [hx2]
    exact (k5.out.below b2).setLow (by omega) _ _
  have P2 : OwnMs x2 (w.heap.size + 3) (some ⟨g2, 0, none⟩) n2 n2 m.ms := by
    rw [hx2]
    exact (own2.mono S2).setLow (by omega) _ _
  have e5 := F3.cell 2
  have z5 := F3.frozen 2
  have e6 := F1.cell 3
  simp at e5 e6
  have j1 := hide G1
  have j2 := hide G2
  have j3 := hide G3
  have j4 := hide C1
  have j5 := hide P1
  have j6 := hide hx2
  have j7 := hide P2
  clear F3 F2 F1 B1 G3 G2 G1 C1 P1 P2 b2 own2 hx2 k1 k2 k3 k4 k5 k6 e3 z3 e1
  go_wp2_with fail
  rw [← j6.out]
  have S4 : w.heap.size + 3 ≤ x2.heap.size := by have := j6.out; rw [this]; simpa using S3
  refine (toSlotInfoS_any _ _ _ _ x2 (H3.out.below j4.out) q3).mono ?_
  rintro e w3 ⟨g3, rfl, own3, b3⟩
  have S5 := Nat.le_trans S4 b3.size
  have F3 := j3.out.keep b3
  have F2 := j2.out.keep b3
  have B1 := j4.out.trans (b3.mono (by omega))
  obtain ⟨x3, hx3⟩ : ∃ x, x = w3.setCell ⟨w.heap.size + 1 + 1, 3, none⟩ (.slice (some ⟨g3, 0, none⟩) n3 n3) := ⟨_, rfl⟩
  have G3 : At x3 (w.heap.size + 1 + 1) 28 #[.int .i64 m.id, .slice (some ⟨g1, 0, none⟩) n1 n1, .slice (some ⟨g2, 0, none⟩) n2 n2, .slice (some ⟨g3, 0, none⟩) n3 n3] := by rw [hx3]; exact F3.set 3 _
  have G2 : At x3 (w.heap.size + 1) 28 #[.int .i64 0, .slice none 0 0, .slice none 0 0, .slice none 0 0] := by rw [hx3]; exact F2.other (by omega) _ _
  have C1 : Below w.heap.size w x3 := by rw [hx3]; exact B1.setCell (by simp <;> omega) _
  have P1 : OwnR 68 Nod.v 4 x3 (w.heap.size + 3) (some ⟨g1, 0, none⟩) n1 n1 m.ns := by
    rw [hx3]
    exact (j5.out.below b3).setLow (by omega) _ _
  have P2 : OwnMs x3 (w.heap.size + 3) (some ⟨g2, 0, none⟩) n2 n2 m.ms := by
    rw [hx3]
    exact (j7.out.below b3).setLow (by omega) _ _
  have P3 : OwnR 61 Slt.v 8 x3 (w.heap.size + 3) (some ⟨g3, 0, none⟩) n3 n3 m.ss := by
    rw [hx3]
    exact (own3.mono S4).setLow (by omega) _ _
  have e7 := F3.cell 3
  have z7 := F3.frozen 3
  have d0 := F3.cell 0
  have d1 := F3.cell 1
  have d2 := F3.cell 2
  have c0 := F2.cell 0
  have c1' := F2.cell 1
  have c2' := F2.cell 2
  have c3' := F2.cell 3
  have y0 := F2.frozen 0
  have y1 := F2.frozen 1
  have y2 := F2.frozen 2
  have y3 := F2.frozen 3
  simp at e7 d0 d1 d2 c0 c1' c2' c3'
  have i2 := hide G2
  have i3 := hide G3
  have i4 := hide C1
  have i5 := hide P1
  have i6 := hide hx3
  have i7 := hide P2
  have i8 := hide P3
  clear F3 F2 B1 G3 G2 C1 P1 P2 P3 b3 own3 hx3 j1 j2 j3 j4 j5 j6 j7 e5 z5 e6
  go_wp2
  rw [← i6.out]
  have fin := (((i2.out.set 0 (.int .i64 m.id)).set 1 (.slice (some ⟨g1, 0, none⟩) n1 n1)).set 2 (.slice (some ⟨g2, 0, none⟩) n2 n2)).set 3 (.slice (some ⟨g3, 0, none⟩) n3 n3)
  have hres := fun (tmps : Array Value) (hp : tmps.getD 2 undef = .pointer (some ⟨w.heap.size + 1, 0, none⟩)) => results_M (tmps := tmps) Tryz.results20 hp fin
  refine bodyPost_ret (hres _ rfl) rfl ?_
  refine ⟨_, rfl, ⟨_, _, _, _, _, _, _, _, _, rfl, ?_, ?_, ?_⟩, ?_⟩
  · exact OwnR.mono ((((i5.out.setLow (by omega) _ _).setLow (by omega) _ _).setLow (by omega) _ _).setLow (by omega) _ _) (by omega)
  · exact OwnMs.mono ((((i7.out.setLow (by omega) _ _).setLow (by omega) _ _).setLow (by omega) _ _).setLow (by omega) _ _) (by omega)
  · exact OwnR.mono ((((i8.out.setLow (by omega) _ _).setLow (by omega) _ _).setLow (by omega) _ _).setLow (by omega) _ _) (by omega)
  · exact (((i4.out.setCell (by simp <;> omega) _).setCell (by simp) _).setCell (by simp) _).setCell (by simp) _
end Go.Proofs.YtdkhldebnpmiiaaGreatDoor
namespace Go.Proofs.YtdkhldebnpmiiaaGreatDoor
open Go.RowKit
set_option linter.unusedVariables false
set_option linter.unusedSimpArgs false

theorem neqI (x : Int) : (x != x) = false := by simp
theorem neqB (x : Bool) : (x != x) = false := by simp
theorem not_true : (!true) = false := rfl
def TrueOut (w : World) (e : Ending) (w' : World) : Prop := e = .returned (.bool true) ∧ Below w.heap.size w w'
set_option maxHeartbeats 1600000 in
theorem eqNodeInfo_same (x : Nod) (w : World) : Calls Tryz.prog 96 #[.agg #[.int .i64 x.id, .string x.nm, .int .i64 x.dr, .bool x.pas], .agg #[.int .i64 x.id, .string x.nm, .int .i64 x.dr, .bool x.pas]] w (TrueOut w) := by
  go_enter Tryz.func96, Tryz.ntmps96
  go_wp2
  go_ret
  exact ⟨rfl, by (repeat (first | exact Below.refl _ _ | (refine Below.alloc ?_ (by simp <;> omega) _) | (refine Below.setCell ?_ (by simp <;> omega) _)))⟩
set_option maxHeartbeats 1600000 in
theorem eqDescriptor_same (x : Slt) (w : World) : Calls Tryz.prog 119 #[.agg #[.int .i64 x.nd, .int .i64 x.kd, .int .i64 x.sz, .int .i64 x.du, .bool x.ch], .agg #[.int .i64 x.nd, .int .i64 x.kd, .int .i64 x.sz, .int .i64 x.du, .bool x.ch]] w (TrueOut w) := by
  go_enter Tryz.func119, Tryz.ntmps119
  go_wp2
  go_ret
  exact ⟨rfl, by (repeat (first | exact Below.refl _ _ | (refine Below.alloc ?_ (by simp <;> omega) _) | (refine Below.setCell ?_ (by simp <;> omega) _)))⟩
set_option maxHeartbeats 1600000 in
theorem eqSlotInfo_same (x : Slt) (w : World) : Calls Tryz.prog 98 #[.agg #[.int .i64 x.md, .int .i64 x.rd, .int .i64 x.sl, .int .i64 x.nd, .int .i64 x.kd, .int .i64 x.sz, .int .i64 x.du, .bool x.ch], .agg #[.int .i64 x.md, .int .i64 x.rd, .int .i64 x.sl, .int .i64 x.nd, .int .i64 x.kd, .int .i64 x.sz, .int .i64 x.du, .bool x.ch]] w (TrueOut w) := by
  have B0 : Below w.heap.size w ((w.alloc (.cells #[.int .i64 x.md, .int .i64 x.rd, .int .i64 x.sl, .int .i64 x.nd, .int .i64 x.kd, .int .i64 x.sz, .int .i64 x.du, .bool x.ch] 61)).alloc (.cells #[.int .i64 x.md, .int .i64 x.rd, .int .i64 x.sl, .int .i64 x.nd, .int .i64 x.kd, .int .i64 x.sz, .int .i64 x.du, .bool x.ch] 61)) := by (repeat (first | exact Below.refl _ _ | (refine Below.alloc ?_ (by simp <;> omega) _) | (refine Below.setCell ?_ (by simp <;> omega) _)))
  go_enter Tryz.func98, Tryz.ntmps98
  go_wp2_with fail
  refine (eqDescriptor_same x _).mono ?_
  rintro e w1 ⟨rfl, b1⟩
  go_wp2
  go_ret
  exact ⟨rfl, B0.trans (b1.mono (by simp <;> omega))⟩
set_option maxHeartbeats 1600000 in
theorem eqModeInfo_same (x y : Mod) (w : World) (hp : Mod.p x = Mod.p y) (hx : Rd w x.A x.n x.c x.nx) (hy : Rd w y.A y.n y.c y.nx) : Calls Tryz.prog 97 #[.agg #[.int .i64 x.rd, .int .i64 x.sl, .slice x.A x.n x.c], .agg #[.int .i64 y.rd, .int .i64 y.sl, .slice y.A y.n y.c]] w (TrueOut w) := by
  have B0 : Below w.heap.size w ((w.alloc (.cells #[.int .i64 x.rd, .int .i64 x.sl, .slice x.A x.n x.c] 107)).alloc (.cells #[.int .i64 y.rd, .int .i64 y.sl, .slice y.A y.n y.c] 107)) := by (repeat (first | exact Below.refl _ _ | (refine Below.alloc ?_ (by simp <;> omega) _) | (refine Below.setCell ?_ (by simp <;> omega) _)))
  obtain ⟨a, b, A, n, c, nx⟩ := x
  obtain ⟨a', b', A', n', c', nx'⟩ := y
  simp only [Mod.p, PMod.mk.injEq] at hp
  obtain ⟨rfl, rfl, rfl⟩ := hp
  have HX := hide (hx.below B0)
  have HY := hide (hy.below B0)
  have e1 := eqB_self nx
  clear hx hy
  go_enter Tryz.func97, Tryz.ntmps97
  go_wp2_with fail
  refine (eqInt64S_b _ _ _ _ _ _ nx nx _ HX.out HY.out).mono ?_
  rintro e w1 ⟨rfl, b1⟩
  rw [e1]
  go_wp2
  go_ret
  exact ⟨rfl, B0.trans (b1.mono (by simp <;> omega))⟩
theorem below_drewR {w0 w w' : World} {k : Nat} (h : Below w.heap.size (w.drewN k) w') (hb : w0.heap.size ≤ w.heap.size) : Below w0.heap.size w w' := (⟨h.os, h.tape, h.output, h.size, h.block⟩ : Below w.heap.size w w').mono hb
set_option maxHeartbeats 3200000 in
theorem eqNodeInfoS_same (A A' : Option Addr) (n c n' c' : Nat) (l : List Nod) (w : World) (h : RdR Nod.v 4 w A n c l) (h' : RdR Nod.v 4 w A' n' c' l) : Calls Tryz.prog 64 #[.slice A n c, .slice A' n' c'] w (TrueOut w) := by
  have hcap := h.cap
  have hcap' := h'.cap
  obtain rfl : n = n' := by have := h.len; have := h'.len; omega
  have t0 := neqI (n : Int)
  go_enter Tryz.func64, Tryz.ntmps64
  go_wp2
  go_loopw [5] (fun i wr => ∃ k : Nat, k ≤ n ∧ i = .int .i64 k ∧ Hid (Below w.heap.size w wr)) (fun i _ => n - (intOf i).toNat)
  case atStart => exact ⟨0, by omega, rfl, hide (Below.refl _ _)⟩
  case round =>
    obtain ⟨k, hk, rfl, hbel⟩ := hrel
    by_cases hlt : k < n
    · obtain ⟨b, off, x, rfl, hb, hx, c0, c1, c2, c3⟩ := nod_at (h.below hbel.out) hlt
      obtain ⟨b', off', y, rfl, hb', hy, d0, d1, d2, d3⟩ := nod_at (h'.below hbel.out) hlt
      obtain rfl := Option.some.inj (hx.symm.trans hy)
      clear hx hy
      go_wp2_with fail
      go_region_with (go_at_call 96; (with_reducible refine (eqNodeInfo_same x _).mono ?_); rintro e w1 ⟨rfl, b1⟩)
      all_goals
        have BB := hide (hbel.out.trans (below_drewR b1 hbel.out.size))
        clear b1
        go_wp2
        go_roundw
        case rel => exact ⟨k + 1, by omega, by go_num, BB⟩
        case measure => simp [intOf]; omega
    · obtain rfl : k = n := by omega
      go_wp2
      go_ret
      exact ⟨rfl, hbel.out⟩
set_option maxHeartbeats 3200000 in
theorem eqSlotInfoS_same (A A' : Option Addr) (n c n' c' : Nat) (l : List Slt) (w : World) (h : RdR Slt.v 8 w A n c l) (h' : RdR Slt.v 8 w A' n' c' l) : Calls Tryz.prog 66 #[.slice A n c, .slice A' n' c'] w (TrueOut w) := by
  have hcap := h.cap
  have hcap' := h'.cap
  obtain rfl : n = n' := by have := h.len; have := h'.len; omega
  have t0 := neqI (n : Int)
  go_enter Tryz.func66, Tryz.ntmps66
  go_wp2
  go_loopw [5] (fun i wr => ∃ k : Nat, k ≤ n ∧ i = .int .i64 k ∧ Hid (Below w.heap.size w wr)) (fun i _ => n - (intOf i).toNat)
  case atStart => exact ⟨0, by omega, rfl, hide (Below.refl _ _)⟩
  case round =>
    obtain ⟨k, hk, rfl, hbel⟩ := hrel
    by_cases hlt : k < n
    · obtain ⟨b, off, x, rfl, hb, hx, c0, c1, c2, c3, c4, c5, c6, c7⟩ := slt_at (h.below hbel.out) hlt
      obtain ⟨b', off', y, rfl, hb', hy, d0, d1, d2, d3, d4, d5, d6, d7⟩ := slt_at (h'.below hbel.out) hlt
      obtain rfl := Option.some.inj (hx.symm.trans hy)
      clear hx hy
      go_wp2_with fail
      go_region_with (go_at_call 98; (with_reducible refine (eqSlotInfo_same x _).mono ?_); rintro e w1 ⟨rfl, b1⟩)
      all_goals
        have BB := hide (hbel.out.trans (below_drewR b1 hbel.out.size))
        clear b1
        go_wp2
        go_roundw
        case rel => exact ⟨k + 1, by omega, by go_num, BB⟩
        case measure => simp [intOf]; omega
    · obtain rfl : k = n := by omega
      go_wp2
      go_ret
      exact ⟨rfl, hbel.out⟩
set_option maxHeartbeats 3200000 in
theorem eqModeInfoS_same (A A' : Option Addr) (n c n' c' : Nat) (l : List PMod) (w : World) (h : RdMs w A n c l) (h' : RdMs w A' n' c' l) : Calls Tryz.prog 65 #[.slice A n c, .slice A' n' c'] w (TrueOut w) := by
  have hcap := h.cap
  have hcap' := h'.cap
  obtain rfl : n = n' := by have := h.len; have := h'.len; omega
  have t0 := neqI (n : Int)
  go_enter Tryz.func65, Tryz.ntmps65
  go_wp2
  go_loopw [5] (fun i wr => ∃ k : Nat, k ≤ n ∧ i = .int .i64 k ∧ Hid (Below w.heap.size w wr)) (fun i _ => n - (intOf i).toNat)
  case atStart => exact ⟨0, by omega, rfl, hide (Below.refl _ _)⟩
  case round =>
    obtain ⟨k, hk, rfl, hbel⟩ := hrel
    by_cases hlt : k < n
    · obtain ⟨b, off, x, rfl, hb, hx, rx, c0, c1, c2⟩ := mod_at (h.below hbel.out) hlt
      obtain ⟨b', off', y, rfl, hb', hy, ry, d0, d1, d2⟩ := mod_at (h'.below hbel.out) hlt
      have hp := hide (Option.some.inj (hx.symm.trans hy))
      have RX := hide rx
      have RY := hide ry
      clear hx hy rx ry
      go_wp2_with fail
      go_region_with (go_at_call 97; (with_reducible refine (eqModeInfo_same x y _ hp.out RX.out.drew RY.out.drew).mono ?_); rintro e w1 ⟨rfl, b1⟩)
      all_goals
        have BB := hide (hbel.out.trans (below_drewR b1 hbel.out.size))
        clear b1
        go_wp2
        go_roundw
        case rel => exact ⟨k + 1, by omega, by go_num, BB⟩
        case measure => simp [intOf]; omega
    · obtain rfl : k = n := by omega
      go_wp2
      go_ret
      exact ⟨rfl, hbel.out⟩
set_option maxHeartbeats 3200000 in
theorem eqMedl_same (v v' : Value) (m : Mdl) (w : World) (h : RdM w v m) (h' : RdM w v' m) : Calls Tryz.prog 23 #[v, v'] w (TrueOut w) := by
  obtain ⟨A1, n1, c1, A2, n2, c2, A3, n3, c3, rfl, h1, h2, h3⟩ := h
  obtain ⟨D1, m1, d1, D2, m2, d2, D3, m3, d3, rfl, k1, k2, k3⟩ := h'
  obtain ⟨W1, hW1⟩ : ∃ x, x = (w.alloc (.cells #[.int .i64 m.id, .slice A1 n1 c1, .slice A2 n2 c2, .slice A3 n3 c3] 28)).alloc (.cells #[.int .i64 m.id, .slice D1 m1 d1, .slice D2 m2 d2, .slice D3 m3 d3] 28) := ⟨_, rfl⟩
  have B0 : Below w.heap.size w W1 := by rw [hW1]; (repeat (first | exact Below.refl _ _ | (refine Below.alloc ?_ (by simp <;> omega) _) | (refine Below.setCell ?_ (by simp <;> omega) _)))
  have F1 : At W1 w.heap.size 28 #[.int .i64 m.id, .slice A1 n1 c1, .slice A2 n2 c2, .slice A3 n3 c3] := by rw [hW1]; exact (At.fresh w _ _).alloc _
  have F2 : At W1 (w.heap.size + 1) 28 #[.int .i64 m.id, .slice D1 m1 d1, .slice D2 m2 d2, .slice D3 m3 d3] := by rw [hW1]; exact At.fresh1 w _ _ _
  have H1 := hide h1
  have H2 := hide h2
  have H3 := hide h3
  have K1 := hide k1
  have K2 := hide k2
  have K3 := hide k3
  have HW := hide hW1
  clear h1 h2 h3 k1 k2 k3 hW1
  go_enter Tryz.func23, Tryz.ntmps23
  go_wp2_with fail
  rw [← HW.out]
  refine (eqNodeInfoS_same _ _ _ _ _ _ m.ns _ (H1.out.below B0) (K1.out.below B0)).mono ?_
  rintro e w1 ⟨rfl, b1⟩
  have B1 := hide (below_trans B0 b1)
  have G1 := F1.keep b1
  have G2 := F2.keep b1
  have e1 := G1.cell 2
  have e2 := G2.cell 2
  simp at e1 e2
  clear B0 F1 F2 b1
  go_wp2_with fail
  refine (eqModeInfoS_same _ _ _ _ _ _ m.ms _ (H2.out.below B1.out) (K2.out.below B1.out)).mono ?_
  rintro e w2 ⟨rfl, b2⟩
  have B2 := hide (below_trans B1.out b2)
  have F1 := G1.keep b2
  have F2 := G2.keep b2
  have e3 := F1.cell 3
  have e4 := F2.cell 3
  simp at e3 e4
  clear B1 G1 G2 b2 e1 e2
  go_wp2_with fail
  refine (eqSlotInfoS_same _ _ _ _ _ _ m.ss _ (H3.out.below B2.out) (K3.out.below B2.out)).mono ?_
  rintro e w3 ⟨rfl, b3⟩
  have B3 := hide (below_trans B2.out b3)
  clear B2 F1 F2 b3 e3 e4
  go_wp2
  go_ret
  exact ⟨rfl, B3.out⟩
end Go.Proofs.YtdkhldebnpmiiaaGreatDoor
