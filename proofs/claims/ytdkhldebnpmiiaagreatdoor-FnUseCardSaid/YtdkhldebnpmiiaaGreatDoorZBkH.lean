/- Contracts: the bytes that a node sends in a cycle, by the program and by the reference. The laws' own copies of modes and of whole schedules. The laws' own comparison of two schedules that read alike. -/
import Derived.Test.YtdkhldebnpmiiaaGreatDoorZKnown2
import Derived.Test.YtdkhldebnpmiiaaGreatDoorZBkB
import Derived.Test.YtdkhldebnpmiiaaGreatDoorZBkA
import Derived.Deep.RegionWith
namespace Go.Proofs.YtdkhldebnpmiiaaGreatDoor
open Go.RowKit
set_option linter.unusedVariables false
set_option linter.unusedSimpArgs false
theorem scB_zero {m : Mdl} {mode : Int} {zs : List Int} (h : scB m mode zs = 0) : mcB m mode = 0 := by
  rw [scB] at h
  cases h1 : (ncB m mode zs == 0)
  · rw [h1] at h
    have : ncB m mode zs = 0 := h
    rw [this] at h1
    cases h1
  · exact (ncB_zero (by simpa using h1)).1
theorem scB_act {m : Mdl} {mode : Int} {zs : List Int} (h : scB m mode zs = 0) : zs.all (hasN m.ns) = true ∧ zs.all (actB m.ns) = true := by
  rw [scB] at h
  cases h1 : (ncB m mode zs == 0)
  · rw [h1] at h
    have : ncB m mode zs = 0 := h
    rw [this] at h1
    cases h1
  · rw [h1] at h
    refine ⟨(ncB_zero (by simpa using h1)).2, ?_⟩
    cases h2 : zs.all (actB m.ns)
    · rw [h2] at h; cases h
    · rfl
/-- the bytes of a node's frames -/
def payL (node : Int) (l : List Slt) : Int := ((l.filter (fun x => x.nd == node)).map (·.sz)).sum
theorem payL_snoc (node : Int) (l : List Slt) (x : Slt) : payL node (l ++ [x]) = payL node l + (if x.nd == node then x.sz else 0) := by
  rw [payL, List.filter_append, List.map_append]
  cases h : (x.nd == node) <;> simp [payL, h]
theorem payL_bound (node : Int) (l : List Slt) : Fits l → 0 ≤ payL node l ∧ payL node l ≤ 32 * l.length := by
  refine snoc_ind (P := fun l => Fits l → 0 ≤ payL node l ∧ payL node l ≤ 32 * l.length) ?_ ?_ l
  · intro _
    show (0 : Int) ≤ 0 ∧ (0 : Int) ≤ 32 * ((0 : Nat) : Int)
    omega
  · intro l x ih h
    have h1 := ih (fun y hy => h y (by simp [hy]))
    have h2 := h x (by simp)
    rw [payL_snoc, List.length_append]
    show 0 ≤ payL node l + (if x.nd == node then x.sz else 0) ∧ payL node l + (if x.nd == node then x.sz else 0) ≤ 32 * ((l.length + 1 : Nat) : Int)
    split <;> omega
set_option maxHeartbeats 6400000 in
theorem iPayloadOf_any (v : Value) (m : Mdl) (mode node : Int) (w : World) (h : RdM w v m) (hnode : I64 [node]) :
    Calls Tryz.prog 40 #[v, .int .i64 mode, .int .i64 node] w (TwoOut (bif scB m mode [node] == 0 then payL node (modeL mode m.ss) else 0) (scB m mode [node]) w) := by
  have HM := hide h
  obtain ⟨A1, n1, c1, A2, n2, c2, A3, n3, q3, rfl, h1, h2, h3⟩ := h
  have hlen2 := hide h2.len
  have hlen := hide h3.len
  have hcap2 := h2.cap
  have hcap := h3.cap
  obtain ⟨W0, hW0⟩ : ∃ W0, W0 = w.alloc (.cells #[.int .i64 m.id, .slice A1 n1 c1, .slice A2 n2 c2, .slice A3 n3 q3] 28) := ⟨_, rfl⟩
  have F0 : At W0 w.heap.size 28 #[.int .i64 m.id, .slice A1 n1 c1, .slice A2 n2 c2, .slice A3 n3 q3] := by rw [hW0]; exact At.fresh _ _ _
  have BA := hide (show Below w.heap.size w W0 by rw [hW0]; exact (Below.refl _ _).alloc (Nat.le_refl _) _)
  have B0 := hide (Below.refl W0.heap.size W0)
  have H1 := hide (h1.below BA.out)
  have H2 := hide (h2.below BA.out)
  have H3 := hide (h3.below BA.out)
  have HM0 := hide (HM.out.below BA.out)
  have HF := hide F0
  have d0 := F0.cell 0
  have d1 := F0.cell 1
  have d2 := F0.cell 2
  have d3 := F0.cell 3
  simp at d0 d1 d2 d3
  have HW := hide hW0
  clear hW0 F0 h1 h2 h3 HM
  obtain ⟨WL, hWL⟩ : ∃ WL, WL = W0.alloc (.cells #[.int .i64 node] 2) := ⟨_, rfl⟩
  have OL := hide (show Rd WL (some ⟨W0.heap.size, 0, none⟩) 1 1 [node] by rw [hWL]; exact (Own.lit W0 (Nat.le_refl _) #[.int .i64 node] [node] rfl hnode 1 rfl (by omega)).rd)
  have BL := hide (show Below W0.heap.size W0 WL by rw [hWL]; exact (Below.refl _ _).alloc (Nat.le_refl _) _)
  rw [show W0.heap.size = w.heap.size + 1 by rw [HW.out]; simp] at OL
  have HWL := hide hWL
  have HML := hide (HM0.out.below BL.out)
  clear hWL
  go_enter Tryz.func40, Tryz.ntmps40
  go_wp2_with fail
  rw [← HW.out, ← HWL.out]
  go_at_call 49
  (with_reducible refine (sendersCode_any _ m mode _ _ _ [node] _ HML.out OL.out).mono ?_)
  rintro ee w1 ⟨rfl, b1⟩
  clear d0 d1 d2 d3
  have B1 := hide (below_trans BL.out b1)
  have F := HF.out.keep B1.out
  have d0 := F.cell 0
  have d1 := F.cell 1
  have d2 := F.cell 2
  have d3 := F.cell 3
  simp at d0 d1 d2 d3
  clear F b1
  obtain ⟨cz, hcz⟩ : ∃ cz, cz = scB m mode [node] := ⟨_, rfl⟩
  rw [← hcz]
  have HCZ := hide hcz
  by_cases hc0 : cz = 0
  · subst hc0
    have MB := hide (scB_zero HCZ.out.symm)
    have HFt := hide (fits_of (mdB_iff.1 (mcB_zero MB.out).1).2.2.2.1)
    have HLn := hide (len_of (mdB_iff.1 (mcB_zero MB.out).1).2.2.2.1)
    clear hcz
    go_wp2_with fail
    go_at_call 75
    (with_reducible refine (modeSlots_any _ m mode _ (HM0.out.below B1.out) HLn.out).mono ?_)
    rintro ee w2 ⟨A', c', rfl, own, b1⟩
    have B2 := hide (below_trans B1.out b1)
    have HO := hide own.rd
    have hL := hide own.len
    obtain ⟨L, hLe⟩ : ∃ L, L = modeL mode m.ss := ⟨_, rfl⟩
    have HLe := hide hLe
    have HFL := hide (show Fits L by rw [hLe]; exact HFt.out.modeL mode)
    have hN : L.length ≤ 120 := by rw [hLe]; exact Nat.le_trans (modeL_len _ _) HLn.out
    rw [← hLe] at HO hL
    rw [← hLe]
    obtain ⟨N, hNe⟩ : ∃ N, N = L.length := ⟨_, rfl⟩
    rw [← hNe] at HO hL hN
    rw [← hNe]
    have HNe := hide hNe
    clear b1 own hLe hNe d0 d1 d2 d3
    go_wp2_with fail
    go_loopw [9, 24] (fun q i wr => ∃ (k : Nat) (u : Int), k ≤ N ∧ i = .int .i64 k ∧ q = .int .i64 u ∧ Hid (u = payL node (L.take k)) ∧ Hid (Below w2.heap.size w2 wr)) (fun _ i _ => N - (intOf i).toNat)
    case atStart => exact ⟨0, 0, by omega, rfl, rfl, hide (by simp [payL]), hide (Below.refl _ _)⟩
    case round =>
      obtain ⟨k, u, hk, rfl, rfl, hu, hb2⟩ := hrel
      by_cases hlt : k < N
      · obtain ⟨b, off, x, rfl, hb, hx, c0, c1, c2, c3, c4, c5, c6, c7⟩ := slt_at (HO.out.below hb2.out) hlt
        have HN := hide (show payL node (L.take (k + 1)) = _ by rw [takeR hx, payL_snoc])
        have fsz := (HFL.out x (List.mem_of_getElem? hx)).1
        have fb := payL_bound node (L.take k) (HFL.out.take k)
        have fbl : (L.take k).length ≤ 120 := by rw [List.length_take]; omega
        rw [← hu.out] at fb
        obtain ⟨fb1, fb2⟩ := fb
        have fb3 : u ≤ 4000 := by omega
        have BW := hide (show Below w2.heap.size w2 (wr.alloc (.cells #[.int .i64 x.md, .int .i64 x.rd, .int .i64 x.sl, .int .i64 x.nd, .int .i64 x.kd, .int .i64 x.sz, .int .i64 x.du, .bool x.ch] 61)) from below_trans hb2.out ((Below.refl _ _).alloc (Nat.le_refl _) _))
        clear hx fb2
        cases e : (x.nd == node)
        · have NN := hide (show u = payL node (L.take (k + 1)) by rw [HN.out, e, hu.out]; simp)
          clear HN
          go_wp2
          go_roundw
          case rel => exact ⟨k + 1, u, by omega, by go_num, rfl, NN, BW⟩
          case measure => simp [intOf]; omega
        · have NN := hide (show u + x.sz = payL node (L.take (k + 1)) by rw [HN.out, e, hu.out]; simp)
          clear HN
          go_wp2
          go_roundw
          case rel => exact ⟨k + 1, u + x.sz, by omega, by go_num, by go_num, NN, BW⟩
          case measure => simp [intOf]; omega
      · obtain rfl : k = N := by omega
        have E := hide (show u = payL node L by rw [hu.out, HNe.out, List.take_length])
        go_wp2
        go_ret2
        exact ⟨ret_pair (by rw [← HCZ.out, ← HLe.out]; exact E.out) HCZ.out, below_trans BA.out (below_trans B2.out hb2.out)⟩
  · have t1 : (cz == 0) = false := by simpa using hc0
    have HT1 := hide t1
    clear hcz hc0
    go_wp2
    go_ret2
    exact ⟨ret_pair (by rw [← HCZ.out, HT1.out]; rfl) HCZ.out, below_trans BA.out B1.out⟩
set_option maxHeartbeats 6400000 in
theorem sPayloadOf_any (v : Value) (m : Mdl) (mode node : Int) (w : World) (h : RdM w v m) (hq : Nms m) (hnode : I64 [node]) :
    Calls Tryz.prog 39 #[v, .int .i64 mode, .int .i64 node] w (TwoOut (bif scB m mode [node] == 0 then payL node (modeL mode m.ss) else 0) (scB m mode [node]) w) := by
  have HM := hide h
  obtain ⟨A1, n1, c1, A2, n2, c2, A3, n3, q3, rfl, h1, h2, h3⟩ := h
  have hlen2 := hide h2.len
  have hlen := hide h3.len
  have hcap2 := h2.cap
  have hcap := h3.cap
  obtain ⟨W0, hW0⟩ : ∃ W0, W0 = w.alloc (.cells #[.int .i64 m.id, .slice A1 n1 c1, .slice A2 n2 c2, .slice A3 n3 q3] 28) := ⟨_, rfl⟩
  have F0 : At W0 w.heap.size 28 #[.int .i64 m.id, .slice A1 n1 c1, .slice A2 n2 c2, .slice A3 n3 q3] := by rw [hW0]; exact At.fresh _ _ _
  have BA := hide (show Below w.heap.size w W0 by rw [hW0]; exact (Below.refl _ _).alloc (Nat.le_refl _) _)
  have B0 := hide (Below.refl W0.heap.size W0)
  have H1 := hide (h1.below BA.out)
  have H2 := hide (h2.below BA.out)
  have H3 := hide (h3.below BA.out)
  have HM0 := hide (HM.out.below BA.out)
  have HF := hide F0
  have d0 := F0.cell 0
  have d1 := F0.cell 1
  have d2 := F0.cell 2
  have d3 := F0.cell 3
  simp at d0 d1 d2 d3
  have HW := hide hW0
  clear hW0 F0 h1 h2 h3 HM
  obtain ⟨WL, hWL⟩ : ∃ WL, WL = W0.alloc (.cells #[.int .i64 node] 2) := ⟨_, rfl⟩
  have OL := hide (show Rd WL (some ⟨W0.heap.size, 0, none⟩) 1 1 [node] by rw [hWL]; exact (Own.lit W0 (Nat.le_refl _) #[.int .i64 node] [node] rfl hnode 1 rfl (by omega)).rd)
  have BL := hide (show Below W0.heap.size W0 WL by rw [hWL]; exact (Below.refl _ _).alloc (Nat.le_refl _) _)
  rw [show W0.heap.size = w.heap.size + 1 by rw [HW.out]; simp] at OL
  have HWL := hide hWL
  have HML := hide (HM0.out.below BL.out)
  clear hWL
  go_enter Tryz.func39, Tryz.ntmps39
  go_wp2_with fail
  rw [← HW.out, ← HWL.out]
  go_at_call 53
  (with_reducible refine (l17Code_any _ m mode _ _ _ [node] _ HML.out hq OL.out).mono ?_)
  rintro ee w1 ⟨rfl, b1⟩
  clear d0 d1 d2 d3
  have B1 := hide (below_trans BL.out b1)
  have F := HF.out.keep B1.out
  have d0 := F.cell 0
  have d1 := F.cell 1
  have d2 := F.cell 2
  have d3 := F.cell 3
  simp at d0 d1 d2 d3
  clear F b1
  obtain ⟨cz, hcz⟩ : ∃ cz, cz = scB m mode [node] := ⟨_, rfl⟩
  rw [← hcz]
  have HCZ := hide hcz
  by_cases hc0 : cz = 0
  · subst hc0
    have MB := hide (scB_zero HCZ.out.symm)
    have HFt := hide (fits_of (mdB_iff.1 (mcB_zero MB.out).1).2.2.2.1)
    have HLn := hide (len_of (mdB_iff.1 (mcB_zero MB.out).1).2.2.2.1)
    clear hcz
    have hN := HLn.out
    rw [hlen.out] at hN
    go_wp2_with fail
    clear d0 d1 d2 d3
    go_loopw [9, 10] (fun q i wr => ∃ (k : Nat) (u : Int), k ≤ n3 ∧ i = .int .i64 k ∧ q = .int .i64 u ∧ Hid (u = payL node (modeL mode (m.ss.take k))) ∧ Hid (Below W0.heap.size W0 wr)) (fun _ i _ => n3 - (intOf i).toNat)
    case atStart => exact ⟨0, 0, by omega, rfl, rfl, hide (by simp [payL, modeL]), B1⟩
    case round =>
      obtain ⟨k, u, hk, rfl, rfl, hu, hb2⟩ := hrel
      have F := HF.out.keep hb2.out
      have d3 := F.cell 3
      simp at d3
      clear F
      by_cases hlt : k < n3
      · obtain ⟨b, off, x, rfl, hb, hx, c0, c1, c2, c3, c4, c5, c6, c7⟩ := slt_at (H3.out.below hb2.out) hlt
        have HN := hide (show modeL mode (m.ss.take (k + 1)) = _ by rw [takeR hx, modeL_snoc])
        have fsz := (HFt.out x (List.mem_of_getElem? hx)).1
        have fb := payL_bound node (modeL mode (m.ss.take k)) ((HFt.out.take k).modeL mode)
        have fbl : (modeL mode (m.ss.take k)).length ≤ 120 := Nat.le_trans (modeL_len _ _) (by rw [List.length_take]; omega)
        rw [← hu.out] at fb
        obtain ⟨fb1, fb2⟩ := fb
        have fb3 : u ≤ 4000 := by omega
        clear hx fb2
        cases e : (x.md == mode)
        · have NN := hide (show u = payL node (modeL mode (m.ss.take (k + 1))) by rw [HN.out, e, if_neg (by simp), List.append_nil, hu.out])
          clear HN
          go_wp2
          go_roundw
          case rel => exact ⟨k + 1, u, by omega, by go_num, rfl, NN, hb2⟩
          case measure => simp [intOf]; omega
        · cases e2 : (x.nd == node)
          · have NN := hide (show u = payL node (modeL mode (m.ss.take (k + 1))) by rw [HN.out, e, if_pos rfl, payL_snoc, e2, hu.out]; simp)
            clear HN
            go_wp2
            go_roundw
            case rel => exact ⟨k + 1, u, by omega, by go_num, rfl, NN, hb2⟩
            case measure => simp [intOf]; omega
          · have NN := hide (show u + x.sz = payL node (modeL mode (m.ss.take (k + 1))) by rw [HN.out, e, if_pos rfl, payL_snoc, e2, hu.out]; simp)
            clear HN
            go_wp2
            go_roundw
            case rel => exact ⟨k + 1, u + x.sz, by omega, by go_num, by go_num, NN, hb2⟩
            case measure => simp [intOf]; omega
      · obtain rfl : k = n3 := by omega
        have E := hide (show u = payL node (modeL mode m.ss) by rw [hu.out, ← hlen.out, List.take_length])
        go_wp2
        go_ret2
        exact ⟨ret_pair (by rw [← HCZ.out]; exact E.out) HCZ.out, below_trans BA.out hb2.out⟩
  · have t1 : (cz == 0) = false := by simpa using hc0
    have HT1 := hide t1
    clear hcz hc0
    go_wp2
    go_ret2
    exact ⟨ret_pair (by rw [← HCZ.out, HT1.out]; rfl) HCZ.out, below_trans BA.out B1.out⟩
end Go.Proofs.YtdkhldebnpmiiaaGreatDoor
namespace Go.Proofs.YtdkhldebnpmiiaaGreatDoor
open Go.RowKit
set_option linter.unusedVariables false
set_option linter.unusedSimpArgs false
theorem blocks_ne {w : World} {B B' : Nat} {e t : TypeId} {k j n m : Nat} {v u : Value} {xs ys : List Value} (h : w.ownsRow B e k v n xs) (o : w.ownsRow B' t j u m ys) (hne : e ≠ t) : v.ownBlock = none ∨ v.ownBlock ≠ u.ownBlock := by
  rcases h.2 with ⟨rfl, _⟩ | ⟨g, cap, cur, rfl, _, hh, _⟩
  · exact .inl rfl
  · right
    rcases o.2 with ⟨rfl, _⟩ | ⟨g', cap', cur', rfl, _, hh', _⟩
    · simp [Value.ownBlock]
    · intro e1
      simp [Value.ownBlock] at e1
      subst e1
      rw [hh] at hh'
      simp at hh'
      exact hne hh'.2
section
variable {w w' : World} {B : Nat} {A : Option Addr} {n c : Nat} {ms : List PMod}
/-- a row of modes of the call's own -/
def OwnMs (w : World) (B : Nat) (A : Option Addr) (n c : Nat) (ms : List PMod) : Prop := ∃ l : List Mod, OwnR 107 Mod.v 3 w B A n c l ∧ (∀ x ∈ l, Own w B x.A x.n x.c x.nx) ∧ l.map Mod.p = ms
theorem OwnMs.rd (h : OwnMs w B A n c ms) : RdMs w A n c ms := by
  obtain ⟨l, h1, h2, h3⟩ := h
  exact ⟨l, h1.rd, fun x hx => (h2 x hx).rd, h3⟩
theorem OwnMs.below (h : OwnMs w B A n c ms) (hb : Below w.heap.size w w') : OwnMs w' B A n c ms := by
  obtain ⟨l, h1, h2, h3⟩ := h
  exact ⟨l, h1.below hb, fun x hx => (h2 x hx).below hb, h3⟩
theorem OwnMs.mono {B' : Nat} (h : OwnMs w B A n c ms) (hB : B' ≤ B) : OwnMs w B' A n c ms := by
  obtain ⟨l, h1, h2, h3⟩ := h
  exact ⟨l, h1.mono hB, fun x hx => (h2 x hx).mono hB, h3⟩
theorem OwnMs.setLow (h : OwnMs w B A n c ms) {b : Nat} (hb : b < B) (j : Nat) (v : Value) : OwnMs (w.setCell ⟨b, j, none⟩ v) B A n c ms := by
  obtain ⟨l, h1, h2, h3⟩ := h
  exact ⟨l, h1.setLow hb j v, fun x hx => (h2 x hx).setLow hb j v, h3⟩
/-- a schedule of the call's own -/
def OwnM (w : World) (B : Nat) (v : Value) (m : Mdl) : Prop := ∃ (A1 : Option Addr) (n1 c1 : Nat) (A2 : Option Addr) (n2 c2 : Nat) (A3 : Option Addr) (n3 c3 : Nat), v = .agg #[.int .i64 m.id, .slice A1 n1 c1, .slice A2 n2 c2, .slice A3 n3 c3] ∧ OwnR 68 Nod.v 4 w B A1 n1 c1 m.ns ∧ OwnMs w B A2 n2 c2 m.ms ∧ OwnR 61 Slt.v 8 w B A3 n3 c3 m.ss
theorem OwnM.rd {v : Value} {m : Mdl} (h : OwnM w B v m) : RdM w v m := by
  obtain ⟨A1, n1, c1, A2, n2, c2, A3, n3, c3, rfl, h1, h2, h3⟩ := h
  exact ⟨A1, n1, c1, A2, n2, c2, A3, n3, c3, rfl, h1.rd, h2.rd, h3.rd⟩
theorem OwnM.below {v : Value} {m : Mdl} (h : OwnM w B v m) (hb : Below w.heap.size w w') : OwnM w' B v m := by
  obtain ⟨A1, n1, c1, A2, n2, c2, A3, n3, c3, rfl, h1, h2, h3⟩ := h
  exact ⟨A1, n1, c1, A2, n2, c2, A3, n3, c3, rfl, h1.below hb, h2.below hb, h3.below hb⟩
theorem OwnM.mono {B' : Nat} {v : Value} {m : Mdl} (h : OwnM w B v m) (hB : B' ≤ B) : OwnM w B' v m := by
  obtain ⟨A1, n1, c1, A2, n2, c2, A3, n3, c3, rfl, h1, h2, h3⟩ := h
  exact ⟨A1, n1, c1, A2, n2, c2, A3, n3, c3, rfl, h1.mono hB, h2.mono hB, h3.mono hB⟩
end
end Go.Proofs.YtdkhldebnpmiiaaGreatDoor
namespace Go.Proofs.YtdkhldebnpmiiaaGreatDoor
open Go.RowKit
set_option linter.unusedVariables false
set_option linter.unusedSimpArgs false
def TrueOut (w : World) (e : Ending) (w' : World) : Prop := e = .returned (.bool true) ∧ Below w.heap.size w w'
end Go.Proofs.YtdkhldebnpmiiaaGreatDoor
