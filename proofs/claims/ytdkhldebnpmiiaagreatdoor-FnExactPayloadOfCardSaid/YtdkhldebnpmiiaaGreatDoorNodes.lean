/- Contracts: the codes for a schedule, a mode and nodes, by the program. -/
import Derived.Test.YtdkhldebnpmiiaaGreatDoorUse2
namespace Go.Proofs.YtdkhldebnpmiiaaGreatDoor
open Go.RowKit
set_option linter.unusedVariables false
set_option linter.unusedSimpArgs false

def hasN (ns : List Nod) (z : Int) : Bool := ns.any (fun y => y.id == z)
def ncB (m : Mdl) (mode : Int) (zs : List Int) : Int := bif mcB m mode == 0 then (bif zs.all (hasN m.ns) then 0 else 2) else mcB m mode
def actB (ns : List Nod) (z : Int) : Bool := (actV ns).testBit z.toNat
def scB (m : Mdl) (mode : Int) (zs : List Int) : Int := bif ncB m mode zs == 0 then (bif zs.all (actB m.ns) then 0 else 4) else ncB m mode zs
theorem all_upto {p : Int → Bool} {zs : List Int} (h : ∀ j, j < zs.length → p (nth zs j) = true) : zs.all p = true := by
  rw [List.all_eq_true]
  intro y hy
  obtain ⟨j, hj, rfl⟩ := List.getElem_of_mem hy
  have := h j hj
  rwa [nth_eq hj] at this
theorem all_not {p : Int → Bool} {zs : List Int} {j : Nat} (hj : j < zs.length) (h : p (nth zs j) = false) : zs.all p = false := List.all_eq_false.2 ⟨_, nth_mem hj, by rw [h]; simp⟩
theorem ncB_zero {m : Mdl} {mode : Int} {zs : List Int} (h : ncB m mode zs = 0) : mcB m mode = 0 ∧ zs.all (hasN m.ns) = true := by
  rw [ncB] at h
  cases h1 : (mcB m mode == 0)
  · rw [h1] at h
    have : mcB m mode = 0 := h
    rw [this] at h1
    cases h1
  · rw [h1] at h
    cases h2 : zs.all (hasN m.ns)
    · rw [h2] at h; cases h
    · exact ⟨by simpa using h1, rfl⟩
set_option maxHeartbeats 3200000 in
theorem nodesCode_any (v : Value) (m : Mdl) (mode : Int) (A : Option Addr) (n c : Nat) (zs : List Int) (w : World) (h : RdM w v m) (hz : Rd w A n c zs) :
    Calls Tryz.prog 83 #[v, .int .i64 mode, .slice A n c] w (IntOut (ncB m mode zs) w) := by
  have HM := hide h
  obtain ⟨A1, n1, c1, A2, n2, c2, A3, n3, q3, rfl, h1, h2, h3⟩ := h
  have hlen2 := hide h2.len
  have hlen := hide h3.len
  have hcap2 := h2.cap
  have hcap := h3.cap
  obtain ⟨W0, hW0⟩ : ∃ W0, W0 = w.alloc (.cells #[.int .i64 m.id, .slice A1 n1 c1, .slice A2 n2 c2, .slice A3 n3 q3] 28) := ⟨_, rfl⟩
  have F0 : At W0 w.heap.size 28 #[.int .i64 m.id, .slice A1 n1 c1, .slice A2 n2 c2, .slice A3 n3 q3] := by rw [hW0]; exact At.fresh _ _ _
  have BA := hide (show Below w.heap.size w W0 by rw [hW0]; exact (Below.refl _ _).alloc (Nat.le_refl _) _)
  have B0 := hide (Below.refl W0.heap.size W0)
  have H1 := hide (h1.below BA.out)
  have H2 := hide (h2.below BA.out)
  have H3 := hide (h3.below BA.out)
  have HM0 := hide (HM.out.below BA.out)
  have HF := hide F0
  have d0 := F0.cell 0
  have d1 := F0.cell 1
  have d2 := F0.cell 2
  have d3 := F0.cell 3
  simp at d0 d1 d2 d3
  have HW := hide hW0
  clear hW0 F0 h1 h2 h3 HM
  have hzc := hz.cap
  have hzl := hide hz.len
  have HZ := hide (hz.below BA.out)
  clear hz
  go_enter Tryz.func83, Tryz.ntmps83
  go_wp2_with fail
  rw [← HW.out]
  go_at_call 72
  (with_reducible refine (modeCode_any _ m mode _ HM0.out).mono ?_)
  rintro ee w1 ⟨rfl, b1⟩
  clear d0 d1 d2 d3
  have B1 := hide (below_trans B0.out b1)
  clear b1
  obtain ⟨cz, hcz⟩ : ∃ cz, cz = mcB m mode := ⟨_, rfl⟩
  rw [← hcz]
  have HCZ := hide hcz
  by_cases hc0 : cz = 0
  · subst hc0
    clear hcz
    have E1 := hide (show ncB m mode zs = bif zs.all (hasN m.ns) then 0 else 2 by rw [ncB, ← HCZ.out]; rfl)
    go_wp2_with fail
    go_loopw [18] (fun i wr => ∃ k : Nat, k ≤ n ∧ i = .int .i64 k ∧ Hid (∀ j, j < k → hasN m.ns (nth zs j) = true) ∧ Hid (Below W0.heap.size W0 wr)) (fun i _ => n - (intOf i).toNat)
    case atStart => exact ⟨0, by omega, rfl, hide (fun j hj => by omega), B1⟩
    case round =>
      clear B1
      obtain ⟨k, hk, rfl, hall, B1⟩ := hrel
      by_cases hlt : k < n
      · obtain ⟨b, off, rfl, hb, hc⟩ := (HZ.out.below B1.out).at_ (by omega)
        have c0 := hc k hlt
        have F := HF.out.keep B1.out
        have d1 := F.cell 1
        simp at d1
        have HL := hide (show k < zs.length by rw [hzl.out]; exact hlt)
        obtain ⟨z, hzz⟩ : ∃ z, z = nth zs k := ⟨_, rfl⟩
        rw [← hzz] at c0
        have HK := hide (idx_any (fun y : Nod => y.id == z) m.ns)
        obtain ⟨q, hq⟩ : ∃ q, q = idx (fun y : Nod => y.id == z) m.ns := ⟨_, rfl⟩
        rw [← hq] at HK
        have HQ := hide hq
        have HZZ := hide hzz
        clear hc F hq hzz
        go_wp2_with fail
        go_at_call 113
        (with_reducible refine (findNode_any _ _ _ _ m.ns _ (H1.out.below B1.out)).mono ?_)
        rintro ee w2 ⟨rfl, b2⟩
        rw [← HQ.out]
        have B2 := hide (below_trans B1.out b2)
        clear b2
        by_cases hneg : q < 0
        · have t1 : decide (q < 0) = true := decide_eq_true hneg
          have E := hide (show ncB m mode zs = 2 by rw [E1.out, all_not HL.out (show hasN m.ns (nth zs k) = false by rw [← HZZ.out, hasN, ← HK.out]; exact decide_eq_false (by omega))]; rfl)
          clear hneg
          go_wp2
          go_ret
          exact ⟨by rw [E.out]; rfl, below_trans BA.out B2.out⟩
        · have t1 : decide (q < 0) = false := decide_eq_false hneg
          have NN := hide (fun j (hj : j < k + 1) => show hasN m.ns (nth zs j) = true from by
            rcases Nat.lt_succ_iff_lt_or_eq.1 hj with h1 | h1
            · exact hall.out j h1
            · subst h1
              rw [← HZZ.out, hasN, ← HK.out]
              exact decide_eq_true (by omega))
          clear hneg
          go_wp2
          go_roundw
          case rel => exact ⟨k + 1, by omega, by go_num, NN, B2⟩
          case measure => simp [intOf]; omega
      · obtain rfl : k = n := by omega
        have E := hide (show ncB m mode zs = 0 by rw [E1.out, all_upto (fun j hj => hall.out j (by rw [← hzl.out]; exact hj))]; rfl)
        go_wp2
        go_ret
        exact ⟨by rw [E.out]; rfl, below_trans BA.out B1.out⟩
  · have t1 : (cz == 0) = false := by simpa using hc0
    have E := hide (show ncB m mode zs = cz by rw [ncB, ← hcz, t1]; rfl)
    clear hcz hc0
    go_wp2
    go_ret
    exact ⟨by rw [E.out]; rfl, below_trans BA.out B1.out⟩
theorem hasN_id {ns : List Nod} {z : Int} (hi : Ids ns) (h : hasN ns z = true) : 0 ≤ z ∧ z < 32 := by
  obtain ⟨y, hy, e⟩ := List.any_eq_true.1 h
  have := hi y hy
  have e2 : y.id = z := by simpa using e
  omega
set_option maxHeartbeats 3200000 in
theorem sendersCode_any (v : Value) (m : Mdl) (mode : Int) (A : Option Addr) (n c : Nat) (zs : List Int) (w : World) (h : RdM w v m) (hz : Rd w A n c zs) :
    Calls Tryz.prog 49 #[v, .int .i64 mode, .slice A n c] w (IntOut (scB m mode zs) w) := by
  have HM := hide h
  obtain ⟨A1, n1, c1, A2, n2, c2, A3, n3, q3, rfl, h1, h2, h3⟩ := h
  have hlen2 := hide h2.len
  have hlen := hide h3.len
  have hcap2 := h2.cap
  have hcap := h3.cap
  obtain ⟨W0, hW0⟩ : ∃ W0, W0 = w.alloc (.cells #[.int .i64 m.id, .slice A1 n1 c1, .slice A2 n2 c2, .slice A3 n3 q3] 28) := ⟨_, rfl⟩
  have F0 : At W0 w.heap.size 28 #[.int .i64 m.id, .slice A1 n1 c1, .slice A2 n2 c2, .slice A3 n3 q3] := by rw [hW0]; exact At.fresh _ _ _
  have BA := hide (show Below w.heap.size w W0 by rw [hW0]; exact (Below.refl _ _).alloc (Nat.le_refl _) _)
  have B0 := hide (Below.refl W0.heap.size W0)
  have H1 := hide (h1.below BA.out)
  have H2 := hide (h2.below BA.out)
  have H3 := hide (h3.below BA.out)
  have HM0 := hide (HM.out.below BA.out)
  have HF := hide F0
  have d0 := F0.cell 0
  have d1 := F0.cell 1
  have d2 := F0.cell 2
  have d3 := F0.cell 3
  simp at d0 d1 d2 d3
  have HW := hide hW0
  clear hW0 F0 h1 h2 h3 HM
  have hzc := hz.cap
  have hzl := hide hz.len
  have HZ := hide (hz.below BA.out)
  clear hz
  go_enter Tryz.func49, Tryz.ntmps49
  go_wp2_with fail
  rw [← HW.out]
  go_at_call 83
  (with_reducible refine (nodesCode_any _ m mode _ _ _ zs _ HM0.out HZ.out).mono ?_)
  rintro ee w1 ⟨rfl, b1⟩
  clear d0 d1 d2 d3
  have B1 := hide (below_trans B0.out b1)
  clear b1
  obtain ⟨cz, hcz⟩ : ∃ cz, cz = ncB m mode zs := ⟨_, rfl⟩
  rw [← hcz]
  have HCZ := hide hcz
  by_cases hc0 : cz = 0
  · subst hc0
    clear hcz
    have E1 := hide (show scB m mode zs = bif zs.all (actB m.ns) then 0 else 4 by rw [scB, ← HCZ.out]; rfl)
    have HI := hide (ids_of (mdB_iff.1 (mcB_zero (ncB_zero HCZ.out.symm).1).1).2.1)
    have HV := hide (actV_lt m.ns HI.out)
    have HN := hide (ncB_zero HCZ.out.symm).2
    go_wp2_with fail
    go_loopw [19] (fun i wr => ∃ k : Nat, k ≤ n ∧ i = .int .i64 k ∧ Hid (∀ j, j < k → actB m.ns (nth zs j) = true) ∧ Hid (Below W0.heap.size W0 wr)) (fun i _ => n - (intOf i).toNat)
    case atStart => exact ⟨0, by omega, rfl, hide (fun j hj => by omega), B1⟩
    case round =>
      clear B1
      obtain ⟨k, hk, rfl, hall, B1⟩ := hrel
      by_cases hlt : k < n
      · obtain ⟨b, off, rfl, hb, hc⟩ := (HZ.out.below B1.out).at_ (by omega)
        have c0 := hc k hlt
        have F := HF.out.keep B1.out
        have d1 := F.cell 1
        simp at d1
        have HL := hide (show k < zs.length by rw [hzl.out]; exact hlt)
        have hid := hasN_id HI.out (List.all_eq_true.1 HN.out _ (nth_mem HL.out))
        obtain ⟨d, hd⟩ : ∃ d : Nat, nth zs k = d := ⟨(nth zs k).toNat, by omega⟩
        have hd32 : d < 32 := by omega
        rw [hd] at c0
        have HA := hide (show actB m.ns (nth zs k) = (actV m.ns).testBit d by rw [actB, hd]; rfl)
        clear hc F hid hd
        go_wp2_with fail
        go_at_call 85
        (with_reducible refine (activeVector_any _ _ _ _ _ (H1.out.below B1.out) HI.out).mono ?_)
        rintro ee w2 ⟨rfl, b2⟩
        have B2 := hide (below_trans B1.out b2)
        clear b2
        go_wp2_with fail
        go_at_call 84
        (with_reducible refine (ihas_any _ _ HV.out hd32 _).mono ?_)
        rintro ee w3 ⟨rfl, rfl⟩
        cases hp : (actV m.ns).testBit d
        · have E := hide (show scB m mode zs = 4 by rw [E1.out, all_not HL.out (by rw [HA.out, hp])]; rfl)
          clear hp
          go_wp2
          go_ret
          exact ⟨by rw [E.out]; rfl, below_trans BA.out B2.out⟩
        · have HP := hide hp
          have NN := hide (fun j (hj : j < k + 1) => show actB m.ns (nth zs j) = true from by
            rcases Nat.lt_succ_iff_lt_or_eq.1 hj with h1 | h1
            · exact hall.out j h1
            · subst h1
              rw [HA.out]
              exact HP.out)
          clear hp
          go_wp2
          go_roundw
          case rel => exact ⟨k + 1, by omega, by go_num, NN, B2⟩
          case measure => simp [intOf]; omega
      · obtain rfl : k = n := by omega
        have E := hide (show scB m mode zs = 0 by rw [E1.out, all_upto (fun j hj => hall.out j (by rw [← hzl.out]; exact hj))]; rfl)
        go_wp2
        go_ret
        exact ⟨by rw [E.out]; rfl, below_trans BA.out B1.out⟩
  · have t1 : (cz == 0) = false := by simpa using hc0
    have E := hide (show scB m mode zs = cz by rw [scB, ← hcz, t1]; rfl)
    clear hcz hc0
    go_wp2
    go_ret
    exact ⟨by rw [E.out]; rfl, below_trans BA.out B1.out⟩
end Go.Proofs.YtdkhldebnpmiiaaGreatDoor
