/- Contracts: the first fault of a schedule, by the reference. -/
import Derived.Test.YtdkhldebnpmiiaaGreatDoorFault
namespace Go.Proofs.YtdkhldebnpmiiaaGreatDoor
open Go.RowKit
set_option linter.unusedVariables false
set_option linter.unusedSimpArgs false

set_option maxHeartbeats 6400000 in
theorem sFirstFault_any (v : Value) (m : Mdl) (w : World) (h : RdM w v m) (hq : Nms m) :
    Calls Tryz.prog 121 #[v] w (IntOut (ffB m) w) := by
  have HQ := hide (show ∀ x ∈ m.ns, x.nm.size ≤ 9223372036854775807 from hq)
  have HM := hide h
  obtain ⟨A1, n1, c1, A2, n2, c2, A3, n3, q3, rfl, h1, h2, h3⟩ := h
  have hlen2 := hide h2.len
  have hlen := hide h3.len
  have hcap2 := h2.cap
  have hcap := h3.cap
  obtain ⟨W0, hW0⟩ : ∃ W0, W0 = w.alloc (.cells #[.int .i64 m.id, .slice A1 n1 c1, .slice A2 n2 c2, .slice A3 n3 q3] 28) := ⟨_, rfl⟩
  have F0 : At W0 w.heap.size 28 #[.int .i64 m.id, .slice A1 n1 c1, .slice A2 n2 c2, .slice A3 n3 q3] := by rw [hW0]; exact At.fresh _ _ _
  have BA := hide (show Below w.heap.size w W0 by rw [hW0]; exact (Below.refl _ _).alloc (Nat.le_refl _) _)
  have B0 := hide (Below.refl W0.heap.size W0)
  have H1 := hide (h1.below BA.out)
  have H2 := hide (h2.below BA.out)
  have H3 := hide (h3.below BA.out)
  have HM0 := hide (HM.out.below BA.out)
  have HF := hide F0
  have d0 := F0.cell 0
  have d1 := F0.cell 1
  have d2 := F0.cell 2
  have d3 := F0.cell 3
  simp at d0 d1 d2 d3
  have HW := hide hW0
  clear hW0 F0 h1 h2 h3 HM
  go_enter Tryz.func121, Tryz.ntmps121
  go_wp2_with fail
  rw [← HW.out]
  go_wp2_with fail
  go_at_call 122
  (with_reducible refine (l01In_any _ _ _ _).mono ?_)
  rintro ee w1 ⟨rfl, rfl⟩
  have B1 := B0
  cases p1 : inB 1 16777215 m.id
  · go_wp2
    go_ret
    exact ⟨by rw [ffB, p1]; rfl, below_trans BA.out B1.out⟩
  have HP1 := hide p1
  clear p1
  go_wp2_with fail
  go_at_call 134
  (with_reducible refine (sIsNodeTable_any _ _ _ _ _ (H1.out.below B1.out) HQ.out).mono ?_)
  rintro ee w2 ⟨rfl, b1⟩
  clear d0 d1 d2 d3
  have B2 := hide (below_trans B1.out b1)
  have F := HF.out.keep B2.out
  have d0 := F.cell 0
  have d1 := F.cell 1
  have d2 := F.cell 2
  have d3 := F.cell 3
  simp at d0 d1 d2 d3
  clear F b1
  cases p2 : ntB m.ns
  · go_wp2
    go_ret
    exact ⟨by rw [ffB, HP1.out, p2]; rfl, below_trans BA.out B2.out⟩
  have HP2 := hide p2
  clear p2
  go_wp2_with fail
  go_at_call 145
  (with_reducible refine (sIsModeTable_any _ _ _ _ _ (H2.out.below B2.out)).mono ?_)
  rintro ee w3 ⟨rfl, b1⟩
  clear d0 d1 d2 d3
  have B3 := hide (below_trans B2.out b1)
  have F := HF.out.keep B3.out
  have d0 := F.cell 0
  have d1 := F.cell 1
  have d2 := F.cell 2
  have d3 := F.cell 3
  simp at d0 d1 d2 d3
  clear F b1
  cases p3 : mtB m.ms
  · go_wp2
    go_ret
    exact ⟨by rw [ffB, HP1.out, HP2.out, p3]; rfl, below_trans BA.out B3.out⟩
  have HP3 := hide p3
  clear p3
  go_wp2_with fail
  go_at_call 146
  (with_reducible refine (sIsSlotTable_any _ _ _ _ _ (H3.out.below B3.out)).mono ?_)
  rintro ee w4 ⟨rfl, b1⟩
  clear d0 d1 d2 d3
  have B4 := hide (below_trans B3.out b1)
  have F := HF.out.keep B4.out
  have d0 := F.cell 0
  have d1 := F.cell 1
  have d2 := F.cell 2
  have d3 := F.cell 3
  simp at d0 d1 d2 d3
  clear F b1
  cases p4 : stB m.ss
  · go_wp2
    go_ret
    exact ⟨by rw [ffB, HP1.out, HP2.out, HP3.out, p4]; rfl, below_trans BA.out B4.out⟩
  have HP4 := hide p4
  clear p4
  have hRd := hide (rds_of HP3.out)
  have hId := hide (ids_of HP2.out)
  have hNd := hide (nds_of HP4.out)
  have hDu := hide (durs_of HP4.out)
  have hLn := hide (len_of HP4.out)
  go_wp2_with fail
  go_at_call 147
  (with_reducible refine (l13Complete_any _ m _ (HM0.out.below B4.out) hRd.out.1 HP4.out hRd.out.2.1).mono ?_)
  rintro ee w5 ⟨rfl, b1⟩
  clear d0 d1 d2 d3
  have B5 := hide (below_trans B4.out b1)
  have F := HF.out.keep B5.out
  have d0 := F.cell 0
  have d1 := F.cell 1
  have d2 := F.cell 2
  have d3 := F.cell 3
  simp at d0 d1 d2 d3
  clear F b1
  cases p5 : compB m
  · go_wp2
    go_ret
    exact ⟨by rw [ffB, HP1.out, HP2.out, HP3.out, HP4.out, p5]; rfl, below_trans BA.out B5.out⟩
  have HP5 := hide p5
  clear p5
  go_wp2_with fail
  go_at_call 148
  (with_reducible refine (l13Senders_any _ m _ (HM0.out.below B5.out) hId.out hNd.out).mono ?_)
  rintro ee w6 ⟨rfl, b1⟩
  clear d0 d1 d2 d3
  have B6 := hide (below_trans B5.out b1)
  have F := HF.out.keep B6.out
  have d0 := F.cell 0
  have d1 := F.cell 1
  have d2 := F.cell 2
  have d3 := F.cell 3
  simp at d0 d1 d2 d3
  clear F b1
  cases p6 : m.ss.any (strB m.ns)
  rotate_left
  · go_wp2
    go_ret
    exact ⟨by rw [ffB, HP1.out, HP2.out, HP3.out, HP4.out, HP5.out, p6]; rfl, below_trans BA.out B6.out⟩
  have HP6 := hide p6
  clear p6
  go_wp2_with fail
  go_at_call 149
  (with_reducible refine (l13Durations_any _ m _ (HM0.out.below B6.out)).mono ?_)
  rintro ee w7 ⟨rfl, b1⟩
  clear d0 d1 d2 d3
  have B7 := hide (below_trans B6.out b1)
  have F := HF.out.keep B7.out
  have d0 := F.cell 0
  have d1 := F.cell 1
  have d2 := F.cell 2
  have d3 := F.cell 3
  simp at d0 d1 d2 d3
  clear F b1
  cases p7 : stdB m.ss
  · go_wp2
    go_ret
    exact ⟨by rw [ffB, HP1.out, HP2.out, HP3.out, HP4.out, HP5.out, HP6.out, p7]; rfl, below_trans BA.out B7.out⟩
  have HP7 := hide p7
  clear p7
  have FA := hide (show ffB m = bif shortB m then bif servB m then bif m.ss.any coldB then 10 else 0 else 9 else 8 by rw [ffB, HP1.out, HP2.out, HP3.out, HP4.out, HP5.out, HP6.out, HP7.out]; rfl)
  clear d0 d1 d2 d3
  go_wp2_with fail
  go_loopw [3] (fun i wr => ∃ k : Nat, k ≤ n2 ∧ i = .int .i64 k ∧ Hid (shortTo m k = true) ∧ Hid (Below W0.heap.size W0 wr)) (fun i _ => n2 - (intOf i).toNat)
  case atStart => exact ⟨0, by omega, rfl, hide rfl, B7⟩
  case round =>
    clear B7
    obtain ⟨k, hk, rfl, hall, B7⟩ := hrel
    have F := HF.out.keep B7.out
    have d0 := F.cell 0
    have d1 := F.cell 1
    have d2 := F.cell 2
    have d3 := F.cell 3
    simp at d0 d1 d2 d3
    clear F
    by_cases hlt : k < n2
    · have HL := hide (show k < m.ms.length by rw [hlen2.out]; exact hlt)
      go_wp2_with fail
      go_at_call 77
      (with_reducible refine (l13Cycle_any _ m k _ (HM0.out.below B7.out) hLn.out hDu.out).mono ?_)
      rintro ee w8 ⟨rfl, b1⟩
      have B8 := hide (below_trans B7.out b1)
      clear b1
      obtain ⟨u, hu⟩ : ∃ u, u = durs (modeL k m.ss) := ⟨_, rfl⟩
      rw [← hu]
      by_cases h1 : (32000 : Int) < u
      · have E := hide (show ffB m = 8 by rw [FA.out, shortB_bad HL.out (by rw [← hu]; omega)]; rfl)
        have t1 : decide ((32000 : Int) < u) = true := decide_eq_true h1
        clear hu h1
        go_wp2
        go_ret
        exact ⟨by rw [E.out]; rfl, below_trans BA.out B8.out⟩
      · have NN := hide (show shortTo m (k + 1) = true by rw [shortTo_succ, hall.out, ← hu, decide_eq_true (by omega)]; rfl)
        have t1 : decide ((32000 : Int) < u) = false := decide_eq_false h1
        clear hu h1
        go_wp2
        go_roundw
        case rel => exact ⟨k + 1, by omega, by go_num, NN, B8⟩
        case measure => simp [intOf]; omega
    · obtain rfl : k = n2 := by omega
      have HP8 := hide (show shortB m = true by rw [shortB, hlen2.out]; exact hall.out)
      have B8 := B7
      go_wp2_with fail
      go_at_call 150
      (with_reducible refine (l13Served_any _ m _ (HM0.out.below B8.out) hId.out hNd.out hRd.out.1).mono ?_)
      rintro ee w9 ⟨rfl, b1⟩
      clear d0 d1 d2 d3
      have B9 := hide (below_trans B8.out b1)
      have F := HF.out.keep B9.out
      have d0 := F.cell 0
      have d1 := F.cell 1
      have d2 := F.cell 2
      have d3 := F.cell 3
      simp at d0 d1 d2 d3
      clear F b1
      cases p9 : servB m
      · go_wp2
        go_ret
        exact ⟨by rw [ffB, HP1.out, HP2.out, HP3.out, HP4.out, HP5.out, HP6.out, HP7.out, HP8.out, p9]; rfl, below_trans BA.out B9.out⟩
      have HP9 := hide p9
      clear p9
      clear d0 d1 d2 d3
      have FB := hide (show ffB m = bif m.ss.any coldB then 10 else 0 by rw [FA.out, HP8.out, HP9.out]; rfl)
      go_wp2_with fail
      go_loopw [4] (fun i wr => ∃ k : Nat, k ≤ n3 ∧ i = .int .i64 k ∧ Hid (∀ j y, j < k → m.ss[j]? = some y → coldB y = false) ∧ Hid (Below W0.heap.size W0 wr)) (fun i _ => n3 - (intOf i).toNat)
      case atStart => exact ⟨0, by omega, rfl, hide (fun j y hj => by omega), B9⟩
      case round =>
        clear B9
        obtain ⟨k, hk, rfl, hno, B9⟩ := hrel
        have F := HF.out.keep B9.out
        have d3 := F.cell 3
        simp at d3
        clear F
        by_cases hlt : k < n3
        · obtain ⟨b, off, x, rfl, hb, hx, c0, c1, c2, c3, c4, c5, c6, c7⟩ := slt_at (H3.out.below B9.out) hlt
          have HX := hide hx
          have HC := hide (show coldB x = (x.kd == 3 && x.md != 0) from rfl)
          have NN : coldB x = false → Hid (∀ j y, j < k + 1 → m.ss[j]? = some y → coldB y = false) := fun hp j y hj hy => by
            rcases Nat.lt_succ_iff_lt_or_eq.1 hj with h1 | h1
            · exact hno.out j y h1 hy
            · subst h1
              rw [HX.out] at hy
              obtain rfl := Option.some.inj hy
              exact hp
          clear hx
          cases e1 : (x.kd == 3)
          · have N2 := NN (by rw [HC.out, e1]; rfl)
            clear NN HC
            go_wp2
            go_roundw
            case rel => exact ⟨k + 1, by omega, by go_num, N2, B9⟩
            case measure => simp [intOf]; omega
          · cases e2 : (x.md == 0)
            · have E := hide (show ffB m = 10 by rw [FB.out, show m.ss.any coldB = true from List.any_eq_true.2 ⟨x, List.mem_of_getElem? HX.out, by rw [HC.out, e1, bne, e2]; rfl⟩]; rfl)
              clear NN HC
              go_wp2
              go_ret
              exact ⟨by rw [E.out]; rfl, below_trans BA.out B9.out⟩
            · have N2 := NN (by rw [HC.out, e1, bne, e2]; rfl)
              clear NN HC
              go_wp2
              go_roundw
              case rel => exact ⟨k + 1, by omega, by go_num, N2, B9⟩
              case measure => simp [intOf]; omega
        · obtain rfl : k = n3 := by omega
          have E := hide (show ffB m = 0 by
            rw [FB.out, show m.ss.any coldB = false by
              rw [List.any_eq_false]
              intro y hy
              obtain ⟨j, hj, rfl⟩ := List.getElem_of_mem hy
              rw [hno.out j _ (by rw [← hlen.out]; exact hj) (List.getElem?_eq_getElem hj)]
              simp]
            rfl)
          go_wp2
          go_ret
          exact ⟨by rw [E.out]; rfl, below_trans BA.out B9.out⟩
set_option maxHeartbeats 1600000 in
theorem sIsMedl_any (v : Value) (m : Mdl) (w : World) (h : RdM w v m) (hq : Nms m) :
    Calls Tryz.prog 102 #[v] w (BoolOut (mdB m) w) := by
  have HM := hide h
  obtain ⟨A1, n1, c1, A2, n2, c2, A3, n3, q3, rfl, h1, h2, h3⟩ := h
  clear h1 h2 h3
  have H0 := hide (show RdM (w.alloc (.cells #[.int .i64 m.id, .slice A1 n1 c1, .slice A2 n2 c2, .slice A3 n3 q3] 28)) _ m from HM.out.below ((Below.refl _ _).alloc (Nat.le_refl _) _))
  have BA := hide (show Below w.heap.size w (w.alloc (.cells #[.int .i64 m.id, .slice A1 n1 c1, .slice A2 n2 c2, .slice A3 n3 q3] 28)) from (Below.refl _ _).alloc (Nat.le_refl _) _)
  have E := hide (show mdB m = (ffB m == 0) from rfl)
  go_enter Tryz.func102, Tryz.ntmps102
  go_wp2_with fail
  go_at_call 121
  (with_reducible refine (sFirstFault_any _ m _ H0.out hq).mono ?_)
  rintro ee w1 ⟨rfl, b1⟩
  have B := hide (below_trans BA.out b1)
  clear b1
  go_wp2
  go_ret
  exact ⟨by rw [E.out]; rfl, B.out⟩
end Go.Proofs.YtdkhldebnpmiiaaGreatDoor
