/- Contracts: each active node sends in each round, by the reference. -/
import Derived.Test.YtdkhldebnpmiiaaGreatDoorServe
namespace Go.Proofs.YtdkhldebnpmiiaaGreatDoor
open Go.RowKit
set_option linter.unusedVariables false
set_option linter.unusedSimpArgs false

set_option maxHeartbeats 6400000 in
theorem l13Served_any (v : Value) (m : Mdl) (w : World) (h : RdM w v m) (hi : Ids m.ns) (hnd : Nds m.ss) (hr : Rds m.ms) :
    Calls Tryz.prog 150 #[v] w (BoolOut (servB m) w) := by
  obtain ⟨A1, n1, c1, A2, n2, c2, A3, n3, c3, rfl, h1, h2, h3⟩ := h
  have hlen2 := hide h2.len
  have hlen := hide h3.len
  have hcap2 := h2.cap
  have hcap := h3.cap
  obtain ⟨W0, hW0⟩ : ∃ W0, W0 = w.alloc (.cells #[.int .i64 m.id, .slice A1 n1 c1, .slice A2 n2 c2, .slice A3 n3 c3] 28) := ⟨_, rfl⟩
  have F0 : At W0 w.heap.size 28 #[.int .i64 m.id, .slice A1 n1 c1, .slice A2 n2 c2, .slice A3 n3 c3] := by rw [hW0]; exact At.fresh _ _ _
  have BA := hide (show Below w.heap.size w W0 by rw [hW0]; exact (Below.refl _ _).alloc (Nat.le_refl _) _)
  have H1 := hide (h1.below BA.out)
  have H2 := hide (h2.below BA.out)
  have H3 := hide (h3.below BA.out)
  have HV := hide (actV_lt m.ns hi)
  have d1 := F0.cell 1
  have d2 := F0.cell 2
  have d3 := F0.cell 3
  simp at d1 d2 d3
  have HW := hide hW0
  clear hW0 F0 h1 h2 h3
  go_enter Tryz.func150, Tryz.ntmps150
  go_wp2_with fail
  rw [← HW.out]
  go_at_call 89
  (with_reducible refine (l10Active_any _ _ _ _ _ H1.out hi).mono ?_)
  rintro ee w1 ⟨rfl, rfl⟩
  obtain ⟨V, hV⟩ : ∃ V, V = actV m.ns := ⟨_, rfl⟩
  rw [← hV]
  have HVV := hide hV
  clear hV
  go_wp2_with fail
  go_loopw [4] (fun i wr => ∃ k : Nat, k ≤ n2 ∧ i = .int .i64 k ∧ Hid (servTo m k = true) ∧ wr = W0) (fun i _ => n2 - (intOf i).toNat)
  case atStart => exact ⟨0, by omega, rfl, hide rfl, rfl⟩
  case round =>
    obtain ⟨k, hk, rfl, hall, rfl⟩ := hrel
    by_cases hlt : k < n2
    · obtain ⟨b, off, x, rfl, hb, hx, rx, c0, c1, c2⟩ := mod_at H2.out hlt
      have HX := hide hx
      have hrx := hr _ (List.mem_of_getElem? hx)
      obtain ⟨R, hR⟩ : ∃ R : Nat, x.rd = R := ⟨x.rd.toNat, by have : (Mod.p x).rd = x.rd := rfl; omega⟩
      have HR := hide hR
      have HR8 : R ≤ 8 := by have : (Mod.p x).rd = x.rd := rfl; omega
      rw [hR] at c0
      clear hx hrx rx hR
      go_wp2_with fail
      go_loopw [5] (fun i wq => ∃ r : Nat, r ≤ R ∧ i = .int .i64 r ∧ Hid (servR m k r = true) ∧ wq = wr) (fun i _ => R - (intOf i).toNat)
      case atStart => exact ⟨0, by omega, rfl, hide rfl, rfl⟩
      case round =>
        obtain ⟨r, hr8, rfl, hall2, rfl⟩ := hrel
        by_cases hlr : r < R
        · go_wp2_with fail
          go_loopw [6, 7] (fun s i wp => ∃ j u : Nat, j ≤ n3 ∧ i = .int .i64 j ∧ s = .int .i64 u ∧ Hid (u = seenV k r (m.ss.take j)) ∧ wp = wr) (fun _ i _ => n3 - (intOf i).toNat)
          case atStart => exact ⟨0, 0, by omega, rfl, rfl, hide (by simp [seenV]), rfl⟩
          case round =>
            obtain ⟨j, u, hj, rfl, rfl, hu, rfl⟩ := hrel
            by_cases hlj : j < n3
            · obtain ⟨b3, off3, y, rfl, hb3, hy, y0, y1, y2, y3, y4, y5, y6, y7⟩ := slt_at H3.out hlj
              have hnd2 := hnd y (List.mem_of_getElem? hy)
              obtain ⟨d, hd⟩ : ∃ d : Nat, y.nd = d := ⟨y.nd.toNat, by omega⟩
              have hd32 : d < 32 := by omega
              rw [hd] at y3
              have HU := hide (show u < 4294967296 by rw [hu.out]; exact seenV_lt _ _ _ (hnd.take j))
              have HN := hide (show seenV k r (m.ss.take (j + 1)) = _ by rw [takeR hy, seenV_snoc])
              have HD := hide hd
              clear hy hnd2 hd
              cases t1 : (y.md == (k : Int))
              · have NN := hide (show u = seenV k r (m.ss.take (j + 1)) by rw [HN.out, t1, hu.out]; simp)
                clear HN
                go_wp2
                go_roundw
                case rel => exact ⟨j + 1, u, by omega, by go_num, rfl, NN, trivial⟩
                case measure => simp [intOf]; omega
              · cases t2 : (y.rd == (r : Int))
                · have NN := hide (show u = seenV k r (m.ss.take (j + 1)) by rw [HN.out, t1, t2, hu.out]; simp)
                  clear HN
                  go_wp2
                  go_roundw
                  case rel => exact ⟨j + 1, u, by omega, by go_num, rfl, NN, trivial⟩
                  case measure => simp [intOf]; omega
                · have NN := hide (show u ||| 2 ^ d = seenV k r (m.ss.take (j + 1)) by rw [HN.out, t1, t2, ← hu.out, orV, HD.out]; simp)
                  clear HN
                  go_wp2_with fail
                  go_at_call 115
                  (with_reducible refine (l05Set_any u d HU.out hd32 _).mono ?_)
                  rintro ee w1 ⟨rfl, rfl⟩
                  go_wp2
                  go_roundw
                  case rel => exact ⟨j + 1, u ||| 2 ^ d, by omega, by go_num, rfl, NN, trivial⟩
                  case measure => simp [intOf]; omega
            · obtain rfl : j = n3 := by omega
              have HU2 := hide (show u = seenV k r m.ss by rw [hu.out, ← hlen.out, List.take_length])
              by_cases hq : u = V
              · have t1 : ((u : Int) == (V : Int)) = true := by rw [beq_iff_eq]; omega
                have NN := hide (show servR m k (r + 1) = true by rw [servR_succ, hall2.out, ← HU2.out, ← HVV.out, hq]; simp)
                have HQ := hide hq
                clear hq
                go_wp2
                go_roundw
                case rel => exact ⟨r + 1, by omega, by go_num, NN, trivial⟩
                case measure => simp [intOf]; omega
              · have t1 : ((u : Int) == (V : Int)) = false := by rw [beq_eq_false_iff_ne]; omega
                have E := hide (servB_bad HX.out (show r < x.p.rd.toNat by rw [show x.p.rd = x.rd from rfl, HR.out]; simpa using hlr) (show (seenV k r m.ss == actV m.ns) = false by rw [← HU2.out, ← HVV.out]; simpa using hq))
                have HQ := hide hq
                clear hq
                go_wp2
                go_ret
                exact ⟨by rw [E.out]; rfl, BA.out⟩
        · obtain rfl : r = R := by omega
          have NN := hide (show servTo m (k + 1) = true by rw [servTo_succ, hall.out, rdA, HX.out]; show (true && servR m k x.rd.toNat) = true; rw [HR.out]; exact hall2.out)
          go_wp2
          go_roundw
          case rel => exact ⟨k + 1, by omega, by go_num, NN, trivial⟩
          case measure => simp [intOf]; omega
    · obtain rfl : k = n2 := by omega
      have E := hide (show servB m = true by rw [servB, hlen2.out]; exact hall.out)
      go_wp2
      go_ret
      exact ⟨by rw [E.out]; rfl, BA.out⟩
end Go.Proofs.YtdkhldebnpmiiaaGreatDoor
