/- Contracts: the table is complete, by the reference. -/
import Derived.Test.YtdkhldebnpmiiaaGreatDoorComp0
namespace Go.Proofs.YtdkhldebnpmiiaaGreatDoor
open Go.RowKit
set_option linter.unusedVariables false
set_option linter.unusedSimpArgs false

theorem int_beq (a b : Nat) : ((a : Int) == (b : Int)) = decide (a = b) := Bool.eq_iff_iff.mpr (by rw [beq_iff_eq, decide_eq_true_iff]; omega)
def allE (m : Mdl) (l : List Key) : Bool := l.all (hasE m.ss)
theorem allE_snoc (m : Mdl) (l : List Key) (e : Key) : allE m (l ++ [e]) = (allE m l && hasE m.ss e) := by simp [allE, List.all_append]
theorem row_gE {k S r s : Nat} (hs : s < S) : gE k S (r * S + s) = ((k : Int), (r : Int), (s : Int)) := by
  have hS : 0 < S := by omega
  have h1 : (r * S + s) / S = r := by rw [Nat.mul_comm, Nat.mul_add_div hS, Nat.div_eq_of_lt hs, Nat.add_zero]
  have h2 : (r * S + s) % S = s := by rw [Nat.mul_comm, Nat.mul_add_mod, Nat.mod_eq_of_lt hs]
  rw [gE, h1, h2]
theorem pre_mem {ms : List PMod} {k i K : Nat} (hi : i < rdA ms k * slA ms k) (hk : k < K) : gE k (slA ms k) i ∈ Eto ms K := List.mem_of_getElem? (Eto_get ms hi K hk)
theorem Eto_len {ms : List PMod} (h : Rds ms) (K : Nat) : (Eto ms K).length ≤ 128 * K := by
  induction K with
  | zero => simp [Eto]
  | succ K ih =>
    have hb := h.at_ K
    have : rdA ms K * slA ms K ≤ 8 * 16 := Nat.mul_le_mul hb.1 hb.2
    rw [Eto_succ, List.length_append, blockE, List.length_map, List.length_range]
    omega
theorem preE_len {ms : List PMod} (k i : Nat) : (preE ms k i).length = (Eto ms k).length + i := by simp [preE]
set_option maxHeartbeats 6400000 in
theorem l13Complete_any (v : Value) (m : Mdl) (w : World) (h : RdM w v m) (hr : Rds m.ms) (hs : stB m.ss = true) (hm16 : m.ms.length ≤ 16) :
    Calls Tryz.prog 147 #[v] w (BoolOut (compB m) w) := by
  obtain ⟨A1, n1, c1, A2, n2, c2, A3, n3, c3, rfl, h1, h2, h3⟩ := h
  have hlen2 := hide h2.len
  have hlen := hide h3.len
  rw [hlen2.out] at hm16
  have hcap2 := h2.cap
  have hcap := h3.cap
  have HT := hide hs
  obtain ⟨W0, hW0⟩ : ∃ W0, W0 = w.alloc (.cells #[.int .i64 m.id, .slice A1 n1 c1, .slice A2 n2 c2, .slice A3 n3 c3] 28) := ⟨_, rfl⟩
  have F0 : At W0 w.heap.size 28 #[.int .i64 m.id, .slice A1 n1 c1, .slice A2 n2 c2, .slice A3 n3 c3] := by rw [hW0]; exact At.fresh _ _ _
  have BA := hide (show Below w.heap.size w W0 by rw [hW0]; exact (Below.refl _ _).alloc (Nat.le_refl _) _)
  have H2 := hide (h2.below BA.out)
  have H3 := hide (h3.below BA.out)
  have d2 := F0.cell 2
  have d3 := F0.cell 3
  simp at d2 d3
  have HW := hide hW0
  clear hW0 F0 h1 h2 h3 hs
  go_enter Tryz.func147, Tryz.ntmps147
  go_wp2_with fail
  rw [← HW.out]
  go_loopw [3, 4] (fun q i wr => ∃ k p : Nat, k ≤ n2 ∧ i = .int .i64 k ∧ q = .int .i64 p ∧ p ≤ 128 * k ∧ Hid (p = (Eto m.ms k).length) ∧ Hid (allE m (Eto m.ms k) = true) ∧ wr = W0) (fun _ i _ => n2 - (intOf i).toNat)
  case atStart => exact ⟨0, 0, by omega, rfl, rfl, by omega, hide (by simp [Eto]), hide (by simp [Eto, allE]), rfl⟩
  case round =>
    obtain ⟨k, p, hk, rfl, rfl, hp, hpl, hall, rfl⟩ := hrel
    by_cases hlt : k < n2
    · obtain ⟨b, off, x, rfl, hb, hx, rx, c0, c1, c2⟩ := mod_at H2.out hlt
      have hrx := hr _ (List.mem_of_getElem? hx)
      have hrx2 : 1 ≤ x.rd ∧ x.rd ≤ 8 ∧ 1 ≤ x.sl ∧ x.sl ≤ 16 := hrx
      obtain ⟨R, hR⟩ : ∃ R : Nat, x.rd = R := ⟨x.rd.toNat, by omega⟩
      obtain ⟨S, hS⟩ : ∃ S : Nat, x.sl = S := ⟨x.sl.toNat, by omega⟩
      have HRA := hide (show rdA m.ms k = R by rw [rdA, hx]; show x.rd.toNat = R; rw [hR]; rfl)
      have HSA := hide (show slA m.ms k = S by rw [slA, hx]; show x.sl.toNat = S; rw [hS]; rfl)
      have HL := hide (get_lt hx)
      have hR8 : R ≤ 8 := by omega
      have hS16 : S ≤ 16 := by omega
      rw [hR] at c0
      rw [hS] at c1
      clear hx hrx hrx2 rx hR hS
      go_wp2_with fail
      go_loopw [3, 5] (fun q i wr2 => ∃ r p2 : Nat, r ≤ R ∧ i = .int .i64 r ∧ q = .int .i64 p2 ∧ p2 ≤ 128 * k + 16 * r ∧ Hid (p2 = (preE m.ms k (r * S)).length) ∧ Hid (allE m (preE m.ms k (r * S)) = true) ∧ wr2 = wr) (fun _ i _ => R - (intOf i).toNat)
      case atStart => exact ⟨0, p, by omega, rfl, rfl, by omega, hide (by rw [Nat.zero_mul, preE_zero]; exact hpl.out), hide (by rw [Nat.zero_mul, preE_zero]; exact hall.out), rfl⟩
      case round =>
        obtain ⟨r, p2, hrr, rfl, rfl, hp2, hpl2, hall2, rfl⟩ := hrel
        by_cases hlr : r < R
        · go_wp2_with fail
          go_loopw [3, 6] (fun q i wr3 => ∃ s p3 : Nat, s ≤ S ∧ i = .int .i64 s ∧ q = .int .i64 p3 ∧ p3 ≤ 128 * k + 16 * r + s ∧ Hid (p3 = (preE m.ms k (r * S + s)).length) ∧ Hid (allE m (preE m.ms k (r * S + s)) = true) ∧ wr3 = wr) (fun _ i _ => S - (intOf i).toNat)
          case atStart => exact ⟨0, p2, by omega, rfl, rfl, by omega, hpl2, hall2, rfl⟩
          case round =>
            obtain ⟨s, p3, hss, rfl, rfl, hp3, hpl3, hall3, rfl⟩ := hrel
            by_cases hls : s < S
            · have hge : -1 ≤ idx (slotB k r s) m.ss := idx_ge _ _
              have HI := hide (idx_any (slotB k r s) m.ss)
              obtain ⟨z, hz⟩ : ∃ z, z = idx (slotB k r s) m.ss := ⟨_, rfl⟩
              rw [← hz] at HI hge
              have HZ := hide hz
              clear hz
              have hii : r * S + s < rdA m.ms k * slA m.ms k := by
                rw [HRA.out, HSA.out]
                have : (r + 1) * S ≤ R * S := Nat.mul_le_mul_right _ hlr
                rw [Nat.add_mul] at this
                omega
              have HE := hide (show gE k (slA m.ms k) (r * S + s) = ((k : Int), (r : Int), (s : Int)) by rw [HSA.out]; exact row_gE hls)
              have HM := hide (pre_mem hii HL.out)
              clear hii
              go_wp2_with fail
              go_at_call 167
              (with_reducible refine (l12Find_any _ _ _ _ _ _ _ _ H3.out).mono ?_)
              rintro ee w1 ⟨rfl, rfl⟩
              rw [← HZ.out]
              by_cases hneg : z < 0
              · have t1 : decide (z < 0) = true := decide_eq_true hneg
                have E := hide (comp_miss HM.out (show hasE m.ss (gE k (slA m.ms k) (r * S + s)) = false by rw [HE.out, hasE, ← HI.out]; exact decide_eq_false (by omega)))
                clear hneg hge
                go_wp2
                go_ret
                exact ⟨by rw [E.out]; rfl, BA.out⟩
              · have t1 : decide (z < 0) = false := decide_eq_false hneg
                have N1 := hide (show p3 + 1 = (preE m.ms k (r * S + (s + 1))).length by rw [show r * S + (s + 1) = r * S + s + 1 by omega, preE_succ, List.length_append, ← hpl3.out]; rfl)
                have N2 := hide (show allE m (preE m.ms k (r * S + (s + 1))) = true by
                  rw [show r * S + (s + 1) = r * S + s + 1 by omega, preE_succ, allE_snoc, hall3.out, HE.out, hasE, ← HI.out, decide_eq_true (by omega)]
                  rfl)
                clear hneg hge
                go_wp2
                go_roundw
                case rel => exact ⟨s + 1, p3 + 1, by omega, by go_num, by go_num, by omega, N1, N2, trivial⟩
                case measure => simp [intOf]; omega
            · obtain rfl : s = S := by omega
              have N1 := hide (show p3 = (preE m.ms k ((r + 1) * s)).length by rw [Nat.add_mul, Nat.one_mul]; exact hpl3.out)
              have N2 := hide (show allE m (preE m.ms k ((r + 1) * s)) = true by rw [Nat.add_mul, Nat.one_mul]; exact hall3.out)
              go_wp2
              go_roundw
              case rel => exact ⟨r + 1, p3, by omega, by go_num, rfl, by omega, N1, N2, trivial⟩
              case measure => simp [intOf]; omega
        · obtain rfl : r = R := by omega
          have N1 := hide (show p2 = (Eto m.ms (k + 1)).length by rw [← preE_full, HRA.out, HSA.out]; exact hpl2.out)
          have N2 := hide (show allE m (Eto m.ms (k + 1)) = true by rw [← preE_full, HRA.out, HSA.out]; exact hall2.out)
          go_wp2
          go_roundw
          case rel => exact ⟨k + 1, p2, by omega, by go_num, rfl, by omega, N1, N2, trivial⟩
          case measure => simp [intOf]; omega
    · obtain rfl : k = n2 := by omega
      have E := hide (show compB m = decide (p = n3) by
        rw [← hlen.out, hpl.out, ← hlen2.out]
        refine comp_all HT.out hr fun e he => ?_
        have := hall.out
        rw [← hlen2.out] at this
        exact List.all_eq_true.1 this e he)
      go_wp2
      go_ret
      exact ⟨by rw [E.out, ← int_beq]; rfl, BA.out⟩
end Go.Proofs.YtdkhldebnpmiiaaGreatDoor
