/- Contracts: the cycles are short; the senders. -/
import Derived.Test.YtdkhldebnpmiiaaGreatDoorSum
import Derived.Test.YtdkhldebnpmiiaaGreatDoorSt
namespace Go.Proofs.YtdkhldebnpmiiaaGreatDoor
open Go.RowKit
set_option linter.unusedVariables false
set_option linter.unusedSimpArgs false

def shortTo (m : Mdl) (k : Nat) : Bool := (List.range k).all (fun i => decide (durs (modeL i m.ss) ≤ 32000))
def shortB (m : Mdl) : Bool := shortTo m m.ms.length
theorem shortTo_succ (m : Mdl) (k : Nat) : shortTo m (k + 1) = (shortTo m k && decide (durs (modeL k m.ss) ≤ 32000)) := by simp [shortTo, List.range_succ]
theorem shortB_bad {m : Mdl} {k : Nat} (h : k < m.ms.length) (hb : ¬ durs (modeL k m.ss) ≤ 32000) : shortB m = false := List.all_eq_false.2 ⟨k, List.mem_range.2 h, by rw [decide_eq_false hb]; simp⟩
set_option maxHeartbeats 3200000 in
theorem isShort_any (v : Value) (m : Mdl) (w : World) (h : RdM w v m) (hn : m.ss.length ≤ 120) (hd : Durs m.ss) :
    Calls Tryz.prog 143 #[v] w (BoolOut (shortB m) w) := by
  have HM := hide h
  obtain ⟨A1, n1, c1, A2, n2, c2, A3, n3, c3, rfl, h1, h2, h3⟩ := h
  have hlen := hide h2.len
  have hcap := h2.cap
  obtain ⟨W0, hW0⟩ : ∃ W0, W0 = w.alloc (.cells #[.int .i64 m.id, .slice A1 n1 c1, .slice A2 n2 c2, .slice A3 n3 c3] 28) := ⟨_, rfl⟩
  have F0 : At W0 w.heap.size 28 #[.int .i64 m.id, .slice A1 n1 c1, .slice A2 n2 c2, .slice A3 n3 c3] := by rw [hW0]; exact At.fresh _ _ _
  have BA := hide (show Below w.heap.size w W0 by rw [hW0]; exact (Below.refl _ _).alloc (Nat.le_refl _) _)
  have HF := hide F0
  have d2 := F0.cell 2
  simp at d2
  have HW := hide hW0
  clear hW0 F0 h1 h2 h3
  go_enter Tryz.func143, Tryz.ntmps143
  go_wp2_with fail
  rw [← HW.out]
  go_loopw [7] (fun i wr => ∃ k : Nat, k ≤ n2 ∧ i = .int .i64 k ∧ Hid (shortTo m k = true) ∧ Hid (Below W0.heap.size W0 wr)) (fun i _ => n2 - (intOf i).toNat)
  case atStart => exact ⟨0, by omega, rfl, hide rfl, hide (Below.refl _ _)⟩
  case round =>
    obtain ⟨k, hk, rfl, hall, hbel⟩ := hrel
    by_cases hlt : k < n2
    · have F1 := HF.out.keep hbel.out
      have e0 := F1.cell 0
      have e1 := F1.cell 1
      have e2 := F1.cell 2
      have e3 := F1.cell 3
      simp at e0 e1 e2 e3
      have HL := hide (show k < m.ms.length by rw [hlen.out]; exact hlt)
      have HM1 := hide (HM.out.below (below_trans BA.out hbel.out))
      clear F1
      go_wp2_with fail
      go_at_call 75
      (with_reducible refine (modeSlots_any _ m k _ HM1.out hn).mono ?_)
      rintro ee w1 ⟨A', c', rfl, own1, b1⟩
      have B1 := hide (below_trans hbel.out b1)
      have hfl : (modeL k m.ss).length ≤ 120 := Nat.le_trans (List.length_filter_le _ _) hn
      go_wp2_with fail
      go_at_call 86
      (with_reducible refine (sumDurations_any _ _ _ _ _ own1.rd hfl (hd.modeL _)).mono ?_)
      rintro ee w2 ⟨rfl, b2⟩
      have B2 := hide (below_trans B1.out b2)
      clear b1 b2 own1 hfl
      obtain ⟨u, hu⟩ : ∃ u, u = durs (modeL k m.ss) := ⟨_, rfl⟩
      rw [← hu]
      by_cases h1 : (32000 : Int) < u
      · have E := hide (shortB_bad HL.out (by rw [← hu]; omega))
        have t1 : decide ((32000 : Int) < u) = true := decide_eq_true h1
        clear hu h1
        go_wp2
        go_ret
        exact ⟨by rw [E.out]; rfl, below_trans BA.out B2.out⟩
      · have NN := hide (show shortTo m (k + 1) = true by rw [shortTo_succ, hall.out, ← hu, decide_eq_true (by omega)]; rfl)
        have t1 : decide ((32000 : Int) < u) = false := decide_eq_false h1
        clear hu h1
        go_wp2
        go_roundw
        case rel => exact ⟨k + 1, by omega, by go_num, NN, B2⟩
        case measure => simp [intOf]; omega
    · obtain rfl : k = n2 := by omega
      have E := hide (show shortB m = true by rw [shortB, hlen.out]; exact hall.out)
      go_wp2
      go_ret
      exact ⟨by rw [E.out]; rfl, below_trans BA.out hbel.out⟩
end Go.Proofs.YtdkhldebnpmiiaaGreatDoor
