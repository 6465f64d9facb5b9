/- Contracts: the code for a schedule and a mode. -/
import Derived.Test.YtdkhldebnpmiiaaGreatDoorFault2
namespace Go.Proofs.YtdkhldebnpmiiaaGreatDoor
open Go.RowKit
set_option linter.unusedVariables false
set_option linter.unusedSimpArgs false

def mcB (m : Mdl) (mode : Int) : Int := bif mdB m then bif inB 0 ((m.ms.length : Int) - 1) mode then 0 else 2 else 1
theorem mcB_zero {m : Mdl} {mode : Int} (h : mcB m mode = 0) : mdB m = true ∧ 0 ≤ mode ∧ mode < m.ms.length := by
  rw [mcB] at h
  cases h1 : mdB m
  · rw [h1] at h; cases h
  · cases h2 : inB 0 ((m.ms.length : Int) - 1) mode
    · rw [h1, h2] at h; cases h
    · rw [inB_iff] at h2
      exact ⟨rfl, by omega, by omega⟩
set_option maxHeartbeats 800000 in
theorem l11Mode_any (A : Option Addr) (n c : Nat) (mode : Int) (w : World) (hn : n ≤ 9223372036854775807) : Calls Tryz.prog 103 #[.slice A n c, .int .i64 mode] w (fun e w' => e = .returned (.bool (inB 0 ((n : Int) - 1) mode)) ∧ w = w') := by
  have tw : IntKind.i64.wrap ((n : Int) - 1) = (n : Int) - 1 := IntWalk.i64_in _ ⟨by omega, by omega⟩
  go_enter Tryz.func103, Tryz.ntmps103
  go_wp2_with fail
  go_at_call 122
  (with_reducible refine (l01In_any _ _ _ _).mono ?_)
  rintro ee w1 ⟨rfl, rfl⟩
  go_wp2
  go_ret
  exact ⟨rfl, rfl⟩
set_option maxHeartbeats 1600000 in
theorem modeCode_any (v : Value) (m : Mdl) (mode : Int) (w : World) (h : RdM w v m) :
    Calls Tryz.prog 72 #[v, .int .i64 mode] w (IntOut (mcB m mode) w) := by
  have HM := hide h
  obtain ⟨A1, n1, c1, A2, n2, c2, A3, n3, q3, rfl, h1, h2, h3⟩ := h
  have hlen2 := hide h2.len
  have hlen := hide h3.len
  have hcap2 := h2.cap
  have hcap := h3.cap
  obtain ⟨W0, hW0⟩ : ∃ W0, W0 = w.alloc (.cells #[.int .i64 m.id, .slice A1 n1 c1, .slice A2 n2 c2, .slice A3 n3 q3] 28) := ⟨_, rfl⟩
  have F0 : At W0 w.heap.size 28 #[.int .i64 m.id, .slice A1 n1 c1, .slice A2 n2 c2, .slice A3 n3 q3] := by rw [hW0]; exact At.fresh _ _ _
  have BA := hide (show Below w.heap.size w W0 by rw [hW0]; exact (Below.refl _ _).alloc (Nat.le_refl _) _)
  have B0 := hide (Below.refl W0.heap.size W0)
  have H1 := hide (h1.below BA.out)
  have H2 := hide (h2.below BA.out)
  have H3 := hide (h3.below BA.out)
  have HM0 := hide (HM.out.below BA.out)
  have HF := hide F0
  have d0 := F0.cell 0
  have d1 := F0.cell 1
  have d2 := F0.cell 2
  have d3 := F0.cell 3
  simp at d0 d1 d2 d3
  have HW := hide hW0
  clear hW0 F0 h1 h2 h3 HM
  have HC := hide (show n2 ≤ 9223372036854775807 by omega)
  have tw : IntKind.i64.wrap ((n2 : Int) - 1) = (n2 : Int) - 1 := IntWalk.i64_in _ ⟨by omega, by omega⟩
  have E0 := hide (show mcB m mode = bif mdB m then bif inB 0 ((n2 : Int) - 1) mode then 0 else 2 else 1 by rw [mcB, hlen2.out])
  go_enter Tryz.func72, Tryz.ntmps72
  go_wp2_with fail
  rw [← HW.out]
  go_at_call 100
  (with_reducible refine (iIsMedl_any _ m _ HM0.out).mono ?_)
  rintro ee w1 ⟨rfl, b1⟩
  clear d0 d1 d2 d3
  have B1 := hide (below_trans B0.out b1)
  have F := HF.out.keep B1.out
  have d2 := F.cell 2
  simp at d2
  clear F b1
  cases p1 : mdB m
  · have E := hide (show mcB m mode = 1 by rw [E0.out, p1]; rfl)
    clear p1
    go_wp2
    go_ret
    exact ⟨by rw [E.out]; rfl, below_trans BA.out B1.out⟩
  have HP1 := hide p1
  clear p1
  go_wp2_with fail
  go_at_call 101
  (with_reducible refine (within_any _ _ _ _).mono ?_)
  rintro ee w2 ⟨rfl, rfl⟩
  cases p2 : inB 0 ((n2 : Int) - 1) mode
  · have E := hide (show mcB m mode = 2 by rw [E0.out, HP1.out, p2]; rfl)
    clear p2
    go_wp2
    go_ret
    exact ⟨by rw [E.out]; rfl, below_trans BA.out B1.out⟩
  · have E := hide (show mcB m mode = 0 by rw [E0.out, HP1.out, p2]; rfl)
    clear p2
    go_wp2
    go_ret
    exact ⟨by rw [E.out]; rfl, below_trans BA.out B1.out⟩
set_option maxHeartbeats 1600000 in
theorem l13Mode_any (v : Value) (m : Mdl) (mode : Int) (w : World) (h : RdM w v m) (hq : Nms m) :
    Calls Tryz.prog 73 #[v, .int .i64 mode] w (IntOut (mcB m mode) w) := by
  have HM := hide h
  obtain ⟨A1, n1, c1, A2, n2, c2, A3, n3, q3, rfl, h1, h2, h3⟩ := h
  have hlen2 := hide h2.len
  have hlen := hide h3.len
  have hcap2 := h2.cap
  have hcap := h3.cap
  obtain ⟨W0, hW0⟩ : ∃ W0, W0 = w.alloc (.cells #[.int .i64 m.id, .slice A1 n1 c1, .slice A2 n2 c2, .slice A3 n3 q3] 28) := ⟨_, rfl⟩
  have F0 : At W0 w.heap.size 28 #[.int .i64 m.id, .slice A1 n1 c1, .slice A2 n2 c2, .slice A3 n3 q3] := by rw [hW0]; exact At.fresh _ _ _
  have BA := hide (show Below w.heap.size w W0 by rw [hW0]; exact (Below.refl _ _).alloc (Nat.le_refl _) _)
  have B0 := hide (Below.refl W0.heap.size W0)
  have H1 := hide (h1.below BA.out)
  have H2 := hide (h2.below BA.out)
  have H3 := hide (h3.below BA.out)
  have HM0 := hide (HM.out.below BA.out)
  have HF := hide F0
  have d0 := F0.cell 0
  have d1 := F0.cell 1
  have d2 := F0.cell 2
  have d3 := F0.cell 3
  simp at d0 d1 d2 d3
  have HW := hide hW0
  clear hW0 F0 h1 h2 h3 HM
  have HC := hide (show n2 ≤ 9223372036854775807 by omega)
  have tw : IntKind.i64.wrap ((n2 : Int) - 1) = (n2 : Int) - 1 := IntWalk.i64_in _ ⟨by omega, by omega⟩
  have E0 := hide (show mcB m mode = bif mdB m then bif inB 0 ((n2 : Int) - 1) mode then 0 else 2 else 1 by rw [mcB, hlen2.out])
  go_enter Tryz.func73, Tryz.ntmps73
  go_wp2_with fail
  rw [← HW.out]
  go_at_call 102
  (with_reducible refine (sIsMedl_any _ m _ HM0.out hq).mono ?_)
  rintro ee w1 ⟨rfl, b1⟩
  clear d0 d1 d2 d3
  have B1 := hide (below_trans B0.out b1)
  have F := HF.out.keep B1.out
  have d2 := F.cell 2
  simp at d2
  clear F b1
  cases p1 : mdB m
  · have E := hide (show mcB m mode = 1 by rw [E0.out, p1]; rfl)
    clear p1
    go_wp2
    go_ret
    exact ⟨by rw [E.out]; rfl, below_trans BA.out B1.out⟩
  have HP1 := hide p1
  clear p1
  go_wp2_with fail
  go_at_call 103
  (with_reducible refine (l11Mode_any _ _ _ _ _ HC.out).mono ?_)
  rintro ee w2 ⟨rfl, rfl⟩
  cases p2 : inB 0 ((n2 : Int) - 1) mode
  · have E := hide (show mcB m mode = 2 by rw [E0.out, HP1.out, p2]; rfl)
    clear p2
    go_wp2
    go_ret
    exact ⟨by rw [E.out]; rfl, below_trans BA.out B1.out⟩
  · have E := hide (show mcB m mode = 0 by rw [E0.out, HP1.out, p2]; rfl)
    clear p2
    go_wp2
    go_ret
    exact ⟨by rw [E.out]; rfl, below_trans BA.out B1.out⟩
end Go.Proofs.YtdkhldebnpmiiaaGreatDoor
