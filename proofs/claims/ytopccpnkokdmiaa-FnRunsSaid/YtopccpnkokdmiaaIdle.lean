/- Contracts: high cells, idle samples. -/
import Derived.Test.YtopccpnkokdmiaaHighs
namespace Go.Proofs.Ytopccpnkokdmiaa
open Go.RowKit
set_option linter.unusedVariables false
set_option linter.unusedSimpArgs false

theorem highs_any (m : Int) (w : World) (h0 : 0 ≤ m) (hm : m ≤ 16777216) :
    Calls Try.prog 110 #[.int .i64 m] w fun e w' => ∃ A' c', e = .returned (.slice A' m.toNat c') ∧ Own w' w.heap.size A' m.toNat c' (List.replicate m.toNat 1) ∧ Below w.heap.size w w' := by
  have hlit := Own.lit w (Nat.le_refl w.heap.size) #[.int .i64 1] [1] rfl (I64.one (by decide) (by decide)) 1 rfl (by omega)
  have HL := hide hlit
  clear hlit
  go_enter Try.func110, Try.ntmps110
  go_wp2_with (go_at_call 133; refine (repeatLib_any _ _ 1 _ _ HL.out.rd h0 hm).mono ?_; rintro e w1 ⟨A1, c1, rfl, own1, bel1⟩)
  go_ret
  exact ⟨A1, c1, rfl, own1.mono (by simp), ((Below.refl w.heap.size w).alloc (Nat.le_refl _) _).trans (bel1.mono (by simp))⟩
def idleR (n : Int) : List Int := if inB 0 8192 n then List.replicate n.toNat 1 else []
def idleC (n : Int) : Int := if inB 0 8192 n then 0 else 2
theorem idle_yes {n : Int} (h : inB 0 8192 n = true) : idleR n = List.replicate n.toNat 1 ∧ 0 = idleC n := by simp [idleR, idleC, h]
theorem idle_no {n : Int} (h : inB 0 8192 n = false) : idleR n = [] ∧ 2 = idleC n := by simp [idleR, idleC, h]
theorem iIdleSamples_c (n : Int) (w : World) (hn : -9223372036854775808 ≤ n ∧ n ≤ 9223372036854775807) :
    Calls Try.prog 54 #[.int .i64 n] w fun e w' => ∃ A' n' c', e = .returned (.tuple #[.slice A' n' c', .int .i64 (idleC n)]) ∧ Own w' w.heap.size A' n' c' (idleR n) ∧ Below w.heap.size w w' ∧ n' ≤ 1048576 := by
  by_cases hi : inB 0 8192 n = true
  · have HN := hide (idle_yes hi)
    have hb := inB_true hi
    go_enter Try.func54, Try.ntmps54
    go_wp2_with (first | (go_at_call 91; refine (within_any _ _ _ _).mono ?_; rintro e w' ⟨rfl, rfl⟩) | (go_at_call 110; refine (highs_any _ _ hb.1 (by omega)).mono ?_; rintro e w1 ⟨A1, c1, rfl, own1, bel1⟩))
    go_ret2
    exact ⟨A1, _, c1, ret_sc HN.out.2, by rw [HN.out.1]; exact own1, bel1, by omega⟩
  · have hi : inB 0 8192 n = false := by simpa using hi
    have HN := hide (idle_no hi)
    go_enter Try.func54, Try.ntmps54
    go_wp2_with (first | (go_at_call 91; refine (within_any _ _ _ _).mono ?_; rintro e w' ⟨rfl, rfl⟩))
    go_ret2
    exact ⟨none, 0, 0, ret_sc HN.out.2, by rw [HN.out.1]; exact Own.nil _ _, Below.refl _ _, by omega⟩
theorem sIdleSamples_c (n : Int) (w : World) (hn : -9223372036854775808 ≤ n ∧ n ≤ 9223372036854775807) :
    Calls Try.prog 53 #[.int .i64 n] w fun e w' => ∃ A' n' c', e = .returned (.tuple #[.slice A' n' c', .int .i64 (idleC n)]) ∧ Own w' w.heap.size A' n' c' (idleR n) ∧ Below w.heap.size w w' ∧ n' ≤ 1048576 := by
  by_cases hi : inB 0 8192 n = true
  · have HN := hide (idle_yes hi)
    have hb := inB_true hi
    go_enter Try.func53, Try.ntmps53
    go_wp2_with (first | (go_at_call 89; refine (l01In_any _ _ _ _).mono ?_; rintro e w' ⟨rfl, rfl⟩) | (go_at_call 107; refine (l20Equal_any _ _ _ (by omega) hb.1 (by omega)).mono ?_; rintro e w1 ⟨A1, c1, rfl, own1, bel1⟩))
    go_ret2
    exact ⟨A1, _, c1, ret_sc HN.out.2, by rw [HN.out.1]; exact own1, bel1, by omega⟩
  · have hi : inB 0 8192 n = false := by simpa using hi
    have HN := hide (idle_no hi)
    go_enter Try.func53, Try.ntmps53
    go_wp2_with (first | (go_at_call 89; refine (l01In_any _ _ _ _).mono ?_; rintro e w' ⟨rfl, rfl⟩))
    go_ret2
    exact ⟨none, 0, 0, ret_sc HN.out.2, by rw [HN.out.1]; exact Own.nil _ _, Below.refl _ _, by omega⟩
end Go.Proofs.Ytopccpnkokdmiaa
