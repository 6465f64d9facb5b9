/- The walk of FnExactTransmissionSize: both functions return the same for every two numbers. -/
import Derived.Test.YtdodhjahihfaiaaCells
namespace Go.Proofs.Ytdodhjahihfaiaa
open Go.RowKit
set_option linter.unusedVariables false
set_option linter.unusedSimpArgs false

def tsB (n p : Int) : Bool := inB 0 1024 n && inB 3 15 p
def tsR (n p : Int) : Int := if tsB n p then p + 3 + 10 * n else 0
def tsC (n p : Int) : Int := if tsB n p then 0 else 2
theorem iTransmissionSize_c (n p : Int) (w : World) (hn : -9223372036854775808 ≤ n ∧ n ≤ 9223372036854775807) (hp : -9223372036854775808 ≤ p ∧ p ≤ 9223372036854775807) :
    Calls Try.prog 23 #[.int .i64 n, .int .i64 p] w fun e w' => e = .returned (.tuple #[.int .i64 (tsR n p), .int .i64 (tsC n p)]) ∧ Below w.heap.size w w' := by
  by_cases h1 : inB 0 1024 n = true
  · by_cases h2 : inB 3 15 p = true
    · have a1 := inB_true h1
      have a2 := inB_true h2
      have hR : Hid (p + 3 + 10 * n = tsR n p) := by show _ = _; simp [tsR, tsB, h1, h2]
      have hC : Hid (0 = tsC n p) := by show _ = _; simp [tsC, tsB, h1, h2]
      go_enter Try.func23, Try.ntmps23
      go_wp2_with (first | (go_at_call 74; refine (within_any _ _ _ _).mono ?_; rintro e w' ⟨rfl, rfl⟩) | (go_at_call 75; refine (isPreamble_any _ _).mono ?_; rintro e w' ⟨rfl, rfl⟩) | go_in)
      go_ret2
      exact ⟨ret_pair hR.out hC.out, Below.refl _ _⟩
    · rw [Bool.not_eq_true] at h2
      have hR : Hid (0 = tsR n p) := by show _ = _; simp [tsR, tsB, h1, h2]
      have hC : Hid (2 = tsC n p) := by show _ = _; simp [tsC, tsB, h1, h2]
      go_enter Try.func23, Try.ntmps23
      go_wp2_with (first | (go_at_call 74; refine (within_any _ _ _ _).mono ?_; rintro e w' ⟨rfl, rfl⟩) | (go_at_call 75; refine (isPreamble_any _ _).mono ?_; rintro e w' ⟨rfl, rfl⟩) | go_in)
      go_ret2
      exact ⟨ret_pair hR.out hC.out, Below.refl _ _⟩
  · rw [Bool.not_eq_true] at h1
    have hR : Hid (0 = tsR n p) := by show _ = _; simp [tsR, tsB, h1]
    have hC : Hid (2 = tsC n p) := by show _ = _; simp [tsC, tsB, h1]
    go_enter Try.func23, Try.ntmps23
    go_wp2_with (first | (go_at_call 74; refine (within_any _ _ _ _).mono ?_; rintro e w' ⟨rfl, rfl⟩) | (go_at_call 75; refine (isPreamble_any _ _).mono ?_; rintro e w' ⟨rfl, rfl⟩) | go_in)
    go_ret2
    exact ⟨ret_pair hR.out hC.out, Below.refl _ _⟩
theorem sTransmissionSize_c (n p : Int) (w : World) (hn : -9223372036854775808 ≤ n ∧ n ≤ 9223372036854775807) (hp : -9223372036854775808 ≤ p ∧ p ≤ 9223372036854775807) :
    Calls Try.prog 22 #[.int .i64 n, .int .i64 p] w fun e w' => e = .returned (.tuple #[.int .i64 (tsR n p), .int .i64 (tsC n p)]) ∧ Below w.heap.size w w' := by
  by_cases h1 : inB 0 1024 n = true
  · by_cases h2 : inB 3 15 p = true
    · have a1 := inB_true h1
      have a2 := inB_true h2
      have hR : Hid (p + 3 + 10 * n = tsR n p) := by show _ = _; simp [tsR, tsB, h1, h2]
      have hC : Hid (0 = tsC n p) := by show _ = _; simp [tsC, tsB, h1, h2]
      go_enter Try.func22, Try.ntmps22
      go_wp2_with (first | (go_at_call 72; refine (l01In_any _ _ _ _).mono ?_; rintro e w' ⟨rfl, rfl⟩) | (go_at_call 73; refine (l18Preamble_any _ _).mono ?_; rintro e w' ⟨rfl, rfl⟩))
      go_ret2
      exact ⟨ret_pair hR.out hC.out, Below.refl _ _⟩
    · rw [Bool.not_eq_true] at h2
      have hR : Hid (0 = tsR n p) := by show _ = _; simp [tsR, tsB, h1, h2]
      have hC : Hid (2 = tsC n p) := by show _ = _; simp [tsC, tsB, h1, h2]
      go_enter Try.func22, Try.ntmps22
      go_wp2_with (first | (go_at_call 72; refine (l01In_any _ _ _ _).mono ?_; rintro e w' ⟨rfl, rfl⟩) | (go_at_call 73; refine (l18Preamble_any _ _).mono ?_; rintro e w' ⟨rfl, rfl⟩))
      go_ret2
      exact ⟨ret_pair hR.out hC.out, Below.refl _ _⟩
  · rw [Bool.not_eq_true] at h1
    have hR : Hid (0 = tsR n p) := by show _ = _; simp [tsR, tsB, h1]
    have hC : Hid (2 = tsC n p) := by show _ = _; simp [tsC, tsB, h1]
    go_enter Try.func22, Try.ntmps22
    go_wp2_with (first | (go_at_call 72; refine (l01In_any _ _ _ _).mono ?_; rintro e w' ⟨rfl, rfl⟩) | (go_at_call 73; refine (l18Preamble_any _ _).mono ?_; rintro e w' ⟨rfl, rfl⟩))
    go_ret2
    exact ⟨ret_pair hR.out hC.out, Below.refl _ _⟩
end Go.Proofs.Ytdodhjahihfaiaa
