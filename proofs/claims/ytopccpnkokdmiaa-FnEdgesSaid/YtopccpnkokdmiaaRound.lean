/- The walk of FnExactRoundCells: both functions return the same for every number. -/
import Derived.Test.YtopccpnkokdmiaaBits
namespace Go.Proofs.Ytopccpnkokdmiaa
open Go.RowKit
set_option linter.unusedVariables false
set_option linter.unusedSimpArgs false

/-- n / 8, rounded -/
def rnd (n : Int) : Int := (n + 4) / 8
theorem roundCells_walk (x : Int) (w : World) (h : (Lit.int .i64 x).wf = true) :
    Calls Try.prog 3 #[.int .i64 x] w fun e w' => e = .returned (.bool true) ∧ Grown w w' := by
  by_cases h1 : 0 ≤ x ∧ x ≤ 8192
  · obtain ⟨h1, h2⟩ := h1
    have hin := inB_yes h1 h2
    go_enter Try.func3, Try.ntmps3
    go_wp2
    go_ret
    exact ⟨rfl, by go_grown⟩
  · have hin := inB_no (lo := 0) (hi := 8192) (x := x) (by omega)
    go_enter Try.func3, Try.ntmps3
    go_wp2_with (first | (go_at_call 89; refine (l01In_any _ _ _ _).mono ?_; rintro e w' ⟨rfl, rfl⟩) | (go_at_call 91; refine (within_any _ _ _ _).mono ?_; rintro e w' ⟨rfl, rfl⟩) | go_in)
    go_ret
    exact ⟨rfl, by go_grown⟩
end Go.Proofs.Ytopccpnkokdmiaa
