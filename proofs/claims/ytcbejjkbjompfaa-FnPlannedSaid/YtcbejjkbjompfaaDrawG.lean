/- Contracts: demands, rounds and slots drawn out of the code. -/
import Derived.Test.YtcbejjkbjompfaaDrawE
namespace Go.Proofs.Ytcbejjkbjompfaa
open Go.RowKit
set_option linter.unusedVariables false
set_option linter.unusedSimpArgs false

def OutPD (w : World) (x : Ending) (w' : World) : Prop :=
  ∃ (ds : List Dem) (A' : Option Addr) (k c' : Nat) (r s : Int), x = .returned (.tuple #[.slice A' k c', .int .i64 r, .int .i64 s]) ∧ ds.length = k ∧ k ≤ 100 ∧ (-9223372036854775808 ≤ r ∧ r ≤ 9223372036854775807) ∧ (-9223372036854775808 ≤ s ∧ s ≤ 9223372036854775807) ∧ OwnF 38 3 w' w.heap.size A' k c' (flatD ds) ∧ Below w.heap.size w w'
set_option maxHeartbeats 1600000 in
theorem DrawPlanDemands_d (A : Option Addr) (n c : Nat) (bs : List Int) (w : World) (h : Rd8 w A n c bs) (hn : n ≤ 4096) :
    Calls Try.prog 5 #[.slice A n c] w (OutPD w) := by
  go_enter Try.func5, Try.ntmps5
  go_wp2_with fail
  refine (from_d _ _ _ _ _ h hn).mono ?_
  rintro e w1 ⟨g, rfl, hg, h1, b1⟩
  go_wp2_with fail
  refine (l16Draw_d g A n c bs w1 h1).mono ?_
  rintro e w2 ⟨ds, A2, k, d, rfl, hl, hk, D2⟩
  go_wp2_with fail
  refine (l16DrawRounds_d g A n c bs w2 D2.1).mono ?_
  rintro e w3 ⟨r, rfl, hr, h3, g3⟩
  have O3 := D2.2.1.next (by decide) D2.1 g3
  go_wp2_with fail
  refine (l16DrawSlots_d g A n c bs w3 h3).mono ?_
  rintro e w4 ⟨s, rfl, hs, h4, g4⟩
  have O4 := O3.next (by decide) h3 g4
  have G4 := grown_trans (grown_trans D2.2.2 g3) g4
  go_wp2_with fail
  refine bodyPost_ret (v := .tuple #[.slice A2 k d, .int .i64 r, .int .i64 s]) (by simp [results, Try.results5, go_sem]) rfl ?_
  exact ⟨ds, A2, k, d, r, s, rfl, hl, hk, hr, hs, O4.mono b1.size, below_src b1 G4 hg⟩
end Go.Proofs.Ytcbejjkbjompfaa
