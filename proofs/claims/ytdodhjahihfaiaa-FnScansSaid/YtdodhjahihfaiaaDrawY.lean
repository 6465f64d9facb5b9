/- Contracts of the functions that draw the recogniser's inputs. -/
import Derived.Test.YtdodhjahihfaiaaDrawX
import Derived.Test.YtdodhjahihfaiaaScanN
namespace Go.Proofs.Ytdodhjahihfaiaa
open Go.RowKit
set_option linter.unusedVariables false
set_option linter.unusedSimpArgs false

set_option maxHeartbeats 1600000 in
theorem DrawCellsMissing_d (A : Option Addr) (n c : Nat) (bs : List Int) (w : World) (h : Rd8 w A n c bs) (hn : n ≤ 4096) :
    Calls Try.prog 67 #[.slice A n c] w (OutL w 1048576) := by
  go_enter Try.func67, Try.ntmps67
  go_wp2_with fail
  refine (from_d _ _ _ _ _ h hn).mono ?_
  rintro e w1 ⟨g, rfl, hg, h1, b1⟩
  go_wp2_with fail
  refine (l18Draw_d _ _ _ _ _ _ h1).mono ?_
  rintro e w2 ⟨A2, m2, c2, zs, rfl, hm2, own2, h2, g2⟩
  by_cases h0 : 0 < m2
  · go_wp2_with fail
    refine (next_d _ _ _ _ _ _ _ h2).mono ?_
    rintro e w3 ⟨x, rfl, x0, x1, h3, g3⟩
    have o3 := hide (own2.next h2 g3)
    have g4 := hide (grown_trans g2 g3)
    clear x1 own2 h2 g2 g3
    by_cases hx : 0 < x
    · have tx : decide (x > 0) = true := decide_eq_true hx
      go_wp2_with fail
      refine (next_d _ _ _ _ _ _ _ h3).mono ?_
      rintro e w4 ⟨y, rfl, y0, y1, h5, g5⟩
      obtain ⟨k, rfl⟩ := Int.eq_ofNat_of_zero_le y0
      have km : k < m2 := by have := y1 (by omega); omega
      have o4 := o3.out.next h3 g5
      have o5 := hide (o4.take (k := k) (by omega) h0)
      have cp := o4.cap
      clear y1
      rcases o4.form with ⟨_, h0, _⟩ | ⟨gb, rfl, gb1, gb2⟩
      · omega
      go_wp2_with fail
      go_ret
      exact ⟨_, _, _, _, rfl, by omega, o5.out.mono b1.size, below_src b1 (grown_trans g4.out g5) hg⟩
    · have tx : decide (x > 0) = false := decide_eq_false hx
      go_wp2_with fail
      go_ret
      exact ⟨_, _, _, _, rfl, by omega, o3.out.mono b1.size, below_src b1 g4.out hg⟩
  · obtain rfl : m2 = 0 := by omega
    go_wp2_with fail
    go_ret
    exact ⟨_, _, _, _, rfl, by omega, own2.mono b1.size, below_src b1 g2 hg⟩
end Go.Proofs.Ytdodhjahihfaiaa
