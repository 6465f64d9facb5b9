/- Contracts: a copy of a list by the library's Clone. -/
import Derived.Test.YtdodhjahihfaiaaRepeat
import Derived.Test.YtdodhjahihfaiaaDraw
import Derived.Test.YtdodhjahihfaiaaAppend
import Derived.WalkSpells
namespace Go.Proofs.Ytdodhjahihfaiaa
open Go.RowKit
set_option linter.unusedVariables false
set_option linter.unusedSimpArgs false

theorem clone_any (A : Option Addr) (n c : Nat) (zs : List Int) (w : World) (h : Rd w A n c zs) (hn : n ≤ 1048576) :
    Calls Try.prog 116 #[.slice A n c] w fun e w' => ∃ A' c', e = .returned (.slice A' n c') ∧ Own w' w.heap.size A' n c' zs ∧ Below w.heap.size w w' := by
  have hlen := h.le
  have hcap := h.cap
  cases A with
  | none =>
    have hc := h.none0 rfl
    subst hc
    obtain rfl : n = 0 := by omega
    have hz : zs = [] := List.eq_nil_of_length_eq_zero h.len
    subst hz
    have e1 := Lib.run_eql_slice_nil (P := Try.prog)
    go_enter Try.func116, Try.ntmps116
    go_wp2
    go_ret
    exact ⟨none, 0, rfl, Own.nil _ _, Below.refl _ _⟩
  | some ad =>
    have e1 := Lib.run_eql_slice_nil (P := Try.prog)
    go_enter Try.func116, Try.ntmps116
    go_wp2_with (at_builtin; refine append_rd rfl _ _ rfl w.heap.size rfl (Own.empty w (Nat.le_refl _)) (h.below ((Below.refl _ _).alloc (Nat.le_refl _) _)) rfl (by omega) (by simp) ?_; intro A2 c2 w2 own2 gr2)
    go_ret
    refine ⟨A2, c2, ?_, by simpa using own2, below_own ((Below.refl _ _).alloc (Nat.le_refl _) _) (by simp) (Own.empty w (Nat.le_refl _)) (Nat.le_refl _) gr2⟩
    simp
end Go.Proofs.Ytdodhjahihfaiaa
