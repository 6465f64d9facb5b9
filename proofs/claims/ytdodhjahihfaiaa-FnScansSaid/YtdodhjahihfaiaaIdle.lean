/- Contracts: high cells, idle samples. -/
import Derived.Test.YtdodhjahihfaiaaHighs
namespace Go.Proofs.Ytdodhjahihfaiaa
open Go.RowKit
set_option linter.unusedVariables false
set_option linter.unusedSimpArgs false

theorem highs_any (m : Int) (w : World) (h0 : 0 ≤ m) (hm : m ≤ 16777216) :
    Calls Try.prog 85 #[.int .i64 m] w fun e w' => ∃ A' c', e = .returned (.slice A' m.toNat c') ∧ Own w' w.heap.size A' m.toNat c' (List.replicate m.toNat 1) ∧ Below w.heap.size w w' := by
  have hlit := Own.lit w (Nat.le_refl w.heap.size) #[.int .i64 1] [1] rfl (I64.one (by decide) (by decide)) 1 rfl (by omega)
  have HL := hide hlit
  clear hlit
  go_enter Try.func85, Try.ntmps85
  go_wp2_with (go_at_call 109; refine (repeatLib_any _ _ 1 _ _ HL.out.rd h0 hm).mono ?_; rintro e w1 ⟨A1, c1, rfl, own1, bel1⟩)
  go_ret
  exact ⟨A1, c1, rfl, own1.mono (by simp), ((Below.refl w.heap.size w).alloc (Nat.le_refl _) _).trans (bel1.mono (by simp))⟩
def idleR (n : Int) : List Int := if inB 0 8192 n then List.replicate n.toNat 1 else []
def idleC (n : Int) : Int := if inB 0 8192 n then 0 else 2
theorem idle_yes {n : Int} (h : inB 0 8192 n = true) : idleR n = List.replicate n.toNat 1 ∧ 0 = idleC n := by simp [idleR, idleC, h]
theorem idle_no {n : Int} (h : inB 0 8192 n = false) : idleR n = [] ∧ 2 = idleC n := by simp [idleR, idleC, h]
end Go.Proofs.Ytdodhjahihfaiaa
