/- Contracts of the functions that draw a statement's inputs out of its code: whatever they are, they lie in memory of the call's own. -/
import Derived.Test.YtcbejjkbjompfaaDrawC
import Derived.Test.YtcbejjkbjompfaaCopy
namespace Go.Proofs.Ytcbejjkbjompfaa
open Go.RowKit
set_option linter.unusedVariables false
set_option linter.unusedSimpArgs false

theorem wf_u8_bounds {n : Int} (h : (Lit.int .u8 n).wf = true) : 0 ≤ n ∧ n ≤ 255 := by
  simpa [Lit.wf, IntKind.min, IntKind.max, IntKind.signed, IntKind.bits] using h
theorem rd8_of_isRow {w : World} {a : Option Addr} {len cap : Nat} {zs : List Int} (h : IsRow .u8 w a len cap zs) : Rd8 w a len cap (zs.take len) := by
  rcases h with ⟨rfl, rfl, rfl, rfl⟩ | ⟨x, rfl, hl, hm, hz, hcell, hwz⟩
  · exact ⟨rfl, Nat.le_refl _, by simp [maxLen], fun j => by simp [nth], fun h => absurd h (by omega)⟩
  · refine ⟨by rw [List.length_take]; omega, hl, hm, fun j => ?_, fun hn => ?_⟩
    · by_cases hj : j < (zs.take len).length
      · exact wf_u8_bounds (hwz _ (List.mem_of_mem_take (nth_mem hj)))
      · rw [nth_out (by omega)]; omega
    obtain ⟨b, off, spot⟩ := x
    have hc := hcell 0 (by omega)
    have hspot : spot = none := by simpa [Addr.add] using World.cell?_spot hc
    subst hspot
    refine ⟨b, off, rfl, fun j hj => ?_⟩
    have hcj := hcell j (by omega)
    rw [nth_take zs len j hj]
    rw [show (⟨b, off, none⟩ : Addr).add j = ⟨b, off + j, none⟩ from ?_] at hcj
    · exact hcj
    · unfold Addr.add
      split
      · rename_i h0
        subst h0
        rfl
      · rfl
theorem from_d (A : Option Addr) (n c : Nat) (bs : List Int) (w : World) (h : Rd8 w A n c bs) (hn : n ≤ 4096) :
    Calls Try.prog 12 #[.slice A n c] w fun e w' => ∃ g, e = .returned (.pointer (some ⟨g, 0, none⟩)) ∧ w.heap.size ≤ g ∧ Sd w' g A n c bs ∧ Below w.heap.size w w' :=
  (l01From_any A n c bs w h hn).mono fun _ _ ⟨g, he, hg, hs, hb⟩ => ⟨g, he, hg, ⟨h.below hb, hs⟩, hb⟩
theorem below_src {w w1 w2 : World} {g : Nat} (h : Below w.heap.size w w1) (hg : w1.grownBy w2 (some g)) (hl : w.heap.size ≤ g) : Below w.heap.size w w2 :=
  h.grown hg h.size (fun k hk => by simp at hk; omega)
/-- a list comes out -/
def OutL (w : World) (most : Nat) (e : Ending) (w' : World) : Prop :=
  ∃ (A' : Option Addr) (m c' : Nat) (zs : List Int), e = .returned (.slice A' m c') ∧ m ≤ most ∧ Own w' w.heap.size A' m c' zs ∧ Below w.heap.size w w'
/-- a list and a number come out -/
def OutLN (w : World) (most : Nat) (e : Ending) (w' : World) : Prop :=
  ∃ (A' : Option Addr) (m c' : Nat) (zs : List Int) (x : Int), e = .returned (.tuple #[.slice A' m c', .int .i64 x]) ∧ m ≤ most ∧ (-9223372036854775808 ≤ x ∧ x ≤ 9223372036854775807) ∧ Own w' w.heap.size A' m c' zs ∧ Below w.heap.size w w'
def OutNL (w : World) (most : Nat) (e : Ending) (w' : World) : Prop :=
  ∃ (A' : Option Addr) (m c' : Nat) (zs : List Int) (x : Int), e = .returned (.tuple #[.int .i64 x, .slice A' m c']) ∧ m ≤ most ∧ (-9223372036854775808 ≤ x ∧ x ≤ 9223372036854775807) ∧ Own w' w.heap.size A' m c' zs ∧ Below w.heap.size w w'
def OutN (w : World) (e : Ending) (w' : World) : Prop :=
  ∃ (x : Int), e = .returned (.int .i64 x) ∧ (-9223372036854775808 ≤ x ∧ x ≤ 9223372036854775807) ∧ Below w.heap.size w w'
/-- two lists come out -/
def OutLL (w : World) (most : Nat) (e : Ending) (w' : World) : Prop :=
  ∃ (A' : Option Addr) (m c' : Nat) (zs : List Int) (B' : Option Addr) (l d' : Nat) (ys : List Int), e = .returned (.tuple #[.slice A' m c', .slice B' l d']) ∧ m ≤ most ∧ l ≤ most ∧ Own w' w.heap.size A' m c' zs ∧ Own w' w.heap.size B' l d' ys ∧ Below w.heap.size w w'

theorem big_any (A : Option Addr) (n c : Nat) (bs : List Int) (w : World) (h : Rd8 w A n c bs) :
    Calls Try.prog 4 #[.slice A n c] w fun e w' => e = .returned (.bool (decide (4096 < n))) ∧ w = w' := by
  have hc := h.cap
  go_enter Try.func4, Try.ntmps4
  by_cases hb : 4096 < n
  · have t : decide (4096 < n) = true := by simpa using hb
    go_wp2
    go_ret
    exact ⟨by simp [go_sem, t]; omega, rfl⟩
  · have t : decide (4096 < n) = false := by simpa using hb
    go_wp2
    go_ret
    exact ⟨by simp [go_sem, t]; omega, rfl⟩
end Go.Proofs.Ytcbejjkbjompfaa
