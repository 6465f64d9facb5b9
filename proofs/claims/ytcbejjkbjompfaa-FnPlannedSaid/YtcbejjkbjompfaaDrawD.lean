/- Contracts: demands, rounds and slots drawn. -/
import Derived.Test.YtcbejjkbjompfaaDrawX
import Derived.Test.YtcbejjkbjompfaaPlanK
import Derived.Deep.RegionWith
namespace Go.Proofs.Ytcbejjkbjompfaa
open Go.RowKit
set_option linter.unusedVariables false
set_option linter.unusedSimpArgs false

def GotI (w : World) (g : Nat) (A : Option Addr) (n c : Nat) (bs : List Int) (e : Ending) (w' : World) : Prop :=
  ∃ r : Int, e = .returned (.int .i64 r) ∧ (-9223372036854775808 ≤ r ∧ r ≤ 9223372036854775807) ∧ Sd w' g A n c bs ∧ w.grownBy w' (some g)
theorem lit_cell {w w' : World} {g : Nat} {cs : Array Value} {T : TypeId} (hg : (w.alloc (.cells cs T)).grownBy w' (some g)) (hlt : g < w.heap.size) (j : Nat) : w'.cell? ⟨w.heap.size, j, none⟩ = cs[j]? :=
  (World.cell?_of_block (hg.block w.heap.size (by simp) (by simp; omega))).trans (cell_of_row _ _ j cs T (0, 0) (heap_alloc_new w _))
theorem grown_alloc1 (w : World) (o : Obj) (g : Nat) : w.grownBy (w.alloc o) (some g) := World.grownBy_alloc w o _
set_option maxHeartbeats 3200000 in
theorem l16DrawRounds_d (g : Nat) (A : Option Addr) (n c : Nat) (bs : List Int) (w : World) (h : Sd w g A n c bs) :
    Calls Try.prog 14 #[.pointer (some ⟨g, 0, none⟩)] w (GotI w g A n c bs) := by
  go_enter Try.func14, Try.ntmps14
  go_wp2_with fail
  refine (next_d _ _ _ _ _ _ _ h).mono ?_
  rintro e w1 ⟨x, rfl, x0, x1, h1, g1⟩
  have hl := h1.lt
  by_cases hx : x = 0
  · subst hx
    have ba := (Below.refl w1.heap.size w1).alloc (Nat.le_refl _) (.cells #[.int .i64 0, .int .i64 3, .int .i64 16, .int .i64 2] 2)
    have H2 := hide (h1.below ba)
    have G2 := hide (grown_trans g1 (grown_alloc1 w1 (.cells #[.int .i64 0, .int .i64 3, .int .i64 16, .int .i64 2] 2) g))
    clear ba x1
    go_wp2_with fail
    refine (next_d _ _ _ _ _ _ _ H2.out).mono ?_
    rintro e w2 ⟨y, rfl, y0, y1, h2, g2⟩
    have ym : y < 4 := y1 (by omega)
    have lc := lit_cell g2 hl
    have HH := hide h2
    have GG := hide (grown_trans G2.out g2)
    clear y1 h2 g2
    have hy : y = 0 ∨ y = 1 ∨ y = 2 ∨ y = 3 := by omega
    rcases hy with rfl | rfl | rfl | rfl
    all_goals
      have l0 := lc 0
      have l1 := lc 1
      have l2 := lc 2
      have l3 := lc 3
      clear lc
      simp only [List.getElem?_toArray, List.getElem?_cons_zero, List.getElem?_cons_succ] at l0 l1 l2 l3
      go_wp2
      go_ret
      exact ⟨_, rfl, by omega, HH.out, GG.out⟩
  · have f0 : (x == 0) = false := by simpa using hx
    have ba := (Below.refl w1.heap.size w1).alloc (Nat.le_refl _) (.cells #[.int .i64 8, .int .i64 4, .int .i64 8, .int .i64 2, .int .i64 1] 2)
    have H2 := hide (h1.below ba)
    have G2 := hide (grown_trans g1 (grown_alloc1 w1 (.cells #[.int .i64 8, .int .i64 4, .int .i64 8, .int .i64 2, .int .i64 1] 2) g))
    clear ba x1
    go_wp2_with fail
    refine (next_d _ _ _ _ _ _ _ H2.out).mono ?_
    rintro e w2 ⟨y, rfl, y0, y1, h2, g2⟩
    have ym : y < 5 := y1 (by omega)
    have lc := lit_cell g2 hl
    have HH := hide h2
    have GG := hide (grown_trans G2.out g2)
    clear y1 h2 g2
    have hy : y = 0 ∨ y = 1 ∨ y = 2 ∨ y = 3 ∨ y = 4 := by omega
    rcases hy with rfl | rfl | rfl | rfl | rfl
    all_goals
      have l0 := lc 0
      have l1 := lc 1
      have l2 := lc 2
      have l3 := lc 3
      have l4 := lc 4
      clear lc
      simp only [List.getElem?_toArray, List.getElem?_cons_zero, List.getElem?_cons_succ] at l0 l1 l2 l3 l4
      go_wp2
      go_ret
      exact ⟨_, rfl, by omega, HH.out, GG.out⟩
theorem l16DrawSlots_d (g : Nat) (A : Option Addr) (n c : Nat) (bs : List Int) (w : World) (h : Sd w g A n c bs) :
    Calls Try.prog 15 #[.pointer (some ⟨g, 0, none⟩)] w (GotI w g A n c bs) := by
  go_enter Try.func15, Try.ntmps15
  go_wp2_with fail
  refine (next_d _ _ _ _ _ _ _ h).mono ?_
  rintro e w1 ⟨x, rfl, x0, x1, h1, g1⟩
  have hl := h1.lt
  by_cases hx : x = 0
  · subst hx
    have ba := (Below.refl w1.heap.size w1).alloc (Nat.le_refl _) (.cells #[.int .i64 0, .int .i64 16, .int .i64 17] 2)
    have H2 := hide (h1.below ba)
    have G2 := hide (grown_trans g1 (grown_alloc1 w1 (.cells #[.int .i64 0, .int .i64 16, .int .i64 17] 2) g))
    clear ba x1
    go_wp2_with fail
    refine (next_d _ _ _ _ _ _ _ H2.out).mono ?_
    rintro e w2 ⟨y, rfl, y0, y1, h2, g2⟩
    have ym : y < 3 := y1 (by omega)
    have lc := lit_cell g2 hl
    have HH := hide h2
    have GG := hide (grown_trans G2.out g2)
    clear y1 h2 g2
    have hy : y = 0 ∨ y = 1 ∨ y = 2 := by omega
    rcases hy with rfl | rfl | rfl
    all_goals
      have l0 := lc 0
      have l1 := lc 1
      have l2 := lc 2
      clear lc
      simp only [List.getElem?_toArray, List.getElem?_cons_zero, List.getElem?_cons_succ] at l0 l1 l2
      go_wp2
      go_ret
      exact ⟨_, rfl, by omega, HH.out, GG.out⟩
  · have f0 : (x == 0) = false := by simpa using hx
    go_wp2_with fail
    refine (next_d _ _ _ _ _ _ _ h1).mono ?_
    rintro e w2 ⟨y, rfl, y0, y1, h2, g2⟩
    have ym : y < 8 := y1 (by omega)
    go_wp2
    go_ret
    exact ⟨_, rfl, by omega, h2, grown_trans g1 g2⟩
end Go.Proofs.Ytcbejjkbjompfaa
