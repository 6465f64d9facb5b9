/- Words for memory: a struct in a block of its own. -/
import Derived.Test.YtdkhldebnpmiiaaGreatDoorMedl
import Derived.OneCell
namespace Go.Proofs.YtdkhldebnpmiiaaGreatDoor
open Go.RowKit
set_option linter.unusedVariables false
set_option linter.unusedSimpArgs false

theorem Own.setLow {w : World} {B : Nat} {A : Option Addr} {n c : Nat} {zs : List Int} (h : Own w B A n c zs) {b : Nat} (hb : b < B) (j : Nat) (v : Value) : Own (w.setCell ⟨b, j, none⟩ v) B A n c zs := ⟨ownsRow_setCell_below h.1 hb v, h.2⟩
theorem OwnR.setLow {α : Type} {f : α → List Value} {k : Nat} {T : TypeId} {w : World} {B : Nat} {A : Option Addr} {n c : Nat} {l : List α} (h : OwnR T f k w B A n c l) {b : Nat} (hb : b < B) (j : Nat) (v : Value) : OwnR T f k (w.setCell ⟨b, j, none⟩ v) B A n c l := ⟨ownsRow_setCell_below h.1 hb v, h.2⟩
/-- block g holds the struct's cells cs -/
def At (w : World) (g : Nat) (T : TypeId) (cs : Array Value) : Prop := w.heap[g]? = some (.cells cs T (0, 0))
section
variable {w w' : World} {g : Nat} {T : TypeId} {cs : Array Value}
theorem At.lt (h : At w g T cs) : g < w.heap.size := (Array.getElem?_eq_some_iff.1 h).1
theorem At.cell (h : At w g T cs) (i : Nat) : w.cell? ⟨g, i, none⟩ = cs[i]? := cell_of_row w g i _ _ (0, 0) h
theorem At.frozen (h : At w g T cs) (i : Nat) : w.frozen? ⟨g, i, none⟩ = false := frozen_of_row w g i _ _ h
theorem At.below {B : Nat} (h : At w g T cs) (hb : Below B w w') (hg : g < B) : At w' g T cs := (hb.block g hg).trans h
theorem At.keep (h : At w g T cs) (hb : Below w.heap.size w w') : At w' g T cs := h.below hb h.lt
theorem At.fresh (w : World) (T : TypeId) (cs : Array Value) : At (w.alloc (.cells cs T)) w.heap.size T cs := by
  unfold At World.alloc
  simp
theorem At.alloc (h : At w g T cs) (o : Obj) : At (w.alloc o) g T cs := (Below.heap_alloc w o g h.lt).trans h
theorem At.other {g' : Nat} (h : At w g T cs) (hne : g ≠ g') (i : Nat) (u : Value) : At (w.setCell ⟨g', i, none⟩ u) g T cs := (heap_setCell_other w ⟨g', i, none⟩ g u (fun x => hne x)).trans h
theorem At.set (h : At w g T cs) (i : Nat) (u : Value) : At (w.setCell ⟨g, i, none⟩ u) g T (cs.setIfInBounds i u) := heap_setCell_same w g i _ _ u h
theorem At.fresh1 (w : World) (o : Obj) (T : TypeId) (cs : Array Value) : At ((w.alloc o).alloc (.cells cs T)) (w.heap.size + 1) T cs := by
  have h := At.fresh (w.alloc o) T cs
  rwa [show (w.alloc o).heap.size = w.heap.size + 1 by simp] at h
theorem At.fresh2 (w : World) (o o2 : Obj) (T : TypeId) (cs : Array Value) : At (((w.alloc o).alloc o2).alloc (.cells cs T)) (w.heap.size + 1 + 1) T cs := by
  have h := At.fresh1 (w.alloc o) o2 T cs
  rwa [show (w.alloc o).heap.size = w.heap.size + 1 by simp] at h
end
theorem results_N {fn : Func} {t : Tmp} (h : fn.results = #[.cell t 68]) {tmps : Array Value} {w : World} {g : Nat} {a0 a1 a2 a3 : Value} (hp : tmps.getD t undef = .pointer (some ⟨g, 0, none⟩)) (hs : At w g 68 #[a0, a1, a2, a3]) :
    (results fn tmps).run Tryz.prog w = .ok (.agg #[a0, a1, a2, a3]) w := by
  have d0 : w.cell? ⟨g, 0, none⟩ = some a0 := hs.cell 0
  have d1 : w.cell? ⟨g, 1, none⟩ = some a1 := hs.cell 1
  have d2 : w.cell? ⟨g, 2, none⟩ = some a2 := hs.cell 2
  have d3 : w.cell? ⟨g, 3, none⟩ = some a3 := hs.cell 3
  rw [Array.getD_eq_getD_getElem?] at hp
  simp [results, h, hp, go_sem, d0, d1, d2, d3]
theorem results_Mo {fn : Func} {t : Tmp} (h : fn.results = #[.cell t 107]) {tmps : Array Value} {w : World} {g : Nat} {a0 a1 a2 : Value} (hp : tmps.getD t undef = .pointer (some ⟨g, 0, none⟩)) (hs : At w g 107 #[a0, a1, a2]) :
    (results fn tmps).run Tryz.prog w = .ok (.agg #[a0, a1, a2]) w := by
  have d0 : w.cell? ⟨g, 0, none⟩ = some a0 := hs.cell 0
  have d1 : w.cell? ⟨g, 1, none⟩ = some a1 := hs.cell 1
  have d2 : w.cell? ⟨g, 2, none⟩ = some a2 := hs.cell 2
  rw [Array.getD_eq_getD_getElem?] at hp
  simp [results, h, hp, go_sem, d0, d1, d2]
theorem results_M {fn : Func} {t : Tmp} (h : fn.results = #[.cell t 28]) {tmps : Array Value} {w : World} {g : Nat} {a0 a1 a2 a3 : Value} (hp : tmps.getD t undef = .pointer (some ⟨g, 0, none⟩)) (hs : At w g 28 #[a0, a1, a2, a3]) :
    (results fn tmps).run Tryz.prog w = .ok (.agg #[a0, a1, a2, a3]) w := by
  have d0 : w.cell? ⟨g, 0, none⟩ = some a0 := hs.cell 0
  have d1 : w.cell? ⟨g, 1, none⟩ = some a1 := hs.cell 1
  have d2 : w.cell? ⟨g, 2, none⟩ = some a2 := hs.cell 2
  have d3 : w.cell? ⟨g, 3, none⟩ = some a3 := hs.cell 3
  rw [Array.getD_eq_getD_getElem?] at hp
  simp [results, h, hp, go_sem, d0, d1, d2, d3]
theorem results_S {fn : Func} {t : Tmp} (h : fn.results = #[.cell t 61]) {tmps : Array Value} {w : World} {g : Nat} {a0 a1 a2 a3 a4 a5 a6 a7 : Value} (hp : tmps.getD t undef = .pointer (some ⟨g, 0, none⟩)) (hs : At w g 61 #[a0, a1, a2, a3, a4, a5, a6, a7]) :
    (results fn tmps).run Tryz.prog w = .ok (.agg #[a0, a1, a2, a3, a4, a5, a6, a7]) w := by
  have d0 : w.cell? ⟨g, 0, none⟩ = some a0 := hs.cell 0
  have d1 : w.cell? ⟨g, 1, none⟩ = some a1 := hs.cell 1
  have d2 : w.cell? ⟨g, 2, none⟩ = some a2 := hs.cell 2
  have d3 : w.cell? ⟨g, 3, none⟩ = some a3 := hs.cell 3
  have d4 : w.cell? ⟨g, 4, none⟩ = some a4 := hs.cell 4
  have d5 : w.cell? ⟨g, 5, none⟩ = some a5 := hs.cell 5
  have d6 : w.cell? ⟨g, 6, none⟩ = some a6 := hs.cell 6
  have d7 : w.cell? ⟨g, 7, none⟩ = some a7 := hs.cell 7
  rw [Array.getD_eq_getD_getElem?] at hp
  simp [results, h, hp, go_sem, d0, d1, d2, d3, d4, d5, d6, d7]
theorem results_D {fn : Func} {t : Tmp} (h : fn.results = #[.cell t 59]) {tmps : Array Value} {w : World} {g : Nat} {a0 a1 a2 a3 a4 : Value} (hp : tmps.getD t undef = .pointer (some ⟨g, 0, none⟩)) (hs : At w g 59 #[a0, a1, a2, a3, a4]) :
    (results fn tmps).run Tryz.prog w = .ok (.agg #[a0, a1, a2, a3, a4]) w := by
  have d0 : w.cell? ⟨g, 0, none⟩ = some a0 := hs.cell 0
  have d1 : w.cell? ⟨g, 1, none⟩ = some a1 := hs.cell 1
  have d2 : w.cell? ⟨g, 2, none⟩ = some a2 := hs.cell 2
  have d3 : w.cell? ⟨g, 3, none⟩ = some a3 := hs.cell 3
  have d4 : w.cell? ⟨g, 4, none⟩ = some a4 := hs.cell 4
  rw [Array.getD_eq_getD_getElem?] at hp
  simp [results, h, hp, go_sem, d0, d1, d2, d3, d4]
end Go.Proofs.YtdkhldebnpmiiaaGreatDoor
