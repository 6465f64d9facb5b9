/- Contracts of the functions that draw lists of bits, bytes, indices from a source. -/
import Derived.Test.YtdkhldebnpmiiaaGreatDoorZDraw
import Derived.Test.YtdkhldebnpmiiaaGreatDoorZBkA
namespace Go.Proofs.YtdkhldebnpmiiaaGreatDoor
open Go.RowKit
set_option linter.unusedVariables false
set_option linter.unusedSimpArgs false
/-- the code and its source stand -/
def Sd (w : World) (g : Nat) (A : Option Addr) (n c : Nat) (bs : List Int) : Prop := Rd8 w A n c bs ∧ Src w g A n c
section
variable {w w' : World} {A : Option Addr} {n c g : Nat} {bs : List Int}
theorem Sd.step (h : Sd w g A n c bs) (hs : Src w' g A n c) (hg : w.grownBy w' (some g)) : Sd w' g A n c bs := ⟨h.1.grown h.2 hg, hs⟩
theorem Sd.below (h : Sd w g A n c bs) (hb : Below w.heap.size w w') : Sd w' g A n c bs := ⟨h.1.below hb, h.2.below hb⟩
theorem Sd.lt (h : Sd w g A n c bs) : g < w.heap.size := h.2.lt
/-- the code's block lies below B -/
theorem Rd8.under (h : Rd8 w A n c bs) : Under w.heap.size A n := by
  intro b off s hA hn
  obtain ⟨b', o', hA', hb, _⟩ := h.at_ hn
  rw [hA] at hA'
  simp at hA'
  omega
theorem Sd.own {B m d : Nat} {A' : Option Addr} {zs : List Int} (h : Sd w g A n c bs) (hu : Under B A n) (ho : Own w B A' m d zs) (hg : w.grownBy w' (Value.slice A' m d).ownBlock) : Sd w' g A n c bs := by
  refine ⟨?_, h.2.keepOwn ho hg⟩
  obtain ⟨h1, h2, h3, h4, h5⟩ := h.1
  refine ⟨h1, h2, h3, h4, fun hn => ?_⟩
  obtain ⟨b, off, hA, hl, hc⟩ := h.1.at_ hn
  refine ⟨b, off, hA, fun j hj => (World.cell?_of_block (hg.block b hl (fun e => ?_))).trans (hc j hj)⟩
  have := (ho.row.lt b e.symm).1
  have := hu b off _ hA hn
  omega
theorem Own.next {B m d : Nat} {A' : Option Addr} {zs : List Int} (ho : Own w B A' m d zs) (h : Sd w g A n c bs) (hg : w.grownBy w' (some g)) : Own w' B A' m d zs := ho.keepSrc h.2 hg
theorem grown_alloc (w : World) (o : Obj) (r : Option Nat) : w.grownBy (w.alloc o) r := World.grownBy_alloc w o r
end
theorem next_d (g : Nat) (A : Option Addr) (n c : Nat) (bs : List Int) (w : World) (m : Int) (h : Sd w g A n c bs) :
    Calls Tryz.prog 47 #[.pointer (some ⟨g, 0, none⟩), .int .i64 m] w fun e w' => ∃ x, e = .returned (.int .i64 x) ∧ 0 ≤ x ∧ (0 < m → x < m) ∧ Sd w' g A n c bs ∧ w.grownBy w' (some g) :=
  (l01Next_any g A n c bs w m h.1 h.2).mono fun _ _ ⟨x, he, h0, h1, hs, hg⟩ => ⟨x, he, h0, h1, h.step hs hg, hg⟩
end Go.Proofs.YtdkhldebnpmiiaaGreatDoor
