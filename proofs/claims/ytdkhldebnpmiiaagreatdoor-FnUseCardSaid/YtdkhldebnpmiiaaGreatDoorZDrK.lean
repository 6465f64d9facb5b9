/- Stores past rows that a call owns. -/
import Derived.Test.YtdkhldebnpmiiaaGreatDoorZDrS
namespace Go.Proofs.YtdkhldebnpmiiaaGreatDoor
open Go.RowKit
set_option linter.unusedVariables false
section
variable {w w' : World} {A : Option Addr} {n c B b : Nat}
theorem RdR.setLow {α : Type} {f : α → List Value} {k : Nat} {l : List α} (h : RdR f k w A n c l) (hh : HiA B A n) (hb : b < B) (i : Nat) (u : Value) : RdR f k (w.setCell ⟨b, i, none⟩ u) A n c l := by
  refine ⟨h.1, h.2.1, h.2.2.1, h.2.2.2.1, fun hn => ?_⟩
  obtain ⟨b', off, hA, hl, hc⟩ := h.2.2.2.2 hn
  have := hh hn b' off _ hA
  exact ⟨b', off, hA, by simpa using hl, fun j x hx t v hv => (World.cell?_setCell_far _ ⟨b, i, none⟩ ⟨b', off + j * k + t, none⟩ u (by show b ≠ b'; omega)).trans (hc j x hx t v hv)⟩
theorem Rd.setLow {zs : List Int} (h : Rd w A n c zs) (hh : HiA B A n) (hb : b < B) (i : Nat) (u : Value) : Rd (w.setCell ⟨b, i, none⟩ u) A n c zs := by
  refine ⟨h.1, h.2.1, h.2.2.1, h.2.2.2.1, fun hn => ?_⟩
  obtain ⟨b', off, hA, hl, hc⟩ := h.at_ hn
  have := hh hn b' off _ hA
  exact ⟨b', off, hA, fun j hj => (World.cell?_setCell_far _ ⟨b, i, none⟩ ⟨b', off + j, none⟩ u (by show b ≠ b'; omega)).trans (hc j hj)⟩
theorem RdMsH.setLow {ms : List PMod} (h : RdMsH w B A n c ms) (hb : b < B) (i : Nat) (u : Value) : RdMsH (w.setCell ⟨b, i, none⟩ u) B A n c ms := by
  obtain ⟨l, h1, h0, h2, h3⟩ := h
  exact ⟨l, h1.setLow h0 hb i u, h0, fun x hx => ⟨(h2 x hx).1.setLow (h2 x hx).2 hb i u, (h2 x hx).2⟩, h3⟩
theorem RdH.setLow {v : Value} {m : Mdl} (h : RdH w B v m) (hb : b < B) (i : Nat) (u : Value) : RdH (w.setCell ⟨b, i, none⟩ u) B v m := by
  obtain ⟨A1, n1, c1, A2, n2, c2, A3, n3, c3, rfl, h1, h2, h3⟩ := h
  exact ⟨A1, n1, c1, A2, n2, c2, A3, n3, c3, rfl, ⟨h1.1.setLow h1.2 hb i u, h1.2⟩, h2.setLow hb i u, h3.1.setLow h3.2 hb i u, h3.2⟩
theorem flat_take {α : Type} {f : α → List Value} {k : Nat} (hk : ∀ x, (f x).length = k) {l : List α} {m : Nat} (hm : m ≤ l.length) : (l.flatMap f).take (m * k) = (l.take m).flatMap f := by
  conv => lhs; rw [← List.take_append_drop m l, List.flatMap_append]
  rw [List.take_left' (by rw [flat_len hk, List.length_take]; congr 1; omega)]
theorem OwnR.take {α : Type} {f : α → List Value} {k : Nat} {T : TypeId} {l : List α} (h : OwnR T f k w B A n c l) {m : Nat} (hm : m ≤ n) : OwnR T f k w B A m c (l.take m) := by
  refine ⟨⟨?_, ?_⟩, by rw [List.length_take, h.2.1]; omega, h.2.2⟩
  · have : (l.take m).length = m := by rw [List.length_take, h.2.1]; omega
    rw [flat_len h.2.2, this]
  · rcases h.1.2 with ⟨hv, hn⟩ | ⟨g, cap, cur, hv, h1, h2, h3, h4, h5, h6⟩
    · subst hn
      obtain rfl : m = 0 := by omega
      exact .inl ⟨hv, rfl⟩
    · refine .inr ⟨g, cap, cur, ?_, h1, h2, by omega, h4, h5, ?_⟩
      · simp at hv ⊢
        exact ⟨hv.1, hv.2⟩
      · have e : cur.toList.take (m * k) = (cur.toList.take (n * k)).take (m * k) := by
          rw [List.take_take]
          congr 1
          have := Nat.mul_le_mul_right k hm
          omega
        rw [e, h6, flat_take h.2.2 (by rw [h.2.1]; exact hm)]
theorem MdO.setLow {v : Value} {m : Mdl} (h : MdO w B v m) (hb : b < B) (i : Nat) (u : Value) : MdO (w.setCell ⟨b, i, none⟩ u) B v m := by
  obtain ⟨A1, n1, c1, A2, n2, c2, A3, n3, c3, hv, h1, ⟨l, h2, h2', h2''⟩, h3, h4⟩ := h
  exact ⟨A1, n1, c1, A2, n2, c2, A3, n3, c3, hv, h1.setLow hb i u, ⟨l, h2.setLow hb i u, fun x hx => (h2' x hx).setLow hb i u, h2''⟩, h3.setLow hb i u, h4⟩
theorem MdO.mono {B' : Nat} {v : Value} {m : Mdl} (h : MdO w B v m) (hB : B' ≤ B) : MdO w B' v m := by
  obtain ⟨A1, n1, c1, A2, n2, c2, A3, n3, c3, hv, h1, ⟨l, h2, h2', h2''⟩, h3, h4⟩ := h
  exact ⟨A1, n1, c1, A2, n2, c2, A3, n3, c3, hv, h1.mono hB, ⟨l, h2.mono hB, fun x hx => (h2' x hx).mono hB, h2''⟩, h3.mono hB, h4⟩
theorem MdO.below {v : Value} {m : Mdl} (h : MdO w B v m) (hb : Below w.heap.size w w') : MdO w' B v m := by
  obtain ⟨A1, n1, c1, A2, n2, c2, A3, n3, c3, hv, h1, ⟨l, h2, h2', h2''⟩, h3, h4⟩ := h
  exact ⟨A1, n1, c1, A2, n2, c2, A3, n3, c3, hv, h1.below hb, ⟨l, h2.below hb, fun x hx => (h2' x hx).below hb, h2''⟩, h3.below hb, h4⟩
theorem OwnR.setAt {α : Type} {f : α → List Value} {k G : Nat} {T T2 : TypeId} {X : Array Value} {l : List α} (h : OwnR T2 f k w B A n c l) (hs : At w G T X) (hT : T ≠ T2) (i : Nat) (u : Value) : OwnR T2 f k (w.setCell ⟨G, i, none⟩ u) B A n c l := h.keepG (grown_set w G i u) (.inr (fun e => by
    rcases h.1.2 with ⟨hv, _⟩ | ⟨g', cap, cur, hv, _, hh, _⟩
    · rw [hv] at e; simp [Value.ownBlock] at e
    · rw [hv] at e
      simp [Value.ownBlock] at e
      subst e
      unfold At at hs
      rw [hs] at hh
      simp at hh
      exact hT hh.2))
theorem Own.setAt {G : Nat} {T : TypeId} {X : Array Value} {zs : List Int} (h : Own w B A n c zs) (hs : At w G T X) (hT : T ≠ 2) (i : Nat) (u : Value) : Own (w.setCell ⟨G, i, none⟩ u) B A n c zs := h.keepG (grown_set w G i u) (.inr (fun e => by
    rcases h.1.2 with ⟨hv, _⟩ | ⟨g', cap, cur, hv, _, hh, _⟩
    · rw [hv] at e; simp [Value.ownBlock] at e
    · rw [hv] at e
      simp [Value.ownBlock] at e
      subst e
      unfold At at hs
      rw [hs] at hh
      simp at hh
      exact hT hh.2))
theorem Ml.setAt {H G : Nat} {T : TypeId} {X : Array Value} {l : List Mod} (h : Ml B H A n c l w) (hs : At w G T X) (hT : T ≠ 107) (hT' : T ≠ 2) (i : Nat) (u : Value) : Ml B H A n c l (w.setCell ⟨G, i, none⟩ u) :=
  ⟨h.row.setAt hs hT i u, fun x hx => (h.nx x hx).setAt hs hT' i u, h.lo, h.ap, h.len⟩
end
theorem lit_own2 (w : World) (o : Obj) {B : Nat} {v : Int} (hB : B ≤ w.heap.size) (h1 : -9223372036854775808 ≤ v) (h2 : v ≤ 9223372036854775807) : Own ((w.alloc o).alloc (.cells #[.int .i64 v] 2)) B (some ⟨w.heap.size + 1, 0, none⟩) 1 1 [v] := by
  have h := lit_own (w.alloc o) (B := B) (v := v) (by simp; omega) h1 h2
  rwa [show (w.alloc o).heap.size = w.heap.size + 1 by simp] at h
end Go.Proofs.YtdkhldebnpmiiaaGreatDoor
