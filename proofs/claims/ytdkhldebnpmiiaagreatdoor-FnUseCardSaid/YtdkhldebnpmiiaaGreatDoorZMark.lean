/- Contracts: the law's own marks in a schedule: only the schedule's own rows turn. -/
import Derived.Test.YtdkhldebnpmiiaaGreatDoorZBkH
import Derived.Deep.RegionHeld3
import Derived.IntWalk
import Derived.Laws.IdiomStrings
namespace Go.Proofs.YtdkhldebnpmiiaaGreatDoor
open Go.RowKit
set_option linter.unusedVariables false
set_option linter.unusedSimpArgs false
/-- old blocks outside of B .. B2 stay -/
structure Btw (B B2 : Nat) (w w' : World) : Prop where
  os : w'.os = w.os
  tape : w'.tape = w.tape
  output : w'.output = w.output
  size : w.heap.size ≤ w'.heap.size
  block : ∀ i, i < w.heap.size → (i < B ∨ B2 ≤ i) → w'.heap[i]? = w.heap[i]?
/-- blocks of type T stay -/
def TyK (T : TypeId) (w w' : World) : Prop := ∀ (g : Nat) (cs : Array Value) (fr : Nat × Nat), w.heap[g]? = some (.cells cs T fr) → w'.heap[g]? = w.heap[g]?
/-- a row of the call's own, whatever it holds -/
def RawO (T : TypeId) (k : Nat) (w : World) (B : Nat) (A : Option Addr) (n c : Nat) : Prop := ∃ xs, w.ownsRow B T k (.slice A n c) n xs
section
variable {B B2 k n c g : Nat} {w w' w'' : World} {T U : TypeId} {A : Option Addr}
theorem Btw.refl (B B2 : Nat) (w : World) : Btw B B2 w w := ⟨rfl, rfl, rfl, Nat.le_refl _, fun _ _ _ => rfl⟩
theorem Btw.trans (h : Btw B B2 w w') (k : Btw B B2 w' w'') : Btw B B2 w w'' := ⟨k.os.trans h.os, k.tape.trans h.tape, k.output.trans h.output, Nat.le_trans h.size k.size, fun i hi hr => (k.block i (Nat.lt_of_lt_of_le hi h.size) hr).trans (h.block i hi hr)⟩
theorem Btw.of (h : Below w.heap.size w w') : Btw B B2 w w' := ⟨h.os, h.tape, h.output, h.size, fun i hi _ => h.block i hi⟩
theorem Btw.set (h : Btw B B2 w w') {p : Nat} (h1 : B ≤ g) (h2 : g < B2) (v : Value) : Btw B B2 w (w'.setCell ⟨g, p, none⟩ v) :=
  h.trans ⟨rfl, rfl, rfl, by simp, fun i hi hr => heap_setCell_other w' ⟨g, p, none⟩ i v (fun e => by simp at e; omega)⟩
theorem Btw.grown (h : Btw B B2 w w') {row : Option Nat} (hg : w'.grownBy w'' row) (hr : ∀ g, row = some g → B ≤ g ∧ g < B2) : Btw B B2 w w'' :=
  h.trans ⟨hg.os, hg.tape, hg.output, hg.size, fun i hi ho => hg.block i hi (fun e => by have := hr i e.symm; omega)⟩
theorem TyK.refl (T : TypeId) (w : World) : TyK T w w := fun _ _ _ _ => rfl
theorem TyK.trans (h : TyK T w w') (k : TyK T w' w'') : TyK T w w'' := fun g cs fr hg => (k g cs fr ((h g cs fr hg).trans hg)).trans (h g cs fr hg)
theorem TyK.of (h : Below w.heap.size w w') : TyK T w w' := fun g cs fr hg => h.block g (Array.getElem?_eq_some_iff.1 hg).1
theorem TyK.set {xs : List Value} (hr : w.ownsRow B U k (.slice (some ⟨g, 0, none⟩) n c) n xs) (hT : T ≠ U) (p : Nat) (v : Value) : TyK T w (w.setCell ⟨g, p, none⟩ v) := fun i cs fr hi => by
  refine heap_setCell_other w ⟨g, p, none⟩ i v (fun e => ?_)
  simp at e
  subst e
  rcases hr.2 with ⟨h, _⟩ | ⟨g', cap, cur, h, _, hh, _⟩
  · cases h
  · simp at h
    obtain ⟨rfl, _⟩ := h
    rw [hi] at hh
    simp at hh
    exact hT hh.2.1
theorem TyK.row {xs : List Value} {v : Value} (h : TyK T w w') (hs : w.heap.size ≤ w'.heap.size) (hr : w.ownsRow B T k v n xs) : w'.ownsRow B T k v n xs := by
  refine ⟨hr.1, ?_⟩
  rcases hr.2 with h1 | ⟨g, cap, cur, h1, h2, h3, h4⟩
  · exact .inl h1
  · exact .inr ⟨g, cap, cur, h1, h2, (h g cur _ h3).trans h3, h4⟩
theorem TyK.grown {xs : List Value} {v : Value} (hr : w.ownsRow B U k v n xs) (hT : T ≠ U) (hg : w.grownBy w' v.ownBlock) : TyK T w w' := fun i cs fr hi => by
  refine hg.block i (Array.getElem?_eq_some_iff.1 hi).1 (fun e => ?_)
  rcases hr.2 with ⟨h, _⟩ | ⟨g', cap, cur, h, _, hh, _⟩
  · rw [h] at e; simp [Value.ownBlock] at e
  · rw [h] at e
    simp [Value.ownBlock] at e
    subst e
    rw [hi] at hh
    simp at hh
    exact hT hh.2.1
theorem RawO.set (h : RawO T k w B (some ⟨g, 0, none⟩) n c) (p : Nat) (v : Value) : RawO T k (w.setCell ⟨g, p, none⟩ v) B (some ⟨g, 0, none⟩) n c := by
  obtain ⟨xs, h⟩ := h
  exact ⟨_, (h.stored p v).1⟩
theorem RawO.below (h : RawO T k w B A n c) (hb : Below w.heap.size w w') : RawO T k w' B A n c := by
  obtain ⟨xs, h⟩ := h
  refine ⟨xs, h.1, ?_⟩
  rcases h.2 with h1 | ⟨g, cap, cur, h1, h2, h3, h4⟩
  · exact .inl h1
  · exact .inr ⟨g, cap, cur, h1, h2, (hb.block g (Array.getElem?_eq_some_iff.1 h3).1).trans h3, h4⟩
theorem RawO.cell (h : RawO T k w B (some ⟨g, 0, none⟩) n c) {p : Nat} (hp : p < n * k) : ∃ v, w.cell? ⟨g, p, none⟩ = some v := by
  obtain ⟨xs, h⟩ := h
  have hl : p < xs.length := by rw [h.1]; exact hp
  exact ⟨_, (h.cellAt p hp).trans (List.getElem?_eq_getElem hl)⟩
theorem RawO.frozen (h : RawO T k w B (some ⟨g, 0, none⟩) n c) (p : Nat) : w.frozen? ⟨g, p, none⟩ = false := by
  obtain ⟨xs, h⟩ := h
  exact h.frozenAt p
theorem RawO.form (h : RawO T k w B A n c) (hn : 0 < n) : ∃ g, A = some ⟨g, 0, none⟩ ∧ B ≤ g ∧ g < w.heap.size := by
  obtain ⟨xs, h⟩ := h
  rcases h.2 with ⟨_, h0⟩ | ⟨g, cap, cur, h1, h2, h3, _⟩
  · omega
  · simp at h1
    exact ⟨g, h1.1, h2, (Array.getElem?_eq_some_iff.1 h3).1⟩
theorem RawO.cap (h : RawO T k w B A n c) : n ≤ c ∧ c ≤ 9223372036854775807 := by
  obtain ⟨xs, h⟩ := h
  rcases h.2 with ⟨h1, h0⟩ | ⟨g, cap, cur, h1, h2, h3, h4, h5, _⟩
  · simp at h1; omega
  · simp at h1
    obtain ⟨_, rfl⟩ := h1
    exact ⟨h4, h5⟩
theorem RawO.of {α : Type} {f : α → List Value} {l : List α} (h : OwnR T f k w B A n c l) : RawO T k w B A n c := ⟨_, h.1⟩
theorem Own.raw {zs : List Int} (h : Own w B A n c zs) : RawO 2 1 w B A n c := ⟨_, h.1⟩
end
/-- a slice of integers within the schedule's own blocks -/
def NxO (w : World) (B B2 : Nat) (x : Mod) : Prop := RawO 2 1 w B x.A x.n x.c ∧ (∀ g, x.A = some ⟨g, 0, none⟩ → g < B2) ∧ x.n ≤ 1048576
/-- a row of modes with such slices -/
def MsO (w : World) (B B2 : Nat) (A : Option Addr) (n c : Nat) : Prop := ∃ l : List Mod, OwnR 107 Mod.v 3 w B A n c l ∧ ∀ x ∈ l, NxO w B B2 x
section
variable {B B2 n c g k : Nat} {w w' : World} {A : Option Addr} {x y : Mod} {T : TypeId}
theorem MsO.below (h : MsO w B B2 A n c) (hb : Below w.heap.size w w') : MsO w' B B2 A n c := by
  obtain ⟨l, h1, h2⟩ := h
  exact ⟨l, h1.below hb, fun x hx => ⟨(h2 x hx).1.below hb, (h2 x hx).2⟩⟩
end
section
variable {α : Type} {f : α → List Value} {k : Nat} {T : TypeId} {w : World} {n c B g i : Nat} {l : List α}
theorem OwnR.put1 {x x' : α} (h : OwnR T f k w B (some ⟨g, 0, none⟩) n c l) (hi : l[i]? = some x) (t : Nat) (ht : t < k) (v : Value) (hx : f x' = (f x).set t v) : OwnR T f k (w.setCell ⟨g, i * k + t, none⟩ v) B (some ⟨g, 0, none⟩) n c (l.set i x') := by
  refine ⟨?_, by rw [List.length_set]; exact h.len, h.2.2⟩
  have s := (h.1.stored (i * k + t) v).1
  have hk := h.2.2
  have hil := get_lt hi
  have e : (l.flatMap f).set (i * k + t) v = (l.set i x').flatMap f := by
    apply List.ext_getElem?
    intro q
    have hk0 : 0 < k := by omega
    have hq : q = q / k * k + q % k := by rw [Nat.mul_comm]; exact (Nat.div_add_mod q k).symm
    have hm : q % k < k := Nat.mod_lt _ hk0
    have eR := flat_get hk (l.set i x') (q / k) (q % k) hm
    have eL := flat_get hk l (q / k) (q % k) hm
    rw [← hq] at eR eL
    rw [eR]
    by_cases h1 : i * k + t = q
    · have hd : q / k = i := by rw [← h1, Nat.mul_comm, Nat.mul_add_div hk0, Nat.div_eq_of_lt ht]; omega
      have hmm : q % k = t := by rw [← h1, Nat.mul_comm, Nat.mul_add_mod, Nat.mod_eq_of_lt ht]
      have hlen : i * k + t < (l.flatMap f).length := by
        rw [flat_len hk]
        have : (i + 1) * k ≤ l.length * k := Nat.mul_le_mul_right k hil
        rw [Nat.succ_mul] at this
        omega
      rw [h1, List.getElem?_set_self (by omega), hd, List.getElem?_set_self hil, hmm]
      show _ = (f x')[t]?
      rw [hx, List.getElem?_set_self (by rw [hk]; exact ht)]
    · rw [List.getElem?_set_ne h1, eL]
      by_cases h2 : i = q / k
      · rw [← h2, List.getElem?_set_self hil, hi]
        show (f x)[q % k]? = (f x')[q % k]?
        rw [hx, List.getElem?_set_ne (by intro e2; apply h1; rw [hq, ← h2, ← e2])]
      · rw [List.getElem?_set_ne h2]
  rw [e] at s
  exact s
theorem OwnR.at0 (h : OwnR T f k w B (some ⟨g, 0, none⟩) n c l) {i : Nat} (hi : i < n) : ∃ x, l[i]? = some x ∧ ∀ t v, (f x)[t]? = some v → w.cell? ⟨g, i * k + t, none⟩ = some v := by
  obtain ⟨b, off, x, hA, hb, hx, hc⟩ := h.rd.at_ hi
  simp at hA
  obtain ⟨rfl, rfl⟩ := hA
  exact ⟨x, hx, fun t v hv => by have := hc t v hv; rwa [Nat.zero_add] at this⟩
end
end Go.Proofs.YtdkhldebnpmiiaaGreatDoor
