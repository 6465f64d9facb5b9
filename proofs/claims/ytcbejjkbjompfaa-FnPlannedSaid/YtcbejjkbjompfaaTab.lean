/- Words for memory: a table of rows of int64, each row a block of its own. -/
import Derived.Test.YtcbejjkbjompfaaRec
import Derived.Test.YtcbejjkbjompfaaHighs
namespace Go.Proofs.Ytcbejjkbjompfaa
open Go.RowKit
set_option linter.unusedVariables false
set_option linter.unusedSimpArgs false

def rowL (m : Nat) (f : Nat → Int) : List Int := (List.range m).map f
theorem rowL_len (m : Nat) (f : Nat → Int) : (rowL m f).length = m := by simp [rowL]
theorem rowL_nth {m s : Nat} (f : Nat → Int) (h : s < m) : nth (rowL m f) s = f s := by
  rw [nth_eq (by rw [rowL_len]; exact h)]
  simp [rowL]
theorem rowL_set {m s : Nat} (f : Nat → Int) (x : Int) : (rowL m f).set s x = rowL m (fun t => if t = s then x else f t) := by
  apply List.ext_getElem
  · simp [rowL]
  · intro i h1 h2
    simp [rowL, List.getElem_set]
    by_cases e : s = i
    · simp [e]
    · simp [e, Ne.symm e]
theorem rowL_congr {m : Nat} {f g : Nat → Int} (h : ∀ s, s < m → f s = g s) : rowL m f = rowL m g := by
  simp only [rowL]
  exact List.map_congr_left fun s hs => h s (List.mem_range.1 hs)
theorem rowL_rep (m : Nat) (x : Int) : rowL m (fun _ => x) = List.replicate m x := by
  apply List.ext_getElem <;> simp [rowL]
def rowV (m : Nat) (p : Nat × Nat) : Value := .slice (some ⟨p.1, 0, none⟩) m p.2
def hd (hs : List (Nat × Nat)) (r : Nat) : Nat × Nat := hs.getD r (0, 0)
theorem hd_eq {hs : List (Nat × Nat)} {r : Nat} (h : r < hs.length) : hd hs r = hs[r] := by
  rw [hd, List.getD_eq_getElem?_getD, List.getElem?_eq_getElem h]; rfl
theorem hd_mem {hs : List (Nat × Nat)} {r : Nat} (h : r < hs.length) : hd hs r ∈ hs := by rw [hd_eq h]; exact List.getElem_mem h
theorem hd_app_lt {a b : List (Nat × Nat)} {r : Nat} (h : r < a.length) : hd (a ++ b) r = hd a r := by simp [hd, List.getElem?_append_left h]
theorem hd_app_at (a : List (Nat × Nat)) (p : Nat × Nat) : hd (a ++ [p]) a.length = p := by simp [hd]
structure TabH (w : World) (B : Nat) (hs : List (Nat × Nat)) (A : Option Addr) (n c m : Nat) (T : Nat → Nat → Int) : Prop where
  hl : hs.length = n
  out : w.ownsRow B 56 1 (.slice A n c) n (hs.map (rowV m))
  row : ∀ r, r < n → Own w B (some ⟨(hd hs r).1, 0, none⟩) m (hd hs r).2 (rowL m (T r))
  inj : ∀ r s, r < n → s < n → (hd hs r).1 = (hd hs s).1 → r = s
/-- nothing old has turned but the rows of the table -/
structure Tk (w w' : World) (hs : List (Nat × Nat)) : Prop where
  os : w'.os = w.os
  tape : w'.tape = w.tape
  output : w'.output = w.output
  size : w.heap.size ≤ w'.heap.size
  block : ∀ i, i < w.heap.size → (∀ p ∈ hs, p.1 ≠ i) → w'.heap[i]? = w.heap[i]?
theorem Tk.refl (w : World) (hs : List (Nat × Nat)) : Tk w w hs := ⟨rfl, rfl, rfl, Nat.le_refl _, fun _ _ _ => rfl⟩
theorem Tk.trans {a b c : World} {hs : List (Nat × Nat)} (h : Tk a b hs) (k : Tk b c hs) : Tk a c hs :=
  ⟨k.os.trans h.os, k.tape.trans h.tape, k.output.trans h.output, Nat.le_trans h.size k.size, fun i hi hp => (k.block i (Nat.lt_of_lt_of_le hi h.size) hp).trans (h.block i hi hp)⟩
theorem Tk.of_below {w w' : World} {hs : List (Nat × Nat)} (h : Below w.heap.size w w') : Tk w w' hs := ⟨h.os, h.tape, h.output, h.size, fun i hi _ => h.block i hi⟩
theorem Tk.below {w0 w w' : World} {hs : List (Nat × Nat)} (h : Tk w w' hs) (h0 : Below w0.heap.size w0 w) (hp : ∀ p ∈ hs, w0.heap.size ≤ p.1) : Below w0.heap.size w0 w' :=
  ⟨h.os.trans h0.os, h.tape.trans h0.tape, h.output.trans h0.output, Nat.le_trans h0.size h.size, fun i hi => (h.block i (Nat.lt_of_lt_of_le hi h0.size) (fun p hm e => by have := hp p hm; omega)).trans (h0.block i hi)⟩
section
variable {w w' : World} {B : Nat} {hs : List (Nat × Nat)} {A : Option Addr} {n c m : Nat} {T : Nat → Nat → Int}
theorem TabH.base (h : TabH w B hs A n c m T) : ∀ p ∈ hs, B ≤ p.1 ∧ p.1 < w.heap.size := by
  intro p hp
  obtain ⟨r, hr, rfl⟩ := List.getElem_of_mem hp
  have e := hd_eq hr
  rcases (h.row r (by rw [← h.hl]; exact hr)).form with ⟨h0, _⟩ | ⟨g, hg, h1, h2⟩
  · cases h0
  · rw [e] at hg; simp at hg; omega
theorem TabH.outer (h : TabH w B hs A n c m T) (hn : 0 < n) : ∃ g, A = some ⟨g, 0, none⟩ ∧ g < w.heap.size ∧ ∀ r, r < n → w.cell? ⟨g, r, none⟩ = some (.slice (some ⟨(hd hs r).1, 0, none⟩) m (hd hs r).2) := by
  rcases h.out.2 with ⟨hv, h0⟩ | ⟨g, cap, cur, hv, hg, hh, r1, r2, r3, r4⟩
  · omega
  · simp at hv
    obtain ⟨rfl, rfl⟩ := hv
    refine ⟨g, rfl, (Array.getElem?_eq_some_iff.1 hh).1, fun r hr => ?_⟩
    have := h.out.cellAt r (by omega)
    rw [this, List.getElem?_map, List.getElem?_eq_getElem (by rw [h.hl]; exact hr), hd_eq (by rw [h.hl]; exact hr)]
    rfl
theorem TabH.cell (h : TabH w B hs A n c m T) {r s : Nat} (hr : r < n) (hs' : s < m) : w.cell? ⟨(hd hs r).1, s, none⟩ = some (.int .i64 (T r s)) := by
  rw [(h.row r hr).cell hs', rowL_nth _ hs']
theorem TabH.frozen (h : TabH w B hs A n c m T) {r : Nat} (hr : r < n) (s : Nat) : w.frozen? ⟨(hd hs r).1, s, none⟩ = false := (h.row r hr).frozen s
theorem TabH.lt (h : TabH w B hs A n c m T) {r : Nat} (hr : r < n) : (hd hs r).1 < w.heap.size := (h.base _ (hd_mem (by rw [h.hl]; exact hr))).2
theorem TabH.cap (h : TabH w B hs A n c m T) : n ≤ c ∧ c ≤ 9223372036854775807 := by
  rcases h.out.2 with ⟨hv, h0⟩ | ⟨g, cap, cur, hv, hg, hh, r1, r2, _⟩
  · simp at hv; omega
  · simp at hv
    obtain ⟨_, rfl⟩ := hv
    exact ⟨r1, r2⟩
theorem TabH.rcap (h : TabH w B hs A n c m T) {r : Nat} (hr : r < n) : m ≤ (hd hs r).2 ∧ (hd hs r).2 ≤ 9223372036854775807 := (h.row r hr).cap
theorem TabH.below (h : TabH w B hs A n c m T) (hb : Below w.heap.size w w') : TabH w' B hs A n c m T :=
  ⟨h.hl, h.out.kept (grownBy_of_below hb (some w.heap.size)) (by
    cases e : (Value.slice A n c).ownBlock with
    | none => exact .inl rfl
    | some g => right; intro e2; have := (h.out.lt g e).2; simp at e2; omega), fun r hr => (h.row r hr).below hb, h.inj⟩
theorem TabH.congr {T' : Nat → Nat → Int} (h : TabH w B hs A n c m T) (e : ∀ r s, r < n → s < m → T r s = T' r s) : TabH w B hs A n c m T' :=
  ⟨h.hl, h.out, fun r hr => by rw [← rowL_congr (e r · hr)]; exact h.row r hr, h.inj⟩
/-- a slice of another type's elements is not a row of the table -/
theorem row_block_ne {e : TypeId} {k : Nat} {v : Value} {j : Nat} {xs : List Value} {B' : Nat} (h : TabH w B hs A n c m T) (ho : w.ownsRow B' e k v j xs) (hne : e ≠ 2) {r : Nat} (hr : r < n) : v.ownBlock ≠ some (hd hs r).1 := by
  intro e1
  rcases ho.2 with ⟨rfl, _⟩ | ⟨g, cap, cur, rfl, _, hh, _⟩
  · simp [Value.ownBlock] at e1
  · simp [Value.ownBlock] at e1
    subst e1
    rcases (h.row r hr).row.2 with ⟨hv, _⟩ | ⟨g', cap', cur', hv', _, hh', _⟩
    · simp at hv
    · simp at hv'
      obtain ⟨rfl, _⟩ := hv'
      rw [hh] at hh'
      simp at hh'
      exact hne hh'.2
def updT (T : Nat → Nat → Int) (r s : Nat) (x : Int) : Nat → Nat → Int := fun r' s' => if r' = r ∧ s' = s then x else T r' s'
theorem TabH.set (h : TabH w B hs A n c m T) {r s : Nat} (hr : r < n) (hs' : s < m) {x : Int} (h1 : -9223372036854775808 ≤ x) (h2 : x ≤ 9223372036854775807) :
    TabH (w.setCell ⟨(hd hs r).1, s, none⟩ (.int .i64 x)) B hs A n c m (updT T r s x) := by
  have hg := (h.row r hr).set_grown s x
  refine ⟨h.hl, h.out.kept hg ?_, fun r' hr' => ?_, h.inj⟩
  · cases e : (Value.slice A n c).ownBlock with
    | none => exact .inl rfl
    | some g => right; rw [← e]; exact row_block_ne h h.out (by decide) hr
  · by_cases e : r' = r
    · subst e
      have := (h.row r' hr').set s h1 h2
      rw [rowL_set] at this
      rw [show rowL m (updT T r' s x r') = rowL m (fun t => if t = s then x else T r' t) from rowL_congr fun t _ => by simp [updT]]
      exact this
    · have := (h.row r' hr').keepG hg (.inr (by intro e2; simp [Value.ownBlock] at e2; exact e (h.inj _ _ hr' hr e2)))
      rw [show rowL m (updT T r s x r') = rowL m (T r') from rowL_congr fun t _ => by simp [updT, e]]
      exact this
theorem Tk.set (h : TabH w B hs A n c m T) {r : Nat} (hr : r < n) (s : Nat) (u : Value) : Tk w (w.setCell ⟨(hd hs r).1, s, none⟩ u) hs := by
  have hg : w.grownBy (w.setCell ⟨(hd hs r).1, s, none⟩ u) (some (hd hs r).1) := ⟨rfl, rfl, rfl, by simp [World.setCell], fun k _ hk => Below.heap_setCell _ _ _ k (fun e => hk (by rw [e]))⟩
  exact ⟨hg.os, hg.tape, hg.output, hg.size, fun i hi hp => hg.block i hi (by intro e; simp at e; exact hp _ (hd_mem (by rw [h.hl]; exact hr)) e.symm)⟩
/-- a row of records is kept -/
theorem OwnF.keepT {t : TypeId} {k B' j d : Nat} {A' : Option Addr} {vs : List Int} (o : OwnF t k w B' A' j d vs) (ht : t ≠ 2) (h : TabH w B hs A n c m T) (hk : Tk w w' hs) : OwnF t k w' B' A' j d vs := by
  refine ⟨⟨o.1.1, ?_⟩, o.2⟩
  rcases o.1.2 with h1 | ⟨g, cap, cur, hv, hg, hh, r⟩
  · exact .inl h1
  · refine .inr ⟨g, cap, cur, hv, hg, ?_, r⟩
    rw [hk.block g (Array.getElem?_eq_some_iff.1 hh).1 ?_]
    · exact hh
    · intro p hp e
      obtain ⟨q, hq, rfl⟩ := List.getElem_of_mem hp
      have := row_block_ne h o.1 ht (r := q) (by rw [← h.hl]; exact hq)
      rw [hd_eq hq, hv] at this
      exact this (by simp [Value.ownBlock, e])
end
end Go.Proofs.Ytcbejjkbjompfaa
