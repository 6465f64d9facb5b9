/- An argument of the type laws.Medl opened: how it lies in memory. -/
import Derived.Test.YtdkhldebnpmiiaaGreatDoorBkA
import Derived.Test.YtdkhldebnpmiiaaGreatDoorFacts
import Derived.OpenShut
import Derived.Lib.SmallJoins
import Derived.Deep.Slices
import Derived.ChangeSlices
namespace Go.Proofs.YtdkhldebnpmiiaaGreatDoor
open Go.ChangeShapes Go.WideShapes Go.ChangeAt Go.RowKit Go.Joins Go.Deep
set_option linter.unusedVariables false
set_option linter.unusedSimpArgs false

section
variable {H : Type} {enc : TypeId × Value → H} {W : World} {base : Nat} {held : Bool}
theorem c2 : Tryz.prog.cellsOf 2 = 1 := by kernel_rfl
theorem c9 : Tryz.prog.cellsOf 9 = 1 := by kernel_rfl
theorem c4 : Tryz.prog.cellsOf 4 = 1 := by kernel_rfl
theorem c40 : Tryz.prog.cellsOf 40 = 1 := by kernel_rfl
theorem cN : Tryz.prog.cellsOf 102 = 4 := by kernel_rfl
theorem cMo : Tryz.prog.cellsOf 105 = 3 := by kernel_rfl
theorem cS : Tryz.prog.cellsOf 112 = 8 := by kernel_rfl
theorem cD : Tryz.prog.cellsOf 110 = 5 := by kernel_rfl
theorem rdR_open {α : Type} {f : α → List Value} {k : Nat} {t e : TypeId} {fuel : Nat} {cs : List Value} {X : DataW H × List MemPlace} (ht : Tryz.prog.underlying t = some (.slice e)) (hc : Tryz.prog.cellsOf e = k) (hk : ∀ x, (f x).length = k) (hk0 : 0 < k) (Q : α → Prop)
    (elem : ∀ n cs Y, DataW.trod enc Tryz.prog W base (fun _ => true) held n e cs = some Y → ∃ x, cs = f x ∧ Q x)
    (h : DataW.trod enc Tryz.prog W base (fun _ => true) held fuel t cs = some X) : ∃ A n c l, cs = [.slice A n c] ∧ RdR f k W A n c l ∧ ∀ x ∈ l, Q x := by
  rcases open_slice ht h with ⟨rfl, _⟩ | ⟨a, len, cap, m, n, D, Pl, rfl, hb, hl, hm, hmm, _, hx⟩
  · exact ⟨none, 0, 0, [], rfl, RdR.nil W, fun x hx => by cases hx⟩
  have hlm : len ≤ m := by rw [hmm]; simpa using hl
  have hex : ∀ i, i < len → ∃ x, Q x ∧ ∀ j, j < k → W.cell? (a.add (i * k + j)) = (f x)[j]? := fun i hi => by
    obtain ⟨cs', h1, h2⟩ := hx i (by omega)
    obtain ⟨x, rfl, hq⟩ := elem _ _ _ h2
    refine ⟨x, hq, fun j hj => ?_⟩
    have := (World.cells?_some h1).2.2 j (by rw [hc]; exact hj)
    rw [hc, add_add] at this
    exact this
  have hall : ∀ m, m ≤ len → ∃ l : List α, l.length = m ∧ (∀ x ∈ l, Q x) ∧ ∀ i x, l[i]? = some x → ∀ j, j < k → W.cell? (a.add (i * k + j)) = (f x)[j]? := by
    intro m
    induction m with
    | zero => exact fun _ => ⟨[], rfl, fun x hx => (by cases hx), fun i x hx => (by simp at hx)⟩
    | succ m ih =>
      intro hm
      obtain ⟨l, e1, e2, e3⟩ := ih (by omega)
      obtain ⟨x, q, hj⟩ := hex m (by omega)
      refine ⟨l ++ [x], by simp [e1], fun y hy => ?_, fun i y hy => ?_⟩
      · rcases List.mem_append.1 hy with h | h
        · exact e2 y h
        · simp at h; subst h; exact q
      · rw [List.getElem?_append] at hy
        split at hy
        · exact e3 i y hy
        · rename_i hge
          have : i = m := by
            have := (List.getElem?_eq_some_iff.1 hy).1
            simp at this
            omega
          subst this
          rw [e1] at hy
          simp at hy
          subst hy
          exact hj
  obtain ⟨l, e1, e2, e3⟩ := hall len (Nat.le_refl _)
  refine ⟨some a, len, cap, l, rfl, ⟨e1, hl, hm, (by intro h; cases h), fun hn => ?_⟩, e2⟩
  obtain ⟨b, off, spot⟩ := a
  have hx0 : l[0]? = some l[0] := List.getElem?_eq_getElem (by omega)
  have h00 := e3 0 _ hx0 0 hk0
  rw [List.getElem?_eq_getElem (by rw [hk]; exact hk0)] at h00
  have hspot : spot = none := by simpa [Addr.add] using World.cell?_spot h00
  subst hspot
  have hadd : ∀ p, (⟨b, off, none⟩ : Addr).add p = ⟨b, off + p, none⟩ := fun p => by
    unfold Addr.add
    split
    · rename_i h0
      subst h0
      rfl
    · rfl
  refine ⟨b, off, rfl, ?_, fun i x hx j v hv => ?_⟩
  · rw [hadd] at h00
    exact World.block_lt_of_cell? W _ h00
  · have hj : j < k := by rw [← hk x]; exact (List.getElem?_eq_some_iff.1 hv).1
    have := e3 i x hx j hj
    rw [hadd, hv, ← Nat.add_assoc] at this
    exact this
set_option maxRecDepth 100000 in
theorem nod_open (n : Nat) (cs : List Value) (Y : DataW H × List MemPlace) (h : DataW.trod enc Tryz.prog W base (fun _ => true) held n 102 cs = some Y) : ∃ x, cs = Nod.v x ∧ x.nm.size ≤ 9223372036854775807 := by
  obtain ⟨xs, m, _, _, hl, hlen, hf⟩ := DataW.trod_struct Tryz.underlying102 h
  rw [cN] at hl
  match cs, hl with
  | [v0, v1, v2, v3], _ =>
    have hx : ∀ i, i < 4 → ∃ y, xs[i]? = some y := fun i hi => ⟨xs[i]'(by rw [hlen]; exact hi), List.getElem?_eq_getElem _⟩
    obtain ⟨y0, e0⟩ := hx 0 (by decide)
    obtain ⟨y1, e1⟩ := hx 1 (by decide)
    obtain ⟨y2, e2⟩ := hx 2 (by decide)
    obtain ⟨y3, e3⟩ := hx 3 (by decide)
    have f0 := hf 0 _ rfl
    have f1 := hf 1 _ rfl
    have f2 := hf 2 _ rfl
    have f3 := hf 3 _ rfl
    simp [e0, e1, e2, e3, c2, c9, c4] at f0 f1 f2 f3
    obtain ⟨a, g0, _⟩ := DataW.trod_int Tryz.underlying2 f0
    obtain ⟨b, g1, _, hb⟩ := DataW.trod_string Tryz.underlying9 f1
    obtain ⟨c, g2, _⟩ := DataW.trod_int Tryz.underlying2 f2
    obtain ⟨d, g3, _⟩ := DataW.trod_bool Tryz.underlying4 f3
    simp at g0 g1 g2 g3
    subst g0 g1 g2 g3
    exact ⟨⟨a, b, c, d⟩, rfl, hb⟩
theorem int_row_open {n : Nat} {v : Value} {Y : DataW H × List MemPlace} (h : DataW.trod enc Tryz.prog W base (fun _ => true) held n 40 [v] = some Y) : ∃ A n c zs, v = .slice A n c ∧ Rd W A n c zs := by
  rcases open_ints Tryz.underlying40 Tryz.underlying2 (by kernel_rfl) h with ⟨hcs, _⟩ | ⟨x, l, c, zs, hcs, _, hl, hm, hz, _, hcell, hwz⟩
  · simp at hcs
    exact ⟨none, 0, 0, [], hcs, Rd.nil W⟩
  · simp at hcs
    exact ⟨some x, l, c, _, hcs, rd_of_isRow (.inr ⟨x, rfl, hl, hm, by simpa using hz, hcell, hwz⟩)⟩
set_option maxRecDepth 100000 in
theorem mod_open (n : Nat) (cs : List Value) (Y : DataW H × List MemPlace) (h : DataW.trod enc Tryz.prog W base (fun _ => true) held n 105 cs = some Y) : ∃ x, cs = Mod.v x ∧ Rd W x.A x.n x.c x.nx := by
  obtain ⟨xs, m, _, _, hl, hlen, hf⟩ := DataW.trod_struct Tryz.underlying105 h
  rw [cMo] at hl
  match cs, hl with
  | [v0, v1, v2], _ =>
    have hx : ∀ i, i < 3 → ∃ y, xs[i]? = some y := fun i hi => ⟨xs[i]'(by rw [hlen]; exact hi), List.getElem?_eq_getElem _⟩
    obtain ⟨y0, e0⟩ := hx 0 (by decide)
    obtain ⟨y1, e1⟩ := hx 1 (by decide)
    obtain ⟨y2, e2⟩ := hx 2 (by decide)
    have f0 := hf 0 _ rfl
    have f1 := hf 1 _ rfl
    have f2 := hf 2 _ rfl
    simp [e0, e1, e2, c2, c40] at f0 f1 f2
    obtain ⟨a, g0, _⟩ := DataW.trod_int Tryz.underlying2 f0
    obtain ⟨b, g1, _⟩ := DataW.trod_int Tryz.underlying2 f1
    obtain ⟨A, k, c, zs, rfl, hr⟩ := int_row_open f2
    simp at g0 g1
    subst g0 g1
    exact ⟨⟨a, b, A, k, c, zs⟩, rfl, hr⟩
set_option maxRecDepth 100000 in
theorem slt_open (n : Nat) (cs : List Value) (Y : DataW H × List MemPlace) (h : DataW.trod enc Tryz.prog W base (fun _ => true) held n 112 cs = some Y) : ∃ x, cs = Slt.v x ∧ True := by
  obtain ⟨xs, m, _, _, hl, hlen, hf⟩ := DataW.trod_struct Tryz.underlying112 h
  rw [cS] at hl
  match cs, hl with
  | [v0, v1, v2, v3, v4, v5, v6, v7], _ =>
    have hx : ∀ i, i < 4 → ∃ y, xs[i]? = some y := fun i hi => ⟨xs[i]'(by rw [hlen]; exact hi), List.getElem?_eq_getElem _⟩
    obtain ⟨y0, e0⟩ := hx 0 (by decide)
    obtain ⟨y1, e1⟩ := hx 1 (by decide)
    obtain ⟨y2, e2⟩ := hx 2 (by decide)
    obtain ⟨y3, e3⟩ := hx 3 (by decide)
    have f0 := hf 0 _ rfl
    have f1 := hf 1 _ rfl
    have f2 := hf 2 _ rfl
    have f3 := hf 3 _ rfl
    simp [e0, e1, e2, e3, c2, cD] at f0 f1 f2 f3
    obtain ⟨a, g0, _⟩ := DataW.trod_int Tryz.underlying2 f0
    obtain ⟨b, g1, _⟩ := DataW.trod_int Tryz.underlying2 f1
    obtain ⟨c, g2, _⟩ := DataW.trod_int Tryz.underlying2 f2
    simp at g0 g1 g2
    subst g0 g1 g2
    obtain ⟨ys, m', _, _, hl', hlen', hf'⟩ := DataW.trod_struct Tryz.underlying110 f3
    have hy : ∀ i, i < 5 → ∃ y, ys[i]? = some y := fun i hi => ⟨ys[i]'(by rw [hlen']; exact hi), List.getElem?_eq_getElem _⟩
    obtain ⟨z0, q0⟩ := hy 0 (by decide)
    obtain ⟨z1, q1⟩ := hy 1 (by decide)
    obtain ⟨z2, q2⟩ := hy 2 (by decide)
    obtain ⟨z3, q3⟩ := hy 3 (by decide)
    obtain ⟨z4, q4⟩ := hy 4 (by decide)
    have p0 := hf' 0 _ rfl
    have p1 := hf' 1 _ rfl
    have p2 := hf' 2 _ rfl
    have p3 := hf' 3 _ rfl
    have p4 := hf' 4 _ rfl
    simp [q0, q1, q2, q3, q4, c2, c4] at p0 p1 p2 p3 p4
    obtain ⟨d, r0, _⟩ := DataW.trod_int Tryz.underlying2 p0
    obtain ⟨e, r1, _⟩ := DataW.trod_int Tryz.underlying2 p1
    obtain ⟨g, r2, _⟩ := DataW.trod_int Tryz.underlying2 p2
    obtain ⟨i, r3, _⟩ := DataW.trod_int Tryz.underlying2 p3
    obtain ⟨j, r4, _⟩ := DataW.trod_bool Tryz.underlying4 p4
    simp at r0 r1 r2 r3 r4
    subst r0 r1 r2 r3 r4
    exact ⟨⟨a, b, c, d, e, g, i, j⟩, rfl, trivial⟩
set_option maxRecDepth 100000 in
/-- an argument of the type laws.Medl -/
theorem medl_open {r : Reach} {b0 : Nat} {v : Value} {d : DataW H} {p : List MemPlace} (hv : Value.okWide Tryz.prog W r b0 38 v) (h : DataW.Trod enc Tryz.prog W base (fun _ => true) held 38 v d p) : ∃ m, RdM W v m ∧ Nms m := by
  obtain ⟨u0, u1, u2, u3, y0, y1, y2, y3, n, rfl, _, _, f0, f1, f2, f3⟩ := open_agg4 Tryz.underlying38 (by kernel_rfl) (by kernel_rfl) hv h
  obtain ⟨a, e0, _⟩ := DataW.trod_int Tryz.underlying2 f0
  simp at e0
  subst e0
  obtain ⟨A1, n1, c1, l1, e1, r1, q1⟩ := rdR_open Tryz.underlying34 cN Nod.k (by decide) (fun x => x.nm.size ≤ 9223372036854775807) nod_open f1
  obtain ⟨A2, n2, c2, l2, e2, r2, q2⟩ := rdR_open Tryz.underlying35 cMo Mod.k (by decide) _ mod_open f2
  obtain ⟨A3, n3, c3, l3, e3, r3, _⟩ := rdR_open Tryz.underlying36 cS Slt.k (by decide) (fun _ => True) slt_open f3
  simp at e1 e2 e3
  subst e1 e2 e3
  exact ⟨⟨a, l1, l2.map Mod.p, l3⟩, ⟨A1, n1, c1, A2, n2, c2, A3, n3, c3, rfl, r1, ⟨l2, r2, q2, rfl⟩, r3⟩, q1⟩
end
end Go.Proofs.YtdkhldebnpmiiaaGreatDoor
