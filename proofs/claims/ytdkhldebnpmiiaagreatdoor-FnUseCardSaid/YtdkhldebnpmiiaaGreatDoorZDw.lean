/- Words for draws of schedules: a world in which a draw stands; rows that lie in new blocks. -/
import Derived.Test.YtdkhldebnpmiiaaGreatDoorZDrawB
import Derived.Test.YtdkhldebnpmiiaaGreatDoorZBkH
import Derived.Test.YtdkhldebnpmiiaaGreatDoorZBkI
namespace Go.Proofs.YtdkhldebnpmiiaaGreatDoor
open Go.RowKit
set_option linter.unusedVariables false
set_option linter.unusedSimpArgs false
/-- from world w a draw has come to world wk: the code and its source stand; no other old block has turned -/
structure Dw (w : World) (g : Nat) (A : Option Addr) (n c : Nat) (bs : List Int) (wk : World) : Prop where
  s : Sd wk g A n c bs
  gr : w.grownBy wk (some g)
  hu : Under w.heap.size A n
  lt : g < w.heap.size
section
variable {w wk wk' : World} {g n c : Nat} {A : Option Addr} {bs : List Int}
theorem Dw.refl (h : Sd w g A n c bs) : Dw w g A n c bs w := ⟨h, grown_refl _ _, h.1.under, h.lt⟩
theorem Dw.step (h : Dw w g A n c bs wk) (hs : Sd wk' g A n c bs) (hg : wk.grownBy wk' (some g)) : Dw w g A n c bs wk' := ⟨hs, grown_trans h.gr hg, h.hu, h.lt⟩
theorem Dw.sz (h : Dw w g A n c bs wk) : w.heap.size ≤ wk.heap.size := h.gr.size
/-- what is new may turn -/
theorem Dw.keep (h : Dw w g A n c bs wk) (hb : Below w.heap.size wk wk') : Dw w g A n c bs wk' := by
  refine ⟨⟨?_, ?_⟩, ⟨hb.os.trans h.gr.os, hb.tape.trans h.gr.tape, hb.output.trans h.gr.output, Nat.le_trans h.gr.size hb.size, fun i hi hne => (hb.block i hi).trans (h.gr.block i hi hne)⟩, h.hu, h.lt⟩
  · obtain ⟨h1, h2, h3, h4, h5⟩ := h.s.1
    refine ⟨h1, h2, h3, h4, fun hn => ?_⟩
    obtain ⟨b, off, hA, hc⟩ := h5 hn
    exact ⟨b, off, hA, fun j hj => (hb.cell (p := ⟨b, off + j, none⟩) (h.hu b off _ hA hn)).trans (hc j hj)⟩
  · obtain ⟨a, s, h1, h2, h3, h4⟩ := h.s.2
    exact ⟨a, s, h1, h2, h3, (hb.block g h.lt).trans h4⟩
theorem Dw.alloc (h : Dw w g A n c bs wk) (o : Obj) : Dw w g A n c bs (wk.alloc o) := h.keep ((Below.refl _ _).alloc h.sz o)
theorem Dw.drew (h : Dw w g A n c bs wk) : Dw w g A n c bs wk.drew := h.keep (Below.refl _ _).drew
theorem Dw.below (h : Dw w g A n c bs wk) (hb : Below wk.heap.size wk wk') : Dw w g A n c bs wk' := h.keep (hb.mono h.sz)
theorem Dw.set (h : Dw w g A n c bs wk) {d : Nat} (hd : w.heap.size ≤ d) (i : Nat) (v : Value) : Dw w g A n c bs (wk.setCell ⟨d, i, none⟩ v) := h.keep ((Below.refl _ _).setCell (p := ⟨d, i, none⟩) hd v)
theorem Dw.row (h : Dw w g A n c bs wk) {B m d : Nat} {A' : Option Addr} {zs : List Int} (o : Own wk B A' m d zs) (hB : w.heap.size ≤ B) (hg : wk.grownBy wk' (Value.slice A' m d).ownBlock) : Dw w g A n c bs wk' := h.keep (below_own (Below.refl _ _) h.sz o hB hg)
theorem Dw.rowR (h : Dw w g A n c bs wk) {α : Type} {T : TypeId} {f : α → List Value} {k : Nat} {l : List α} {B m d : Nat} {A' : Option Addr} (o : OwnR T f k wk B A' m d l) (hB : w.heap.size ≤ B) (hg : wk.grownBy wk' (Value.slice A' m d).ownBlock) : Dw w g A n c bs wk' := h.keep (below_ownR (Below.refl _ _) h.sz o hB hg)
/-- the source's block is of its own type -/
theorem Src.tag (h : Src wk g A n c) : ∃ cs, wk.heap[g]? = some (.cells cs 94 (0, 0)) := by
  obtain ⟨a, s, _, _, _, h⟩ := h
  exact ⟨_, h⟩
theorem At.notSrc {d : Nat} {T : TypeId} {cs : Array Value} (h : At wk d T cs) (hs : Src wk g A n c) (hT : T ≠ 94) : d ≠ g := by
  rintro rfl
  obtain ⟨cs', hc⟩ := hs.tag
  unfold At at h
  rw [h] at hc
  simp at hc
  exact hT hc.2
theorem At.next {d : Nat} {T : TypeId} {cs : Array Value} (h : At wk d T cs) (hs : Sd wk g A n c bs) (hT : T ≠ 94) (hg : wk.grownBy wk' (some g)) : At wk' d T cs :=
  (hg.block d h.lt (fun e => h.notSrc hs.2 hT (by simpa using e))).trans h
theorem OwnR.notSrc {α : Type} {T : TypeId} {f : α → List Value} {k : Nat} {l : List α} {B m d : Nat} {A' : Option Addr} (h : OwnR T f k wk B A' m d l) (hs : Src wk g A n c) (hT : T ≠ 94) : (Value.slice A' m d).ownBlock ≠ some g := by
  obtain ⟨cs, hc⟩ := hs.tag
  rcases h.1.2 with ⟨hv, _⟩ | ⟨g', cap, cur, hv, _, hh, _⟩
  · rw [hv]; simp [Value.ownBlock]
  · rw [hv]
    intro e
    simp [Value.ownBlock] at e
    subst e
    rw [hc] at hh
    simp at hh
    exact hT hh.2.symm
theorem OwnR.next {α : Type} {T : TypeId} {f : α → List Value} {k : Nat} {l : List α} {B m d : Nat} {A' : Option Addr} (h : OwnR T f k wk B A' m d l) (hs : Sd wk g A n c bs) (hT : T ≠ 94) (hg : wk.grownBy wk' (some g)) : OwnR T f k wk' B A' m d l := h.keepG hg (.inr (h.notSrc hs.2 hT))
theorem OwnMs.next {B m d : Nat} {A' : Option Addr} {ms : List PMod} (h : OwnMs wk B A' m d ms) (hs : Sd wk g A n c bs) (hg : wk.grownBy wk' (some g)) : OwnMs wk' B A' m d ms := by
  obtain ⟨l, h1, h2, h3⟩ := h
  exact ⟨l, h1.next hs (by decide) hg, fun x hx => Own.next (h2 x hx) hs hg, h3⟩
end
/-- a row that is read lies from block B on -/
def HiA (B : Nat) (A : Option Addr) (n : Nat) : Prop := 0 < n → ∀ b off s, A = some ⟨b, off, s⟩ → B ≤ b
section
variable {w w' : World} {A : Option Addr} {n c B g : Nat}
theorem RdR.far {α : Type} {f : α → List Value} {k : Nat} {l : List α} (h : RdR f k w A n c l) (hh : HiA B A n) (hg : w.grownBy w' (some g)) (hl : g < B) : RdR f k w' A n c l := by
  refine ⟨h.1, h.2.1, h.2.2.1, h.2.2.2.1, fun hn => ?_⟩
  obtain ⟨b, off, hA, hb, hc⟩ := h.2.2.2.2 hn
  have := hh hn b off _ hA
  refine ⟨b, off, hA, Nat.lt_of_lt_of_le hb hg.size, fun i x hx j v hv => (World.cell?_of_block (a := ⟨b, off + i * k + j, none⟩) (hg.block b hb (fun e => by simp at e; omega))).trans (hc i x hx j v hv)⟩
theorem Rd.far {zs : List Int} (h : Rd w A n c zs) (hh : HiA B A n) (hg : w.grownBy w' (some g)) (hl : g < B) : Rd w' A n c zs := by
  refine ⟨h.1, h.2.1, h.2.2.1, h.2.2.2.1, fun hn => ?_⟩
  obtain ⟨b, off, hA, hb, hc⟩ := h.at_ hn
  have := hh hn b off _ hA
  exact ⟨b, off, hA, fun j hj => (World.cell?_of_block (a := ⟨b, off + j, none⟩) (hg.block b hb (fun e => by simp at e; omega))).trans (hc j hj)⟩
theorem OwnR.hi {α : Type} {T : TypeId} {f : α → List Value} {k : Nat} {l : List α} (h : OwnR T f k w B A n c l) : HiA B A n := fun hn b off s e => by
  rcases h.form with ⟨q, _⟩ | ⟨g', q, r, _⟩
  · rw [q] at e; cases e
  · rw [q] at e
    simp at e
    omega
theorem Own.hi {zs : List Int} (h : Own w B A n c zs) : HiA B A n := fun hn b off s e => by
  rcases h.form with ⟨q, _⟩ | ⟨g', q, r, _⟩
  · rw [q] at e; cases e
  · rw [q] at e
    simp at e
    omega
theorem HiA.mono {B' : Nat} (h : HiA B A n) (hB : B' ≤ B) : HiA B' A n := fun hn b off s e => Nat.le_trans hB (h hn b off s e)
/-- a row of modes that lies, with all that it points to, from block B on -/
def RdMsH (w : World) (B : Nat) (A : Option Addr) (n c : Nat) (ms : List PMod) : Prop := ∃ l : List Mod, RdR Mod.v 3 w A n c l ∧ HiA B A n ∧ (∀ x ∈ l, Rd w x.A x.n x.c x.nx ∧ HiA B x.A x.n) ∧ l.map Mod.p = ms
theorem RdMsH.rd {ms : List PMod} (h : RdMsH w B A n c ms) : RdMs w A n c ms := by
  obtain ⟨l, h1, _, h2, h3⟩ := h
  exact ⟨l, h1, fun x hx => (h2 x hx).1, h3⟩
theorem RdMsH.far {ms : List PMod} (h : RdMsH w B A n c ms) (hg : w.grownBy w' (some g)) (hl : g < B) : RdMsH w' B A n c ms := by
  obtain ⟨l, h1, h0, h2, h3⟩ := h
  exact ⟨l, h1.far h0 hg hl, h0, fun x hx => ⟨(h2 x hx).1.far (h2 x hx).2 hg hl, (h2 x hx).2⟩, h3⟩
theorem RdMsH.below {ms : List PMod} (h : RdMsH w B A n c ms) (hb : Below w.heap.size w w') : RdMsH w' B A n c ms := by
  obtain ⟨l, h1, h0, h2, h3⟩ := h
  exact ⟨l, h1.below hb, h0, fun x hx => ⟨(h2 x hx).1.below hb, (h2 x hx).2⟩, h3⟩
theorem RdMsH.mono {B' : Nat} {ms : List PMod} (h : RdMsH w B A n c ms) (hB : B' ≤ B) : RdMsH w B' A n c ms := by
  obtain ⟨l, h1, h0, h2, h3⟩ := h
  exact ⟨l, h1, h0.mono hB, fun x hx => ⟨(h2 x hx).1, (h2 x hx).2.mono hB⟩, h3⟩
theorem OwnMs.rdH {ms : List PMod} (h : OwnMs w B A n c ms) : RdMsH w B A n c ms := by
  obtain ⟨l, h1, h2, h3⟩ := h
  exact ⟨l, h1.rd, h1.hi, fun x hx => ⟨(h2 x hx).rd, (h2 x hx).hi⟩, h3⟩
/-- the numbers of a drawn schedule's nodes are small, its names short -/
structure NsOk (ns : List Nod) : Prop where
  id : ∀ x ∈ ns, -1 ≤ x.id ∧ x.id ≤ 1000
  nm : ∀ x ∈ ns, x.nm.size ≤ 1000
/-- a schedule, by value, that lies from block B on -/
def RdH (w : World) (B : Nat) (v : Value) (m : Mdl) : Prop := ∃ (A1 : Option Addr) (n1 c1 : Nat) (A2 : Option Addr) (n2 c2 : Nat) (A3 : Option Addr) (n3 c3 : Nat), v = .agg #[.int .i64 m.id, .slice A1 n1 c1, .slice A2 n2 c2, .slice A3 n3 c3] ∧
  (RdR Nod.v 4 w A1 n1 c1 m.ns ∧ HiA B A1 n1) ∧ RdMsH w B A2 n2 c2 m.ms ∧ (RdR Slt.v 8 w A3 n3 c3 m.ss ∧ HiA B A3 n3)
theorem RdH.rd {v : Value} {m : Mdl} (h : RdH w B v m) : RdM w v m := by
  obtain ⟨A1, n1, c1, A2, n2, c2, A3, n3, c3, rfl, h1, h2, h3⟩ := h
  exact ⟨A1, n1, c1, A2, n2, c2, A3, n3, c3, rfl, h1.1, h2.rd, h3.1⟩
theorem RdH.far {v : Value} {m : Mdl} (h : RdH w B v m) (hg : w.grownBy w' (some g)) (hl : g < B) : RdH w' B v m := by
  obtain ⟨A1, n1, c1, A2, n2, c2, A3, n3, c3, rfl, h1, h2, h3⟩ := h
  exact ⟨A1, n1, c1, A2, n2, c2, A3, n3, c3, rfl, ⟨h1.1.far h1.2 hg hl, h1.2⟩, h2.far hg hl, h3.1.far h3.2 hg hl, h3.2⟩
theorem RdH.below {v : Value} {m : Mdl} (h : RdH w B v m) (hb : Below w.heap.size w w') : RdH w' B v m := by
  obtain ⟨A1, n1, c1, A2, n2, c2, A3, n3, c3, rfl, h1, h2, h3⟩ := h
  exact ⟨A1, n1, c1, A2, n2, c2, A3, n3, c3, rfl, ⟨h1.1.below hb, h1.2⟩, h2.below hb, h3.1.below hb, h3.2⟩
theorem RdH.mono {B' : Nat} {v : Value} {m : Mdl} (h : RdH w B v m) (hB : B' ≤ B) : RdH w B' v m := by
  obtain ⟨A1, n1, c1, A2, n2, c2, A3, n3, c3, rfl, h1, h2, h3⟩ := h
  exact ⟨A1, n1, c1, A2, n2, c2, A3, n3, c3, rfl, ⟨h1.1, h1.2.mono hB⟩, h2.mono hB, h3.1, h3.2.mono hB⟩
end
theorem results_M1 {fn : Func} {t u : Tmp} (h : fn.results = #[.cell t 28, .tmp u]) {tmps : Array Value} {w : World} {g : Nat} {a0 a1 a2 a3 : Value} (hp : tmps.getD t undef = .pointer (some ⟨g, 0, none⟩)) (hs : At w g 28 #[a0, a1, a2, a3]) :
    (results fn tmps).run Tryz.prog w = .ok (.tuple #[.agg #[a0, a1, a2, a3], tmps.getD u undef]) w := by
  have d0 : w.cell? ⟨g, 0, none⟩ = some a0 := hs.cell 0
  have d1 : w.cell? ⟨g, 1, none⟩ = some a1 := hs.cell 1
  have d2 : w.cell? ⟨g, 2, none⟩ = some a2 := hs.cell 2
  have d3 : w.cell? ⟨g, 3, none⟩ = some a3 := hs.cell 3
  rw [Array.getD_eq_getD_getElem?] at hp
  simp [results, h, hp, go_sem, d0, d1, d2, d3]
theorem results_M2 {fn : Func} {t u x : Tmp} (h : fn.results = #[.cell t 28, .tmp u, .tmp x]) {tmps : Array Value} {w : World} {g : Nat} {a0 a1 a2 a3 : Value} (hp : tmps.getD t undef = .pointer (some ⟨g, 0, none⟩)) (hs : At w g 28 #[a0, a1, a2, a3]) :
    (results fn tmps).run Tryz.prog w = .ok (.tuple #[.agg #[a0, a1, a2, a3], tmps.getD u undef, tmps.getD x undef]) w := by
  have d0 : w.cell? ⟨g, 0, none⟩ = some a0 := hs.cell 0
  have d1 : w.cell? ⟨g, 1, none⟩ = some a1 := hs.cell 1
  have d2 : w.cell? ⟨g, 2, none⟩ = some a2 := hs.cell 2
  have d3 : w.cell? ⟨g, 3, none⟩ = some a3 := hs.cell 3
  rw [Array.getD_eq_getD_getElem?] at hp
  simp [results, h, hp, go_sem, d0, d1, d2, d3]
theorem results_M3 {fn : Func} {t u x y : Tmp} (h : fn.results = #[.cell t 28, .tmp u, .tmp x, .tmp y]) {tmps : Array Value} {w : World} {g : Nat} {a0 a1 a2 a3 : Value} (hp : tmps.getD t undef = .pointer (some ⟨g, 0, none⟩)) (hs : At w g 28 #[a0, a1, a2, a3]) :
    (results fn tmps).run Tryz.prog w = .ok (.tuple #[.agg #[a0, a1, a2, a3], tmps.getD u undef, tmps.getD x undef, tmps.getD y undef]) w := by
  have d0 : w.cell? ⟨g, 0, none⟩ = some a0 := hs.cell 0
  have d1 : w.cell? ⟨g, 1, none⟩ = some a1 := hs.cell 1
  have d2 : w.cell? ⟨g, 2, none⟩ = some a2 := hs.cell 2
  have d3 : w.cell? ⟨g, 3, none⟩ = some a3 := hs.cell 3
  rw [Array.getD_eq_getD_getElem?] at hp
  simp [results, h, hp, go_sem, d0, d1, d2, d3]
end Go.Proofs.YtdkhldebnpmiiaaGreatDoor
