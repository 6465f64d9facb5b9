/- Contracts of draws: any schedule. -/
import Derived.Test.YtdkhldebnpmiiaaGreatDoorZDrL
import Derived.Deep.DeepCutAuto
import Derived.Deep.CutBlock
namespace Go.Proofs.YtdkhldebnpmiiaaGreatDoor
open Go.RowKit
set_option linter.unusedVariables false
set_option linter.unusedSimpArgs false
def GotH (w : World) (g : Nat) (A : Option Addr) (n c : Nat) (bs : List Int) (e : Ending) (w' : World) : Prop := ∃ v m, e = .returned v ∧ RdH w' w.heap.size v m ∧ NsOk m.ns ∧ Sd w' g A n c bs ∧ w.grownBy w' (some g)
/-- the rows that a schedule's draw has in hand, but for its slots -/
structure Rh (w : World) (g : Nat) (A : Option Addr) (n c : Nat) (bs : List Int) (d0 d1 H : Nat) (id : Int) (A1 : Option Addr) (n1 c1 : Nat) (ns : List Nod) (A2 : Option Addr) (n2 c2 : Nat) (ms : List PMod) (V : Value) (wk : World) : Prop where
  D : Dw w g A n c bs wk
  z : At wk d0 28 #[.int .i64 0, .slice none 0 0, .slice none 0 0, .slice none 0 0]
  e : At wk d1 28 #[.int .i64 id, .slice A1 n1 c1, .slice A2 n2 c2, V]
  rn : OwnR 68 Nod.v 4 wk H A1 n1 c1 ns
  rm : OwnMs wk H A2 n2 c2 ms
  ok : NsOk ns
  h0 : w.heap.size ≤ d0
  h1 : w.heap.size ≤ d1
  hne : d0 ≠ d1
  hH : w.heap.size ≤ H
  h0H : d0 < H
section
variable {w wk wk' : World} {g n c d0 d1 H n1 c1 n2 c2 n3 c3 k B : Nat} {A A1 A2 A3 : Option Addr} {bs : List Int} {id : Int} {ns : List Nod} {ms : List PMod} {V : Value} {ss : List Slt}
theorem OwnMs.setAt {G : Nat} {T : TypeId} {X : Array Value} (h : OwnMs wk B A2 n2 c2 ms) (hs : At wk G T X) (hT : T ≠ 107) (hT' : T ≠ 2) (i : Nat) (u : Value) : OwnMs (wk.setCell ⟨G, i, none⟩ u) B A2 n2 c2 ms := by
  obtain ⟨l, h1, h2, h3⟩ := h
  exact ⟨l, h1.setAt hs hT i u, fun x hx => (h2 x hx).setAt hs hT' i u, h3⟩
theorem OwnMs.keepRow {α : Type} {T2 : TypeId} {f : α → List Value} {l : List α} (h : OwnMs wk B A2 n2 c2 ms) {B3 : Nat} (o : OwnR T2 f k wk B3 A3 n3 c3 l) (hT : 107 ≠ T2) (hT' : 2 ≠ T2) (hg : wk.grownBy wk' (Value.slice A3 n3 c3).ownBlock) : OwnMs wk' B A2 n2 c2 ms := by
  obtain ⟨l, h1, h2, h3⟩ := h
  exact ⟨l, h1.keepRow o hT hg, fun x hx => (h2 x hx).keepRow o hT' hg, h3⟩
theorem OwnR.neAt {α : Type} {T2 T : TypeId} {f : α → List Value} {l : List α} {gs G : Nat} {X : Array Value} (h : OwnR T2 f k wk B (some ⟨gs, 0, none⟩) n c l) (hs : At wk G T X) (hT : T ≠ T2) : gs ≠ G := fun e => by
  subst e
  rcases h.1.2 with ⟨hv, _⟩ | ⟨g', cap, cur, hv, _, hh, _⟩
  · simp at hv
  · simp at hv
    obtain ⟨rfl, _⟩ := hv
    unfold At at hs
    rw [hs] at hh
    simp at hh
    exact hT hh.2
theorem Dw.set4 (h : Dw w g A n c bs wk) (hd : w.heap.size ≤ d0) (a0 a1 a2 a3 : Value) : Dw w g A n c bs ((((wk.setCell ⟨d0, 0, none⟩ a0).setCell ⟨d0, 1, none⟩ a1).setCell ⟨d0, 2, none⟩ a2).setCell ⟨d0, 3, none⟩ a3) :=
  (((h.set hd 0 a0).set hd 1 a1).set hd 2 a2).set hd 3 a3
theorem RdR.drop1 {α : Type} {f : α → List Value} {l : List α} {gs : Nat} (h : RdR f k wk (some ⟨gs, 0, none⟩) n c l) (hn : 1 ≤ n) : RdR f k wk (some ⟨gs, k, none⟩) (n - 1) (c - 1) (l.drop 1) := by
  refine ⟨by rw [List.length_drop, h.len], by have := h.cap; omega, by have := h.2.2.1; omega, fun e => by simp at e, fun hn1 => ?_⟩
  obtain ⟨b, off, hA, hl, hc⟩ := h.2.2.2.2 (by omega)
  simp at hA
  obtain ⟨rfl, rfl⟩ := hA
  refine ⟨gs, k, rfl, hl, fun i x hx j v hv => ?_⟩
  have := hc (i + 1) x (by simpa [Nat.add_comm] using hx) j v hv
  rwa [show 0 + (i + 1) * k + j = k + i * k + j by rw [Nat.add_mul]; omega] at this
theorem Rh.below (h : Rh w g A n c bs d0 d1 H id A1 n1 c1 ns A2 n2 c2 ms V wk) (hb : Below wk.heap.size wk wk') : Rh w g A n c bs d0 d1 H id A1 n1 c1 ns A2 n2 c2 ms V wk' :=
  ⟨h.D.below hb, h.z.keep hb, h.e.keep hb, h.rn.below hb, h.rm.below hb, h.ok, h.h0, h.h1, h.hne, h.hH, h.h0H⟩
theorem Rh.alloc (h : Rh w g A n c bs d0 d1 H id A1 n1 c1 ns A2 n2 c2 ms V wk) (o : Obj) : Rh w g A n c bs d0 d1 H id A1 n1 c1 ns A2 n2 c2 ms V (wk.alloc o) := h.below ((Below.refl _ _).alloc (Nat.le_refl _) o)
theorem Rh.drew (h : Rh w g A n c bs d0 d1 H id A1 n1 c1 ns A2 n2 c2 ms V wk) : Rh w g A n c bs d0 d1 H id A1 n1 c1 ns A2 n2 c2 ms V wk.drew := h.below (Below.refl _ _).drew
theorem Rh.next (h : Rh w g A n c bs d0 d1 H id A1 n1 c1 ns A2 n2 c2 ms V wk) (hs : Sd wk' g A n c bs) (hg : wk.grownBy wk' (some g)) : Rh w g A n c bs d0 d1 H id A1 n1 c1 ns A2 n2 c2 ms V wk' :=
  ⟨h.D.step hs hg, h.z.next h.D.s (by decide) hg, h.e.next h.D.s (by decide) hg, h.rn.next h.D.s (by decide) hg, h.rm.next h.D.s hg, h.ok, h.h0, h.h1, h.hne, h.hH, h.h0H⟩
theorem Rh.grow (h : Rh w g A n c bs d0 d1 H id A1 n1 c1 ns A2 n2 c2 ms V wk) (o : OwnR 61 Slt.v 8 wk H A3 n3 c3 ss) (hg : wk.grownBy wk' (Value.slice A3 n3 c3).ownBlock) : Rh w g A n c bs d0 d1 H id A1 n1 c1 ns A2 n2 c2 ms V wk' :=
  ⟨h.D.rowR o h.hH hg, h.z.keepR o (by decide) hg, h.e.keepR o (by decide) hg, h.rn.keepRow o (by decide) hg, h.rm.keepRow o (by decide) (by decide) hg, h.ok, h.h0, h.h1, h.hne, h.hH, h.h0H⟩
theorem Rh.put {gs : Nat} (h : Rh w g A n c bs d0 d1 H id A1 n1 c1 ns A2 n2 c2 ms V wk) (o : OwnR 61 Slt.v 8 wk H (some ⟨gs, 0, none⟩) n3 c3 ss) (i : Nat) (u : Value) : Rh w g A n c bs d0 d1 H id A1 n1 c1 ns A2 n2 c2 ms V (wk.setCell ⟨gs, i, none⟩ u) := h.grow o (grown_set wk gs i u)
theorem Rh.set0 (h : Rh w g A n c bs d0 d1 H id A1 n1 c1 ns A2 n2 c2 ms V wk) (u : Int) : Rh w g A n c bs d0 d1 H u A1 n1 c1 ns A2 n2 c2 ms V (wk.setCell ⟨d1, 0, none⟩ (.int .i64 u)) :=
  ⟨h.D.set h.h1 _ _, h.z.other h.hne _ _, h.e.set 0 (.int .i64 u), h.rn.setAt h.e (by decide) _ _, h.rm.setAt h.e (by decide) (by decide) _ _, h.ok, h.h0, h.h1, h.hne, h.hH, h.h0H⟩
theorem Rh.set1 (h : Rh w g A n c bs d0 d1 H id A1 n1 c1 ns A2 n2 c2 ms V wk) {A' : Option Addr} {n' c' : Nat} {ns' : List Nod} (o : OwnR 68 Nod.v 4 wk H A' n' c' ns') (ok : NsOk ns') : Rh w g A n c bs d0 d1 H id A' n' c' ns' A2 n2 c2 ms V (wk.setCell ⟨d1, 1, none⟩ (.slice A' n' c')) :=
  ⟨h.D.set h.h1 _ _, h.z.other h.hne _ _, h.e.set 1 (.slice A' n' c'), o.setAt h.e (by decide) _ _, h.rm.setAt h.e (by decide) (by decide) _ _, ok, h.h0, h.h1, h.hne, h.hH, h.h0H⟩
theorem Rh.set3 (h : Rh w g A n c bs d0 d1 H id A1 n1 c1 ns A2 n2 c2 ms V wk) (u : Value) : Rh w g A n c bs d0 d1 H id A1 n1 c1 ns A2 n2 c2 ms u (wk.setCell ⟨d1, 3, none⟩ u) :=
  ⟨h.D.set h.h1 _ _, h.z.other h.hne _ _, h.e.set 3 u, h.rn.setAt h.e (by decide) _ _, h.rm.setAt h.e (by decide) (by decide) _ _, h.ok, h.h0, h.h1, h.hne, h.hH, h.h0H⟩
theorem OwnMs.one {gm : Nat} {a b : Int} {xs : List Int} (h : OwnMs wk B (some ⟨gm, 0, none⟩) n c [⟨a, b, xs⟩]) : wk.cell? ⟨gm, 0, none⟩ = some (.int .i64 a) ∧ wk.cell? ⟨gm, 1, none⟩ = some (.int .i64 b) := by
  obtain ⟨l, h1, h2, h3⟩ := h
  match l, h1, h3 with
  | [x], h1, h3 =>
    have hn := h1.len
    simp at hn
    obtain ⟨y, hy, hc⟩ := h1.at0 (i := 0) (by omega)
    simp at hy
    subst hy
    simp [Mod.p] at h3
    obtain ⟨rfl, rfl, rfl⟩ := h3
    have c0 := hc 0 _ rfl
    have c1 := hc 1 _ rfl
    simp at c0 c1
    exact ⟨c0, c1⟩
theorem Rh.lits (h : Rh w g A n c bs d0 d1 H id A1 n1 c1 ns A2 n2 c2 ms V wk) (hH : H ≤ wk.heap.size) :
    Rh w g A n c bs d0 d1 H 3 (some ⟨wk.heap.size, 0, none⟩) 1 1 [⟨0, ⟨#[97]⟩, 0, false⟩] (some ⟨wk.heap.size + 1, 0, none⟩) 1 1 [⟨2, 16, []⟩] (.slice none 0 0)
      ((((((wk.setCell ⟨d1, 0, none⟩ (.int .i64 3)).setCell ⟨d1, 1, none⟩ (.slice (some ⟨wk.heap.size, 0, none⟩) 1 1)).setCell ⟨d1, 2, none⟩ (.slice (some ⟨wk.heap.size + 1, 0, none⟩) 1 1)).setCell ⟨d1, 3, none⟩ (.slice none 0 0)).alloc (.cells #[.int .i64 0, .string ⟨#[97]⟩, .int .i64 0, .bool false] 68)).alloc (.cells #[.int .i64 2, .int .i64 16, .slice none 0 0] 107)) := by
  obtain ⟨W, hW⟩ : ∃ W, W = (((wk.setCell ⟨d1, 0, none⟩ (.int .i64 3)).setCell ⟨d1, 1, none⟩ (.slice (some ⟨wk.heap.size, 0, none⟩) 1 1)).setCell ⟨d1, 2, none⟩ (.slice (some ⟨wk.heap.size + 1, 0, none⟩) 1 1)).setCell ⟨d1, 3, none⟩ (.slice none 0 0) := ⟨_, rfl⟩
  have hs : W.heap.size = wk.heap.size := by rw [hW]; simp
  have hD : Dw w g A n c bs W := by rw [hW]; exact h.D.set4 h.h1 _ _ _ _
  have hz : At W d0 28 #[.int .i64 0, .slice none 0 0, .slice none 0 0, .slice none 0 0] := by rw [hW]; exact (((h.z.other h.hne 0 _).other h.hne 1 _).other h.hne 2 _).other h.hne 3 _
  have he : At W d1 28 #[.int .i64 3, .slice (some ⟨wk.heap.size, 0, none⟩) 1 1, .slice (some ⟨wk.heap.size + 1, 0, none⟩) 1 1, .slice none 0 0] := by
    rw [hW]
    exact (((h.e.set 0 (.int .i64 3)).set 1 (.slice (some ⟨wk.heap.size, 0, none⟩) 1 1)).set 2 (.slice (some ⟨wk.heap.size + 1, 0, none⟩) 1 1)).set 3 (.slice none 0 0)
  have hN := OwnR.lit (T := 68) (f := Nod.v) (k := 4) (B := H) (n := 1) W (by omega) Nod.k #[.int .i64 0, .string ⟨#[97]⟩, .int .i64 0, .bool false] [⟨0, ⟨#[97]⟩, 0, false⟩] rfl rfl (by omega)
  have hM := OwnR.lit (T := 107) (f := Mod.v) (k := 3) (B := H) (n := 1) (W.alloc (.cells #[.int .i64 0, .string ⟨#[97]⟩, .int .i64 0, .bool false] 68)) (by simp; omega) Mod.k #[.int .i64 2, .int .i64 16, .slice none 0 0] [⟨2, 16, none, 0, 0, []⟩] rfl rfl (by omega)
  rw [show (W.alloc (.cells #[.int .i64 0, .string ⟨#[97]⟩, .int .i64 0, .bool false] 68)).heap.size = wk.heap.size + 1 by simp [hs]] at hM
  rw [hs] at hN
  rw [← hW]
  refine ⟨(hD.alloc _).alloc _, (hz.alloc _).alloc _, (he.alloc _).alloc _, hN.alloc _, ⟨_, hM, ?_, rfl⟩, ⟨?_, ?_⟩, h.h0, h.h1, h.hne, h.hH, h.h0H⟩
  · intro x hx
    simp at hx
    subst hx
    exact Own.nil _ _
  · intro x hx
    simp at hx
    subst hx
    decide
  · intro x hx
    simp at hx
    subst hx
    decide
theorem Rh.modeLit (h : Rh w g A n c bs d0 d1 H id A1 n1 c1 ns A2 n2 c2 ms V wk) (hH : H ≤ wk.heap.size) (r s : Int) : Rh w g A n c bs d0 d1 H id A1 n1 c1 ns (some ⟨wk.heap.size, 0, none⟩) 1 1 [⟨r, s, []⟩] V
    ((wk.setCell ⟨d1, 2, none⟩ (.slice (some ⟨wk.heap.size, 0, none⟩) 1 1)).alloc (.cells #[.int .i64 r, .int .i64 s, .slice none 0 0] 107)) := by
  obtain ⟨W, hW⟩ : ∃ W, W = wk.setCell ⟨d1, 2, none⟩ (.slice (some ⟨wk.heap.size, 0, none⟩) 1 1) := ⟨_, rfl⟩
  have hs : W.heap.size = wk.heap.size := by rw [hW]; simp
  have hD : Dw w g A n c bs W := by rw [hW]; exact h.D.set h.h1 _ _
  have hz : At W d0 28 #[.int .i64 0, .slice none 0 0, .slice none 0 0, .slice none 0 0] := by rw [hW]; exact h.z.other h.hne _ _
  have he : At W d1 28 #[.int .i64 id, .slice A1 n1 c1, .slice (some ⟨wk.heap.size, 0, none⟩) 1 1, V] := by
    rw [hW]
    exact h.e.set 2 (.slice (some ⟨wk.heap.size, 0, none⟩) 1 1)
  have hN : OwnR 68 Nod.v 4 W H A1 n1 c1 ns := by rw [hW]; exact h.rn.setAt h.e (by decide) _ _
  have hM := OwnR.lit (T := 107) (f := Mod.v) (k := 3) (B := H) (n := 1) W (by omega) Mod.k #[.int .i64 r, .int .i64 s, .slice none 0 0] [⟨r, s, none, 0, 0, []⟩] rfl rfl (by omega)
  rw [hs] at hM
  rw [← hW]
  refine ⟨hD.alloc _, hz.alloc _, he.alloc _, hN.alloc _, ⟨_, hM, ?_, rfl⟩, h.ok, h.h0, h.h1, h.hne, h.hH, h.h0H⟩
  intro x hx
  simp at hx
  subst hx
  exact Own.nil _ _
/-- append of records at a step of a region that draws its order: the new records lie in a block of their own -/
theorem step_append_rec {T t : TypeId} {bytes : Nat} {z : Value} {α : Type} {f : α → List Value} {l : List α} (hinfo : (Tryz.prog.info? T).map (fun i => (i.zero, i.size, i.bytes)) = some (some z, k, bytes)) (ht : Tryz.prog.underlying t = some (.slice T)) (hzs : z.cells.size = k) (hk0 : 0 < k) (hbb : bytes ≤ 128)
    {ops : Array Oper} {o : Oper} {a : Act} {K : Act → World → Prop} {Q : Exit → Act → World → Prop} {E : Prop} (hgd : o.guard = none) (s x : Operand)
    (ho : o.op = .call { callee := .builtin .append, args := #[s, x], argTypes := #[t, t] })
    (hs : a.eval s = .slice A n c) (hown : OwnR T f k wk B A n c l) {b m : Nat} (cs : Array Value) (ys : List α) (hat : At wk b T cs) (hcs : cs.toList = ys.flatMap f) (hm : ys.length = m) (h1 : ∀ u ∈ ys.flatMap f, u.oneCell' = true)
    (hx : a.eval x = .slice (some ⟨b, 0, none⟩) m m) (hm0 : 0 < m) (hn : n + m ≤ 16777216) (hB : B ≤ wk.heap.size)
    (h : ∀ A' c' w', OwnR T f k w' B A' (n + m) c' (l ++ ys) → wk.grownBy w' (Value.slice A n c).ownBlock → K (a.put o.dst (.slice A' (n + m) c')) w') :
    if Region.wanted o (yielded ops a.tmps) = true then Oper.wp Tryz.prog o a wk K Q else E := by
  obtain ⟨i0, hi, hz0, hz1, hz2⟩ := info_parts hinfo
  have hb2 : (n + m) * bytes ≤ 140737488355328 := Nat.le_trans (Nat.mul_le_mul (Nat.le_refl (n + m)) hbb) (by omega)
  refine step_append_lies wk hgd s x t ho B T i0 _ k bytes ht hi hz0 hz1 hz2 hzs hk0 (.slice A n c) n (l.flatMap f) hs hown.1
    ⟨b, 0, none⟩ m m (ys.flatMap f) hx (by rw [flat_len hown.2.2, hm]) ?_ h1 hm0 (by simp only [maxLen]; omega) hb2 hB _ rfl ?_
  · intro j u hu
    have e : (⟨b, 0, none⟩ : Addr).add j = ⟨b, j, none⟩ := by
      unfold Addr.add
      split
      · rename_i h0
        subst h0
        rfl
      · simp
    rw [e, hat.cell, ← Array.getElem?_toList, hcs]
    exact hu
  · intro g cap w' hrow hg _ _
    rw [← List.flatMap_append] at hrow
    obtain ⟨A', c', e, ho'⟩ := ownR_of_row hrow rfl (by rw [List.length_append, hown.len, hm]) hown.2.2
    rw [e]
    exact h A' c' w' ho' hg
/-- what stands at the end: a schedule, by value, in block d1 -/
def Rz (w : World) (g : Nat) (A : Option Addr) (n c : Nat) (bs : List Int) (d0 d1 : Nat) (wk : World) : Prop := ∃ (m : Mdl) (A1 : Option Addr) (n1 c1 : Nat) (A2 : Option Addr) (n2 c2 : Nat) (A3 : Option Addr) (n3 c3 B : Nat),
  Dw w g A n c bs wk ∧ At wk d0 28 #[.int .i64 0, .slice none 0 0, .slice none 0 0, .slice none 0 0] ∧ At wk d1 28 #[.int .i64 m.id, .slice A1 n1 c1, .slice A2 n2 c2, .slice A3 n3 c3] ∧ RdH wk B (.agg #[.int .i64 m.id, .slice A1 n1 c1, .slice A2 n2 c2, .slice A3 n3 c3]) m ∧ NsOk m.ns ∧ w.heap.size ≤ B ∧ d0 < B
theorem Rh.out3 {A' : Option Addr} {n' c' : Nat} {ss' : List Slt} (h : Rh w g A n c bs d0 d1 H id A1 n1 c1 ns A2 n2 c2 ms (.slice A' n' c') wk) (hr : RdR Slt.v 8 wk A' n' c' ss' ∧ HiA H A' n') : Rz w g A n c bs d0 d1 wk :=
  ⟨⟨id, ns, ms, ss'⟩, A1, n1, c1, A2, n2, c2, A', n', c', H, h.D, h.z, h.e, ⟨A1, n1, c1, A2, n2, c2, A', n', c', rfl, ⟨h.rn.rd, h.rn.hi⟩, h.rm.rdH, hr⟩, h.ok, h.hH, h.h0H⟩
theorem Rh.fin (h : Rh w g A n c bs d0 d1 H id A1 n1 c1 ns A2 n2 c2 ms (.slice A3 n3 c3) wk) (o : OwnR 61 Slt.v 8 wk H A3 n3 c3 ss) : Rz w g A n c bs d0 d1 wk := h.out3 ⟨o.rd, o.hi⟩
end
set_option maxHeartbeats 12800000 in
set_option maxRecDepth 100000 in
theorem l13DrawAny_d (g : Nat) (A : Option Addr) (n c : Nat) (bs : List Int) (w : World) (h : Sd w g A n c bs) :
    Calls Tryz.prog 81 #[.pointer (some ⟨g, 0, none⟩)] w (GotH w g A n c bs) := by
  have D := hide (Dw.refl h)
  obtain ⟨W0, hW0⟩ : ∃ W0, W0 = w.alloc (.cells #[.int .i64 0, .slice none 0 0, .slice none 0 0, .slice none 0 0] 28) := ⟨_, rfl⟩
  obtain ⟨d0, hd0'⟩ : ∃ d0, d0 = w.heap.size := ⟨_, rfl⟩
  have hd0 : w.heap.size ≤ d0 := by omega
  have A0 := hide (show At W0 d0 28 _ by rw [hW0, hd0']; exact At.fresh _ _ _)
  have D0 := hide (show Dw w g A n c bs W0 by rw [hW0]; exact D.out.alloc _)
  have HW0 := hide hW0
  have HD0 := hide hd0'
  clear hW0 hd0' h
  go_enter Tryz.func81, Tryz.ntmps81
  go_wp2_with fail
  rw [← HW0.out, ← HD0.out]
  go_at_call 109
  refine (l13Draw_d _ _ _ _ _ _ D0.out.s).mono ?_
  rintro e w1 ⟨v, m, rfl, mo, h1, g1⟩
  have D1 := hide (D0.out.step h1 g1)
  have Z1 := hide (A0.out.next D0.out.s (by decide) g1)
  obtain ⟨H, hH⟩ : ∃ H, H = W0.heap.size := ⟨_, rfl⟩
  have hH0 : w.heap.size ≤ H := by rw [hH]; exact D0.out.sz
  have hH1 : d0 < H := by rw [hH]; exact A0.out.lt
  have hH2 : H ≤ w1.heap.size := by rw [hH]; exact g1.size
  rw [← hH] at mo
  clear hH
  obtain ⟨A1, n1, c1, A2, n2, c2, A3, n3, c3, rfl, hns, hms, hss, hn0, hn1, hok⟩ := mo
  obtain ⟨gs, rfl, gs0, gs1⟩ := (RawO.of hss).form (by omega)
  obtain ⟨mid, mns, mms, mss⟩ := m
  simp only at hns hms hss hok
  obtain ⟨W1, hW1⟩ : ∃ W1, W1 = w1.alloc (.cells #[.int .i64 mid, .slice A1 n1 c1, .slice A2 n2 c2, .slice (some ⟨gs, 0, none⟩) n3 c3] 28) := ⟨_, rfl⟩
  obtain ⟨d1, hd1⟩ : ∃ d1, d1 = w1.heap.size := ⟨_, rfl⟩
  have R1 := hide (show Rh w g A n c bs d0 d1 H mid A1 n1 c1 mns A2 n2 c2 mms (.slice (some ⟨gs, 0, none⟩) n3 c3) W1 by
    rw [hW1, hd1]
    refine ⟨D1.out.alloc _, Z1.out.alloc _, At.fresh _ _ _, hns.alloc _, hms.below ((Below.refl _ _).alloc (Nat.le_refl _) _), hok, hd0, D1.out.sz, ?_, hH0, hH1⟩
    have := Z1.out.lt
    omega)
  have S1 := hide (show OwnR 61 Slt.v 8 W1 H (some ⟨gs, 0, none⟩) n3 c3 mss by rw [hW1]; exact hss.alloc _)
  have hcap := hss.cap
  have HW1 := hide hW1
  have HD1 := hide hd1
  have hHd : H ≤ d1 := by rw [hd1]; exact hH2
  have hd01 := R1.out.hne
  have hgd1 : gs ≠ d1 := S1.out.neAt R1.out.e (by decide)
  have hgd0 : gs ≠ d0 := S1.out.neAt R1.out.z (by decide)
  clear h1 g1 hns hms hss hW1 hd1 hok
  have f3 := R1.out.e.cell 3
  simp at f3
  go_wp2_with fail
  rw [← HW1.out, ← HD1.out]
  refine (next_d _ _ _ _ _ _ _ R1.out.D.s).mono ?_
  rintro e w2 ⟨k, rfl, k0, k1, h1, g1⟩
  have k2 := k1 (by omega)
  obtain ⟨k, rfl⟩ := Int.eq_ofNat_of_zero_le k0
  have hk : k < n3 := by omega
  have S2 := hide (S1.out.next R1.out.D.s (by decide) g1)
  have R2 := hide (R1.out.next h1 g1)
  have hH3 : H ≤ w2.heap.size := Nat.le_trans hH2 (by have := g1.size; rw [HW1.out] at this; simp at this; omega)
  clear k1 h1 g1 f3
  go_wp2_with fail
  refine (next_d _ _ _ _ _ _ _ R2.out.D.s).mono ?_
  rintro e w3 ⟨z, rfl, z0, z1, h1, g1⟩
  have S3 := hide (S2.out.next R2.out.D.s (by decide) g1)
  have R3 := hide (R2.out.next h1 g1)
  have hH4 : H ≤ w3.heap.size := Nat.le_trans hH3 g1.size
  clear z1 h1 g1
  go_upto_block 0 with fail
  go_cut [] (fun wx => Rz w g A n c bs d0 d1 wx)
  case rest =>
    obtain ⟨m, E1, k1, l1, E2, k2', l2, E3, k3, l3, B, hD, hz, he, hr, hok, hB, hB0⟩ := hcut
    have HR := hide hr
    have HZ := hide hz
    have HE := hide he
    have hcE : E3 = E3 := rfl
    clear hr hz he hcE
    have f0 := HE.out.cell 0
    have f1 := HE.out.cell 1
    have f2 := HE.out.cell 2
    have f3 := HE.out.cell 3
    have x0 := HZ.out.cell 0
    have x1 := HZ.out.cell 1
    have x2 := HZ.out.cell 2
    have x3 := HZ.out.cell 3
    have q0 := HZ.out.frozen 0
    have q1 := HZ.out.frozen 1
    have q2 := HZ.out.frozen 2
    have q3 := HZ.out.frozen 3
    simp at f0 f1 f2 f3 x0 x1 x2 x3
    go_wp2
    have fin := (((HZ.out.set 0 (.int .i64 m.id)).set 1 (.slice E1 k1 l1)).set 2 (.slice E2 k2' l2)).set 3 (.slice E3 k3 l3)
    refine bodyPost_ret (results_M Tryz.results81 rfl fin) rfl ?_
    have F := hD.set4 hd0 (.int .i64 m.id) (.slice E1 k1 l1) (.slice E2 k2' l2) (.slice E3 k3 l3)
    exact ⟨_, m, rfl, ((((HR.out.setLow hB0 0 (.int .i64 m.id)).setLow hB0 1 (.slice E1 k1 l1)).setLow hB0 2 (.slice E2 k2' l2)).setLow hB0 3 (.slice E3 k3 l3)).mono hB, hok, F.s, F.gr⟩
  case first =>
    by_cases e0 : z = 0
    · subst e0
      go_wp2_with fail
      obtain ⟨W4, hW4⟩ : ∃ W4, W4 = w3.alloc (.cells #[.int .i64 0, .int .i64 16777215, .int .i64 16777216] 2) := ⟨_, rfl⟩
      have HL4 := hide (show At W4 w3.heap.size 2 #[.int .i64 0, .int .i64 16777215, .int .i64 16777216] by rw [hW4]; exact At.fresh _ _ _)
      have S4 := hide (show OwnR 61 Slt.v 8 W4 H (some ⟨gs, 0, none⟩) n3 c3 mss by rw [hW4]; exact S3.out.alloc _)
      have R4 := hide (show Rh w g A n c bs d0 d1 H mid A1 n1 c1 mns A2 n2 c2 mms (.slice (some ⟨gs, 0, none⟩) n3 c3) W4 by rw [hW4]; exact R3.out.alloc _)
      rw [← hW4]
      clear hW4
      refine (next_d _ _ _ _ _ _ _ R4.out.D.s).mono ?_
      rintro e w5 ⟨y, rfl, y0, y1, h1, g1⟩
      obtain ⟨y, rfl⟩ := Int.eq_ofNat_of_zero_le y0
      have ym : y < 3 := by have := y1 (by omega); omega
      have S5 := hide (S4.out.next R4.out.D.s (by decide) g1)
      have HL5 := hide (HL4.out.next R4.out.D.s (by decide) g1)
      have R5 := hide (R4.out.next h1 g1)
      clear y1 h1 g1
      obtain ⟨v, hv⟩ : ∃ v : Int, (#[.int .i64 0, .int .i64 16777215, .int .i64 16777216] : Array Value)[y]? = some (.int .i64 v) := by
        have hy : y = 0 ∨ y = 1 ∨ y = 2 := by omega
        clear y0
        rcases hy with rfl | rfl | rfl
        · exact ⟨_, rfl⟩
        · exact ⟨_, rfl⟩
        · exact ⟨_, rfl⟩
      have hcell : w5.cell? ⟨w3.heap.size, y, none⟩ = some (.int .i64 v) := (HL5.out.cell y).trans hv
      have f0 := R5.out.e.cell 0
      have f1 := R5.out.e.cell 1
      have f2 := R5.out.e.cell 2
      have f3 := R5.out.e.cell 3
      have x0 := R5.out.z.cell 0
      have x1 := R5.out.z.cell 1
      have x2 := R5.out.z.cell 2
      have x3 := R5.out.z.cell 3
      simp at f0 f1 f2 f3 x0 x1 x2 x3
      have q0 := R5.out.z.frozen 0
      have t0 := R5.out.e.frozen 0
      have q1 := R5.out.z.frozen 1
      have t1 := R5.out.e.frozen 1
      have q2 := R5.out.z.frozen 2
      have t2 := R5.out.e.frozen 2
      have q3 := R5.out.z.frozen 3
      have t3 := R5.out.e.frozen 3
      clear hv
      go_wp2
      have R6 := R5.out.set0 v
      have S6 := S5.out.setAt R5.out.e (by decide) 0 (.int .i64 v)
      go_meet
      exact R6.fin S6
    by_cases e1 : z = 1
    · subst e1
      go_wp2_with fail
      go_at_call 110
      refine (l10DrawAny_d _ _ _ _ _ _ R3.out.D.s).mono ?_
      rintro e w5 ⟨B1, p1, e1, ns', rfl, _, _, own, ok, h1, g1⟩
      have own := own.mono hH4
      have S5 := hide (S3.out.next R3.out.D.s (by decide) g1)
      have R5 := hide (R3.out.next h1 g1)
      have O5 := hide own
      clear h1 g1 own
      have f0 := R5.out.e.cell 0
      have f1 := R5.out.e.cell 1
      have f2 := R5.out.e.cell 2
      have f3 := R5.out.e.cell 3
      have x0 := R5.out.z.cell 0
      have x1 := R5.out.z.cell 1
      have x2 := R5.out.z.cell 2
      have x3 := R5.out.z.cell 3
      simp at f0 f1 f2 f3 x0 x1 x2 x3
      have q0 := R5.out.z.frozen 0
      have t0 := R5.out.e.frozen 0
      have q1 := R5.out.z.frozen 1
      have t1 := R5.out.e.frozen 1
      have q2 := R5.out.z.frozen 2
      have t2 := R5.out.e.frozen 2
      have q3 := R5.out.z.frozen 3
      have t3 := R5.out.e.frozen 3
      go_wp2
      have R6 := R5.out.set1 O5.out ok
      have S6 := S5.out.setAt R5.out.e (by decide) 1 (.slice B1 p1 e1)
      go_meet
      exact R6.fin S6
    by_cases e2 : z = 2
    · subst e2
      go_wp2_with fail
      go_at_call 111
      refine (l11DrawAny_d _ _ _ _ _ _ R3.out.D.s).mono ?_
      rintro e w5 ⟨B1, p1, e1, ms', rfl, _, own, h1, g1⟩
      have L0 : d0 < w3.heap.size := R3.out.z.lt
      have L1 : d1 < w3.heap.size := R3.out.e.lt
      have HS := hide R3.out.D.sz
      have S5 := hide (S3.out.next R3.out.D.s (by decide) g1)
      have R5 := hide (R3.out.next h1 g1)
      have O5 := hide own
      clear h1 g1 own
      have f0 := R5.out.e.cell 0
      have f1 := R5.out.e.cell 1
      have f2 := R5.out.e.cell 2
      have f3 := R5.out.e.cell 3
      have x0 := R5.out.z.cell 0
      have x1 := R5.out.z.cell 1
      have x2 := R5.out.z.cell 2
      have x3 := R5.out.z.cell 3
      simp at f0 f1 f2 f3 x0 x1 x2 x3
      have q0 := R5.out.z.frozen 0
      have t0 := R5.out.e.frozen 0
      have q1 := R5.out.z.frozen 1
      have t1 := R5.out.e.frozen 1
      have q2 := R5.out.z.frozen 2
      have t2 := R5.out.e.frozen 2
      have q3 := R5.out.z.frozen 3
      have t3 := R5.out.e.frozen 3
      go_wp2
      go_meet
      have N6 := R5.out.rn.setAt R5.out.e (by decide) 2 (.slice B1 p1 e1)
      have S6 := S5.out.setAt R5.out.e (by decide) 2 (.slice B1 p1 e1)
      exact ⟨⟨mid, mns, ms', mss⟩, A1, n1, c1, B1, p1, e1, _, n3, c3, H, R5.out.D.set R5.out.h1 _ _, R5.out.z.other hd01 _ _, R5.out.e.set 2 _, ⟨A1, n1, c1, B1, p1, e1, _, n3, c3, rfl, ⟨N6.rd, N6.hi⟩, (O5.out.setLow L1 2 (.slice B1 p1 e1)).mono hH4, ⟨S6.rd, S6.hi⟩⟩, R5.out.ok, hH0, hH1⟩
    by_cases e3 : z = 3
    · subst e3
      by_cases hc : c3 = 1
      · obtain rfl : n3 = 1 := by omega
        subst hc
        have f0 := R3.out.e.cell 0
        have f1 := R3.out.e.cell 1
        have f2 := R3.out.e.cell 2
        have f3 := R3.out.e.cell 3
        have x0 := R3.out.z.cell 0
        have x1 := R3.out.z.cell 1
        have x2 := R3.out.z.cell 2
        have x3 := R3.out.z.cell 3
        simp at f0 f1 f2 f3 x0 x1 x2 x3
        have q0 := R3.out.z.frozen 0
        have t0 := R3.out.e.frozen 0
        have q1 := R3.out.z.frozen 1
        have t1 := R3.out.e.frozen 1
        have q2 := R3.out.z.frozen 2
        have t2 := R3.out.e.frozen 2
        have q3 := R3.out.z.frozen 3
        have t3 := R3.out.e.frozen 3
        go_wp2
        go_meet
        have S6 := S3.out.setAt R3.out.e (by decide) 3 (.slice (some ⟨gs, 0, none⟩) 0 0)
        exact (R3.out.set3 (.slice (some ⟨gs, 0, none⟩) 0 0)).out3 (ss' := []) ⟨⟨rfl, by omega, by decide, fun e => by simp at e, fun hn => by omega⟩, fun hn => by omega⟩
      · have hc3 : ¬ c3 - 1 = 0 := by omega
        have f0 := R3.out.e.cell 0
        have f1 := R3.out.e.cell 1
        have f2 := R3.out.e.cell 2
        have f3 := R3.out.e.cell 3
        have x0 := R3.out.z.cell 0
        have x1 := R3.out.z.cell 1
        have x2 := R3.out.z.cell 2
        have x3 := R3.out.z.cell 3
        simp at f0 f1 f2 f3 x0 x1 x2 x3
        have q0 := R3.out.z.frozen 0
        have t0 := R3.out.e.frozen 0
        have q1 := R3.out.z.frozen 1
        have t1 := R3.out.e.frozen 1
        have q2 := R3.out.z.frozen 2
        have t2 := R3.out.e.frozen 2
        have q3 := R3.out.z.frozen 3
        have t3 := R3.out.e.frozen 3
        go_wp2
        go_meet
        have S6 := S3.out.setAt R3.out.e (by decide) 3 (.slice (some ⟨gs, 8, none⟩) (n3 - 1) (c3 - 1))
        exact (R3.out.set3 (.slice (some ⟨gs, 8, none⟩) (n3 - 1) (c3 - 1))).out3 ⟨S6.rd.drop1 hn0, fun hn b off s e => by
          simp at e
          obtain ⟨rfl, _⟩ := e
          exact gs0⟩
    by_cases e4 : z = 4
    · subst e4
      have RD := hide R3.out.drew
      have SD := hide (S3.out.drewN 1)
      have f3 := R3.out.e.cell 3
      simp at f3
      go_wp2_with fail
      refine wp_region_held_drew (S := (fun w' => w'.cell? ⟨d1, 3, none⟩ = some (.slice (some ⟨gs, 0, none⟩) n3 c3))) (by kernel_rfl) ?_ (fun hHeld => ?_)
      · (try dsimp only)
        go_keep
      refine wpAnyH_take (i := 0) (v := ?va1) rfl (by kernel_rfl) (by kernel_rfl) (by kernel_rfl) (fun _ _ _ h => h) (Or.inl ⟨by rfl, ?hya1⟩) (by assumption) ?rest1
      case hya1 => (intro wz hSw; (try dsimp only at hSw); go_simp; all_goals with_reducible rfl)
      try simp only [List.getElem_toArray, List.getElem_cons_succ, List.getElem_cons_zero, Act.put, List.setIfInBounds_toArray, List.set_cons_zero, List.set_cons_succ]
      refine wpAnyH_take (i := 1) (v := ?va2) rfl (by kernel_rfl) (by kernel_rfl) (by kernel_rfl) (fun _ _ _ h => h) (Or.inl ⟨by rfl, ?hya2⟩) (by assumption) ?rest2
      case hya2 => (intro wz hSw; (try dsimp only at hSw); go_simp; all_goals with_reducible rfl)
      try simp only [List.getElem_toArray, List.getElem_cons_succ, List.getElem_cons_zero, Act.put, List.setIfInBounds_toArray, List.set_cons_zero, List.set_cons_succ]
      refine wpAnyH_take (i := 2) (v := ?va3) rfl (by kernel_rfl) (by kernel_rfl) (by kernel_rfl) (fun _ _ _ h => h) (Or.inl ⟨by rfl, ?hya3⟩) (by assumption) ?rest3
      case hya3 => (intro wz hSw; (try dsimp only at hSw); go_simp; all_goals with_reducible rfl)
      try simp only [List.getElem_toArray, List.getElem_cons_succ, List.getElem_cons_zero, Act.put, List.setIfInBounds_toArray, List.set_cons_zero, List.set_cons_succ]
      refine wpAnyH_take (i := 3) (v := ?va4) rfl (by kernel_rfl) (by kernel_rfl) (by kernel_rfl) (fun _ _ _ h => h) (Or.inl ⟨by rfl, ?hya4⟩) (by assumption) ?rest4
      case hya4 => (intro wz hSw; (try dsimp only at hSw); go_simp; all_goals with_reducible rfl)
      try simp only [List.getElem_toArray, List.getElem_cons_succ, List.getElem_cons_zero, Act.put, List.setIfInBounds_toArray, List.set_cons_zero, List.set_cons_succ]
      refine wpAnyH_ready (rs := [4]) (by kernel_rfl) (by simp) ?_
      refine AllReadyH.cons rfl (fun K hK => ?_) AllReadyH.nil
      go_simp
      (go_at_call 112; refine (l08DrawAny_d _ _ _ _ _ _ RD.out.D.s).mono ?_; rintro e w5 ⟨nd, kd, sz, du, ch, rfl, h1, g1⟩; have S5 := hide (SD.out.next RD.out.D.s (by decide) g1); have R5 := hide (RD.out.next h1 g1); have y3 := R5.out.e.cell 3; simp at y3; obtain ⟨x, hx, hc⟩ := S5.out.at0 hk; have c3 := hc 3 _ rfl; have c4 : w5.cell? ⟨gs, k * 8 + 3 + 1, none⟩ = some (.int .i64 x.kd) := hc 4 _ rfl; have c5 : w5.cell? ⟨gs, k * 8 + 3 + 2, none⟩ = some (.int .i64 x.sz) := hc 5 _ rfl; have c6 : w5.cell? ⟨gs, k * 8 + 3 + 3, none⟩ = some (.int .i64 x.du) := hc 6 _ rfl; have c7 : w5.cell? ⟨gs, k * 8 + 3 + 4, none⟩ = some (.bool x.ch) := hc 7 _ rfl; have j3 := S5.out.frozen (k * 8 + 3); have j4 := S5.out.frozen (k * 8 + 3 + 1); have j5 := S5.out.frozen (k * 8 + 3 + 2); have j6 := S5.out.frozen (k * 8 + 3 + 3); have j7 := S5.out.frozen (k * 8 + 3 + 4); clear hc)
      go_wp2_with fail
      refine hK.out _ _ ?_ (fun hHeld4 => ?_)
      · (try dsimp only)
        go_keep
      clear hK K
      try simp only [List.getElem_toArray, List.getElem_cons_succ, List.getElem_cons_zero, Act.put, List.setIfInBounds_toArray, List.set_cons_zero, List.set_cons_succ]
      refine wpAnyH_take (i := 5) (v := ?va5) rfl (by kernel_rfl) (by kernel_rfl) (by kernel_rfl) (fun _ _ _ h => h) (Or.inl ⟨by rfl, ?hya5⟩) (by assumption) ?rest5
      case hya5 => (intro wz hSw; (try dsimp only at hSw); go_simp; all_goals with_reducible rfl)
      try simp only [List.getElem_toArray, List.getElem_cons_succ, List.getElem_cons_zero, Act.put, List.setIfInBounds_toArray, List.set_cons_zero, List.set_cons_succ]
      refine wpAnyH_take (i := 6) (v := ?va6) rfl (by kernel_rfl) (by kernel_rfl) (by kernel_rfl) (fun _ _ _ h => h) (Or.inl ⟨by rfl, ?hya6⟩) (by assumption) ?rest6
      case hya6 => (intro wz hSw; (try dsimp only at hSw); go_simp; all_goals with_reducible rfl)
      try simp only [List.getElem_toArray, List.getElem_cons_succ, List.getElem_cons_zero, Act.put, List.setIfInBounds_toArray, List.set_cons_zero, List.set_cons_succ]
      refine wpAnyH_ready (rs := [7]) (by kernel_rfl) (by simp) ?_
      refine AllReadyH.cons rfl (fun K hK => ?_) AllReadyH.nil
      go_simp
      refine hK.out _ _ ?_ (fun hHeld7 => ?_)
      · (try dsimp only)
        go_keep
      clear hK K
      try simp only [List.getElem_toArray, List.getElem_cons_succ, List.getElem_cons_zero, Act.put, List.setIfInBounds_toArray, List.set_cons_zero, List.set_cons_succ]
      refine wpAnyH_done (by kernel_rfl) ?_ _
      go_wp2
      go_meet
      have L := get_lt hx
      have P1 := S5.out.put1 (x' := ⟨x.md, x.rd, x.sl, nd, x.kd, x.sz, x.du, x.ch⟩) hx 3 (by omega) (.int .i64 nd) rfl
      have Q1 := R5.out.put S5.out (k * 8 + 3) (.int .i64 nd)
      have P2 := P1.put1 (x := ⟨x.md, x.rd, x.sl, nd, x.kd, x.sz, x.du, x.ch⟩) (x' := ⟨x.md, x.rd, x.sl, nd, kd, x.sz, x.du, x.ch⟩) (List.getElem?_set_self L) 4 (by omega) (.int .i64 kd) rfl
      have Q2 := Q1.put P1 (k * 8 + 4) (.int .i64 kd)
      have P3 := P2.put1 (x := ⟨x.md, x.rd, x.sl, nd, kd, x.sz, x.du, x.ch⟩) (x' := ⟨x.md, x.rd, x.sl, nd, kd, sz, x.du, x.ch⟩) (List.getElem?_set_self (by simpa using L)) 5 (by omega) (.int .i64 sz) rfl
      have Q3 := Q2.put P2 (k * 8 + 5) (.int .i64 sz)
      have P4 := P3.put1 (x := ⟨x.md, x.rd, x.sl, nd, kd, sz, x.du, x.ch⟩) (x' := ⟨x.md, x.rd, x.sl, nd, kd, sz, du, x.ch⟩) (List.getElem?_set_self (by simpa using L)) 6 (by omega) (.int .i64 du) rfl
      have Q4 := Q3.put P3 (k * 8 + 6) (.int .i64 du)
      have P5 := P4.put1 (x := ⟨x.md, x.rd, x.sl, nd, kd, sz, du, x.ch⟩) (x' := ⟨x.md, x.rd, x.sl, nd, kd, sz, du, ch⟩) (List.getElem?_set_self (by simpa using L)) 7 (by omega) (.bool ch) rfl
      have Q5 := Q4.put P4 (k * 8 + 7) (.bool ch)
      exact Q5.fin P5
    by_cases e5 : z = 5
    · subst e5
      have RD := hide R3.out.drew
      have SD := hide (S3.out.drewN 1)
      have f3 := R3.out.e.cell 3
      simp at f3
      obtain ⟨x, hx, hc⟩ := S3.out.at0 hk
      have c6 : w3.cell? ⟨gs, k * 8 + 3 + 3, none⟩ = some (.int .i64 x.du) := hc 6 _ rfl
      have j6 := S3.out.frozen (k * 8 + 3 + 3)
      clear hc
      go_wp2_with fail
      refine wp_region_held_drew (S := (fun w' => w'.cell? ⟨d1, 3, none⟩ = some (.slice (some ⟨gs, 0, none⟩) n3 c3))) (by kernel_rfl) ?_ (fun hHeld => ?_)
      · (try dsimp only)
        go_keep
      refine wpAnyH_take (i := 0) (v := ?va14) rfl (by kernel_rfl) (by kernel_rfl) (by kernel_rfl) (fun _ _ _ h => h) (Or.inl ⟨by rfl, ?hya14⟩) (by assumption) ?rest14
      case hya14 => (intro wz hSw; (try dsimp only at hSw); go_simp; all_goals with_reducible rfl)
      try simp only [List.getElem_toArray, List.getElem_cons_succ, List.getElem_cons_zero, Act.put, List.setIfInBounds_toArray, List.set_cons_zero, List.set_cons_succ]
      refine wpAnyH_take (i := 1) (v := ?va15) rfl (by kernel_rfl) (by kernel_rfl) (by kernel_rfl) (fun _ _ _ h => h) (Or.inl ⟨by rfl, ?hya15⟩) (by assumption) ?rest15
      case hya15 => (intro wz hSw; (try dsimp only at hSw); go_simp; all_goals with_reducible rfl)
      try simp only [List.getElem_toArray, List.getElem_cons_succ, List.getElem_cons_zero, Act.put, List.setIfInBounds_toArray, List.set_cons_zero, List.set_cons_succ]
      refine wpAnyH_take (i := 2) (v := ?va16) rfl (by kernel_rfl) (by kernel_rfl) (by kernel_rfl) (fun _ _ _ h => h) (Or.inl ⟨by rfl, ?hya16⟩) (by assumption) ?rest16
      case hya16 => (intro wz hSw; (try dsimp only at hSw); go_simp; all_goals with_reducible rfl)
      try simp only [List.getElem_toArray, List.getElem_cons_succ, List.getElem_cons_zero, Act.put, List.setIfInBounds_toArray, List.set_cons_zero, List.set_cons_succ]
      refine wpAnyH_take (i := 3) (v := ?va17) rfl (by kernel_rfl) (by kernel_rfl) (by kernel_rfl) (fun _ _ _ h => h) (Or.inl ⟨by rfl, ?hya17⟩) (by assumption) ?rest17
      case hya17 => (intro wz hSw; (try dsimp only at hSw); go_simp; all_goals with_reducible rfl)
      try simp only [List.getElem_toArray, List.getElem_cons_succ, List.getElem_cons_zero, Act.put, List.setIfInBounds_toArray, List.set_cons_zero, List.set_cons_succ]
      refine wpAnyH_take (i := 4) (v := ?va18) rfl (by kernel_rfl) (by kernel_rfl) (by kernel_rfl) (fun _ _ _ h => h) (Or.inl ⟨by rfl, ?hya18⟩) (by assumption) ?rest18
      case hya18 => (intro wz hSw; (try dsimp only at hSw); go_simp; all_goals with_reducible rfl)
      try simp only [List.getElem_toArray, List.getElem_cons_succ, List.getElem_cons_zero, Act.put, List.setIfInBounds_toArray, List.set_cons_zero, List.set_cons_succ]
      refine wpAnyH_take (i := 5) (v := ?va19) rfl (by kernel_rfl) (by kernel_rfl) (by kernel_rfl) (fun _ _ _ h => h) (Or.inl ⟨by rfl, ?hya19⟩) (by assumption) ?rest19
      case hya19 => (intro wz hSw; (try dsimp only at hSw); go_simp; all_goals with_reducible rfl)
      try simp only [List.getElem_toArray, List.getElem_cons_succ, List.getElem_cons_zero, Act.put, List.setIfInBounds_toArray, List.set_cons_zero, List.set_cons_succ]
      refine wpAnyH_take (i := 6) (v := ?va20) rfl (by kernel_rfl) (by kernel_rfl) (by kernel_rfl) (fun _ _ _ h => h) (Or.inl ⟨by rfl, ?hya20⟩) (by assumption) ?rest20
      case hya20 => (intro wz hSw; (try dsimp only at hSw); go_simp; all_goals with_reducible rfl)
      try simp only [List.getElem_toArray, List.getElem_cons_succ, List.getElem_cons_zero, Act.put, List.setIfInBounds_toArray, List.set_cons_zero, List.set_cons_succ]
      refine wpAnyH_take (i := 7) (v := ?va21) rfl (by kernel_rfl) (by kernel_rfl) (by kernel_rfl) (fun _ _ _ h => h) (Or.inl ⟨by rfl, ?hya21⟩) (by assumption) ?rest21
      case hya21 => (intro wz hSw; (try dsimp only at hSw); go_simp; all_goals with_reducible rfl)
      try simp only [List.getElem_toArray, List.getElem_cons_succ, List.getElem_cons_zero, Act.put, List.setIfInBounds_toArray, List.set_cons_zero, List.set_cons_succ]
      refine wpAnyH_take (i := 8) (v := ?va22) rfl (by kernel_rfl) (by kernel_rfl) (by kernel_rfl) (fun _ _ _ h => h) (Or.inl ⟨by rfl, ?hya22⟩) (by assumption) ?rest22
      case hya22 => (intro wz hSw; (try dsimp only at hSw); go_simp; all_goals with_reducible rfl)
      try simp only [List.getElem_toArray, List.getElem_cons_succ, List.getElem_cons_zero, Act.put, List.setIfInBounds_toArray, List.set_cons_zero, List.set_cons_succ]
      refine wpAnyH_ready (rs := [9]) (by kernel_rfl) (by simp) ?_
      refine AllReadyH.cons rfl (fun K hK => ?_) AllReadyH.nil
      go_simp
      refine hK.out _ _ ?_ (fun hHeld9 => ?_)
      · (try dsimp only)
        go_keep
      clear hK K
      try simp only [List.getElem_toArray, List.getElem_cons_succ, List.getElem_cons_zero, Act.put, List.setIfInBounds_toArray, List.set_cons_zero, List.set_cons_succ]
      refine wpAnyH_take (i := 10) (v := ?va23) rfl (by kernel_rfl) (by kernel_rfl) (by kernel_rfl) (fun _ _ _ h => h) (Or.inl ⟨by rfl, ?hya23⟩) (by assumption) ?rest23
      case hya23 => (intro wz hSw; (try dsimp only at hSw); go_simp; all_goals with_reducible rfl)
      try simp only [List.getElem_toArray, List.getElem_cons_succ, List.getElem_cons_zero, Act.put, List.setIfInBounds_toArray, List.set_cons_zero, List.set_cons_succ]
      refine wpAnyH_take (i := 11) (v := ?va24) rfl (by kernel_rfl) (by kernel_rfl) (by kernel_rfl) (fun _ _ _ h => h) (Or.inl ⟨by rfl, ?hya24⟩) (by assumption) ?rest24
      case hya24 => (intro wz hSw; (try dsimp only at hSw); go_simp; all_goals with_reducible rfl)
      try simp only [List.getElem_toArray, List.getElem_cons_succ, List.getElem_cons_zero, Act.put, List.setIfInBounds_toArray, List.set_cons_zero, List.set_cons_succ]
      refine wpAnyH_take (i := 12) (v := ?va25) rfl (by kernel_rfl) (by kernel_rfl) (by kernel_rfl) (fun _ _ _ h => h) (Or.inl ⟨by rfl, ?hya25⟩) (by assumption) ?rest25
      case hya25 => (intro wz hSw; (try dsimp only at hSw); go_simp; all_goals with_reducible rfl)
      try simp only [List.getElem_toArray, List.getElem_cons_succ, List.getElem_cons_zero, Act.put, List.setIfInBounds_toArray, List.set_cons_zero, List.set_cons_succ]
      refine wpAnyH_take (i := 13) (v := ?va26) rfl (by kernel_rfl) (by kernel_rfl) (by kernel_rfl) (fun _ _ _ h => h) (Or.inl ⟨by rfl, ?hya26⟩) (by assumption) ?rest26
      case hya26 => (intro wz hSw; (try dsimp only at hSw); go_simp; all_goals with_reducible rfl)
      try simp only [List.getElem_toArray, List.getElem_cons_succ, List.getElem_cons_zero, Act.put, List.setIfInBounds_toArray, List.set_cons_zero, List.set_cons_succ]
      refine wpAnyH_ready (rs := [14]) (by kernel_rfl) (by simp) ?_
      refine AllReadyH.cons rfl (fun K hK => ?_) AllReadyH.nil
      go_simp
      refine hK.out _ _ ?_ (fun hHeld14 => ?_)
      · (try dsimp only)
        go_keep
      clear hK K
      try simp only [List.getElem_toArray, List.getElem_cons_succ, List.getElem_cons_zero, Act.put, List.setIfInBounds_toArray, List.set_cons_zero, List.set_cons_succ]
      refine wpAnyH_done (by kernel_rfl) ?_ _
      go_wp2
      go_meet
      have P1 := SD.out.put1 (x' := ⟨x.md, x.rd, x.sl, x.nd, x.kd, x.sz, IntKind.wrap .i64 (x.du + 1), x.ch⟩) hx 6 (by omega) (.int .i64 (IntKind.wrap .i64 (x.du + 1))) rfl
      exact (RD.out.put SD.out (k * 8 + 6) _).fin P1
    by_cases e6 : z = 6
    · subst e6
      have RD := hide R3.out.drew
      have SD := hide (S3.out.drewN 1)
      have f3 := R3.out.e.cell 3
      simp at f3
      go_wp2_with fail
      refine wp_region_held_drew (S := (fun w' => w'.cell? ⟨d1, 3, none⟩ = some (.slice (some ⟨gs, 0, none⟩) n3 c3))) (by kernel_rfl) ?_ (fun hHeld => ?_)
      · (try dsimp only)
        go_keep
      refine wpAnyH_take (i := 0) (v := ?va7) rfl (by kernel_rfl) (by kernel_rfl) (by kernel_rfl) (fun _ _ _ h => h) (Or.inl ⟨by rfl, ?hya7⟩) (by assumption) ?rest7
      case hya7 => (intro wz hSw; (try dsimp only at hSw); go_simp; all_goals with_reducible rfl)
      try simp only [List.getElem_toArray, List.getElem_cons_succ, List.getElem_cons_zero, Act.put, List.setIfInBounds_toArray, List.set_cons_zero, List.set_cons_succ]
      refine wpAnyH_take (i := 1) (v := ?va8) rfl (by kernel_rfl) (by kernel_rfl) (by kernel_rfl) (fun _ _ _ h => h) (Or.inl ⟨by rfl, ?hya8⟩) (by assumption) ?rest8
      case hya8 => (intro wz hSw; (try dsimp only at hSw); go_simp; all_goals with_reducible rfl)
      try simp only [List.getElem_toArray, List.getElem_cons_succ, List.getElem_cons_zero, Act.put, List.setIfInBounds_toArray, List.set_cons_zero, List.set_cons_succ]
      refine wpAnyH_take (i := 2) (v := ?va9) rfl (by kernel_rfl) (by kernel_rfl) (by kernel_rfl) (fun _ _ _ h => h) (Or.inl ⟨by rfl, ?hya9⟩) (by assumption) ?rest9
      case hya9 => (intro wz hSw; (try dsimp only at hSw); go_simp; all_goals with_reducible rfl)
      try simp only [List.getElem_toArray, List.getElem_cons_succ, List.getElem_cons_zero, Act.put, List.setIfInBounds_toArray, List.set_cons_zero, List.set_cons_succ]
      refine wpAnyH_take (i := 3) (v := ?va10) rfl (by kernel_rfl) (by kernel_rfl) (by kernel_rfl) (fun _ _ _ h => h) (Or.inl ⟨by rfl, ?hya10⟩) (by assumption) ?rest10
      case hya10 => (intro wz hSw; (try dsimp only at hSw); go_simp; all_goals with_reducible rfl)
      try simp only [List.getElem_toArray, List.getElem_cons_succ, List.getElem_cons_zero, Act.put, List.setIfInBounds_toArray, List.set_cons_zero, List.set_cons_succ]
      refine wpAnyH_ready (rs := [4]) (by kernel_rfl) (by simp) ?_
      refine AllReadyH.cons rfl (fun K hK => ?_) AllReadyH.nil
      go_simp
      (go_at_call 47; refine (next_d _ _ _ _ _ _ _ RD.out.D.s).mono ?_; rintro e w5 ⟨nd, rfl, y0, y1, h1, g1⟩; have S5 := hide (SD.out.next RD.out.D.s (by decide) g1); have R5 := hide (RD.out.next h1 g1); have y3 := R5.out.e.cell 3; simp at y3; obtain ⟨x, hx, hc⟩ := S5.out.at0 hk; have c3 := hc 3 _ rfl; have j3 := S5.out.frozen (k * 8 + 3); clear hc)
      go_wp2_with fail
      refine hK.out _ _ ?_ (fun hHeld4 => ?_)
      · (try dsimp only)
        go_keep
      clear hK K
      try simp only [List.getElem_toArray, List.getElem_cons_succ, List.getElem_cons_zero, Act.put, List.setIfInBounds_toArray, List.set_cons_zero, List.set_cons_succ]
      refine wpAnyH_take (i := 5) (v := ?va11) rfl (by kernel_rfl) (by kernel_rfl) (by kernel_rfl) (fun _ _ _ h => h) (Or.inl ⟨by rfl, ?hya11⟩) (by assumption) ?rest11
      case hya11 => (intro wz hSw; (try dsimp only at hSw); go_simp; all_goals with_reducible rfl)
      try simp only [List.getElem_toArray, List.getElem_cons_succ, List.getElem_cons_zero, Act.put, List.setIfInBounds_toArray, List.set_cons_zero, List.set_cons_succ]
      refine wpAnyH_take (i := 6) (v := ?va12) rfl (by kernel_rfl) (by kernel_rfl) (by kernel_rfl) (fun _ _ _ h => h) (Or.inl ⟨by rfl, ?hya12⟩) (by assumption) ?rest12
      case hya12 => (intro wz hSw; (try dsimp only at hSw); go_simp; all_goals with_reducible rfl)
      try simp only [List.getElem_toArray, List.getElem_cons_succ, List.getElem_cons_zero, Act.put, List.setIfInBounds_toArray, List.set_cons_zero, List.set_cons_succ]
      refine wpAnyH_take (i := 7) (v := ?va13) rfl (by kernel_rfl) (by kernel_rfl) (by kernel_rfl) (fun _ _ _ h => h) (Or.inl ⟨by rfl, ?hya13⟩) (by assumption) ?rest13
      case hya13 => (intro wz hSw; (try dsimp only at hSw); go_simp; all_goals with_reducible rfl)
      try simp only [List.getElem_toArray, List.getElem_cons_succ, List.getElem_cons_zero, Act.put, List.setIfInBounds_toArray, List.set_cons_zero, List.set_cons_succ]
      refine wpAnyH_ready (rs := [8]) (by kernel_rfl) (by simp) ?_
      refine AllReadyH.cons rfl (fun K hK => ?_) AllReadyH.nil
      go_simp
      refine hK.out _ _ ?_ (fun hHeld8 => ?_)
      · (try dsimp only)
        go_keep
      clear hK K
      try simp only [List.getElem_toArray, List.getElem_cons_succ, List.getElem_cons_zero, Act.put, List.setIfInBounds_toArray, List.set_cons_zero, List.set_cons_succ]
      refine wpAnyH_done (by kernel_rfl) ?_ _
      go_wp2
      go_meet
      have P1 := S5.out.put1 (x' := ⟨x.md, x.rd, x.sl, nd, x.kd, x.sz, x.du, x.ch⟩) hx 3 (by omega) (.int .i64 nd) rfl
      exact (R5.out.put S5.out (k * 8 + 3) (.int .i64 nd)).fin P1
    by_cases e7 : z = 7
    · subst e7
      obtain ⟨x, hx, hc⟩ := S3.out.at0 hk
      have c4 := hc 4 _ rfl
      have c5 := hc 5 _ rfl
      have c7 := hc 7 _ rfl
      have f4 := S3.out.frozen (k * 8 + 4)
      have f5 := S3.out.frozen (k * 8 + 5)
      have f7 := S3.out.frozen (k * 8 + 7)
      have f3 := R3.out.e.cell 3
      simp at f3
      clear hc
      go_wp2
      go_meet
      have L := get_lt hx
      have P1 := S3.out.put1 (x' := ⟨x.md, x.rd, x.sl, x.nd, 3, x.sz, x.du, x.ch⟩) hx 4 (by omega) (.int .i64 3) rfl
      have Q1 := R3.out.put S3.out (k * 8 + 4) (.int .i64 3)
      have P2 := P1.put1 (x := ⟨x.md, x.rd, x.sl, x.nd, 3, x.sz, x.du, x.ch⟩) (x' := ⟨x.md, x.rd, x.sl, x.nd, 3, 0, x.du, x.ch⟩) (List.getElem?_set_self L) 5 (by omega) (.int .i64 0) rfl
      have Q2 := Q1.put P1 (k * 8 + 5) (.int .i64 0)
      have P3 := P2.put1 (x := ⟨x.md, x.rd, x.sl, x.nd, 3, 0, x.du, x.ch⟩) (x' := ⟨x.md, x.rd, x.sl, x.nd, 3, 0, x.du, false⟩) (List.getElem?_set_self (by rw [List.length_set]; exact L)) 7 (by omega) (.bool false) rfl
      have Q3 := Q2.put P2 (k * 8 + 7) (.bool false)
      exact Q3.fin P3
    by_cases e8 : z = 8
    · subst e8
      go_wp2_with fail
      go_loopw [5] (fun i wr => ∃ (j : Nat) (ss' : List Slt), i = .int .i64 j ∧ j ≤ n3 ∧ Hid (OwnR 61 Slt.v 8 wr H (some ⟨gs, 0, none⟩) n3 c3 ss') ∧ Hid (Rh w g A n c bs d0 d1 H mid A1 n1 c1 mns A2 n2 c2 mms (.slice (some ⟨gs, 0, none⟩) n3 c3) wr)) (fun i _ => n3 - (intOf i).toNat)
      case atStart => exact ⟨0, mss, rfl, by omega, S3, R3⟩
      case round =>
        obtain ⟨j, ss', rfl, hj, S4, R4⟩ := hrel
        have f3 := R4.out.e.cell 3
        simp at f3
        by_cases hlt : j < n3
        · obtain ⟨x, hx, hc⟩ := S4.out.at0 hlt
          have c6 : wr.cell? ⟨gs, j * 8 + 3 + 3, none⟩ = some (.int .i64 x.du) := hc 6 _ rfl
          have j6 := S4.out.frozen (j * 8 + 3 + 3)
          clear hc
          go_wp2
          go_roundw
          case rel => exact ⟨j + 1, _, by go_num, by omega, hide (S4.out.put1 (x' := ⟨x.md, x.rd, x.sl, x.nd, x.kd, x.sz, 1000, x.ch⟩) hx 6 (by omega) (.int .i64 1000) rfl), hide (R4.out.put S4.out (j * 8 + 6) (.int .i64 1000))⟩
          case measure => simp [intOf]; omega
        · have hH5 : H ≤ wr.heap.size := Nat.le_of_lt (Nat.lt_of_le_of_lt hHd R4.out.e.lt)
          go_wp2_with fail
          refine (next_d _ _ _ _ _ _ _ R4.out.D.s).mono ?_
          rintro e w5 ⟨y, rfl, y0, y1, h1, g1⟩
          have S5 := hide (S4.out.next R4.out.D.s (by decide) g1)
          have R5 := hide (R4.out.next h1 g1)
          have hH6 : H ≤ w5.heap.size := Nat.le_trans hH5 g1.size
          clear y1 h1 g1 f3
          by_cases hy : y = 0
          · subst hy
            have f0 := R5.out.e.cell 0
            have f1 := R5.out.e.cell 1
            have f2 := R5.out.e.cell 2
            have f3 := R5.out.e.cell 3
            have x0 := R5.out.z.cell 0
            have x1 := R5.out.z.cell 1
            have x2 := R5.out.z.cell 2
            have x3 := R5.out.z.cell 3
            simp at f0 f1 f2 f3 x0 x1 x2 x3
            have q0 := R5.out.z.frozen 0
            have t0 := R5.out.e.frozen 0
            have q1 := R5.out.z.frozen 1
            have t1 := R5.out.e.frozen 1
            have q2 := R5.out.z.frozen 2
            have t2 := R5.out.e.frozen 2
            have q3 := R5.out.z.frozen 3
            have t3 := R5.out.e.frozen 3
            have L1 : d1 < w5.heap.size := R5.out.e.lt
            go_wp2_with fail
            have L6 := hide (R5.out.lits hH6)
            obtain ⟨W6, hW6⟩ : ∃ W6, W6 = ((((((w5.setCell ⟨d1, 0, none⟩ (.int .i64 3)).setCell ⟨d1, 1, none⟩ (.slice (some ⟨w5.heap.size, 0, none⟩) 1 1)).setCell ⟨d1, 2, none⟩ (.slice (some ⟨w5.heap.size + 1, 0, none⟩) 1 1)).setCell ⟨d1, 3, none⟩ (.slice none 0 0)).alloc (.cells #[.int .i64 0, .string ⟨#[97]⟩, .int .i64 0, .bool false] 68)).alloc (.cells #[.int .i64 2, .int .i64 16, .slice none 0 0] 107)) := ⟨_, rfl⟩
            rw [← hW6] at L6
            rw [← hW6]
            have hH7 : H ≤ W6.heap.size := Nat.le_of_lt (Nat.lt_of_le_of_lt hHd L6.out.e.lt)
            obtain ⟨ga, hga⟩ : ∃ ga, ga = w5.heap.size := ⟨_, rfl⟩
            obtain ⟨gm, hgm⟩ : ∃ gm, gm = ga + 1 := ⟨_, rfl⟩
            rw [← hga, ← hgm] at L6
            clear hW6 S5 S4 R4 R5 L1 f0 f1 f2 f3 x0 x1 x2 x3 q0 q1 q2 q3 t0 t1 t2 t3
            refine (next_d _ _ _ _ _ _ _ L6.out.D.s).mono ?_
            rintro e w7 ⟨y2, rfl, y20, y21, h1, g1⟩
            have R7 := hide (L6.out.next h1 g1)
            have hH8 : H ≤ w7.heap.size := Nat.le_trans hH7 g1.size
            clear y21 h1 g1 L6
            by_cases hy2 : y2 = 0
            · subst hy2
              have L1 : d1 < w7.heap.size := R7.out.e.lt
              have f0 := R7.out.e.cell 0
              have f1 := R7.out.e.cell 1
              have f2 := R7.out.e.cell 2
              have f3 := R7.out.e.cell 3
              have x0 := R7.out.z.cell 0
              have x1 := R7.out.z.cell 1
              have x2 := R7.out.z.cell 2
              have x3 := R7.out.z.cell 3
              simp at f0 f1 f2 f3 x0 x1 x2 x3
              have q0 := R7.out.z.frozen 0
              have t0 := R7.out.e.frozen 0
              have q1 := R7.out.z.frozen 1
              have t1 := R7.out.e.frozen 1
              have q2 := R7.out.z.frozen 2
              have t2 := R7.out.e.frozen 2
              have q3 := R7.out.z.frozen 3
              have t3 := R7.out.e.frozen 3
              go_upto_region 31 with (fail)
              have R8' := hide (R7.out.modeLit hH8 3 11)
              obtain ⟨W8, hW8⟩ : ∃ W8, W8 = ((w7.setCell ⟨d1, 2, none⟩ (.slice (some ⟨w7.heap.size, 0, none⟩) 1 1)).alloc (.cells #[.int .i64 3, .int .i64 11, .slice none 0 0] 107)) := ⟨_, rfl⟩
              rw [← hW8] at R8'
              rw [← hW8]
              clear hgm R7 L1 f0 f1 f2 f3 x0 x1 x2 x3 q0 q1 q2 q3 t0 t1 t2 t3 hW8
              obtain ⟨gm, hgm⟩ : ∃ gm, gm = w7.heap.size := ⟨_, rfl⟩
              rw [← hgm] at R8'
              clear hgm
              have HW := hide (show H ≤ W8.heap.size from Nat.le_of_lt (Nat.lt_of_le_of_lt hHd R8'.out.e.lt))
              have E8 := hide (OwnR.empty (T := 61) (f := Slt.v) (k := 8) (B := H) W8 HW.out Slt.k)
              have R8 := hide (R8'.out.alloc (.cells #[] 61))
              clear R8'
              go_wp2_with fail
              go_loopw [6, 7] (fun s i wr => ∃ (p : Nat) (A7 : Option Addr) (c7 : Nat) (ls : List Slt), s = .slice A7 p c7 ∧ i = .int .i64 p ∧ p ≤ 33 ∧ Hid (OwnR 61 Slt.v 8 wr H A7 p c7 ls) ∧ Hid (Rh w g A n c bs d0 d1 H 3 (some ⟨ga, 0, none⟩) 1 1 [⟨0, ⟨#[97]⟩, 0, false⟩] (some ⟨gm, 0, none⟩) 1 1 [⟨3, 11, []⟩] (.slice none 0 0) wr)) (fun _ i _ => 33 - (intOf i).toNat)
              case atStart => exact ⟨0, _, _, _, rfl, rfl, by omega, E8, R8⟩
              case round =>
                clear E8 R8
                obtain ⟨p, A7, c7, ls, rfl, rfl, hp, hS, hR⟩ := hrel
                have RD := hide hR.out.drew
                have SD := hide (hS.out.drewN 1)
                have f2 := hR.out.e.cell 2
                have m2 := hR.out.rm.one
                have m2a := m2.1
                have m2b := m2.2
                simp at f2
                have HX := hide (show H ≤ wr.heap.size from Nat.le_of_lt (Nat.lt_of_le_of_lt hHd hR.out.e.lt))
                clear m2
                have hWN : IntKind.wrap .i64 33 = 33 := by decide
                by_cases hlp : p < 33
                · go_wp2_with fail
                  refine wp_region_held_drew (S := (fun w' => w'.cell? ⟨d1, 2, none⟩ = some (.slice (some ⟨gm, 0, none⟩) 1 1) ∧ w'.cell? ⟨gm, 0, none⟩ = some (.int .i64 3) ∧ w'.cell? ⟨gm, 1, none⟩ = some (.int .i64 11))) (by kernel_rfl) ?_ (fun hHeld => ?_)
                  · (try dsimp only)
                    go_keep
                  refine wpAnyH_take (i := 0) (v := ?va45) rfl (by kernel_rfl) (by kernel_rfl) (by kernel_rfl) (fun _ _ _ h => h) (Or.inl ⟨by rfl, ?hya45⟩) (by assumption) ?rest45
                  case hya45 => (intro wz hSw; (try dsimp only at hSw); go_simp; all_goals with_reducible rfl)
                  try simp only [List.getElem_toArray, List.getElem_cons_succ, List.getElem_cons_zero, Act.put, List.setIfInBounds_toArray, List.set_cons_zero, List.set_cons_succ]
                  refine wpAnyH_take (i := 1) (v := ?va46) rfl (by kernel_rfl) (by kernel_rfl) (by kernel_rfl) (fun _ _ _ h => h) (Or.inl ⟨by rfl, ?hya46⟩) (by assumption) ?rest46
                  case hya46 => (intro wz hSw; (try dsimp only at hSw); go_simp; all_goals with_reducible rfl)
                  try simp only [List.getElem_toArray, List.getElem_cons_succ, List.getElem_cons_zero, Act.put, List.setIfInBounds_toArray, List.set_cons_zero, List.set_cons_succ]
                  refine wpAnyH_take (i := 2) (v := ?va47) rfl (by kernel_rfl) (by kernel_rfl) (by kernel_rfl) (fun _ _ _ h => h) (Or.inl ⟨by rfl, ?hya47⟩) (by assumption) ?rest47
                  case hya47 => (intro wz hSw; (try dsimp only at hSw); go_simp; all_goals with_reducible rfl)
                  try simp only [List.getElem_toArray, List.getElem_cons_succ, List.getElem_cons_zero, Act.put, List.setIfInBounds_toArray, List.set_cons_zero, List.set_cons_succ]
                  refine wpAnyH_take (i := 3) (v := ?va48) rfl (by kernel_rfl) (by kernel_rfl) (by kernel_rfl) (fun _ _ _ h => h) (Or.inl ⟨by rfl, ?hya48⟩) (by assumption) ?rest48
                  case hya48 => (intro wz hSw; (try dsimp only at hSw); go_simp; all_goals with_reducible rfl)
                  try simp only [List.getElem_toArray, List.getElem_cons_succ, List.getElem_cons_zero, Act.put, List.setIfInBounds_toArray, List.set_cons_zero, List.set_cons_succ]
                  refine wpAnyH_take (i := 4) (v := ?va49) rfl (by kernel_rfl) (by kernel_rfl) (by kernel_rfl) (fun _ _ _ h => h) (Or.inl ⟨by rfl, ?hya49⟩) (by assumption) ?rest49
                  case hya49 => (intro wz hSw; (try dsimp only at hSw); go_simp; all_goals with_reducible rfl)
                  try simp only [List.getElem_toArray, List.getElem_cons_succ, List.getElem_cons_zero, Act.put, List.setIfInBounds_toArray, List.set_cons_zero, List.set_cons_succ]
                  refine wpAnyH_take (i := 5) (v := ?va50) rfl (by kernel_rfl) (by kernel_rfl) (by kernel_rfl) (fun _ _ _ h => h) (Or.inl ⟨by rfl, ?hya50⟩) (by assumption) ?rest50
                  case hya50 => (intro wz hSw; (try dsimp only at hSw); go_simp; all_goals with_reducible rfl)
                  try simp only [List.getElem_toArray, List.getElem_cons_succ, List.getElem_cons_zero, Act.put, List.setIfInBounds_toArray, List.set_cons_zero, List.set_cons_succ]
                  refine wpAnyH_take (i := 6) (v := ?va51) rfl (by kernel_rfl) (by kernel_rfl) (by kernel_rfl) (fun _ _ _ h => h) (Or.inl ⟨by rfl, ?hya51⟩) (by assumption) ?rest51
                  case hya51 => (intro wz hSw; (try dsimp only at hSw); go_simp; all_goals with_reducible rfl)
                  try simp only [List.getElem_toArray, List.getElem_cons_succ, List.getElem_cons_zero, Act.put, List.setIfInBounds_toArray, List.set_cons_zero, List.set_cons_succ]
                  refine wpAnyH_take (i := 7) (v := ?va52) rfl (by kernel_rfl) (by kernel_rfl) (by kernel_rfl) (fun _ _ _ h => h) (Or.inl ⟨by rfl, ?hya52⟩) (by assumption) ?rest52
                  case hya52 => (intro wz hSw; (try dsimp only at hSw); go_simp; all_goals with_reducible rfl)
                  try simp only [List.getElem_toArray, List.getElem_cons_succ, List.getElem_cons_zero, Act.put, List.setIfInBounds_toArray, List.set_cons_zero, List.set_cons_succ]
                  refine wpAnyH_take (i := 8) (v := ?va53) rfl (by kernel_rfl) (by kernel_rfl) (by kernel_rfl) (fun _ _ _ h => h) (Or.inl ⟨by rfl, ?hya53⟩) (by assumption) ?rest53
                  case hya53 => (intro wz hSw; (try dsimp only at hSw); go_simp; all_goals with_reducible rfl)
                  try simp only [List.getElem_toArray, List.getElem_cons_succ, List.getElem_cons_zero, Act.put, List.setIfInBounds_toArray, List.set_cons_zero, List.set_cons_succ]
                  refine wpAnyH_take (i := 9) (v := ?va54) rfl (by kernel_rfl) (by kernel_rfl) (by kernel_rfl) (fun _ _ _ h => h) (Or.inl ⟨by rfl, ?hya54⟩) (by assumption) ?rest54
                  case hya54 => (intro wz hSw; (try dsimp only at hSw); go_simp; all_goals with_reducible rfl)
                  try simp only [List.getElem_toArray, List.getElem_cons_succ, List.getElem_cons_zero, Act.put, List.setIfInBounds_toArray, List.set_cons_zero, List.set_cons_succ]
                  refine wpAnyH_take (i := 10) (v := ?va55) rfl (by kernel_rfl) (by kernel_rfl) (by kernel_rfl) (fun _ _ _ h => h) (Or.inl ⟨by rfl, ?hya55⟩) (by assumption) ?rest55
                  case hya55 => (intro wz hSw; (try dsimp only at hSw); go_simp; all_goals with_reducible rfl)
                  try simp only [List.getElem_toArray, List.getElem_cons_succ, List.getElem_cons_zero, Act.put, List.setIfInBounds_toArray, List.set_cons_zero, List.set_cons_succ]
                  refine wpAnyH_take (i := 11) (v := ?va56) rfl (by kernel_rfl) (by kernel_rfl) (by kernel_rfl) (fun _ _ _ h => h) (Or.inl ⟨by rfl, ?hya56⟩) (by assumption) ?rest56
                  case hya56 => (intro wz hSw; (try dsimp only at hSw); go_simp; all_goals with_reducible rfl)
                  try simp only [List.getElem_toArray, List.getElem_cons_succ, List.getElem_cons_zero, Act.put, List.setIfInBounds_toArray, List.set_cons_zero, List.set_cons_succ]
                  refine wpAnyH_take (i := 12) (v := ?va57) rfl (by kernel_rfl) (by kernel_rfl) (by kernel_rfl) (fun _ _ _ h => h) (Or.inl ⟨by rfl, ?hya57⟩) (by assumption) ?rest57
                  case hya57 => (intro wz hSw; (try dsimp only at hSw); go_simp; all_goals with_reducible rfl)
                  try simp only [List.getElem_toArray, List.getElem_cons_succ, List.getElem_cons_zero, Act.put, List.setIfInBounds_toArray, List.set_cons_zero, List.set_cons_succ]
                  refine wpAnyH_done (by kernel_rfl) ?_ _
                  go_wp2_with fail
                  refine wp_region_held_drew (S := (fun w' => w'.cell? ⟨d1, 2, none⟩ = some (.slice (some ⟨gm, 0, none⟩) 1 1) ∧ w'.cell? ⟨gm, 0, none⟩ = some (.int .i64 3) ∧ w'.cell? ⟨gm, 1, none⟩ = some (.int .i64 11))) (by kernel_rfl) ?_ (fun hHeld => ?_)
                  · (try dsimp only)
                    go_keep
                  refine wpAnyH_take (i := 0) (v := ?va28) rfl (by kernel_rfl) (by kernel_rfl) (by kernel_rfl) (fun _ _ _ h => h) (Or.inl ⟨by rfl, ?hya28⟩) (by assumption) ?rest28
                  case hya28 => (intro wz hSw; (try dsimp only at hSw); go_simp; all_goals with_reducible rfl)
                  try simp only [List.getElem_toArray, List.getElem_cons_succ, List.getElem_cons_zero, Act.put, List.setIfInBounds_toArray, List.set_cons_zero, List.set_cons_succ]
                  refine wpAnyH_take (i := 1) (v := ?va29) rfl (by kernel_rfl) (by kernel_rfl) (by kernel_rfl) (fun _ _ _ h => h) (Or.inl ⟨by rfl, ?hya29⟩) (by assumption) ?rest29
                  case hya29 => (intro wz hSw; (try dsimp only at hSw); go_simp; all_goals with_reducible rfl)
                  try simp only [List.getElem_toArray, List.getElem_cons_succ, List.getElem_cons_zero, Act.put, List.setIfInBounds_toArray, List.set_cons_zero, List.set_cons_succ]
                  refine wpAnyH_take (i := 2) (v := ?va30) rfl (by kernel_rfl) (by kernel_rfl) (by kernel_rfl) (fun _ _ _ h => h) (Or.inl ⟨by rfl, ?hya30⟩) (by assumption) ?rest30
                  case hya30 => (intro wz hSw; (try dsimp only at hSw); go_simp; all_goals with_reducible rfl)
                  try simp only [List.getElem_toArray, List.getElem_cons_succ, List.getElem_cons_zero, Act.put, List.setIfInBounds_toArray, List.set_cons_zero, List.set_cons_succ]
                  refine wpAnyH_take (i := 3) (v := ?va31) rfl (by kernel_rfl) (by kernel_rfl) (by kernel_rfl) (fun _ _ _ h => h) (Or.inl ⟨by rfl, ?hya31⟩) (by assumption) ?rest31
                  case hya31 => (intro wz hSw; (try dsimp only at hSw); go_simp; all_goals with_reducible rfl)
                  try simp only [List.getElem_toArray, List.getElem_cons_succ, List.getElem_cons_zero, Act.put, List.setIfInBounds_toArray, List.set_cons_zero, List.set_cons_succ]
                  refine wpAnyH_take (i := 4) (v := ?va32) rfl (by kernel_rfl) (by kernel_rfl) (by kernel_rfl) (fun _ _ _ h => h) (Or.inl ⟨by rfl, ?hya32⟩) (by assumption) ?rest32
                  case hya32 => (intro wz hSw; (try dsimp only at hSw); go_simp; all_goals with_reducible rfl)
                  try simp only [List.getElem_toArray, List.getElem_cons_succ, List.getElem_cons_zero, Act.put, List.setIfInBounds_toArray, List.set_cons_zero, List.set_cons_succ]
                  refine wpAnyH_take (i := 5) (v := ?va33) rfl (by kernel_rfl) (by kernel_rfl) (by kernel_rfl) (fun _ _ _ h => h) (Or.inl ⟨by rfl, ?hya33⟩) (by assumption) ?rest33
                  case hya33 => (intro wz hSw; (try dsimp only at hSw); go_simp; all_goals with_reducible rfl)
                  try simp only [List.getElem_toArray, List.getElem_cons_succ, List.getElem_cons_zero, Act.put, List.setIfInBounds_toArray, List.set_cons_zero, List.set_cons_succ]
                  refine wpAnyH_take (i := 6) (v := ?va34) rfl (by kernel_rfl) (by kernel_rfl) (by kernel_rfl) (fun _ _ _ h => h) (Or.inl ⟨by rfl, ?hya34⟩) (by assumption) ?rest34
                  case hya34 => (intro wz hSw; (try dsimp only at hSw); go_simp; all_goals with_reducible rfl)
                  try simp only [List.getElem_toArray, List.getElem_cons_succ, List.getElem_cons_zero, Act.put, List.setIfInBounds_toArray, List.set_cons_zero, List.set_cons_succ]
                  refine wpAnyH_take (i := 7) (v := ?va35) rfl (by kernel_rfl) (by kernel_rfl) (by kernel_rfl) (fun _ _ _ h => h) (Or.inl ⟨by rfl, ?hya35⟩) (by assumption) ?rest35
                  case hya35 => (intro wz hSw; (try dsimp only at hSw); go_simp; all_goals with_reducible rfl)
                  try simp only [List.getElem_toArray, List.getElem_cons_succ, List.getElem_cons_zero, Act.put, List.setIfInBounds_toArray, List.set_cons_zero, List.set_cons_succ]
                  refine wpAnyH_take (i := 8) (v := ?va36) rfl (by kernel_rfl) (by kernel_rfl) (by kernel_rfl) (fun _ _ _ h => h) (Or.inl ⟨by rfl, ?hya36⟩) (by assumption) ?rest36
                  case hya36 => (intro wz hSw; (try dsimp only at hSw); go_simp; all_goals with_reducible rfl)
                  try simp only [List.getElem_toArray, List.getElem_cons_succ, List.getElem_cons_zero, Act.put, List.setIfInBounds_toArray, List.set_cons_zero, List.set_cons_succ]
                  refine wpAnyH_take (i := 9) (v := ?va37) rfl (by kernel_rfl) (by kernel_rfl) (by kernel_rfl) (fun _ _ _ h => h) (Or.inl ⟨by rfl, ?hya37⟩) (by assumption) ?rest37
                  case hya37 => (intro wz hSw; (try dsimp only at hSw); go_simp; all_goals with_reducible rfl)
                  try simp only [List.getElem_toArray, List.getElem_cons_succ, List.getElem_cons_zero, Act.put, List.setIfInBounds_toArray, List.set_cons_zero, List.set_cons_succ]
                  refine wpAnyH_take (i := 10) (v := ?va38) rfl (by kernel_rfl) (by kernel_rfl) (by kernel_rfl) (fun _ _ _ h => h) (Or.inl ⟨by rfl, ?hya38⟩) (by assumption) ?rest38
                  case hya38 => (intro wz hSw; (try dsimp only at hSw); go_simp; all_goals with_reducible rfl)
                  try simp only [List.getElem_toArray, List.getElem_cons_succ, List.getElem_cons_zero, Act.put, List.setIfInBounds_toArray, List.set_cons_zero, List.set_cons_succ]
                  refine wpAnyH_take (i := 11) (v := ?va39) rfl (by kernel_rfl) (by kernel_rfl) (by kernel_rfl) (fun _ _ _ h => h) (Or.inl ⟨by rfl, ?hya39⟩) (by assumption) ?rest39
                  case hya39 => (intro wz hSw; (try dsimp only at hSw); go_simp; all_goals with_reducible rfl)
                  try simp only [List.getElem_toArray, List.getElem_cons_succ, List.getElem_cons_zero, Act.put, List.setIfInBounds_toArray, List.set_cons_zero, List.set_cons_succ]
                  refine wpAnyH_take (i := 12) (v := ?va40) rfl (by kernel_rfl) (by kernel_rfl) (by kernel_rfl) (fun _ _ _ h => h) (Or.inl ⟨by rfl, ?hya40⟩) (by assumption) ?rest40
                  case hya40 => (intro wz hSw; (try dsimp only at hSw); go_simp; all_goals with_reducible rfl)
                  try simp only [List.getElem_toArray, List.getElem_cons_succ, List.getElem_cons_zero, Act.put, List.setIfInBounds_toArray, List.set_cons_zero, List.set_cons_succ]
                  refine wpAnyH_take (i := 13) (v := ?va41) rfl (by kernel_rfl) (by kernel_rfl) (by kernel_rfl) (fun _ _ _ h => h) (Or.inl ⟨by rfl, ?hya41⟩) (by assumption) ?rest41
                  case hya41 => (intro wz hSw; (try dsimp only at hSw); go_simp; all_goals with_reducible rfl)
                  try simp only [List.getElem_toArray, List.getElem_cons_succ, List.getElem_cons_zero, Act.put, List.setIfInBounds_toArray, List.set_cons_zero, List.set_cons_succ]
                  refine wpAnyH_take (i := 14) (v := ?va42) rfl (by kernel_rfl) (by kernel_rfl) (by kernel_rfl) (fun _ _ _ h => h) (Or.inl ⟨by rfl, ?hya42⟩) (by assumption) ?rest42
                  case hya42 => (intro wz hSw; (try dsimp only at hSw); go_simp; all_goals with_reducible rfl)
                  try simp only [List.getElem_toArray, List.getElem_cons_succ, List.getElem_cons_zero, Act.put, List.setIfInBounds_toArray, List.set_cons_zero, List.set_cons_succ]
                  refine wpAnyH_take (i := 15) (v := ?va43) rfl (by kernel_rfl) (by kernel_rfl) (by kernel_rfl) (fun _ _ _ h => h) (Or.inl ⟨by rfl, ?hya43⟩) (by assumption) ?rest43
                  case hya43 => (intro wz hSw; (try dsimp only at hSw); go_simp; all_goals with_reducible rfl)
                  try simp only [List.getElem_toArray, List.getElem_cons_succ, List.getElem_cons_zero, Act.put, List.setIfInBounds_toArray, List.set_cons_zero, List.set_cons_succ]
                  refine wpAnyH_take (i := 16) (v := ?va44) rfl (by kernel_rfl) (by kernel_rfl) (by kernel_rfl) (fun _ _ _ h => h) (Or.inl ⟨by rfl, ?hya44⟩) (by assumption) ?rest44
                  case hya44 => (intro wz hSw; (try dsimp only at hSw); go_simp; all_goals with_reducible rfl)
                  try simp only [List.getElem_toArray, List.getElem_cons_succ, List.getElem_cons_zero, Act.put, List.setIfInBounds_toArray, List.set_cons_zero, List.set_cons_succ]
                  refine wpAnyH_ready (rs := [17]) (by kernel_rfl) (by simp) ?_
                  refine AllReadyH.cons rfl (fun K hK => ?_) AllReadyH.nil
                  go_simp
                  refine hK.out _ _ ?_ (fun hHeld17 => ?_)
                  · (try dsimp only)
                    go_keep
                  clear hK K
                  try simp only [List.getElem_toArray, List.getElem_cons_succ, List.getElem_cons_zero, Act.put, List.setIfInBounds_toArray, List.set_cons_zero, List.set_cons_succ]
                  have OY := hide (show OwnR 61 Slt.v 8 (wr.alloc (.cells #[.int .i64 0, .int .i64 (IntKind.wrap .i64 ((p : Int) / 11)), .int .i64 (Int.tmod (p : Int) 11), .int .i64 0, .int .i64 1, .int .i64 0, .int .i64 1000, .bool false] 61)).drew.drew H A7 p c7 ls from ((hS.out.alloc _).drewN 1).drewN 1)
                  have RY := hide ((hR.out.alloc (.cells #[.int .i64 0, .int .i64 (IntKind.wrap .i64 ((p : Int) / 11)), .int .i64 (Int.tmod (p : Int) 11), .int .i64 0, .int .i64 1, .int .i64 0, .int .i64 1000, .bool false] 61)).drew.drew)
                  have AY := hide (((At.fresh wr 61 #[.int .i64 0, .int .i64 (IntKind.wrap .i64 ((p : Int) / 11)), .int .i64 (Int.tmod (p : Int) 11), .int .i64 0, .int .i64 1, .int .i64 0, .int .i64 1000, .bool false]).keep ((Below.refl _ _).drew)).keep ((Below.refl _ _).drew))
                  have HY := hide (show H ≤ (wr.alloc (.cells #[.int .i64 0, .int .i64 (IntKind.wrap .i64 ((p : Int) / 11)), .int .i64 (Int.tmod (p : Int) 11), .int .i64 0, .int .i64 1, .int .i64 0, .int .i64 1000, .bool false] 61)).drew.drew.heap.size from Nat.le_of_lt (Nat.lt_of_le_of_lt hHd RY.out.e.lt))
                  refine wpAnyH_ready (rs := [18]) (by kernel_rfl) (by simp) ?_
                  refine AllReadyH.cons rfl (fun K hK => ?_) AllReadyH.nil
                  (refine step_append_rec (m := 1) info_slt Tryz.underlying26 rfl (by decide) (by decide) rfl _ _ rfl rfl OY.out #[.int .i64 0, .int .i64 (IntKind.wrap .i64 ((p : Int) / 11)), .int .i64 (Int.tmod (p : Int) 11), .int .i64 0, .int .i64 1, .int .i64 0, .int .i64 1000, .bool false] [⟨0, IntKind.wrap .i64 ((p : Int) / 11), Int.tmod (p : Int) 11, 0, 1, 0, 1000, false⟩] AY.out rfl rfl (by simp [Slt.v, Value.oneCell']) rfl (by omega) (by omega) HY.out ?_; intro A9 c9 w9 own9 gr9)
                  have R9 := hide (RY.out.grow OY.out gr9)
                  have O9 := hide own9
                  have k1 := R9.out.e.cell 2
                  have k2 := R9.out.rm.one
                  simp at k1
                  have K1 := k2.1
                  have K2 := k2.2
                  clear own9 gr9 k2 OY RY AY HY RD SD hR hS f2 m2a m2b
                  refine hK.out _ _ ?_ (fun hHeld18 => ?_)
                  · (try dsimp only)
                    exact ⟨k1, K1, K2⟩
                  clear hK K
                  try simp only [List.getElem_toArray, List.getElem_cons_succ, List.getElem_cons_zero, Act.put, List.setIfInBounds_toArray, List.set_cons_zero, List.set_cons_succ]
                  refine wpAnyH_take (i := 19) (v := ?va27) rfl (by kernel_rfl) (by kernel_rfl) (by kernel_rfl) (fun _ _ _ h => h) (Or.inl ⟨by rfl, ?hya27⟩) (by assumption) ?rest27
                  case hya27 => (intro wz hSw; (try dsimp only at hSw); go_simp; all_goals with_reducible rfl)
                  try simp only [List.getElem_toArray, List.getElem_cons_succ, List.getElem_cons_zero, Act.put, List.setIfInBounds_toArray, List.set_cons_zero, List.set_cons_succ]
                  refine wpAnyH_done (by kernel_rfl) ?_ _
                  go_wp2_with fail
                  go_roundw
                  case rel => exact ⟨p + 1, A9, c9, _, rfl, by go_num, by omega, O9, R9⟩
                  case measure => simp [intOf]; omega
                · obtain rfl : p = 33 := by omega
                  have f3 := RD.out.e.cell 3
                  simp at f3
                  have q3 := RD.out.e.frozen 3
                  go_wp2_with fail
                  refine wp_region_held_drew (S := (fun w' => w'.cell? ⟨d1, 2, none⟩ = some (.slice (some ⟨gm, 0, none⟩) 1 1) ∧ w'.cell? ⟨gm, 0, none⟩ = some (.int .i64 3) ∧ w'.cell? ⟨gm, 1, none⟩ = some (.int .i64 11))) (by kernel_rfl) ?_ (fun hHeld => ?_)
                  · (try dsimp only)
                    go_keep
                  refine wpAnyH_take (i := 0) (v := ?va58) rfl (by kernel_rfl) (by kernel_rfl) (by kernel_rfl) (fun _ _ _ h => h) (Or.inl ⟨by rfl, ?hya58⟩) (by assumption) ?rest58
                  case hya58 => (intro wz hSw; (try dsimp only at hSw); go_simp; all_goals with_reducible rfl)
                  try simp only [List.getElem_toArray, List.getElem_cons_succ, List.getElem_cons_zero, Act.put, List.setIfInBounds_toArray, List.set_cons_zero, List.set_cons_succ]
                  refine wpAnyH_take (i := 1) (v := ?va59) rfl (by kernel_rfl) (by kernel_rfl) (by kernel_rfl) (fun _ _ _ h => h) (Or.inl ⟨by rfl, ?hya59⟩) (by assumption) ?rest59
                  case hya59 => (intro wz hSw; (try dsimp only at hSw); go_simp; all_goals with_reducible rfl)
                  try simp only [List.getElem_toArray, List.getElem_cons_succ, List.getElem_cons_zero, Act.put, List.setIfInBounds_toArray, List.set_cons_zero, List.set_cons_succ]
                  refine wpAnyH_take (i := 2) (v := ?va60) rfl (by kernel_rfl) (by kernel_rfl) (by kernel_rfl) (fun _ _ _ h => h) (Or.inl ⟨by rfl, ?hya60⟩) (by assumption) ?rest60
                  case hya60 => (intro wz hSw; (try dsimp only at hSw); go_simp; all_goals with_reducible rfl)
                  try simp only [List.getElem_toArray, List.getElem_cons_succ, List.getElem_cons_zero, Act.put, List.setIfInBounds_toArray, List.set_cons_zero, List.set_cons_succ]
                  refine wpAnyH_take (i := 3) (v := ?va61) rfl (by kernel_rfl) (by kernel_rfl) (by kernel_rfl) (fun _ _ _ h => h) (Or.inl ⟨by rfl, ?hya61⟩) (by assumption) ?rest61
                  case hya61 => (intro wz hSw; (try dsimp only at hSw); go_simp; all_goals with_reducible rfl)
                  try simp only [List.getElem_toArray, List.getElem_cons_succ, List.getElem_cons_zero, Act.put, List.setIfInBounds_toArray, List.set_cons_zero, List.set_cons_succ]
                  refine wpAnyH_take (i := 4) (v := ?va62) rfl (by kernel_rfl) (by kernel_rfl) (by kernel_rfl) (fun _ _ _ h => h) (Or.inl ⟨by rfl, ?hya62⟩) (by assumption) ?rest62
                  case hya62 => (intro wz hSw; (try dsimp only at hSw); go_simp; all_goals with_reducible rfl)
                  try simp only [List.getElem_toArray, List.getElem_cons_succ, List.getElem_cons_zero, Act.put, List.setIfInBounds_toArray, List.set_cons_zero, List.set_cons_succ]
                  refine wpAnyH_take (i := 5) (v := ?va63) rfl (by kernel_rfl) (by kernel_rfl) (by kernel_rfl) (fun _ _ _ h => h) (Or.inl ⟨by rfl, ?hya63⟩) (by assumption) ?rest63
                  case hya63 => (intro wz hSw; (try dsimp only at hSw); go_simp; all_goals with_reducible rfl)
                  try simp only [List.getElem_toArray, List.getElem_cons_succ, List.getElem_cons_zero, Act.put, List.setIfInBounds_toArray, List.set_cons_zero, List.set_cons_succ]
                  refine wpAnyH_take (i := 6) (v := ?va64) rfl (by kernel_rfl) (by kernel_rfl) (by kernel_rfl) (fun _ _ _ h => h) (Or.inl ⟨by rfl, ?hya64⟩) (by assumption) ?rest64
                  case hya64 => (intro wz hSw; (try dsimp only at hSw); go_simp; all_goals with_reducible rfl)
                  try simp only [List.getElem_toArray, List.getElem_cons_succ, List.getElem_cons_zero, Act.put, List.setIfInBounds_toArray, List.set_cons_zero, List.set_cons_succ]
                  refine wpAnyH_take (i := 7) (v := ?va65) rfl (by kernel_rfl) (by kernel_rfl) (by kernel_rfl) (fun _ _ _ h => h) (Or.inl ⟨by rfl, ?hya65⟩) (by assumption) ?rest65
                  case hya65 => (intro wz hSw; (try dsimp only at hSw); go_simp; all_goals with_reducible rfl)
                  try simp only [List.getElem_toArray, List.getElem_cons_succ, List.getElem_cons_zero, Act.put, List.setIfInBounds_toArray, List.set_cons_zero, List.set_cons_succ]
                  refine wpAnyH_take (i := 8) (v := ?va66) rfl (by kernel_rfl) (by kernel_rfl) (by kernel_rfl) (fun _ _ _ h => h) (Or.inl ⟨by rfl, ?hya66⟩) (by assumption) ?rest66
                  case hya66 => (intro wz hSw; (try dsimp only at hSw); go_simp; all_goals with_reducible rfl)
                  try simp only [List.getElem_toArray, List.getElem_cons_succ, List.getElem_cons_zero, Act.put, List.setIfInBounds_toArray, List.set_cons_zero, List.set_cons_succ]
                  refine wpAnyH_take (i := 9) (v := ?va67) rfl (by kernel_rfl) (by kernel_rfl) (by kernel_rfl) (fun _ _ _ h => h) (Or.inl ⟨by rfl, ?hya67⟩) (by assumption) ?rest67
                  case hya67 => (intro wz hSw; (try dsimp only at hSw); go_simp; all_goals with_reducible rfl)
                  try simp only [List.getElem_toArray, List.getElem_cons_succ, List.getElem_cons_zero, Act.put, List.setIfInBounds_toArray, List.set_cons_zero, List.set_cons_succ]
                  refine wpAnyH_take (i := 10) (v := ?va68) rfl (by kernel_rfl) (by kernel_rfl) (by kernel_rfl) (fun _ _ _ h => h) (Or.inl ⟨by rfl, ?hya68⟩) (by assumption) ?rest68
                  case hya68 => (intro wz hSw; (try dsimp only at hSw); go_simp; all_goals with_reducible rfl)
                  try simp only [List.getElem_toArray, List.getElem_cons_succ, List.getElem_cons_zero, Act.put, List.setIfInBounds_toArray, List.set_cons_zero, List.set_cons_succ]
                  refine wpAnyH_take (i := 11) (v := ?va69) rfl (by kernel_rfl) (by kernel_rfl) (by kernel_rfl) (fun _ _ _ h => h) (Or.inl ⟨by rfl, ?hya69⟩) (by assumption) ?rest69
                  case hya69 => (intro wz hSw; (try dsimp only at hSw); go_simp; all_goals with_reducible rfl)
                  try simp only [List.getElem_toArray, List.getElem_cons_succ, List.getElem_cons_zero, Act.put, List.setIfInBounds_toArray, List.set_cons_zero, List.set_cons_succ]
                  refine wpAnyH_take (i := 12) (v := ?va70) rfl (by kernel_rfl) (by kernel_rfl) (by kernel_rfl) (fun _ _ _ h => h) (Or.inl ⟨by rfl, ?hya70⟩) (by assumption) ?rest70
                  case hya70 => (intro wz hSw; (try dsimp only at hSw); go_simp; all_goals with_reducible rfl)
                  try simp only [List.getElem_toArray, List.getElem_cons_succ, List.getElem_cons_zero, Act.put, List.setIfInBounds_toArray, List.set_cons_zero, List.set_cons_succ]
                  refine wpAnyH_done (by kernel_rfl) ?_ _
                  go_wp2
                  go_meet
                  exact (RD.out.set3 (.slice A7 33 c7)).fin (SD.out.setAt RD.out.e (by decide) 3 (.slice A7 33 c7))
            · have hyb : (y2 == 0) = false := by simpa using hy2
              go_upto_region 31 with (fail)
              clear hyb hy2
              have E8 := hide (OwnR.empty (T := 61) (f := Slt.v) (k := 8) (B := H) w7 hH8 Slt.k)
              have R8 := hide (R7.out.alloc (.cells #[] 61))
              clear hgm R7
              go_wp2_with fail
              go_loopw [6, 7] (fun s i wr => ∃ (p : Nat) (A7 : Option Addr) (c7 : Nat) (ls : List Slt), s = .slice A7 p c7 ∧ i = .int .i64 p ∧ p ≤ 32 ∧ Hid (OwnR 61 Slt.v 8 wr H A7 p c7 ls) ∧ Hid (Rh w g A n c bs d0 d1 H 3 (some ⟨ga, 0, none⟩) 1 1 [⟨0, ⟨#[97]⟩, 0, false⟩] (some ⟨gm, 0, none⟩) 1 1 [⟨2, 16, []⟩] (.slice none 0 0) wr)) (fun _ i _ => 32 - (intOf i).toNat)
              case atStart => exact ⟨0, _, _, _, rfl, rfl, by omega, E8, R8⟩
              case round =>
                clear E8 R8
                obtain ⟨p, A7, c7, ls, rfl, rfl, hp, hS, hR⟩ := hrel
                have RD := hide hR.out.drew
                have SD := hide (hS.out.drewN 1)
                have f2 := hR.out.e.cell 2
                have m2 := hR.out.rm.one
                have m2a := m2.1
                have m2b := m2.2
                simp at f2
                have HX := hide (show H ≤ wr.heap.size from Nat.le_of_lt (Nat.lt_of_le_of_lt hHd hR.out.e.lt))
                clear m2
                have hWN : IntKind.wrap .i64 32 = 32 := by decide
                by_cases hlp : p < 32
                · go_wp2_with fail
                  refine wp_region_held_drew (S := (fun w' => w'.cell? ⟨d1, 2, none⟩ = some (.slice (some ⟨gm, 0, none⟩) 1 1) ∧ w'.cell? ⟨gm, 0, none⟩ = some (.int .i64 2) ∧ w'.cell? ⟨gm, 1, none⟩ = some (.int .i64 16))) (by kernel_rfl) ?_ (fun hHeld => ?_)
                  · (try dsimp only)
                    go_keep
                  refine wpAnyH_take (i := 0) (v := ?va89) rfl (by kernel_rfl) (by kernel_rfl) (by kernel_rfl) (fun _ _ _ h => h) (Or.inl ⟨by rfl, ?hya89⟩) (by assumption) ?rest89
                  case hya89 => (intro wz hSw; (try dsimp only at hSw); go_simp; all_goals with_reducible rfl)
                  try simp only [List.getElem_toArray, List.getElem_cons_succ, List.getElem_cons_zero, Act.put, List.setIfInBounds_toArray, List.set_cons_zero, List.set_cons_succ]
                  refine wpAnyH_take (i := 1) (v := ?va90) rfl (by kernel_rfl) (by kernel_rfl) (by kernel_rfl) (fun _ _ _ h => h) (Or.inl ⟨by rfl, ?hya90⟩) (by assumption) ?rest90
                  case hya90 => (intro wz hSw; (try dsimp only at hSw); go_simp; all_goals with_reducible rfl)
                  try simp only [List.getElem_toArray, List.getElem_cons_succ, List.getElem_cons_zero, Act.put, List.setIfInBounds_toArray, List.set_cons_zero, List.set_cons_succ]
                  refine wpAnyH_take (i := 2) (v := ?va91) rfl (by kernel_rfl) (by kernel_rfl) (by kernel_rfl) (fun _ _ _ h => h) (Or.inl ⟨by rfl, ?hya91⟩) (by assumption) ?rest91
                  case hya91 => (intro wz hSw; (try dsimp only at hSw); go_simp; all_goals with_reducible rfl)
                  try simp only [List.getElem_toArray, List.getElem_cons_succ, List.getElem_cons_zero, Act.put, List.setIfInBounds_toArray, List.set_cons_zero, List.set_cons_succ]
                  refine wpAnyH_take (i := 3) (v := ?va92) rfl (by kernel_rfl) (by kernel_rfl) (by kernel_rfl) (fun _ _ _ h => h) (Or.inl ⟨by rfl, ?hya92⟩) (by assumption) ?rest92
                  case hya92 => (intro wz hSw; (try dsimp only at hSw); go_simp; all_goals with_reducible rfl)
                  try simp only [List.getElem_toArray, List.getElem_cons_succ, List.getElem_cons_zero, Act.put, List.setIfInBounds_toArray, List.set_cons_zero, List.set_cons_succ]
                  refine wpAnyH_take (i := 4) (v := ?va93) rfl (by kernel_rfl) (by kernel_rfl) (by kernel_rfl) (fun _ _ _ h => h) (Or.inl ⟨by rfl, ?hya93⟩) (by assumption) ?rest93
                  case hya93 => (intro wz hSw; (try dsimp only at hSw); go_simp; all_goals with_reducible rfl)
                  try simp only [List.getElem_toArray, List.getElem_cons_succ, List.getElem_cons_zero, Act.put, List.setIfInBounds_toArray, List.set_cons_zero, List.set_cons_succ]
                  refine wpAnyH_take (i := 5) (v := ?va94) rfl (by kernel_rfl) (by kernel_rfl) (by kernel_rfl) (fun _ _ _ h => h) (Or.inl ⟨by rfl, ?hya94⟩) (by assumption) ?rest94
                  case hya94 => (intro wz hSw; (try dsimp only at hSw); go_simp; all_goals with_reducible rfl)
                  try simp only [List.getElem_toArray, List.getElem_cons_succ, List.getElem_cons_zero, Act.put, List.setIfInBounds_toArray, List.set_cons_zero, List.set_cons_succ]
                  refine wpAnyH_take (i := 6) (v := ?va95) rfl (by kernel_rfl) (by kernel_rfl) (by kernel_rfl) (fun _ _ _ h => h) (Or.inl ⟨by rfl, ?hya95⟩) (by assumption) ?rest95
                  case hya95 => (intro wz hSw; (try dsimp only at hSw); go_simp; all_goals with_reducible rfl)
                  try simp only [List.getElem_toArray, List.getElem_cons_succ, List.getElem_cons_zero, Act.put, List.setIfInBounds_toArray, List.set_cons_zero, List.set_cons_succ]
                  refine wpAnyH_take (i := 7) (v := ?va96) rfl (by kernel_rfl) (by kernel_rfl) (by kernel_rfl) (fun _ _ _ h => h) (Or.inl ⟨by rfl, ?hya96⟩) (by assumption) ?rest96
                  case hya96 => (intro wz hSw; (try dsimp only at hSw); go_simp; all_goals with_reducible rfl)
                  try simp only [List.getElem_toArray, List.getElem_cons_succ, List.getElem_cons_zero, Act.put, List.setIfInBounds_toArray, List.set_cons_zero, List.set_cons_succ]
                  refine wpAnyH_take (i := 8) (v := ?va97) rfl (by kernel_rfl) (by kernel_rfl) (by kernel_rfl) (fun _ _ _ h => h) (Or.inl ⟨by rfl, ?hya97⟩) (by assumption) ?rest97
                  case hya97 => (intro wz hSw; (try dsimp only at hSw); go_simp; all_goals with_reducible rfl)
                  try simp only [List.getElem_toArray, List.getElem_cons_succ, List.getElem_cons_zero, Act.put, List.setIfInBounds_toArray, List.set_cons_zero, List.set_cons_succ]
                  refine wpAnyH_take (i := 9) (v := ?va98) rfl (by kernel_rfl) (by kernel_rfl) (by kernel_rfl) (fun _ _ _ h => h) (Or.inl ⟨by rfl, ?hya98⟩) (by assumption) ?rest98
                  case hya98 => (intro wz hSw; (try dsimp only at hSw); go_simp; all_goals with_reducible rfl)
                  try simp only [List.getElem_toArray, List.getElem_cons_succ, List.getElem_cons_zero, Act.put, List.setIfInBounds_toArray, List.set_cons_zero, List.set_cons_succ]
                  refine wpAnyH_take (i := 10) (v := ?va99) rfl (by kernel_rfl) (by kernel_rfl) (by kernel_rfl) (fun _ _ _ h => h) (Or.inl ⟨by rfl, ?hya99⟩) (by assumption) ?rest99
                  case hya99 => (intro wz hSw; (try dsimp only at hSw); go_simp; all_goals with_reducible rfl)
                  try simp only [List.getElem_toArray, List.getElem_cons_succ, List.getElem_cons_zero, Act.put, List.setIfInBounds_toArray, List.set_cons_zero, List.set_cons_succ]
                  refine wpAnyH_take (i := 11) (v := ?va100) rfl (by kernel_rfl) (by kernel_rfl) (by kernel_rfl) (fun _ _ _ h => h) (Or.inl ⟨by rfl, ?hya100⟩) (by assumption) ?rest100
                  case hya100 => (intro wz hSw; (try dsimp only at hSw); go_simp; all_goals with_reducible rfl)
                  try simp only [List.getElem_toArray, List.getElem_cons_succ, List.getElem_cons_zero, Act.put, List.setIfInBounds_toArray, List.set_cons_zero, List.set_cons_succ]
                  refine wpAnyH_take (i := 12) (v := ?va101) rfl (by kernel_rfl) (by kernel_rfl) (by kernel_rfl) (fun _ _ _ h => h) (Or.inl ⟨by rfl, ?hya101⟩) (by assumption) ?rest101
                  case hya101 => (intro wz hSw; (try dsimp only at hSw); go_simp; all_goals with_reducible rfl)
                  try simp only [List.getElem_toArray, List.getElem_cons_succ, List.getElem_cons_zero, Act.put, List.setIfInBounds_toArray, List.set_cons_zero, List.set_cons_succ]
                  refine wpAnyH_done (by kernel_rfl) ?_ _
                  go_wp2_with fail
                  refine wp_region_held_drew (S := (fun w' => w'.cell? ⟨d1, 2, none⟩ = some (.slice (some ⟨gm, 0, none⟩) 1 1) ∧ w'.cell? ⟨gm, 0, none⟩ = some (.int .i64 2) ∧ w'.cell? ⟨gm, 1, none⟩ = some (.int .i64 16))) (by kernel_rfl) ?_ (fun hHeld => ?_)
                  · (try dsimp only)
                    go_keep
                  refine wpAnyH_take (i := 0) (v := ?va72) rfl (by kernel_rfl) (by kernel_rfl) (by kernel_rfl) (fun _ _ _ h => h) (Or.inl ⟨by rfl, ?hya72⟩) (by assumption) ?rest72
                  case hya72 => (intro wz hSw; (try dsimp only at hSw); go_simp; all_goals with_reducible rfl)
                  try simp only [List.getElem_toArray, List.getElem_cons_succ, List.getElem_cons_zero, Act.put, List.setIfInBounds_toArray, List.set_cons_zero, List.set_cons_succ]
                  refine wpAnyH_take (i := 1) (v := ?va73) rfl (by kernel_rfl) (by kernel_rfl) (by kernel_rfl) (fun _ _ _ h => h) (Or.inl ⟨by rfl, ?hya73⟩) (by assumption) ?rest73
                  case hya73 => (intro wz hSw; (try dsimp only at hSw); go_simp; all_goals with_reducible rfl)
                  try simp only [List.getElem_toArray, List.getElem_cons_succ, List.getElem_cons_zero, Act.put, List.setIfInBounds_toArray, List.set_cons_zero, List.set_cons_succ]
                  refine wpAnyH_take (i := 2) (v := ?va74) rfl (by kernel_rfl) (by kernel_rfl) (by kernel_rfl) (fun _ _ _ h => h) (Or.inl ⟨by rfl, ?hya74⟩) (by assumption) ?rest74
                  case hya74 => (intro wz hSw; (try dsimp only at hSw); go_simp; all_goals with_reducible rfl)
                  try simp only [List.getElem_toArray, List.getElem_cons_succ, List.getElem_cons_zero, Act.put, List.setIfInBounds_toArray, List.set_cons_zero, List.set_cons_succ]
                  refine wpAnyH_take (i := 3) (v := ?va75) rfl (by kernel_rfl) (by kernel_rfl) (by kernel_rfl) (fun _ _ _ h => h) (Or.inl ⟨by rfl, ?hya75⟩) (by assumption) ?rest75
                  case hya75 => (intro wz hSw; (try dsimp only at hSw); go_simp; all_goals with_reducible rfl)
                  try simp only [List.getElem_toArray, List.getElem_cons_succ, List.getElem_cons_zero, Act.put, List.setIfInBounds_toArray, List.set_cons_zero, List.set_cons_succ]
                  refine wpAnyH_take (i := 4) (v := ?va76) rfl (by kernel_rfl) (by kernel_rfl) (by kernel_rfl) (fun _ _ _ h => h) (Or.inl ⟨by rfl, ?hya76⟩) (by assumption) ?rest76
                  case hya76 => (intro wz hSw; (try dsimp only at hSw); go_simp; all_goals with_reducible rfl)
                  try simp only [List.getElem_toArray, List.getElem_cons_succ, List.getElem_cons_zero, Act.put, List.setIfInBounds_toArray, List.set_cons_zero, List.set_cons_succ]
                  refine wpAnyH_take (i := 5) (v := ?va77) rfl (by kernel_rfl) (by kernel_rfl) (by kernel_rfl) (fun _ _ _ h => h) (Or.inl ⟨by rfl, ?hya77⟩) (by assumption) ?rest77
                  case hya77 => (intro wz hSw; (try dsimp only at hSw); go_simp; all_goals with_reducible rfl)
                  try simp only [List.getElem_toArray, List.getElem_cons_succ, List.getElem_cons_zero, Act.put, List.setIfInBounds_toArray, List.set_cons_zero, List.set_cons_succ]
                  refine wpAnyH_take (i := 6) (v := ?va78) rfl (by kernel_rfl) (by kernel_rfl) (by kernel_rfl) (fun _ _ _ h => h) (Or.inl ⟨by rfl, ?hya78⟩) (by assumption) ?rest78
                  case hya78 => (intro wz hSw; (try dsimp only at hSw); go_simp; all_goals with_reducible rfl)
                  try simp only [List.getElem_toArray, List.getElem_cons_succ, List.getElem_cons_zero, Act.put, List.setIfInBounds_toArray, List.set_cons_zero, List.set_cons_succ]
                  refine wpAnyH_take (i := 7) (v := ?va79) rfl (by kernel_rfl) (by kernel_rfl) (by kernel_rfl) (fun _ _ _ h => h) (Or.inl ⟨by rfl, ?hya79⟩) (by assumption) ?rest79
                  case hya79 => (intro wz hSw; (try dsimp only at hSw); go_simp; all_goals with_reducible rfl)
                  try simp only [List.getElem_toArray, List.getElem_cons_succ, List.getElem_cons_zero, Act.put, List.setIfInBounds_toArray, List.set_cons_zero, List.set_cons_succ]
                  refine wpAnyH_take (i := 8) (v := ?va80) rfl (by kernel_rfl) (by kernel_rfl) (by kernel_rfl) (fun _ _ _ h => h) (Or.inl ⟨by rfl, ?hya80⟩) (by assumption) ?rest80
                  case hya80 => (intro wz hSw; (try dsimp only at hSw); go_simp; all_goals with_reducible rfl)
                  try simp only [List.getElem_toArray, List.getElem_cons_succ, List.getElem_cons_zero, Act.put, List.setIfInBounds_toArray, List.set_cons_zero, List.set_cons_succ]
                  refine wpAnyH_take (i := 9) (v := ?va81) rfl (by kernel_rfl) (by kernel_rfl) (by kernel_rfl) (fun _ _ _ h => h) (Or.inl ⟨by rfl, ?hya81⟩) (by assumption) ?rest81
                  case hya81 => (intro wz hSw; (try dsimp only at hSw); go_simp; all_goals with_reducible rfl)
                  try simp only [List.getElem_toArray, List.getElem_cons_succ, List.getElem_cons_zero, Act.put, List.setIfInBounds_toArray, List.set_cons_zero, List.set_cons_succ]
                  refine wpAnyH_take (i := 10) (v := ?va82) rfl (by kernel_rfl) (by kernel_rfl) (by kernel_rfl) (fun _ _ _ h => h) (Or.inl ⟨by rfl, ?hya82⟩) (by assumption) ?rest82
                  case hya82 => (intro wz hSw; (try dsimp only at hSw); go_simp; all_goals with_reducible rfl)
                  try simp only [List.getElem_toArray, List.getElem_cons_succ, List.getElem_cons_zero, Act.put, List.setIfInBounds_toArray, List.set_cons_zero, List.set_cons_succ]
                  refine wpAnyH_take (i := 11) (v := ?va83) rfl (by kernel_rfl) (by kernel_rfl) (by kernel_rfl) (fun _ _ _ h => h) (Or.inl ⟨by rfl, ?hya83⟩) (by assumption) ?rest83
                  case hya83 => (intro wz hSw; (try dsimp only at hSw); go_simp; all_goals with_reducible rfl)
                  try simp only [List.getElem_toArray, List.getElem_cons_succ, List.getElem_cons_zero, Act.put, List.setIfInBounds_toArray, List.set_cons_zero, List.set_cons_succ]
                  refine wpAnyH_take (i := 12) (v := ?va84) rfl (by kernel_rfl) (by kernel_rfl) (by kernel_rfl) (fun _ _ _ h => h) (Or.inl ⟨by rfl, ?hya84⟩) (by assumption) ?rest84
                  case hya84 => (intro wz hSw; (try dsimp only at hSw); go_simp; all_goals with_reducible rfl)
                  try simp only [List.getElem_toArray, List.getElem_cons_succ, List.getElem_cons_zero, Act.put, List.setIfInBounds_toArray, List.set_cons_zero, List.set_cons_succ]
                  refine wpAnyH_take (i := 13) (v := ?va85) rfl (by kernel_rfl) (by kernel_rfl) (by kernel_rfl) (fun _ _ _ h => h) (Or.inl ⟨by rfl, ?hya85⟩) (by assumption) ?rest85
                  case hya85 => (intro wz hSw; (try dsimp only at hSw); go_simp; all_goals with_reducible rfl)
                  try simp only [List.getElem_toArray, List.getElem_cons_succ, List.getElem_cons_zero, Act.put, List.setIfInBounds_toArray, List.set_cons_zero, List.set_cons_succ]
                  refine wpAnyH_take (i := 14) (v := ?va86) rfl (by kernel_rfl) (by kernel_rfl) (by kernel_rfl) (fun _ _ _ h => h) (Or.inl ⟨by rfl, ?hya86⟩) (by assumption) ?rest86
                  case hya86 => (intro wz hSw; (try dsimp only at hSw); go_simp; all_goals with_reducible rfl)
                  try simp only [List.getElem_toArray, List.getElem_cons_succ, List.getElem_cons_zero, Act.put, List.setIfInBounds_toArray, List.set_cons_zero, List.set_cons_succ]
                  refine wpAnyH_take (i := 15) (v := ?va87) rfl (by kernel_rfl) (by kernel_rfl) (by kernel_rfl) (fun _ _ _ h => h) (Or.inl ⟨by rfl, ?hya87⟩) (by assumption) ?rest87
                  case hya87 => (intro wz hSw; (try dsimp only at hSw); go_simp; all_goals with_reducible rfl)
                  try simp only [List.getElem_toArray, List.getElem_cons_succ, List.getElem_cons_zero, Act.put, List.setIfInBounds_toArray, List.set_cons_zero, List.set_cons_succ]
                  refine wpAnyH_take (i := 16) (v := ?va88) rfl (by kernel_rfl) (by kernel_rfl) (by kernel_rfl) (fun _ _ _ h => h) (Or.inl ⟨by rfl, ?hya88⟩) (by assumption) ?rest88
                  case hya88 => (intro wz hSw; (try dsimp only at hSw); go_simp; all_goals with_reducible rfl)
                  try simp only [List.getElem_toArray, List.getElem_cons_succ, List.getElem_cons_zero, Act.put, List.setIfInBounds_toArray, List.set_cons_zero, List.set_cons_succ]
                  refine wpAnyH_ready (rs := [17]) (by kernel_rfl) (by simp) ?_
                  refine AllReadyH.cons rfl (fun K hK => ?_) AllReadyH.nil
                  go_simp
                  refine hK.out _ _ ?_ (fun hHeld17 => ?_)
                  · (try dsimp only)
                    go_keep
                  clear hK K
                  try simp only [List.getElem_toArray, List.getElem_cons_succ, List.getElem_cons_zero, Act.put, List.setIfInBounds_toArray, List.set_cons_zero, List.set_cons_succ]
                  have OY := hide (show OwnR 61 Slt.v 8 (wr.alloc (.cells #[.int .i64 0, .int .i64 (IntKind.wrap .i64 ((p : Int) / 16)), .int .i64 (Int.tmod (p : Int) 16), .int .i64 0, .int .i64 1, .int .i64 0, .int .i64 1000, .bool false] 61)).drew.drew H A7 p c7 ls from ((hS.out.alloc _).drewN 1).drewN 1)
                  have RY := hide ((hR.out.alloc (.cells #[.int .i64 0, .int .i64 (IntKind.wrap .i64 ((p : Int) / 16)), .int .i64 (Int.tmod (p : Int) 16), .int .i64 0, .int .i64 1, .int .i64 0, .int .i64 1000, .bool false] 61)).drew.drew)
                  have AY := hide (((At.fresh wr 61 #[.int .i64 0, .int .i64 (IntKind.wrap .i64 ((p : Int) / 16)), .int .i64 (Int.tmod (p : Int) 16), .int .i64 0, .int .i64 1, .int .i64 0, .int .i64 1000, .bool false]).keep ((Below.refl _ _).drew)).keep ((Below.refl _ _).drew))
                  have HY := hide (show H ≤ (wr.alloc (.cells #[.int .i64 0, .int .i64 (IntKind.wrap .i64 ((p : Int) / 16)), .int .i64 (Int.tmod (p : Int) 16), .int .i64 0, .int .i64 1, .int .i64 0, .int .i64 1000, .bool false] 61)).drew.drew.heap.size from Nat.le_of_lt (Nat.lt_of_le_of_lt hHd RY.out.e.lt))
                  refine wpAnyH_ready (rs := [18]) (by kernel_rfl) (by simp) ?_
                  refine AllReadyH.cons rfl (fun K hK => ?_) AllReadyH.nil
                  (refine step_append_rec (m := 1) info_slt Tryz.underlying26 rfl (by decide) (by decide) rfl _ _ rfl rfl OY.out #[.int .i64 0, .int .i64 (IntKind.wrap .i64 ((p : Int) / 16)), .int .i64 (Int.tmod (p : Int) 16), .int .i64 0, .int .i64 1, .int .i64 0, .int .i64 1000, .bool false] [⟨0, IntKind.wrap .i64 ((p : Int) / 16), Int.tmod (p : Int) 16, 0, 1, 0, 1000, false⟩] AY.out rfl rfl (by simp [Slt.v, Value.oneCell']) rfl (by omega) (by omega) HY.out ?_; intro A9 c9 w9 own9 gr9)
                  have R9 := hide (RY.out.grow OY.out gr9)
                  have O9 := hide own9
                  have k1 := R9.out.e.cell 2
                  have k2 := R9.out.rm.one
                  simp at k1
                  have K1 := k2.1
                  have K2 := k2.2
                  clear own9 gr9 k2 OY RY AY HY RD SD hR hS f2 m2a m2b
                  refine hK.out _ _ ?_ (fun hHeld18 => ?_)
                  · (try dsimp only)
                    exact ⟨k1, K1, K2⟩
                  clear hK K
                  try simp only [List.getElem_toArray, List.getElem_cons_succ, List.getElem_cons_zero, Act.put, List.setIfInBounds_toArray, List.set_cons_zero, List.set_cons_succ]
                  refine wpAnyH_take (i := 19) (v := ?va71) rfl (by kernel_rfl) (by kernel_rfl) (by kernel_rfl) (fun _ _ _ h => h) (Or.inl ⟨by rfl, ?hya71⟩) (by assumption) ?rest71
                  case hya71 => (intro wz hSw; (try dsimp only at hSw); go_simp; all_goals with_reducible rfl)
                  try simp only [List.getElem_toArray, List.getElem_cons_succ, List.getElem_cons_zero, Act.put, List.setIfInBounds_toArray, List.set_cons_zero, List.set_cons_succ]
                  refine wpAnyH_done (by kernel_rfl) ?_ _
                  go_wp2_with fail
                  go_roundw
                  case rel => exact ⟨p + 1, A9, c9, _, rfl, by go_num, by omega, O9, R9⟩
                  case measure => simp [intOf]; omega
                · obtain rfl : p = 32 := by omega
                  have f3 := RD.out.e.cell 3
                  simp at f3
                  have q3 := RD.out.e.frozen 3
                  go_wp2_with fail
                  refine wp_region_held_drew (S := (fun w' => w'.cell? ⟨d1, 2, none⟩ = some (.slice (some ⟨gm, 0, none⟩) 1 1) ∧ w'.cell? ⟨gm, 0, none⟩ = some (.int .i64 2) ∧ w'.cell? ⟨gm, 1, none⟩ = some (.int .i64 16))) (by kernel_rfl) ?_ (fun hHeld => ?_)
                  · (try dsimp only)
                    go_keep
                  refine wpAnyH_take (i := 0) (v := ?va102) rfl (by kernel_rfl) (by kernel_rfl) (by kernel_rfl) (fun _ _ _ h => h) (Or.inl ⟨by rfl, ?hya102⟩) (by assumption) ?rest102
                  case hya102 => (intro wz hSw; (try dsimp only at hSw); go_simp; all_goals with_reducible rfl)
                  try simp only [List.getElem_toArray, List.getElem_cons_succ, List.getElem_cons_zero, Act.put, List.setIfInBounds_toArray, List.set_cons_zero, List.set_cons_succ]
                  refine wpAnyH_take (i := 1) (v := ?va103) rfl (by kernel_rfl) (by kernel_rfl) (by kernel_rfl) (fun _ _ _ h => h) (Or.inl ⟨by rfl, ?hya103⟩) (by assumption) ?rest103
                  case hya103 => (intro wz hSw; (try dsimp only at hSw); go_simp; all_goals with_reducible rfl)
                  try simp only [List.getElem_toArray, List.getElem_cons_succ, List.getElem_cons_zero, Act.put, List.setIfInBounds_toArray, List.set_cons_zero, List.set_cons_succ]
                  refine wpAnyH_take (i := 2) (v := ?va104) rfl (by kernel_rfl) (by kernel_rfl) (by kernel_rfl) (fun _ _ _ h => h) (Or.inl ⟨by rfl, ?hya104⟩) (by assumption) ?rest104
                  case hya104 => (intro wz hSw; (try dsimp only at hSw); go_simp; all_goals with_reducible rfl)
                  try simp only [List.getElem_toArray, List.getElem_cons_succ, List.getElem_cons_zero, Act.put, List.setIfInBounds_toArray, List.set_cons_zero, List.set_cons_succ]
                  refine wpAnyH_take (i := 3) (v := ?va105) rfl (by kernel_rfl) (by kernel_rfl) (by kernel_rfl) (fun _ _ _ h => h) (Or.inl ⟨by rfl, ?hya105⟩) (by assumption) ?rest105
                  case hya105 => (intro wz hSw; (try dsimp only at hSw); go_simp; all_goals with_reducible rfl)
                  try simp only [List.getElem_toArray, List.getElem_cons_succ, List.getElem_cons_zero, Act.put, List.setIfInBounds_toArray, List.set_cons_zero, List.set_cons_succ]
                  refine wpAnyH_take (i := 4) (v := ?va106) rfl (by kernel_rfl) (by kernel_rfl) (by kernel_rfl) (fun _ _ _ h => h) (Or.inl ⟨by rfl, ?hya106⟩) (by assumption) ?rest106
                  case hya106 => (intro wz hSw; (try dsimp only at hSw); go_simp; all_goals with_reducible rfl)
                  try simp only [List.getElem_toArray, List.getElem_cons_succ, List.getElem_cons_zero, Act.put, List.setIfInBounds_toArray, List.set_cons_zero, List.set_cons_succ]
                  refine wpAnyH_take (i := 5) (v := ?va107) rfl (by kernel_rfl) (by kernel_rfl) (by kernel_rfl) (fun _ _ _ h => h) (Or.inl ⟨by rfl, ?hya107⟩) (by assumption) ?rest107
                  case hya107 => (intro wz hSw; (try dsimp only at hSw); go_simp; all_goals with_reducible rfl)
                  try simp only [List.getElem_toArray, List.getElem_cons_succ, List.getElem_cons_zero, Act.put, List.setIfInBounds_toArray, List.set_cons_zero, List.set_cons_succ]
                  refine wpAnyH_take (i := 6) (v := ?va108) rfl (by kernel_rfl) (by kernel_rfl) (by kernel_rfl) (fun _ _ _ h => h) (Or.inl ⟨by rfl, ?hya108⟩) (by assumption) ?rest108
                  case hya108 => (intro wz hSw; (try dsimp only at hSw); go_simp; all_goals with_reducible rfl)
                  try simp only [List.getElem_toArray, List.getElem_cons_succ, List.getElem_cons_zero, Act.put, List.setIfInBounds_toArray, List.set_cons_zero, List.set_cons_succ]
                  refine wpAnyH_take (i := 7) (v := ?va109) rfl (by kernel_rfl) (by kernel_rfl) (by kernel_rfl) (fun _ _ _ h => h) (Or.inl ⟨by rfl, ?hya109⟩) (by assumption) ?rest109
                  case hya109 => (intro wz hSw; (try dsimp only at hSw); go_simp; all_goals with_reducible rfl)
                  try simp only [List.getElem_toArray, List.getElem_cons_succ, List.getElem_cons_zero, Act.put, List.setIfInBounds_toArray, List.set_cons_zero, List.set_cons_succ]
                  refine wpAnyH_take (i := 8) (v := ?va110) rfl (by kernel_rfl) (by kernel_rfl) (by kernel_rfl) (fun _ _ _ h => h) (Or.inl ⟨by rfl, ?hya110⟩) (by assumption) ?rest110
                  case hya110 => (intro wz hSw; (try dsimp only at hSw); go_simp; all_goals with_reducible rfl)
                  try simp only [List.getElem_toArray, List.getElem_cons_succ, List.getElem_cons_zero, Act.put, List.setIfInBounds_toArray, List.set_cons_zero, List.set_cons_succ]
                  refine wpAnyH_take (i := 9) (v := ?va111) rfl (by kernel_rfl) (by kernel_rfl) (by kernel_rfl) (fun _ _ _ h => h) (Or.inl ⟨by rfl, ?hya111⟩) (by assumption) ?rest111
                  case hya111 => (intro wz hSw; (try dsimp only at hSw); go_simp; all_goals with_reducible rfl)
                  try simp only [List.getElem_toArray, List.getElem_cons_succ, List.getElem_cons_zero, Act.put, List.setIfInBounds_toArray, List.set_cons_zero, List.set_cons_succ]
                  refine wpAnyH_take (i := 10) (v := ?va112) rfl (by kernel_rfl) (by kernel_rfl) (by kernel_rfl) (fun _ _ _ h => h) (Or.inl ⟨by rfl, ?hya112⟩) (by assumption) ?rest112
                  case hya112 => (intro wz hSw; (try dsimp only at hSw); go_simp; all_goals with_reducible rfl)
                  try simp only [List.getElem_toArray, List.getElem_cons_succ, List.getElem_cons_zero, Act.put, List.setIfInBounds_toArray, List.set_cons_zero, List.set_cons_succ]
                  refine wpAnyH_take (i := 11) (v := ?va113) rfl (by kernel_rfl) (by kernel_rfl) (by kernel_rfl) (fun _ _ _ h => h) (Or.inl ⟨by rfl, ?hya113⟩) (by assumption) ?rest113
                  case hya113 => (intro wz hSw; (try dsimp only at hSw); go_simp; all_goals with_reducible rfl)
                  try simp only [List.getElem_toArray, List.getElem_cons_succ, List.getElem_cons_zero, Act.put, List.setIfInBounds_toArray, List.set_cons_zero, List.set_cons_succ]
                  refine wpAnyH_take (i := 12) (v := ?va114) rfl (by kernel_rfl) (by kernel_rfl) (by kernel_rfl) (fun _ _ _ h => h) (Or.inl ⟨by rfl, ?hya114⟩) (by assumption) ?rest114
                  case hya114 => (intro wz hSw; (try dsimp only at hSw); go_simp; all_goals with_reducible rfl)
                  try simp only [List.getElem_toArray, List.getElem_cons_succ, List.getElem_cons_zero, Act.put, List.setIfInBounds_toArray, List.set_cons_zero, List.set_cons_succ]
                  refine wpAnyH_done (by kernel_rfl) ?_ _
                  go_wp2
                  go_meet
                  exact (RD.out.set3 (.slice A7 32 c7)).fin (SD.out.setAt RD.out.e (by decide) 3 (.slice A7 32 c7))
          · go_wp2
            go_meet
            exact R5.out.fin S5.out
    go_wp2
    go_meet
    exact R3.out.fin S3.out
end Go.Proofs.YtdkhldebnpmiiaaGreatDoor
