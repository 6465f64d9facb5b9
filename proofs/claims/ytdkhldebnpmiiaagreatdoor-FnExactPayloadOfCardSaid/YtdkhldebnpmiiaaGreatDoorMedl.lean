/- Words for schedules: nodes, modes, slots; how a schedule lies in memory. -/
import Derived.Test.YtdkhldebnpmiiaaGreatDoorRow
import Derived.Test.YtdkhldebnpmiiaaGreatDoorBits
namespace Go.Proofs.YtdkhldebnpmiiaaGreatDoor
open Go.RowKit
set_option linter.unusedVariables false
set_option linter.unusedSimpArgs false

structure Nod where
  id : Int
  nm : ByteArray
  dr : Int
  pas : Bool
def Nod.v (x : Nod) : List Value := [.int .i64 x.id, .string x.nm, .int .i64 x.dr, .bool x.pas]
structure PMod where
  rd : Int
  sl : Int
  nx : List Int
structure Mod where
  rd : Int
  sl : Int
  A : Option Addr
  n : Nat
  c : Nat
  nx : List Int
def Mod.v (x : Mod) : List Value := [.int .i64 x.rd, .int .i64 x.sl, .slice x.A x.n x.c]
def Mod.p (x : Mod) : PMod := ⟨x.rd, x.sl, x.nx⟩
structure Slt where
  md : Int
  rd : Int
  sl : Int
  nd : Int
  kd : Int
  sz : Int
  du : Int
  ch : Bool
def Slt.v (x : Slt) : List Value := [.int .i64 x.md, .int .i64 x.rd, .int .i64 x.sl, .int .i64 x.nd, .int .i64 x.kd, .int .i64 x.sz, .int .i64 x.du, .bool x.ch]
theorem Nod.k (x : Nod) : (Nod.v x).length = 4 := rfl
theorem Mod.k (x : Mod) : (Mod.v x).length = 3 := rfl
theorem Slt.k (x : Slt) : (Slt.v x).length = 8 := rfl
structure Mdl where
  id : Int
  ns : List Nod
  ms : List PMod
  ss : List Slt
/-- the names' sizes are Go's -/
def Nms (m : Mdl) : Prop := ∀ x ∈ m.ns, x.nm.size ≤ 9223372036854775807
/-- what the law's own look at the sizes leaves -/
structure SmlM (m : Mdl) : Prop where
  ns : m.ns.length ≤ 1048576
  ms : m.ms.length ≤ 1048576
  nx : ∀ x ∈ m.ms, x.nx.length ≤ 1048576
  ss : m.ss.length ≤ 1048576
section
variable {w w' : World} {A : Option Addr} {n c : Nat}
/-- a row of modes -/
def RdMs (w : World) (A : Option Addr) (n c : Nat) (ms : List PMod) : Prop := ∃ l : List Mod, RdR Mod.v 3 w A n c l ∧ (∀ x ∈ l, Rd w x.A x.n x.c x.nx) ∧ l.map Mod.p = ms
theorem RdMs.below {ms : List PMod} (h : RdMs w A n c ms) (hb : Below w.heap.size w w') : RdMs w' A n c ms := by
  obtain ⟨l, h1, h2, h3⟩ := h
  exact ⟨l, h1.below hb, fun x hx => (h2 x hx).below hb, h3⟩
theorem RdMs.len {ms : List PMod} (h : RdMs w A n c ms) : ms.length = n := by
  obtain ⟨l, h1, h2, rfl⟩ := h
  rw [List.length_map]
  exact h1.len
theorem RdMs.cap {ms : List PMod} (h : RdMs w A n c ms) : n ≤ c ∧ c ≤ 9223372036854775807 := by
  obtain ⟨l, h1, h2, rfl⟩ := h
  exact h1.cap
theorem RdMs.none0 {ms : List PMod} (h : RdMs w A n c ms) : A = none → c = 0 := by
  obtain ⟨l, h1, h2, rfl⟩ := h
  exact h1.none0
/-- a schedule, by value -/
def RdM (w : World) (v : Value) (m : Mdl) : Prop := ∃ (A1 : Option Addr) (n1 c1 : Nat) (A2 : Option Addr) (n2 c2 : Nat) (A3 : Option Addr) (n3 c3 : Nat), v = .agg #[.int .i64 m.id, .slice A1 n1 c1, .slice A2 n2 c2, .slice A3 n3 c3] ∧ RdR Nod.v 4 w A1 n1 c1 m.ns ∧ RdMs w A2 n2 c2 m.ms ∧ RdR Slt.v 8 w A3 n3 c3 m.ss
theorem RdM.below {v : Value} {m : Mdl} (h : RdM w v m) (hb : Below w.heap.size w w') : RdM w' v m := by
  obtain ⟨A1, n1, c1, A2, n2, c2, A3, n3, c3, rfl, h1, h2, h3⟩ := h
  exact ⟨A1, n1, c1, A2, n2, c2, A3, n3, c3, rfl, h1.below hb, h2.below hb, h3.below hb⟩
theorem RdM.drewN {v : Value} {m : Mdl} (h : RdM w v m) (k : Nat) : RdM (w.drewN k) v m := h
/-- one node -/
theorem nod_at {l : List Nod} (h : RdR Nod.v 4 w A n c l) {i : Nat} (hi : i < n) : ∃ b off x, A = some ⟨b, off, none⟩ ∧ b < w.heap.size ∧ l[i]? = some x ∧
    w.cell? ⟨b, off + i * 4, none⟩ = some (.int .i64 x.id) ∧ w.cell? ⟨b, off + i * 4 + 1, none⟩ = some (.string x.nm) ∧ w.cell? ⟨b, off + i * 4 + 2, none⟩ = some (.int .i64 x.dr) ∧ w.cell? ⟨b, off + i * 4 + 3, none⟩ = some (.bool x.pas) := by
  obtain ⟨b, off, x, hA, hb, hx, hc⟩ := h.at_ hi
  exact ⟨b, off, x, hA, hb, hx, hc 0 _ rfl, hc 1 _ rfl, hc 2 _ rfl, hc 3 _ rfl⟩
theorem mod_at {ms : List PMod} (h : RdMs w A n c ms) {i : Nat} (hi : i < n) : ∃ b off x, A = some ⟨b, off, none⟩ ∧ b < w.heap.size ∧ ms[i]? = some (Mod.p x) ∧ Rd w x.A x.n x.c x.nx ∧
    w.cell? ⟨b, off + i * 3, none⟩ = some (.int .i64 x.rd) ∧ w.cell? ⟨b, off + i * 3 + 1, none⟩ = some (.int .i64 x.sl) ∧ w.cell? ⟨b, off + i * 3 + 2, none⟩ = some (.slice x.A x.n x.c) := by
  obtain ⟨l, h1, h2, rfl⟩ := h
  obtain ⟨b, off, x, hA, hb, hx, hc⟩ := h1.at_ hi
  exact ⟨b, off, x, hA, hb, by rw [List.getElem?_map, hx]; rfl, h2 x (List.mem_of_getElem? hx), hc 0 _ rfl, hc 1 _ rfl, hc 2 _ rfl⟩
theorem slt_at {l : List Slt} (h : RdR Slt.v 8 w A n c l) {i : Nat} (hi : i < n) : ∃ b off x, A = some ⟨b, off, none⟩ ∧ b < w.heap.size ∧ l[i]? = some x ∧
    w.cell? ⟨b, off + i * 8, none⟩ = some (.int .i64 x.md) ∧ w.cell? ⟨b, off + i * 8 + 1, none⟩ = some (.int .i64 x.rd) ∧ w.cell? ⟨b, off + i * 8 + 2, none⟩ = some (.int .i64 x.sl) ∧ w.cell? ⟨b, off + i * 8 + 3, none⟩ = some (.int .i64 x.nd) ∧
    w.cell? ⟨b, off + i * 8 + 4, none⟩ = some (.int .i64 x.kd) ∧ w.cell? ⟨b, off + i * 8 + 5, none⟩ = some (.int .i64 x.sz) ∧ w.cell? ⟨b, off + i * 8 + 6, none⟩ = some (.int .i64 x.du) ∧ w.cell? ⟨b, off + i * 8 + 7, none⟩ = some (.bool x.ch) := by
  obtain ⟨b, off, x, hA, hb, hx, hc⟩ := h.at_ hi
  exact ⟨b, off, x, hA, hb, hx, hc 0 _ rfl, hc 1 _ rfl, hc 2 _ rfl, hc 3 _ rfl, hc 4 _ rfl, hc 5 _ rfl, hc 6 _ rfl, hc 7 _ rfl⟩
end
theorem take_one {α : Type} {l : List α} {i : Nat} {x : α} (h : l[i]? = some x) : l.take (i + 1) = l.take i ++ [x] := by
  rw [List.take_add_one, h]
  rfl
theorem get_lt {α : Type} {l : List α} {i : Nat} {x : α} (h : l[i]? = some x) : i < l.length := (List.getElem?_eq_some_iff.1 h).1
end Go.Proofs.YtdkhldebnpmiiaaGreatDoor
