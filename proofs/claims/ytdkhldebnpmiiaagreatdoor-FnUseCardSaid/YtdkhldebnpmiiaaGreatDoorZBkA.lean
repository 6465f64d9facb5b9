/- Words for memory: a slice of int64 that reads as a list; one that the call itself owns; both over any world. append on an owned slice of int64: of new elements, of a slice that is read. Contracts of the functions that only read a list of int64: ranges of the elements, equality. Contracts of toInt64S, eqInt64S, markInt64S, heldInt64S of the statements' package. Contracts: MiddleSamples. Contracts: the lengths of runs. Contracts: widths, sums, SlipOf. Contracts: a value appended many times; runs made into samples. Words for memory: rows of records whose fields may be of any kind, read and owned. Words for schedules: nodes, modes, slots; how a schedule lies in memory. Words for memory: a struct in a block of its own. -/
import Derived.Test.YtdkhldebnpmiiaaGreatDoorRows
import Derived.WalkKit
import Derived.ProofKit
import Derived.Below
import Derived.Handy
import Derived.WalkSpells
import Derived.WalkLawsBesides
import Derived.Deep.LoopGhost
import Derived.Deep.AppendLies
import Derived.Deep.QuietTactic
import Derived.BigQuiet
import Derived.Deep.Draws
import Derived.Laws.AppendOwnNone
import Derived.Deep.OwnRows
import Derived.OneCell
namespace Go.Proofs.YtdkhldebnpmiiaaGreatDoor
open Go.RowKit
set_option linter.unusedVariables false
set_option linter.unusedSimpArgs false
theorem info_i64 : (Tryz.prog.info? 2).map (fun i => (i.zero, i.size, i.bytes)) = some (some (.int .i64 0), 1, 8) := by kernel_rfl
/-- Element k of a list (0 behind its end): a plain name, so that the walk does not respell it. -/
def nth (zs : List Int) (k : Nat) : Int := zs.getD k 0
theorem nth_eq {zs : List Int} {k : Nat} (h : k < zs.length) : nth zs k = zs[k] := by
  rw [nth, List.getD_eq_getElem?_getD, List.getElem?_eq_getElem h]; rfl
theorem nth_mem {zs : List Int} {k : Nat} (h : k < zs.length) : nth zs k ∈ zs := by rw [nth_eq h]; exact List.getElem_mem h
theorem nth_out {zs : List Int} {k : Nat} (h : zs.length ≤ k) : nth zs k = 0 := by
  rw [nth, List.getD_eq_getElem?_getD, List.getElem?_eq_none h]; rfl
/-- The cells of a list of numbers. -/
def ints (zs : List Int) : List Value := zs.map (Value.int .i64)
theorem ints_length (zs : List Int) : (ints zs).length = zs.length := by simp [ints]
theorem ints_append (a b : List Int) : ints (a ++ b) = ints a ++ ints b := by simp [ints]
theorem ints_get (zs : List Int) (j : Nat) (h : j < zs.length) : (ints zs)[j]? = some (.int .i64 (nth zs j)) := by
  simp [ints, nth_eq h, List.getElem?_eq_getElem h]
theorem ints_oneCell (zs : List Int) : ∀ u ∈ ints zs, u.oneCell' = true := by
  intro u hu
  obtain ⟨z, _, rfl⟩ := List.mem_map.1 hu
  rfl
/-- Each number fits int64. -/
def I64 (zs : List Int) : Prop := ∀ z ∈ zs, -9223372036854775808 ≤ z ∧ z ≤ 9223372036854775807
theorem I64.nil : I64 [] := fun _ h => by cases h
theorem I64.append {a b : List Int} (ha : I64 a) (hb : I64 b) : I64 (a ++ b) := by
  intro z hz
  rcases List.mem_append.1 hz with h | h
  · exact ha z h
  · exact hb z h
theorem I64.one {x : Int} (h1 : -9223372036854775808 ≤ x) (h2 : x ≤ 9223372036854775807) : I64 [x] := by
  intro z hz
  simp at hz
  subst hz
  exact ⟨h1, h2⟩
/-- The slice value '.slice A n c' reads as the list zs in w. -/
def Rd (w : World) (A : Option Addr) (n c : Nat) (zs : List Int) : Prop :=
  zs.length = n ∧ n ≤ c ∧ c ≤ maxLen ∧ (I64 zs ∧ (A = none → c = 0)) ∧
    (0 < n → ∃ b off, A = some ⟨b, off, none⟩ ∧ ∀ j, j < n → w.cell? ⟨b, off + j, none⟩ = some (.int .i64 (nth zs j)))
section
variable {w w' : World} {A : Option Addr} {n c : Nat} {zs : List Int}
theorem Rd.len (h : Rd w A n c zs) : zs.length = n := h.1
theorem Rd.le (h : Rd w A n c zs) : n ≤ zs.length ∧ zs.length ≤ n := ⟨by have := h.1; omega, by have := h.1; omega⟩
theorem Rd.cap (h : Rd w A n c zs) : n ≤ c ∧ c ≤ 9223372036854775807 := ⟨h.2.1, h.2.2.1⟩
theorem Rd.i64 (h : Rd w A n c zs) : I64 zs := h.2.2.2.1.1
theorem Rd.none0 (h : Rd w A n c zs) : A = none → c = 0 := h.2.2.2.1.2
theorem Rd.nil (w : World) : Rd w none 0 0 [] := ⟨rfl, Nat.le_refl _, by simp [maxLen], ⟨I64.nil, fun _ => rfl⟩, fun h => absurd h (by omega)⟩
theorem Rd.at_ (h : Rd w A n c zs) (hn : 0 < n) : ∃ b off, A = some ⟨b, off, none⟩ ∧ b < w.heap.size ∧ ∀ j, j < n → w.cell? ⟨b, off + j, none⟩ = some (.int .i64 (nth zs j)) := by
  obtain ⟨b, off, hA, hc⟩ := h.2.2.2.2 hn
  exact ⟨b, off, hA, World.block_lt_of_cell? w _ (hc 0 hn), hc⟩
theorem Rd.keep (h : Rd w A n c zs) (hk : ∀ p : Addr, p.block < w.heap.size → w'.cell? p = w.cell? p) : Rd w' A n c zs := by
  refine ⟨h.1, h.2.1, h.2.2.1, h.2.2.2.1, fun hn => ?_⟩
  obtain ⟨b, off, hA, hb, hc⟩ := h.at_ hn
  exact ⟨b, off, hA, fun j hj => (hk _ hb).trans (hc j hj)⟩
theorem Rd.below (h : Rd w A n c zs) (hb : Below w.heap.size w w') : Rd w' A n c zs := h.keep fun _ hp => hb.cell hp
theorem Rd.drewN (h : Rd w A n c zs) (k : Nat) : Rd (w.drewN k) A n c zs := h
theorem Rd.drew (h : Rd w A n c zs) : Rd w.drew A n c zs := h
theorem Rd.block {g off : Nat} (h : Rd w (some ⟨g, off, none⟩) n c zs) (hn : 0 < n) : g < w.heap.size := by
  obtain ⟨b, o, hA, hb, _⟩ := h.at_ hn
  simp at hA
  omega
/-- the block of the value's address, where something is read, lies below B -/
def Under (B : Nat) (A : Option Addr) (n : Nat) : Prop := ∀ b off s, A = some ⟨b, off, s⟩ → 0 < n → b < B
theorem Rd.under (h : Rd w A n c zs) : Under w.heap.size A n := by
  intro b off s hA hn
  obtain ⟨b', o', hA', hb, _⟩ := h.at_ hn
  rw [hA] at hA'
  simp at hA'
  omega
theorem Under.mono {B B' : Nat} (h : Under B A n) (hB : B ≤ B') : Under B' A n := fun b off s hA hn => Nat.lt_of_lt_of_le (h b off s hA hn) hB
/-- '.slice A n c' is nil or a row of the call's own (from block B on) that reads as zs. -/
def Own (w : World) (B : Nat) (A : Option Addr) (n c : Nat) (zs : List Int) : Prop :=
  w.ownsRow B 2 1 (.slice A n c) n (ints zs) ∧ I64 zs
theorem Own.row {B : Nat} (h : Own w B A n c zs) : w.ownsRow B 2 1 (.slice A n c) n (ints zs) := h.1
theorem Own.i64 {B : Nat} (h : Own w B A n c zs) : I64 zs := h.2
theorem Own.len {B : Nat} (h : Own w B A n c zs) : zs.length = n := by
  have := h.1.1
  rw [ints_length] at this
  omega
theorem Own.le {B : Nat} (h : Own w B A n c zs) : n ≤ zs.length ∧ zs.length ≤ n := ⟨by have := h.len; omega, by have := h.len; omega⟩
theorem Own.cap {B : Nat} (h : Own w B A n c zs) : n ≤ c ∧ c ≤ 9223372036854775807 := by
  rcases h.1.2 with ⟨hv, hn⟩ | ⟨g, cap, cur, hv, _, _, hnc, hm, _⟩
  · simp at hv
    omega
  · simp at hv
    obtain ⟨_, rfl⟩ := hv
    exact ⟨hnc, hm⟩
theorem Own.form {B : Nat} (h : Own w B A n c zs) : (A = none ∧ n = 0 ∧ c = 0 ∧ zs = []) ∨ ∃ g, A = some ⟨g, 0, none⟩ ∧ B ≤ g ∧ g < w.heap.size := by
  rcases h.1.2 with ⟨hv, hn⟩ | ⟨g, cap, cur, hv, hg, hh, _⟩
  · left
    simp at hv
    refine ⟨hv.1, hn, hv.2.2, ?_⟩
    exact List.eq_nil_of_length_eq_zero (by rw [h.len]; exact hn)
  · right
    simp at hv
    exact ⟨g, hv.1, hg, (Array.getElem?_eq_some_iff.1 hh).1⟩
theorem Own.nil (w : World) (B : Nat) : Own w B none 0 0 [] := ⟨World.ownsRow_nil _ _ _ _, I64.nil⟩
theorem Own.mono {B B' : Nat} (h : Own w B A n c zs) (hB : B' ≤ B) : Own w B' A n c zs := by
  refine ⟨⟨h.1.1, ?_⟩, h.2⟩
  rcases h.1.2 with h1 | ⟨g, cap, cur, hv, hg, r⟩
  · exact .inl h1
  · exact .inr ⟨g, cap, cur, hv, by omega, r⟩
theorem Own.keepG {B : Nat} {row : Option Nat} (h : Own w B A n c zs) (hg : w.grownBy w' row) (hne : (Value.slice A n c).ownBlock = none ∨ (Value.slice A n c).ownBlock ≠ row) : Own w' B A n c zs :=
  ⟨h.1.kept hg hne, h.2⟩
theorem grownBy_of_below (h : Below w.heap.size w w') (row : Option Nat) : w.grownBy w' row := ⟨h.os, h.tape, h.output, h.size, fun i hi _ => h.block i hi⟩
theorem Own.below {B : Nat} (h : Own w B A n c zs) (hb : Below w.heap.size w w') : Own w' B A n c zs := by
  by_cases hA : (Value.slice A n c).ownBlock = none
  · exact h.keepG (grownBy_of_below hb none) (.inl hA)
  · exact h.keepG (grownBy_of_below hb none) (.inr hA)
theorem Own.drew {B : Nat} (h : Own w B A n c zs) : Own w.drew B A n c zs := h
theorem Own.drewN {B : Nat} (h : Own w B A n c zs) (k : Nat) : Own (w.drewN k) B A n c zs := h
theorem Own.alloc {B : Nat} (h : Own w B A n c zs) (o : Obj) : Own (w.alloc o) B A n c zs := ⟨h.1.alloc o, h.2⟩
theorem Own.rd {B : Nat} (h : Own w B A n c zs) : Rd w A n c zs := by
  refine ⟨h.len, h.cap.1, h.cap.2, ⟨h.2, fun e => ?_⟩, fun hn => ?_⟩
  · rcases h.form with ⟨_, _, h3, _⟩ | ⟨g, h3, _⟩
    · exact h3
    · rw [h3] at e; cases e
  rcases h.form with ⟨_, h0, _⟩ | ⟨g, hA, _, _⟩
  · omega
  · subst hA
    refine ⟨g, 0, rfl, fun j hj => ?_⟩
    have hc := h.1.cellAt j (by omega)
    rw [Nat.zero_add, hc, ints_get zs j (by rw [h.len]; exact hj)]
/-- the address of an owned slice is nil or the head of a block -/
theorem Own.ownBlock {B : Nat} (h : Own w B A n c zs) : (Value.slice A n c).ownBlock = none ∨ ∃ g, (Value.slice A n c).ownBlock = some g ∧ B ≤ g ∧ g < w.heap.size := by
  rcases h.form with ⟨rfl, _⟩ | ⟨g, rfl, h1, h2⟩
  · left; rfl
  · right; exact ⟨g, rfl, h1, h2⟩
theorem Own.cell {B g : Nat} (h : Own w B (some ⟨g, 0, none⟩) n c zs) {k : Nat} (hk : k < n) : w.cell? ⟨g, k, none⟩ = some (.int .i64 (nth zs k)) := by
  rw [h.1.cellAt k (by omega), ints_get zs k (by rw [h.len]; exact hk)]
theorem Own.frozen {B g : Nat} (h : Own w B (some ⟨g, 0, none⟩) n c zs) (k : Nat) : w.frozen? ⟨g, k, none⟩ = false := h.1.frozenAt k
theorem ints_set (zs : List Int) (k : Nat) (x : Int) : (ints zs).set k (.int .i64 x) = ints (zs.set k x) := by simp [ints, List.map_set]
theorem I64.set {zs : List Int} (h : I64 zs) (k : Nat) {x : Int} (h1 : -9223372036854775808 ≤ x) (h2 : x ≤ 9223372036854775807) : I64 (zs.set k x) := by
  intro z hz
  rcases List.mem_or_eq_of_mem_set hz with hz | rfl
  · exact h z hz
  · exact ⟨h1, h2⟩
theorem Own.set {B g : Nat} (h : Own w B (some ⟨g, 0, none⟩) n c zs) (k : Nat) {x : Int} (h1 : -9223372036854775808 ≤ x) (h2 : x ≤ 9223372036854775807) :
    Own (w.setCell ⟨g, k, none⟩ (.int .i64 x)) B (some ⟨g, 0, none⟩) n c (zs.set k x) := by
  have := (h.1.stored k (.int .i64 x)).1
  rw [ints_set] at this
  exact ⟨this, h.2.set k h1 h2⟩
theorem Own.made (w : World) {n : Nat} (hn : n ≤ 9223372036854775807) : Own (w.alloc (.cells (madeCells #[.int .i64 0] n) 2)) w.heap.size (some ⟨w.heap.size, 0, none⟩) n n (List.replicate n 0) := by
  have := World.ownsRow_lit (e := 2) (size := 1) (base := w.heap.size) w (madeCells #[.int .i64 0] n) n (Nat.le_refl _) hn (by simp [madeCells])
  rw [toList_madeCells_one] at this
  refine ⟨?_, fun z hz => ?_⟩
  · have e : ints (List.replicate n 0) = List.replicate n (.int .i64 0) := by simp [ints]
    rw [e]
    exact this
  · have := List.eq_of_mem_replicate hz
    subst this
    exact ⟨by decide, by decide⟩
theorem grown_trans {a b c : World} {row : Option Nat} (h : a.grownBy b row) (k : b.grownBy c row) : a.grownBy c row :=
  ⟨k.os.trans h.os, k.tape.trans h.tape, k.output.trans h.output, Nat.le_trans h.size k.size, fun i hi hne => (k.block i (Nat.lt_of_lt_of_le hi h.size) hne).trans (h.block i hi hne)⟩
theorem grown_refl (w : World) (row : Option Nat) : w.grownBy w row := ⟨rfl, rfl, rfl, Nat.le_refl _, fun _ _ _ => rfl⟩
/-- what an append law leaves, as 'Own' -/
theorem own_of_row {B : Nat} {v : Value} {xs : List Value} (h : w.ownsRow B 2 1 v n xs) (hx : xs = ints zs) (hz : I64 zs) : ∃ A c, v = .slice A n c ∧ Own w B A n c zs := by
  subst hx
  rcases h.2 with ⟨rfl, hn⟩ | ⟨g, cap, cur, rfl, r⟩
  · subst hn
    exact ⟨none, 0, rfl, ⟨h.1, .inl ⟨rfl, rfl⟩⟩, hz⟩
  · exact ⟨_, cap, rfl, ⟨h.1, .inr ⟨g, cap, cur, rfl, r⟩⟩, hz⟩
/-- a write into a row of the call's own -/
theorem below_mark {w0 : World} {B : Nat} (h : Below w0.heap.size w0 w) (ho : Own w B A n c zs) (hB : w0.heap.size ≤ B) (hg : w.grownBy w' (Value.slice A n c).ownBlock) : Below w0.heap.size w0 w' :=
  h.grown hg h.size (fun k hk => Nat.le_trans hB (ho.row.lt k hk).1)
theorem Own.keepLo {B B' : Nat} {A' : Option Addr} {n' c' : Nat} {zs' : List Int} (h : Own w B A n c zs) (hg : w.grownBy w' (Value.slice A' n' c').ownBlock) (hv : Own w B' A' n' c' zs') (hlt : ∀ g, (Value.slice A n c).ownBlock = some g → g < B') : Own w' B A n c zs := by
  refine h.keepG hg ?_
  rcases h.ownBlock with h0 | ⟨g, h0, _, _⟩
  · exact .inl h0
  · right
    intro e
    have h1 := hlt g h0
    have h2 := (hv.row.lt g (e.symm.trans h0)).1
    omega
/-- below from a chain of calls -/
theorem below_trans {w0 w1 w2 : World} (h : Below w0.heap.size w0 w1) (k : Below w1.heap.size w1 w2) : Below w0.heap.size w0 w2 := h.trans (k.mono h.size)
theorem below_drewN {B : Nat} {a w : World} (h : Below B a w) (n : Nat) : Below B a (w.drewN n) := ⟨h.os, h.tape, h.output, h.size, h.block⟩
end
/-- What a statement's shell tells of a slice of integers that came in. -/
def IsRow (k : IntKind) (w : World) (a : Option Addr) (len cap : Nat) (zs : List Int) : Prop :=
  (a = none ∧ len = 0 ∧ cap = 0 ∧ zs = []) ∨
  ∃ x, a = some x ∧ len ≤ cap ∧ cap ≤ maxLen ∧ zs.length = cap ∧ (∀ i, i < zs.length → w.cell? (x.add i) = some (.int k (zs.getD i 0))) ∧ ∀ n ∈ zs, (Lit.int k n).wf = true
theorem nth_take (zs : List Int) (n k : Nat) (h : k < n) : nth (zs.take n) k = nth zs k := by
  simp [nth, List.getElem?_take, h]
theorem ret_pair {a b a' b' : Int} (h : a = a') (h' : b = b') : Ending.returned (.tuple #[.int .i64 a, .int .i64 b]) = .returned (.tuple #[.int .i64 a', .int .i64 b']) := by rw [h, h']
theorem ret_sc {v : Value} {a b : Int} (h : a = b) : Ending.returned (.tuple #[v, .int .i64 a]) = .returned (.tuple #[v, .int .i64 b]) := by rw [h]
theorem ret_bool {a b : Bool} (h : a = b) : Ending.returned (.bool a) = .returned (.bool b) := by rw [h]
theorem hide {p : Prop} (h : p) : Hid p := h
theorem take_snoc (zs : List Int) (k : Nat) (h : k < zs.length) : zs.take (k + 1) = zs.take k ++ [nth zs k] := by
  rw [List.take_succ_eq_append_getElem h, nth_eq h]
end Go.Proofs.YtdkhldebnpmiiaaGreatDoor
namespace Go.Proofs.YtdkhldebnpmiiaaGreatDoor
open Go.RowKit
set_option linter.unusedVariables false
set_option linter.unusedSimpArgs false
section
variable {w w' : World} {A : Option Addr} {n c : Nat} {zs : List Int}
/-- the literal empty slice -/
theorem Own.empty (w : World) {B : Nat} (hB : B ≤ w.heap.size) : Own (w.alloc (.cells #[] 2)) B (some ⟨w.heap.size, 0, none⟩) 0 0 [] :=
  ⟨World.ownsRow_made (e := 2) (size := 1) w #[] 0 hB (by simp [maxLen]) (by simp), I64.nil⟩
/-- a literal slice -/
theorem Own.lit (w : World) {B : Nat} (hB : B ≤ w.heap.size) (cs : Array Value) (ys : List Int) (hcs : cs.toList = ints ys) (hy : I64 ys) (m : Nat) (hm : ys.length = m) (hm' : m ≤ 9223372036854775807) :
    Own (w.alloc (.cells cs 2)) B (some ⟨w.heap.size, 0, none⟩) m m ys := by
  have hl : cs.size = m * 1 := by
    have := congrArg List.length hcs
    rw [ints_length, Array.length_toList] at this
    omega
  have := World.ownsRow_lit (e := 2) (size := 1) (base := B) w cs m hB hm' hl
  rw [hcs] at this
  exact ⟨this, hy⟩
theorem append_new {ops : Array Oper} {rest : List Oper} {o : Oper} {a : Act} {Q : Exit → Act → World → Prop} (hgd : o.guard = none) (s x : Operand)
    (ho : o.op = .call { callee := .builtin .append, args := #[s, x], argTypes := #[40, 40] })
    (B : Nat) (hs : a.eval s = .slice A n c) (hown : Own w B A n c zs) (cs : Array Value) (ys : List Int) (m : Nat) (hcs : cs.toList = ints ys) (hy : I64 ys) (hm : ys.length = m)
    (hx : a.eval x = .slice (some ⟨w.heap.size, 0, none⟩) m m) (hn : n + m ≤ 16777216) (hB : B ≤ w.heap.size)
    (h : ∀ A' c' w', Own w' B A' (n + m) c' (zs ++ ys) → w.grownBy w' (Value.slice A n c).ownBlock → wpList Tryz.prog ops Q rest (a.put o.dst (.slice A' (n + m) c')) w') :
    wpList Tryz.prog ops Q (o :: rest) a (w.alloc (.cells cs 2)) := by
  obtain ⟨i0, hi, hz0, hz1, hz2⟩ := info_parts info_i64
  refine wpList_append_own _ hgd s x 40 ho B 2 i0 (.int .i64 0) 1 8 Tryz.underlying40 hi hz0 hz1 hz2 rfl (by decide) (.slice A n c) n (ints zs) hs (hown.alloc _).1
    ⟨w.heap.size, 0, none⟩ m m (ints ys) hx (by rw [ints_length]; omega) ?_ (ints_oneCell ys) (by simp only [maxLen]; omega) (by omega) (by simp; omega) ?_
  · intro j u hu
    have hj : j < ys.length := by
      have := (List.getElem?_eq_some_iff.1 hu).1
      rwa [ints_length] at this
    have e : (⟨w.heap.size, 0, none⟩ : Addr).add j = ⟨w.heap.size, j, none⟩ := by
      unfold Addr.add
      split
      · rename_i h0
        subst h0
        rfl
      · simp
    rw [e, World.cell?_alloc_new, ← Array.getElem?_toList, hcs]
    exact hu
  · intro v' w' hrow hg _
    rw [← ints_append] at hrow
    obtain ⟨A', c', rfl, ho'⟩ := own_of_row hrow rfl (hown.i64.append hy)
    exact h A' c' w' ho' (grown_trans (World.grownBy_alloc w _ _) hg)
end
end Go.Proofs.YtdkhldebnpmiiaaGreatDoor
namespace Go.Proofs.YtdkhldebnpmiiaaGreatDoor
open Go.RowKit
set_option linter.unusedVariables false
set_option linter.unusedSimpArgs false
/-- lo ≤ x ≤ hi -/
def inB (lo hi x : Int) : Bool := decide (lo ≤ x) && decide (x ≤ hi)
theorem inB_yes {lo hi x : Int} (h1 : lo ≤ x) (h2 : x ≤ hi) : inB lo hi x = true := by simp [inB, h1, h2]
theorem inB_no {lo hi x : Int} (h : x < lo ∨ hi < x) : inB lo hi x = false := by
  rw [inB, Bool.and_eq_false_iff]
  simp
  omega
theorem inB_true {lo hi x : Int} (h : inB lo hi x = true) : lo ≤ x ∧ x ≤ hi := by simpa [inB] using h
theorem l01In_any (x lo hi : Int) (w : World) : Calls Tryz.prog 122 #[.int .i64 x, .int .i64 lo, .int .i64 hi] w fun e w' => e = .returned (.bool (inB lo hi x)) ∧ w = w' := by
  by_cases h1 : lo ≤ x
  · by_cases h2 : x ≤ hi
    · have hf := hide (inB_yes h1 h2)
      go_enter Tryz.func122, Tryz.ntmps122
      go_wp2
      go_ret
      exact ⟨ret_bool hf.out.symm, rfl⟩
    · have hf := hide (inB_no (lo := lo) (hi := hi) (x := x) (by omega))
      go_enter Tryz.func122, Tryz.ntmps122
      go_wp2
      go_ret
      exact ⟨ret_bool hf.out.symm, rfl⟩
  · have hf := hide (inB_no (lo := lo) (hi := hi) (x := x) (by omega))
    go_enter Tryz.func122, Tryz.ntmps122
    go_wp2
    go_ret
    exact ⟨ret_bool hf.out.symm, rfl⟩
theorem within_any (x lo hi : Int) (w : World) : Calls Tryz.prog 101 #[.int .i64 x, .int .i64 lo, .int .i64 hi] w fun e w' => e = .returned (.bool (inB lo hi x)) ∧ w = w' := by
  by_cases h1 : lo ≤ x
  · by_cases h2 : x ≤ hi
    · have hf := hide (inB_yes h1 h2)
      go_enter Tryz.func101, Tryz.ntmps101
      go_wp2
      go_ret
      exact ⟨ret_bool hf.out.symm, rfl⟩
    · have hf := hide (inB_no (lo := lo) (hi := hi) (x := x) (by omega))
      go_enter Tryz.func101, Tryz.ntmps101
      go_wp2
      go_ret
      exact ⟨ret_bool hf.out.symm, rfl⟩
  · have hf := hide (inB_no (lo := lo) (hi := hi) (x := x) (by omega))
    go_enter Tryz.func101, Tryz.ntmps101
    go_wp2
    go_ret
    exact ⟨ret_bool hf.out.symm, rfl⟩
end Go.Proofs.YtdkhldebnpmiiaaGreatDoor
namespace Go.Proofs.YtdkhldebnpmiiaaGreatDoor
open Go.RowKit
set_option linter.unusedVariables false
set_option linter.unusedSimpArgs false
/-- the two lists are one -/
def eqB (xs ys : List Int) : Bool := decide (xs = ys)
theorem eqB_yes {xs ys : List Int} (h : xs = ys) : eqB xs ys = true := by simp [eqB, h]
theorem eqB_no {xs ys : List Int} (h : ¬ xs = ys) : eqB xs ys = false := by simp [eqB, h]
theorem eqB_self (xs : List Int) : eqB xs xs = true := eqB_yes rfl
end Go.Proofs.YtdkhldebnpmiiaaGreatDoor
namespace Go.Proofs.YtdkhldebnpmiiaaGreatDoor
open Go.RowKit
set_option linter.unusedVariables false
set_option linter.unusedSimpArgs false
/-- a write into a row that lies from B on -/
theorem below_own {w w0 w' : World} {B B' n c : Nat} {A : Option Addr} {zs : List Int} (h : Below B w0 w) (hs : B ≤ w.heap.size) (ho : Own w B' A n c zs) (hB : B ≤ B') (hg : w.grownBy w' (Value.slice A n c).ownBlock) : Below B w0 w' :=
  h.grown hg hs (fun k hk => Nat.le_trans hB (ho.row.lt k hk).1)
end Go.Proofs.YtdkhldebnpmiiaaGreatDoor
namespace Go.Proofs.YtdkhldebnpmiiaaGreatDoor
open Go.RowKit
set_option linter.unusedVariables false
set_option linter.unusedSimpArgs false
section
variable {α : Type} {f : α → List Value} {k : Nat}
theorem flat_get (hk : ∀ x, (f x).length = k) : ∀ (l : List α) (i j : Nat), j < k → (l.flatMap f)[i * k + j]? = l[i]?.bind fun x => (f x)[j]?
  | [], i, j, _ => by simp
  | x :: l, 0, j, hj => by
    rw [List.flatMap_cons, Nat.zero_mul, Nat.zero_add, List.getElem?_append_left (by rw [hk]; exact hj)]
    rfl
  | x :: l, i + 1, j, hj => by
    have e : (i + 1) * k + j - (f x).length = i * k + j := by rw [hk, Nat.succ_mul]; omega
    rw [List.flatMap_cons, List.getElem?_append_right (by rw [hk, Nat.succ_mul]; omega), e, flat_get hk l i j hj]
    rfl
theorem flat_len (hk : ∀ x, (f x).length = k) (l : List α) : (l.flatMap f).length = l.length * k := by
  induction l with
  | nil => simp
  | cons x l ih => rw [List.flatMap_cons, List.length_append, hk, ih, List.length_cons, Nat.succ_mul]; omega
/-- some cells set, one behind the other -/
def setL (xs : List Value) (p : Nat) : List Value → List Value
  | [] => xs
  | v :: vs => setL (xs.set p v) (p + 1) vs
theorem setL_get (vs : List Value) : ∀ (xs : List Value) (p q : Nat), p + vs.length ≤ xs.length → (setL xs p vs)[q]? = if p ≤ q ∧ q < p + vs.length then vs[q - p]? else xs[q]? := by
  induction vs with
  | nil => intro xs p q _; rw [setL, if_neg (by simp)]
  | cons v vs ih =>
    intro xs p q h
    rw [List.length_cons] at h
    rw [setL, ih _ _ _ (by rw [List.length_set]; omega), List.length_cons]
    by_cases h1 : p = q
    · subst h1
      rw [if_neg (by omega), if_pos (by omega), List.getElem?_set_self (by omega)]
      simp
    · by_cases h2 : p + 1 ≤ q ∧ q < p + 1 + vs.length
      · rw [if_pos h2, if_pos (by omega)]
        obtain ⟨d, rfl⟩ : ∃ d, q = p + 1 + d := ⟨q - (p + 1), by omega⟩
        rw [show p + 1 + d - (p + 1) = d by omega, show p + 1 + d - p = d + 1 by omega]
        rfl
      · rw [if_neg h2, if_neg (by omega), List.getElem?_set_ne h1]
theorem flat_set (hk : ∀ x, (f x).length = k) {l : List α} {i : Nat} (hi : i < l.length) (x : α) : setL (l.flatMap f) (i * k) (f x) = (l.set i x).flatMap f := by
  have hik : i * k + k ≤ l.length * k := by rw [← Nat.succ_mul]; exact Nat.mul_le_mul_right k hi
  apply List.ext_getElem?
  intro q
  rw [setL_get _ _ _ _ (by rw [hk, flat_len hk]; exact hik), hk]
  rcases Nat.eq_zero_or_pos k with h0 | hpos
  · subst h0
    rw [if_neg (by omega)]
    have e1 : l.flatMap f = [] := List.eq_nil_of_length_eq_zero (by rw [flat_len hk, Nat.mul_zero])
    have e2 : (l.set i x).flatMap f = [] := List.eq_nil_of_length_eq_zero (by rw [flat_len hk, Nat.mul_zero])
    rw [e1, e2]
  have hq : q = q / k * k + q % k := by rw [Nat.mul_comm]; exact (Nat.div_add_mod q k).symm
  have hm : q % k < k := Nat.mod_lt _ hpos
  have e : (l.set i x).flatMap f = (l.set i x).flatMap f := rfl
  have eR : ((l.set i x).flatMap f)[q]? = (l.set i x)[q / k]?.bind fun x => (f x)[q % k]? := by
    have := flat_get hk (l.set i x) (q / k) (q % k) hm
    rwa [← hq] at this
  have eL : (l.flatMap f)[q]? = l[q / k]?.bind fun x => (f x)[q % k]? := by
    have := flat_get hk l (q / k) (q % k) hm
    rwa [← hq] at this
  rw [eR]
  by_cases h : i = q / k
  · have h1 : i * k ≤ q ∧ q < i * k + k := by
      rw [← h] at hq
      omega
    rw [if_pos h1, ← h, List.getElem?_set_self hi]
    show _ = (f x)[q % k]?
    have : q - i * k = q % k := by rw [← h] at hq; omega
    rw [this]
  · have h1 : ¬ (i * k ≤ q ∧ q < i * k + k) := by
      rintro ⟨a, b⟩
      apply h
      have : q / k = i := by
        rw [Nat.div_eq_of_lt_le]
        · exact a
        · rw [Nat.succ_mul]; exact b
      exact this.symm
    rw [if_neg h1, List.getElem?_set_ne h, eL]
/-- The slice value '.slice A n c' reads as the records l, each laid out by f in k cells. -/
def RdR (f : α → List Value) (k : Nat) (w : World) (A : Option Addr) (n c : Nat) (l : List α) : Prop :=
  l.length = n ∧ n ≤ c ∧ c ≤ maxLen ∧ (A = none → c = 0) ∧
    (0 < n → ∃ b off, A = some ⟨b, off, none⟩ ∧ b < w.heap.size ∧ ∀ i x, l[i]? = some x → ∀ j v, (f x)[j]? = some v → w.cell? ⟨b, off + i * k + j, none⟩ = some v)
/-- '.slice A n c' is nil or a row of the call's own (from block B on) of records of type T. -/
def OwnR (T : TypeId) (f : α → List Value) (k : Nat) (w : World) (B : Nat) (A : Option Addr) (n c : Nat) (l : List α) : Prop :=
  w.ownsRow B T k (.slice A n c) n (l.flatMap f) ∧ l.length = n ∧ ∀ x, (f x).length = k
variable {T : TypeId} {w w' : World} {A : Option Addr} {n c : Nat} {l : List α} {B : Nat}
theorem RdR.len (h : RdR f k w A n c l) : l.length = n := h.1
theorem RdR.cap (h : RdR f k w A n c l) : n ≤ c ∧ c ≤ 9223372036854775807 := ⟨h.2.1, h.2.2.1⟩
theorem RdR.none0 (h : RdR f k w A n c l) : A = none → c = 0 := h.2.2.2.1
theorem RdR.at_ (h : RdR f k w A n c l) {i : Nat} (hi : i < n) : ∃ b off x, A = some ⟨b, off, none⟩ ∧ b < w.heap.size ∧ l[i]? = some x ∧ ∀ j v, (f x)[j]? = some v → w.cell? ⟨b, off + i * k + j, none⟩ = some v := by
  obtain ⟨b, off, hA, hb, hc⟩ := h.2.2.2.2 (by omega)
  have hil : i < l.length := by rw [h.len]; exact hi
  have hx : l[i]? = some l[i] := List.getElem?_eq_getElem hil
  exact ⟨b, off, _, hA, hb, hx, hc i _ hx⟩
theorem RdR.below (h : RdR f k w A n c l) (hb : Below w.heap.size w w') : RdR f k w' A n c l := by
  refine ⟨h.1, h.2.1, h.2.2.1, h.2.2.2.1, fun hn => ?_⟩
  obtain ⟨b, off, hA, hl, hc⟩ := h.2.2.2.2 hn
  exact ⟨b, off, hA, Nat.lt_of_lt_of_le hl hb.size, fun i x hx j v hv => (hb.cell (p := ⟨b, off + i * k + j, none⟩) hl).trans (hc i x hx j v hv)⟩
theorem RdR.drewN (h : RdR f k w A n c l) (m : Nat) : RdR f k (w.drewN m) A n c l := h
theorem RdR.nil (w : World) : RdR f k w none 0 0 [] := ⟨rfl, Nat.le_refl _, by simp [maxLen], fun _ => rfl, fun h => absurd h (by omega)⟩
/-- the first records alone -/
theorem RdR.take (h : RdR f k w A n c l) {m : Nat} (hm : m ≤ n) : RdR f k w A m c (l.take m) := by
  refine ⟨by rw [List.length_take, h.len]; omega, by have := h.cap; omega, h.2.2.1, h.none0, fun h0 => ?_⟩
  obtain ⟨b, off, hA, hl, hc⟩ := h.2.2.2.2 (by omega)
  refine ⟨b, off, hA, hl, fun i x hx => hc i x ?_⟩
  rw [List.getElem?_take] at hx
  split at hx
  · exact hx
  · cases hx
theorem OwnR.len (h : OwnR T f k w B A n c l) : l.length = n := h.2.1
theorem OwnR.cap (h : OwnR T f k w B A n c l) : n ≤ c ∧ c ≤ 9223372036854775807 := by
  rcases h.1.2 with ⟨hv, hn⟩ | ⟨g, cap, cur, hv, _, _, hnc, hm, _⟩
  · simp at hv
    omega
  · simp at hv
    obtain ⟨_, rfl⟩ := hv
    exact ⟨hnc, hm⟩
theorem OwnR.form (h : OwnR T f k w B A n c l) : (A = none ∧ n = 0 ∧ c = 0 ∧ l = []) ∨ ∃ g, A = some ⟨g, 0, none⟩ ∧ B ≤ g ∧ g < w.heap.size := by
  rcases h.1.2 with ⟨hv, hn⟩ | ⟨g, cap, cur, hv, hg, hh, _⟩
  · left
    simp at hv
    exact ⟨hv.1, hn, hv.2.2, List.eq_nil_of_length_eq_zero (by rw [h.len, hn])⟩
  · right
    simp at hv
    exact ⟨g, hv.1, hg, (Array.getElem?_eq_some_iff.1 hh).1⟩
theorem OwnR.nil (w : World) (B : Nat) (hk : ∀ x, (f x).length = k) : OwnR T f k w B none 0 0 [] := ⟨World.ownsRow_nil _ _ _ _, rfl, hk⟩
theorem OwnR.mono {B' : Nat} (h : OwnR T f k w B A n c l) (hB : B' ≤ B) : OwnR T f k w B' A n c l := by
  refine ⟨⟨h.1.1, ?_⟩, h.2⟩
  rcases h.1.2 with h1 | ⟨g, cap, cur, hv, hg, r⟩
  · exact .inl h1
  · exact .inr ⟨g, cap, cur, hv, by omega, r⟩
theorem OwnR.keepG {row : Option Nat} (h : OwnR T f k w B A n c l) (hg : w.grownBy w' row) (hne : (Value.slice A n c).ownBlock = none ∨ (Value.slice A n c).ownBlock ≠ row) : OwnR T f k w' B A n c l :=
  ⟨h.1.kept hg hne, h.2⟩
theorem OwnR.below (h : OwnR T f k w B A n c l) (hb : Below w.heap.size w w') : OwnR T f k w' B A n c l := by
  by_cases hA : (Value.slice A n c).ownBlock = none
  · exact h.keepG (grownBy_of_below hb none) (.inl hA)
  · exact h.keepG (grownBy_of_below hb none) (.inr hA)
theorem OwnR.drewN (h : OwnR T f k w B A n c l) (m : Nat) : OwnR T f k (w.drewN m) B A n c l := h
theorem OwnR.alloc (h : OwnR T f k w B A n c l) (o : Obj) : OwnR T f k (w.alloc o) B A n c l := ⟨h.1.alloc o, h.2⟩
theorem OwnR.frozen {g : Nat} (h : OwnR T f k w B (some ⟨g, 0, none⟩) n c l) (j : Nat) : w.frozen? ⟨g, j, none⟩ = false := h.1.frozenAt j
theorem OwnR.rd (h : OwnR T f k w B A n c l) : RdR f k w A n c l := by
  refine ⟨h.len, h.cap.1, h.cap.2, fun e => ?_, fun hn => ?_⟩
  · rcases h.form with ⟨_, _, h3, _⟩ | ⟨g, h3, _⟩
    · exact h3
    · rw [h3] at e; cases e
  rcases h.form with ⟨_, h0, _⟩ | ⟨g, hA, _, hl⟩
  · omega
  · subst hA
    refine ⟨g, 0, rfl, hl, fun i x hx j v hv => ?_⟩
    have hi : i < n := by rw [← h.len]; exact (List.getElem?_eq_some_iff.1 hx).1
    have hj : j < k := by rw [← h.2.2 x]; exact (List.getElem?_eq_some_iff.1 hv).1
    have hlt : i * k + j < n * k := by
      have : (i + 1) * k ≤ n * k := Nat.mul_le_mul_right k hi
      rw [Nat.succ_mul] at this
      omega
    rw [show 0 + i * k + j = i * k + j by omega, h.1.cellAt _ hlt, flat_get h.2.2 l i j hj, hx]
    exact hv
theorem OwnR.ownBlock (h : OwnR T f k w B A n c l) : (Value.slice A n c).ownBlock = none ∨ ∃ g, (Value.slice A n c).ownBlock = some g ∧ B ≤ g ∧ g < w.heap.size := by
  rcases h.form with ⟨rfl, _⟩ | ⟨g, rfl, h1, h2⟩
  · left; rfl
  · right; exact ⟨g, rfl, h1, h2⟩
theorem OwnR.empty (w : World) (hB : B ≤ w.heap.size) (hk : ∀ x, (f x).length = k) : OwnR T f k (w.alloc (.cells #[] T)) B (some ⟨w.heap.size, 0, none⟩) 0 0 [] :=
  ⟨World.ownsRow_made (e := T) (size := k) w #[] 0 hB (by simp [maxLen]) (by simp), rfl, hk⟩
/-- a row of cells given one by one -/
theorem OwnR.lit (w : World) (hB : B ≤ w.heap.size) (hk : ∀ x, (f x).length = k) (cs : Array Value) (l : List α) (hcs : cs.toList = l.flatMap f) (hn : l.length = n) (hm : n ≤ 9223372036854775807) :
    OwnR T f k (w.alloc (.cells cs T)) B (some ⟨w.heap.size, 0, none⟩) n n l := by
  have hl : cs.size = n * k := by
    have := congrArg List.length hcs
    rw [flat_len hk, Array.length_toList] at this
    rw [this, hn]
  have := World.ownsRow_lit (e := T) (size := k) (base := B) w cs n hB hm hl
  rw [hcs] at this
  exact ⟨this, hn, hk⟩
theorem below_ownR {w0 : World} {B' : Nat} (h : Below B w0 w) (hs : B ≤ w.heap.size) (ho : OwnR T f k w B' A n c l) (hB : B ≤ B') (hg : w.grownBy w' (Value.slice A n c).ownBlock) : Below B w0 w' :=
  h.grown hg hs (fun j hj => Nat.le_trans hB (ho.1.lt j hj).1)
/-- some cells of a block set -/
def setW (w : World) (g p : Nat) : List Value → World
  | [] => w
  | v :: vs => setW (w.setCell ⟨g, p, none⟩ v) g (p + 1) vs
theorem stored_all {xs : List Value} {g : Nat} : ∀ (vs : List Value) (w : World) (xs : List Value) (p : Nat), w.ownsRow B T k (.slice (some ⟨g, 0, none⟩) n c) n xs →
    (setW w g p vs).ownsRow B T k (.slice (some ⟨g, 0, none⟩) n c) n (setL xs p vs) ∧ w.grownBy (setW w g p vs) (some g)
  | [], w, xs, p, h => ⟨h, grown_refl _ _⟩
  | v :: vs, w, xs, p, h => by
    obtain ⟨h1, h2⟩ := h.stored p v
    obtain ⟨h3, h4⟩ := stored_all (xs := xs) vs _ _ (p + 1) h1
    exact ⟨h3, grown_trans h2 h4⟩
theorem OwnR.put {g : Nat} (h : OwnR T f k w B (some ⟨g, 0, none⟩) n c l) {i : Nat} (hi : i < n) (x : α) :
    OwnR T f k (setW w g (i * k) (f x)) B (some ⟨g, 0, none⟩) n c (l.set i x) ∧ w.grownBy (setW w g (i * k) (f x)) (some g) := by
  obtain ⟨h1, h2⟩ := stored_all (xs := []) (f x) w _ (i * k) h.1
  rw [flat_set h.2.2 (by rw [h.len]; exact hi)] at h1
  exact ⟨⟨h1, by rw [List.length_set]; exact h.len, h.2.2⟩, h2⟩
theorem ownR_of_row {v : Value} {xs : List Value} (h : w.ownsRow B T k v n xs) (hx : xs = l.flatMap f) (hn : l.length = n) (hk : ∀ x, (f x).length = k) : ∃ A c, v = .slice A n c ∧ OwnR T f k w B A n c l := by
  subst hx
  rcases h.2 with ⟨rfl, h0⟩ | ⟨g, cap, cur, rfl, r⟩
  · subst h0
    exact ⟨none, 0, rfl, ⟨h.1, .inl ⟨rfl, rfl⟩⟩, hn, hk⟩
  · exact ⟨_, cap, rfl, ⟨h.1, .inr ⟨g, cap, cur, rfl, r⟩⟩, hn, hk⟩
/-- append of records out of a literal block -/
theorem append_rec {t : TypeId} {bytes : Nat} {z : Value} (hinfo : (Tryz.prog.info? T).map (fun i => (i.zero, i.size, i.bytes)) = some (some z, k, bytes)) (ht : Tryz.prog.underlying t = some (.slice T)) (hzs : z.cells.size = k) (hk0 : 0 < k) (hbb : bytes ≤ 128)
    {ops : Array Oper} {rest : List Oper} {o : Oper} {a : Act} {Q : Exit → Act → World → Prop} (hgd : o.guard = none) (s x : Operand)
    (ho : o.op = .call { callee := .builtin .append, args := #[s, x], argTypes := #[t, t] })
    (hs : a.eval s = .slice A n c) (hown : OwnR T f k w B A n c l) (cs : Array Value) (m : Nat) (ys : List α) (hcs : cs.toList = ys.flatMap f) (hm : ys.length = m) (h1 : ∀ u ∈ ys.flatMap f, u.oneCell' = true)
    (hx : a.eval x = .slice (some ⟨w.heap.size, 0, none⟩) m m) (hn : n + m ≤ 16777216) (hB : B ≤ w.heap.size)
    (h : ∀ A' c' w', OwnR T f k w' B A' (n + m) c' (l ++ ys) → w.grownBy w' (Value.slice A n c).ownBlock → wpList Tryz.prog ops Q rest (a.put o.dst (.slice A' (n + m) c')) w') :
    wpList Tryz.prog ops Q (o :: rest) a (w.alloc (.cells cs T)) := by
  obtain ⟨i0, hi, hz0, hz1, hz2⟩ := info_parts hinfo
  have hb2 : (n + m) * bytes ≤ 140737488355328 := Nat.le_trans (Nat.mul_le_mul (Nat.le_refl (n + m)) hbb) (by omega)
  refine wpList_append_own _ hgd s x t ho B T i0 _ k bytes ht hi hz0 hz1 hz2 hzs hk0 (.slice A n c) n (l.flatMap f) hs (hown.alloc _).1
    ⟨w.heap.size, 0, none⟩ m m (ys.flatMap f) hx (by rw [flat_len hown.2.2, hm]) ?_ h1 (by simp only [maxLen]; omega) hb2 (by simp; omega) ?_
  · intro j u hu
    have e : (⟨w.heap.size, 0, none⟩ : Addr).add j = ⟨w.heap.size, j, none⟩ := by
      unfold Addr.add
      split
      · rename_i h0
        subst h0
        rfl
      · simp
    rw [e, World.cell?_alloc_new, ← Array.getElem?_toList, hcs]
    exact hu
  · intro v' w' hrow hg _
    rw [← List.flatMap_append] at hrow
    obtain ⟨A', c', rfl, ho'⟩ := ownR_of_row hrow rfl (by rw [List.length_append, hown.len, hm]) hown.2.2
    exact h A' c' w' ho' (grown_trans (World.grownBy_alloc w _ _) hg)
end
end Go.Proofs.YtdkhldebnpmiiaaGreatDoor
namespace Go.Proofs.YtdkhldebnpmiiaaGreatDoor
open Go.RowKit
set_option linter.unusedVariables false
set_option linter.unusedSimpArgs false
structure Nod where
  id : Int
  nm : ByteArray
  dr : Int
  pas : Bool
def Nod.v (x : Nod) : List Value := [.int .i64 x.id, .string x.nm, .int .i64 x.dr, .bool x.pas]
structure PMod where
  rd : Int
  sl : Int
  nx : List Int
structure Mod where
  rd : Int
  sl : Int
  A : Option Addr
  n : Nat
  c : Nat
  nx : List Int
def Mod.v (x : Mod) : List Value := [.int .i64 x.rd, .int .i64 x.sl, .slice x.A x.n x.c]
def Mod.p (x : Mod) : PMod := ⟨x.rd, x.sl, x.nx⟩
structure Slt where
  md : Int
  rd : Int
  sl : Int
  nd : Int
  kd : Int
  sz : Int
  du : Int
  ch : Bool
def Slt.v (x : Slt) : List Value := [.int .i64 x.md, .int .i64 x.rd, .int .i64 x.sl, .int .i64 x.nd, .int .i64 x.kd, .int .i64 x.sz, .int .i64 x.du, .bool x.ch]
theorem Nod.k (x : Nod) : (Nod.v x).length = 4 := rfl
theorem Mod.k (x : Mod) : (Mod.v x).length = 3 := rfl
theorem Slt.k (x : Slt) : (Slt.v x).length = 8 := rfl
structure Mdl where
  id : Int
  ns : List Nod
  ms : List PMod
  ss : List Slt
/-- the names' sizes are Go's -/
def Nms (m : Mdl) : Prop := ∀ x ∈ m.ns, x.nm.size ≤ 9223372036854775807
section
variable {w w' : World} {A : Option Addr} {n c : Nat}
/-- a row of modes -/
def RdMs (w : World) (A : Option Addr) (n c : Nat) (ms : List PMod) : Prop := ∃ l : List Mod, RdR Mod.v 3 w A n c l ∧ (∀ x ∈ l, Rd w x.A x.n x.c x.nx) ∧ l.map Mod.p = ms
theorem RdMs.below {ms : List PMod} (h : RdMs w A n c ms) (hb : Below w.heap.size w w') : RdMs w' A n c ms := by
  obtain ⟨l, h1, h2, h3⟩ := h
  exact ⟨l, h1.below hb, fun x hx => (h2 x hx).below hb, h3⟩
theorem RdMs.len {ms : List PMod} (h : RdMs w A n c ms) : ms.length = n := by
  obtain ⟨l, h1, h2, rfl⟩ := h
  rw [List.length_map]
  exact h1.len
theorem RdMs.cap {ms : List PMod} (h : RdMs w A n c ms) : n ≤ c ∧ c ≤ 9223372036854775807 := by
  obtain ⟨l, h1, h2, rfl⟩ := h
  exact h1.cap
theorem RdMs.none0 {ms : List PMod} (h : RdMs w A n c ms) : A = none → c = 0 := by
  obtain ⟨l, h1, h2, rfl⟩ := h
  exact h1.none0
/-- a schedule, by value -/
def RdM (w : World) (v : Value) (m : Mdl) : Prop := ∃ (A1 : Option Addr) (n1 c1 : Nat) (A2 : Option Addr) (n2 c2 : Nat) (A3 : Option Addr) (n3 c3 : Nat), v = .agg #[.int .i64 m.id, .slice A1 n1 c1, .slice A2 n2 c2, .slice A3 n3 c3] ∧ RdR Nod.v 4 w A1 n1 c1 m.ns ∧ RdMs w A2 n2 c2 m.ms ∧ RdR Slt.v 8 w A3 n3 c3 m.ss
theorem RdM.below {v : Value} {m : Mdl} (h : RdM w v m) (hb : Below w.heap.size w w') : RdM w' v m := by
  obtain ⟨A1, n1, c1, A2, n2, c2, A3, n3, c3, rfl, h1, h2, h3⟩ := h
  exact ⟨A1, n1, c1, A2, n2, c2, A3, n3, c3, rfl, h1.below hb, h2.below hb, h3.below hb⟩
theorem RdM.drewN {v : Value} {m : Mdl} (h : RdM w v m) (k : Nat) : RdM (w.drewN k) v m := h
/-- one node -/
theorem nod_at {l : List Nod} (h : RdR Nod.v 4 w A n c l) {i : Nat} (hi : i < n) : ∃ b off x, A = some ⟨b, off, none⟩ ∧ b < w.heap.size ∧ l[i]? = some x ∧
    w.cell? ⟨b, off + i * 4, none⟩ = some (.int .i64 x.id) ∧ w.cell? ⟨b, off + i * 4 + 1, none⟩ = some (.string x.nm) ∧ w.cell? ⟨b, off + i * 4 + 2, none⟩ = some (.int .i64 x.dr) ∧ w.cell? ⟨b, off + i * 4 + 3, none⟩ = some (.bool x.pas) := by
  obtain ⟨b, off, x, hA, hb, hx, hc⟩ := h.at_ hi
  exact ⟨b, off, x, hA, hb, hx, hc 0 _ rfl, hc 1 _ rfl, hc 2 _ rfl, hc 3 _ rfl⟩
theorem mod_at {ms : List PMod} (h : RdMs w A n c ms) {i : Nat} (hi : i < n) : ∃ b off x, A = some ⟨b, off, none⟩ ∧ b < w.heap.size ∧ ms[i]? = some (Mod.p x) ∧ Rd w x.A x.n x.c x.nx ∧
    w.cell? ⟨b, off + i * 3, none⟩ = some (.int .i64 x.rd) ∧ w.cell? ⟨b, off + i * 3 + 1, none⟩ = some (.int .i64 x.sl) ∧ w.cell? ⟨b, off + i * 3 + 2, none⟩ = some (.slice x.A x.n x.c) := by
  obtain ⟨l, h1, h2, rfl⟩ := h
  obtain ⟨b, off, x, hA, hb, hx, hc⟩ := h1.at_ hi
  exact ⟨b, off, x, hA, hb, by rw [List.getElem?_map, hx]; rfl, h2 x (List.mem_of_getElem? hx), hc 0 _ rfl, hc 1 _ rfl, hc 2 _ rfl⟩
theorem slt_at {l : List Slt} (h : RdR Slt.v 8 w A n c l) {i : Nat} (hi : i < n) : ∃ b off x, A = some ⟨b, off, none⟩ ∧ b < w.heap.size ∧ l[i]? = some x ∧
    w.cell? ⟨b, off + i * 8, none⟩ = some (.int .i64 x.md) ∧ w.cell? ⟨b, off + i * 8 + 1, none⟩ = some (.int .i64 x.rd) ∧ w.cell? ⟨b, off + i * 8 + 2, none⟩ = some (.int .i64 x.sl) ∧ w.cell? ⟨b, off + i * 8 + 3, none⟩ = some (.int .i64 x.nd) ∧
    w.cell? ⟨b, off + i * 8 + 4, none⟩ = some (.int .i64 x.kd) ∧ w.cell? ⟨b, off + i * 8 + 5, none⟩ = some (.int .i64 x.sz) ∧ w.cell? ⟨b, off + i * 8 + 6, none⟩ = some (.int .i64 x.du) ∧ w.cell? ⟨b, off + i * 8 + 7, none⟩ = some (.bool x.ch) := by
  obtain ⟨b, off, x, hA, hb, hx, hc⟩ := h.at_ hi
  exact ⟨b, off, x, hA, hb, hx, hc 0 _ rfl, hc 1 _ rfl, hc 2 _ rfl, hc 3 _ rfl, hc 4 _ rfl, hc 5 _ rfl, hc 6 _ rfl, hc 7 _ rfl⟩
end
theorem get_lt {α : Type} {l : List α} {i : Nat} {x : α} (h : l[i]? = some x) : i < l.length := (List.getElem?_eq_some_iff.1 h).1
end Go.Proofs.YtdkhldebnpmiiaaGreatDoor
namespace Go.Proofs.YtdkhldebnpmiiaaGreatDoor
open Go.RowKit
set_option linter.unusedVariables false
set_option linter.unusedSimpArgs false
theorem Own.setLow {w : World} {B : Nat} {A : Option Addr} {n c : Nat} {zs : List Int} (h : Own w B A n c zs) {b : Nat} (hb : b < B) (j : Nat) (v : Value) : Own (w.setCell ⟨b, j, none⟩ v) B A n c zs := ⟨ownsRow_setCell_below h.1 hb v, h.2⟩
theorem OwnR.setLow {α : Type} {f : α → List Value} {k : Nat} {T : TypeId} {w : World} {B : Nat} {A : Option Addr} {n c : Nat} {l : List α} (h : OwnR T f k w B A n c l) {b : Nat} (hb : b < B) (j : Nat) (v : Value) : OwnR T f k (w.setCell ⟨b, j, none⟩ v) B A n c l := ⟨ownsRow_setCell_below h.1 hb v, h.2⟩
/-- block g holds the struct's cells cs -/
def At (w : World) (g : Nat) (T : TypeId) (cs : Array Value) : Prop := w.heap[g]? = some (.cells cs T (0, 0))
section
variable {w w' : World} {g : Nat} {T : TypeId} {cs : Array Value}
theorem At.lt (h : At w g T cs) : g < w.heap.size := (Array.getElem?_eq_some_iff.1 h).1
theorem At.cell (h : At w g T cs) (i : Nat) : w.cell? ⟨g, i, none⟩ = cs[i]? := cell_of_row w g i _ _ (0, 0) h
theorem At.frozen (h : At w g T cs) (i : Nat) : w.frozen? ⟨g, i, none⟩ = false := frozen_of_row w g i _ _ h
theorem At.below {B : Nat} (h : At w g T cs) (hb : Below B w w') (hg : g < B) : At w' g T cs := (hb.block g hg).trans h
theorem At.keep (h : At w g T cs) (hb : Below w.heap.size w w') : At w' g T cs := h.below hb h.lt
theorem At.fresh (w : World) (T : TypeId) (cs : Array Value) : At (w.alloc (.cells cs T)) w.heap.size T cs := by
  unfold At World.alloc
  simp
theorem At.alloc (h : At w g T cs) (o : Obj) : At (w.alloc o) g T cs := (Below.heap_alloc w o g h.lt).trans h
theorem At.other {g' : Nat} (h : At w g T cs) (hne : g ≠ g') (i : Nat) (u : Value) : At (w.setCell ⟨g', i, none⟩ u) g T cs := (heap_setCell_other w ⟨g', i, none⟩ g u (fun x => hne x)).trans h
theorem At.set (h : At w g T cs) (i : Nat) (u : Value) : At (w.setCell ⟨g, i, none⟩ u) g T (cs.setIfInBounds i u) := heap_setCell_same w g i _ _ u h
end
theorem results_M {fn : Func} {t : Tmp} (h : fn.results = #[.cell t 28]) {tmps : Array Value} {w : World} {g : Nat} {a0 a1 a2 a3 : Value} (hp : tmps.getD t undef = .pointer (some ⟨g, 0, none⟩)) (hs : At w g 28 #[a0, a1, a2, a3]) :
    (results fn tmps).run Tryz.prog w = .ok (.agg #[a0, a1, a2, a3]) w := by
  have d0 : w.cell? ⟨g, 0, none⟩ = some a0 := hs.cell 0
  have d1 : w.cell? ⟨g, 1, none⟩ = some a1 := hs.cell 1
  have d2 : w.cell? ⟨g, 2, none⟩ = some a2 := hs.cell 2
  have d3 : w.cell? ⟨g, 3, none⟩ = some a3 := hs.cell 3
  rw [Array.getD_eq_getD_getElem?] at hp
  simp [results, h, hp, go_sem, d0, d1, d2, d3]
theorem results_D {fn : Func} {t : Tmp} (h : fn.results = #[.cell t 59]) {tmps : Array Value} {w : World} {g : Nat} {a0 a1 a2 a3 a4 : Value} (hp : tmps.getD t undef = .pointer (some ⟨g, 0, none⟩)) (hs : At w g 59 #[a0, a1, a2, a3, a4]) :
    (results fn tmps).run Tryz.prog w = .ok (.agg #[a0, a1, a2, a3, a4]) w := by
  have d0 : w.cell? ⟨g, 0, none⟩ = some a0 := hs.cell 0
  have d1 : w.cell? ⟨g, 1, none⟩ = some a1 := hs.cell 1
  have d2 : w.cell? ⟨g, 2, none⟩ = some a2 := hs.cell 2
  have d3 : w.cell? ⟨g, 3, none⟩ = some a3 := hs.cell 3
  have d4 : w.cell? ⟨g, 4, none⟩ = some a4 := hs.cell 4
  rw [Array.getD_eq_getD_getElem?] at hp
  simp [results, h, hp, go_sem, d0, d1, d2, d3, d4]
end Go.Proofs.YtdkhldebnpmiiaaGreatDoor
