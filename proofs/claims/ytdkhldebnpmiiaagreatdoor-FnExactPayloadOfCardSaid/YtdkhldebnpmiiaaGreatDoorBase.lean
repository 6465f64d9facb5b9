/- Words for memory: a slice of int64 that reads as a list; one that the call itself owns; both over any world. -/
import Derived.Test.YtdkhldebnpmiiaaGreatDoorRows
import Derived.WalkKit
import Derived.ProofKit
import Derived.Below
import Derived.Handy
import Derived.WalkSpells
import Derived.WalkLawsBesides
import Derived.Deep.LoopGhost
import Derived.Deep.AppendLies
import Derived.Deep.QuietTactic
import Derived.BigQuiet
import Derived.Deep.Draws
namespace Go.Proofs.YtdkhldebnpmiiaaGreatDoor
open Go.RowKit
set_option linter.unusedVariables false
set_option linter.unusedSimpArgs false

theorem info_i64 : (Tryz.prog.info? 2).map (fun i => (i.zero, i.size, i.bytes)) = some (some (.int .i64 0), 1, 8) := by kernel_rfl

/-- Element k of a list (0 behind its end): a plain name, so that the walk does not respell it. -/
def nth (zs : List Int) (k : Nat) : Int := zs.getD k 0
theorem nth_eq {zs : List Int} {k : Nat} (h : k < zs.length) : nth zs k = zs[k] := by
  rw [nth, List.getD_eq_getElem?_getD, List.getElem?_eq_getElem h]; rfl
theorem nth_mem {zs : List Int} {k : Nat} (h : k < zs.length) : nth zs k ∈ zs := by rw [nth_eq h]; exact List.getElem_mem h
theorem nth_out {zs : List Int} {k : Nat} (h : zs.length ≤ k) : nth zs k = 0 := by
  rw [nth, List.getD_eq_getElem?_getD, List.getElem?_eq_none h]; rfl
/-- The cells of a list of numbers. -/
def ints (zs : List Int) : List Value := zs.map (Value.int .i64)
theorem ints_length (zs : List Int) : (ints zs).length = zs.length := by simp [ints]
theorem ints_append (a b : List Int) : ints (a ++ b) = ints a ++ ints b := by simp [ints]
theorem ints_one (x : Int) : ints [x] = [.int .i64 x] := rfl
theorem ints_nil : ints [] = [] := rfl
theorem ints_get (zs : List Int) (j : Nat) (h : j < zs.length) : (ints zs)[j]? = some (.int .i64 (nth zs j)) := by
  simp [ints, nth_eq h, List.getElem?_eq_getElem h]
theorem ints_oneCell (zs : List Int) : ∀ u ∈ ints zs, u.oneCell' = true := by
  intro u hu
  obtain ⟨z, _, rfl⟩ := List.mem_map.1 hu
  rfl

/-- Each number fits int64. -/
def I64 (zs : List Int) : Prop := ∀ z ∈ zs, -9223372036854775808 ≤ z ∧ z ≤ 9223372036854775807
theorem I64.nil : I64 [] := fun _ h => by cases h
theorem I64.get {zs : List Int} (h : I64 zs) (j : Nat) : -9223372036854775808 ≤ nth zs j ∧ nth zs j ≤ 9223372036854775807 := by
  by_cases hj : j < zs.length
  · exact h _ (nth_mem hj)
  · rw [nth_out (by omega)]
    exact ⟨by decide, by decide⟩
theorem I64.append {a b : List Int} (ha : I64 a) (hb : I64 b) : I64 (a ++ b) := by
  intro z hz
  rcases List.mem_append.1 hz with h | h
  · exact ha z h
  · exact hb z h
theorem I64.one {x : Int} (h1 : -9223372036854775808 ≤ x) (h2 : x ≤ 9223372036854775807) : I64 [x] := by
  intro z hz
  simp at hz
  subst hz
  exact ⟨h1, h2⟩
theorem I64.sub {a b : List Int} (h : I64 b) (hs : ∀ z ∈ a, z ∈ b) : I64 a := fun z hz => h z (hs z hz)

/-- The slice value '.slice A n c' reads as the list zs in w. -/
def Rd (w : World) (A : Option Addr) (n c : Nat) (zs : List Int) : Prop :=
  zs.length = n ∧ n ≤ c ∧ c ≤ maxLen ∧ (I64 zs ∧ (A = none → c = 0)) ∧
    (0 < n → ∃ b off, A = some ⟨b, off, none⟩ ∧ ∀ j, j < n → w.cell? ⟨b, off + j, none⟩ = some (.int .i64 (nth zs j)))

section
variable {w w' : World} {A : Option Addr} {n c : Nat} {zs : List Int}
theorem Rd.len (h : Rd w A n c zs) : zs.length = n := h.1
theorem Rd.le (h : Rd w A n c zs) : n ≤ zs.length ∧ zs.length ≤ n := ⟨by have := h.1; omega, by have := h.1; omega⟩
theorem Rd.cap (h : Rd w A n c zs) : n ≤ c ∧ c ≤ 9223372036854775807 := ⟨h.2.1, h.2.2.1⟩
theorem Rd.i64 (h : Rd w A n c zs) : I64 zs := h.2.2.2.1.1
theorem Rd.none0 (h : Rd w A n c zs) : A = none → c = 0 := h.2.2.2.1.2
theorem Rd.nil (w : World) : Rd w none 0 0 [] := ⟨rfl, Nat.le_refl _, by simp [maxLen], ⟨I64.nil, fun _ => rfl⟩, fun h => absurd h (by omega)⟩
theorem Rd.at_ (h : Rd w A n c zs) (hn : 0 < n) : ∃ b off, A = some ⟨b, off, none⟩ ∧ b < w.heap.size ∧ ∀ j, j < n → w.cell? ⟨b, off + j, none⟩ = some (.int .i64 (nth zs j)) := by
  obtain ⟨b, off, hA, hc⟩ := h.2.2.2.2 hn
  exact ⟨b, off, hA, World.block_lt_of_cell? w _ (hc 0 hn), hc⟩
theorem Rd.keep (h : Rd w A n c zs) (hk : ∀ p : Addr, p.block < w.heap.size → w'.cell? p = w.cell? p) : Rd w' A n c zs := by
  refine ⟨h.1, h.2.1, h.2.2.1, h.2.2.2.1, fun hn => ?_⟩
  obtain ⟨b, off, hA, hb, hc⟩ := h.at_ hn
  exact ⟨b, off, hA, fun j hj => (hk _ hb).trans (hc j hj)⟩
theorem Rd.below (h : Rd w A n c zs) (hb : Below w.heap.size w w') : Rd w' A n c zs := h.keep fun _ hp => hb.cell hp
theorem Rd.drewN (h : Rd w A n c zs) (k : Nat) : Rd (w.drewN k) A n c zs := h
theorem Rd.drew (h : Rd w A n c zs) : Rd w.drew A n c zs := h
theorem Rd.block {g off : Nat} (h : Rd w (some ⟨g, off, none⟩) n c zs) (hn : 0 < n) : g < w.heap.size := by
  obtain ⟨b, o, hA, hb, _⟩ := h.at_ hn
  simp at hA
  omega
/-- the block of the value's address, where something is read, lies below B -/
def Under (B : Nat) (A : Option Addr) (n : Nat) : Prop := ∀ b off s, A = some ⟨b, off, s⟩ → 0 < n → b < B
theorem Rd.under (h : Rd w A n c zs) : Under w.heap.size A n := by
  intro b off s hA hn
  obtain ⟨b', o', hA', hb, _⟩ := h.at_ hn
  rw [hA] at hA'
  simp at hA'
  omega
theorem Under.mono {B B' : Nat} (h : Under B A n) (hB : B ≤ B') : Under B' A n := fun b off s hA hn => Nat.lt_of_lt_of_le (h b off s hA hn) hB
theorem Rd.keepU {B : Nat} (h : Rd w A n c zs) (hu : Under B A n) (hk : ∀ p : Addr, p.block < B → w'.cell? p = w.cell? p) : Rd w' A n c zs := by
  refine ⟨h.1, h.2.1, h.2.2.1, h.2.2.2.1, fun hn => ?_⟩
  obtain ⟨b, off, hA, _, hc⟩ := h.at_ hn
  exact ⟨b, off, hA, fun j hj => (hk _ (hu b off _ hA hn)).trans (hc j hj)⟩
theorem Rd.belowU {B : Nat} (h : Rd w A n c zs) (hu : Under B A n) (hb : Below B w w') : Rd w' A n c zs := h.keepU hu fun _ hp => hb.cell hp

/-- '.slice A n c' is nil or a row of the call's own (from block B on) that reads as zs. -/
def Own (w : World) (B : Nat) (A : Option Addr) (n c : Nat) (zs : List Int) : Prop :=
  w.ownsRow B 2 1 (.slice A n c) n (ints zs) ∧ I64 zs
theorem Own.row {B : Nat} (h : Own w B A n c zs) : w.ownsRow B 2 1 (.slice A n c) n (ints zs) := h.1
theorem Own.i64 {B : Nat} (h : Own w B A n c zs) : I64 zs := h.2
theorem Own.len {B : Nat} (h : Own w B A n c zs) : zs.length = n := by
  have := h.1.1
  rw [ints_length] at this
  omega
theorem Own.le {B : Nat} (h : Own w B A n c zs) : n ≤ zs.length ∧ zs.length ≤ n := ⟨by have := h.len; omega, by have := h.len; omega⟩
theorem Own.cap {B : Nat} (h : Own w B A n c zs) : n ≤ c ∧ c ≤ 9223372036854775807 := by
  rcases h.1.2 with ⟨hv, hn⟩ | ⟨g, cap, cur, hv, _, _, hnc, hm, _⟩
  · simp at hv
    omega
  · simp at hv
    obtain ⟨_, rfl⟩ := hv
    exact ⟨hnc, hm⟩
theorem Own.form {B : Nat} (h : Own w B A n c zs) : (A = none ∧ n = 0 ∧ c = 0 ∧ zs = []) ∨ ∃ g, A = some ⟨g, 0, none⟩ ∧ B ≤ g ∧ g < w.heap.size := by
  rcases h.1.2 with ⟨hv, hn⟩ | ⟨g, cap, cur, hv, hg, hh, _⟩
  · left
    simp at hv
    refine ⟨hv.1, hn, hv.2.2, ?_⟩
    exact List.eq_nil_of_length_eq_zero (by rw [h.len]; exact hn)
  · right
    simp at hv
    exact ⟨g, hv.1, hg, (Array.getElem?_eq_some_iff.1 hh).1⟩
theorem Own.nil (w : World) (B : Nat) : Own w B none 0 0 [] := ⟨World.ownsRow_nil _ _ _ _, I64.nil⟩
theorem Own.mono {B B' : Nat} (h : Own w B A n c zs) (hB : B' ≤ B) : Own w B' A n c zs := by
  refine ⟨⟨h.1.1, ?_⟩, h.2⟩
  rcases h.1.2 with h1 | ⟨g, cap, cur, hv, hg, r⟩
  · exact .inl h1
  · exact .inr ⟨g, cap, cur, hv, by omega, r⟩
theorem Own.keepG {B : Nat} {row : Option Nat} (h : Own w B A n c zs) (hg : w.grownBy w' row) (hne : (Value.slice A n c).ownBlock = none ∨ (Value.slice A n c).ownBlock ≠ row) : Own w' B A n c zs :=
  ⟨h.1.kept hg hne, h.2⟩
theorem grownBy_of_below (h : Below w.heap.size w w') (row : Option Nat) : w.grownBy w' row := ⟨h.os, h.tape, h.output, h.size, fun i hi _ => h.block i hi⟩
theorem below_of_grown {row : Option Nat} (h : w.grownBy w' row) {B : Nat} (hB : B ≤ w.heap.size) (hr : ∀ g, row = some g → B ≤ g) : Below B w w' :=
  (Below.refl B w).grown h hB hr
theorem Own.below {B : Nat} (h : Own w B A n c zs) (hb : Below w.heap.size w w') : Own w' B A n c zs := by
  by_cases hA : (Value.slice A n c).ownBlock = none
  · exact h.keepG (grownBy_of_below hb none) (.inl hA)
  · exact h.keepG (grownBy_of_below hb none) (.inr hA)
theorem Own.belowB {B B' : Nat} (h : Own w B A n c zs) (hu : Under B' A n) (hb : Below B' w w') (hn : 0 < n ∨ A = none) : Own w' B A n c zs := by
  refine ⟨⟨h.1.1, ?_⟩, h.2⟩
  rcases h.1.2 with h1 | ⟨g, cap, cur, hv, hg, hh, r⟩
  · exact .inl h1
  · have hA : A = some ⟨g, 0, none⟩ := by simp at hv; exact hv.1
    rcases hn with hn | hn
    · exact .inr ⟨g, cap, cur, hv, hg, by rw [hb.block g (hu g 0 none hA hn)]; exact hh, r⟩
    · rw [hn] at hA; cases hA
theorem Own.drew {B : Nat} (h : Own w B A n c zs) : Own w.drew B A n c zs := h
theorem Own.drewN {B : Nat} (h : Own w B A n c zs) (k : Nat) : Own (w.drewN k) B A n c zs := h
theorem Own.alloc {B : Nat} (h : Own w B A n c zs) (o : Obj) : Own (w.alloc o) B A n c zs := ⟨h.1.alloc o, h.2⟩
theorem Own.rd {B : Nat} (h : Own w B A n c zs) : Rd w A n c zs := by
  refine ⟨h.len, h.cap.1, h.cap.2, ⟨h.2, fun e => ?_⟩, fun hn => ?_⟩
  · rcases h.form with ⟨_, _, h3, _⟩ | ⟨g, h3, _⟩
    · exact h3
    · rw [h3] at e; cases e
  rcases h.form with ⟨_, h0, _⟩ | ⟨g, hA, _, _⟩
  · omega
  · subst hA
    refine ⟨g, 0, rfl, fun j hj => ?_⟩
    have hc := h.1.cellAt j (by omega)
    rw [Nat.zero_add, hc, ints_get zs j (by rw [h.len]; exact hj)]
/-- the address of an owned slice is nil or the head of a block -/
theorem Own.ownBlock {B : Nat} (h : Own w B A n c zs) : (Value.slice A n c).ownBlock = none ∨ ∃ g, (Value.slice A n c).ownBlock = some g ∧ B ≤ g ∧ g < w.heap.size := by
  rcases h.form with ⟨rfl, _⟩ | ⟨g, rfl, h1, h2⟩
  · left; rfl
  · right; exact ⟨g, rfl, h1, h2⟩
theorem Own.cell {B g : Nat} (h : Own w B (some ⟨g, 0, none⟩) n c zs) {k : Nat} (hk : k < n) : w.cell? ⟨g, k, none⟩ = some (.int .i64 (nth zs k)) := by
  rw [h.1.cellAt k (by omega), ints_get zs k (by rw [h.len]; exact hk)]
theorem Own.frozen {B g : Nat} (h : Own w B (some ⟨g, 0, none⟩) n c zs) (k : Nat) : w.frozen? ⟨g, k, none⟩ = false := h.1.frozenAt k
theorem ints_set (zs : List Int) (k : Nat) (x : Int) : (ints zs).set k (.int .i64 x) = ints (zs.set k x) := by simp [ints, List.map_set]
theorem I64.set {zs : List Int} (h : I64 zs) (k : Nat) {x : Int} (h1 : -9223372036854775808 ≤ x) (h2 : x ≤ 9223372036854775807) : I64 (zs.set k x) := by
  intro z hz
  rcases List.mem_or_eq_of_mem_set hz with hz | rfl
  · exact h z hz
  · exact ⟨h1, h2⟩
theorem Own.set {B g : Nat} (h : Own w B (some ⟨g, 0, none⟩) n c zs) (k : Nat) {x : Int} (h1 : -9223372036854775808 ≤ x) (h2 : x ≤ 9223372036854775807) :
    Own (w.setCell ⟨g, k, none⟩ (.int .i64 x)) B (some ⟨g, 0, none⟩) n c (zs.set k x) := by
  have := (h.1.stored k (.int .i64 x)).1
  rw [ints_set] at this
  exact ⟨this, h.2.set k h1 h2⟩
theorem Own.set_grown {B g : Nat} (h : Own w B (some ⟨g, 0, none⟩) n c zs) (k : Nat) (x : Int) : w.grownBy (w.setCell ⟨g, k, none⟩ (.int .i64 x)) (some g) :=
  (h.1.stored k (.int .i64 x)).2
theorem Own.made (w : World) {n : Nat} (hn : n ≤ 9223372036854775807) : Own (w.alloc (.cells (madeCells #[.int .i64 0] n) 2)) w.heap.size (some ⟨w.heap.size, 0, none⟩) n n (List.replicate n 0) := by
  have := World.ownsRow_lit (e := 2) (size := 1) (base := w.heap.size) w (madeCells #[.int .i64 0] n) n (Nat.le_refl _) hn (by simp [madeCells])
  rw [toList_madeCells_one] at this
  refine ⟨?_, fun z hz => ?_⟩
  · have e : ints (List.replicate n 0) = List.replicate n (.int .i64 0) := by simp [ints]
    rw [e]
    exact this
  · have := List.eq_of_mem_replicate hz
    subst this
    exact ⟨by decide, by decide⟩
theorem grown_trans {a b c : World} {row : Option Nat} (h : a.grownBy b row) (k : b.grownBy c row) : a.grownBy c row :=
  ⟨k.os.trans h.os, k.tape.trans h.tape, k.output.trans h.output, Nat.le_trans h.size k.size, fun i hi hne => (k.block i (Nat.lt_of_lt_of_le hi h.size) hne).trans (h.block i hi hne)⟩
theorem grown_refl (w : World) (row : Option Nat) : w.grownBy w row := ⟨rfl, rfl, rfl, Nat.le_refl _, fun _ _ _ => rfl⟩
/-- what an append law leaves, as 'Own' -/
theorem own_of_row {B : Nat} {v : Value} {xs : List Value} (h : w.ownsRow B 2 1 v n xs) (hx : xs = ints zs) (hz : I64 zs) : ∃ A c, v = .slice A n c ∧ Own w B A n c zs := by
  subst hx
  rcases h.2 with ⟨rfl, hn⟩ | ⟨g, cap, cur, rfl, r⟩
  · subst hn
    exact ⟨none, 0, rfl, ⟨h.1, .inl ⟨rfl, rfl⟩⟩, hz⟩
  · exact ⟨_, cap, rfl, ⟨h.1, .inr ⟨g, cap, cur, rfl, r⟩⟩, hz⟩
/-- a write into a row of the call's own -/
theorem below_mark {w0 : World} {B : Nat} (h : Below w0.heap.size w0 w) (ho : Own w B A n c zs) (hB : w0.heap.size ≤ B) (hg : w.grownBy w' (Value.slice A n c).ownBlock) : Below w0.heap.size w0 w' :=
  h.grown hg h.size (fun k hk => Nat.le_trans hB (ho.row.lt k hk).1)
theorem Own.keepHi {B : Nat} {v : Value} (h : Own w B A n c zs) (hg : w.grownBy w' v.ownBlock) (hv : ∀ g, v.ownBlock = some g → g < B) : Own w' B A n c zs := by
  refine h.keepG hg ?_
  rcases h.ownBlock with h0 | ⟨g, h0, h1, _⟩
  · exact .inl h0
  · right
    intro e
    have := hv g (e.symm.trans h0)
    omega
theorem Own.keepLo {B B' : Nat} {A' : Option Addr} {n' c' : Nat} {zs' : List Int} (h : Own w B A n c zs) (hg : w.grownBy w' (Value.slice A' n' c').ownBlock) (hv : Own w B' A' n' c' zs') (hlt : ∀ g, (Value.slice A n c).ownBlock = some g → g < B') : Own w' B A n c zs := by
  refine h.keepG hg ?_
  rcases h.ownBlock with h0 | ⟨g, h0, _, _⟩
  · exact .inl h0
  · right
    intro e
    have h1 := hlt g h0
    have h2 := (hv.row.lt g (e.symm.trans h0)).1
    omega
/-- below from a chain of calls -/
theorem below_trans {w0 w1 w2 : World} (h : Below w0.heap.size w0 w1) (k : Below w1.heap.size w1 w2) : Below w0.heap.size w0 w2 := h.trans (k.mono h.size)
theorem below_drewN {B : Nat} {a w : World} (h : Below B a w) (n : Nat) : Below B a (w.drewN n) := ⟨h.os, h.tape, h.output, h.size, h.block⟩
end
/-- What a statement's shell tells of a slice of integers that came in. -/
def IsRow (k : IntKind) (w : World) (a : Option Addr) (len cap : Nat) (zs : List Int) : Prop :=
  (a = none ∧ len = 0 ∧ cap = 0 ∧ zs = []) ∨
  ∃ x, a = some x ∧ len ≤ cap ∧ cap ≤ maxLen ∧ zs.length = cap ∧ (∀ i, i < zs.length → w.cell? (x.add i) = some (.int k (zs.getD i 0))) ∧ ∀ n ∈ zs, (Lit.int k n).wf = true
theorem nth_take (zs : List Int) (n k : Nat) (h : k < n) : nth (zs.take n) k = nth zs k := by
  simp [nth, List.getElem?_take, h]
theorem wf_i64_bounds {n : Int} (h : (Lit.int .i64 n).wf = true) : -9223372036854775808 ≤ n ∧ n ≤ 9223372036854775807 := by
  simpa [Lit.wf, IntKind.min, IntKind.max, IntKind.signed, IntKind.bits] using h
theorem rd_of_isRow {w : World} {a : Option Addr} {len cap : Nat} {zs : List Int} (h : IsRow .i64 w a len cap zs) : Rd w a len cap (zs.take len) := by
  rcases h with ⟨rfl, rfl, rfl, rfl⟩ | ⟨x, rfl, hl, hm, hz, hcell, hwz⟩
  · exact Rd.nil w
  · refine ⟨by rw [List.length_take]; omega, hl, hm, ⟨fun z hzm => wf_i64_bounds (hwz z (List.mem_of_mem_take hzm)), fun e => by cases e⟩, fun hn => ?_⟩
    obtain ⟨b, off, spot⟩ := x
    have hc := hcell 0 (by omega)
    have hspot : spot = none := by simpa [Addr.add] using World.cell?_spot hc
    subst hspot
    refine ⟨b, off, rfl, fun j hj => ?_⟩
    have hcj := hcell j (by omega)
    rw [nth_take zs len j hj]
    rw [show (⟨b, off, none⟩ : Addr).add j = ⟨b, off + j, none⟩ from ?_] at hcj
    · exact hcj
    · unfold Addr.add
      split
      · rename_i h0
        subst h0
        rfl
      · rfl
theorem ret_int {k : IntKind} {a b : Int} (h : a = b) : Ending.returned (.int k a) = .returned (.int k b) := by rw [h]
theorem ret_pair {a b a' b' : Int} (h : a = a') (h' : b = b') : Ending.returned (.tuple #[.int .i64 a, .int .i64 b]) = .returned (.tuple #[.int .i64 a', .int .i64 b']) := by rw [h, h']
theorem ret_sc {v : Value} {a b : Int} (h : a = b) : Ending.returned (.tuple #[v, .int .i64 a]) = .returned (.tuple #[v, .int .i64 b]) := by rw [h]
theorem ret_bool {a b : Bool} (h : a = b) : Ending.returned (.bool a) = .returned (.bool b) := by rw [h]
theorem quiet_add_left {P : Program} {f : FuncId} {args : Array Value} {w : World} {a n : Nat} {v : Value}
    (h : Calls P f args (w.drewN (a + n)) fun e w' => e = .returned v ∧ w.drewN (a + n) = w') :
    Calls P f args (w.drewN (a + n)) fun e w'' => e = .returned v ∧ ∃ m, w'' = w.drewN (a + m) :=
  h.mono fun _ _ ⟨he, hm⟩ => ⟨he, n, hm.symm⟩
theorem quiet_left {P : Program} {f : FuncId} {args : Array Value} {w : World} {n : Nat} {v : Value}
    (h : Calls P f args (w.drewN n) fun e w' => e = .returned v ∧ w.drewN n = w') : Calls P f args (w.drewN n) fun e w'' => e = .returned v ∧ ∃ m, w'' = w.drewN m :=
  h.mono fun _ _ ⟨he, hm⟩ => ⟨he, n, hm.symm⟩
theorem quiet_add {P : Program} {f : FuncId} {args : Array Value} {w : World} {a n : Nat} {v : Value}
    (h : Calls P f args (w.drewN (a + n)) fun e w' => e = .returned v ∧ ∃ m, w' = (w.drewN (a + n)).drewN m) :
    Calls P f args (w.drewN (a + n)) fun e w'' => e = .returned v ∧ ∃ m, w'' = w.drewN (a + m) :=
  h.mono fun _ _ ⟨he, m, hm⟩ => ⟨he, n + m, by rw [hm, World.drewN_drewN, Nat.add_assoc]⟩
theorem hide {p : Prop} (h : p) : Hid p := h
theorem take_snoc (zs : List Int) (k : Nat) (h : k < zs.length) : zs.take (k + 1) = zs.take k ++ [nth zs k] := by
  rw [List.take_succ_eq_append_getElem h, nth_eq h]
end Go.Proofs.YtdkhldebnpmiiaaGreatDoor
