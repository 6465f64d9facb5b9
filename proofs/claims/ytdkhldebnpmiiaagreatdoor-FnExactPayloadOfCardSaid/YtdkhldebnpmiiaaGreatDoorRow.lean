/- Words for memory: rows of records whose fields may be of any kind, read and owned. -/
import Derived.Test.YtdkhldebnpmiiaaGreatDoorAppend
import Derived.Test.YtdkhldebnpmiiaaGreatDoorRepeat
namespace Go.Proofs.YtdkhldebnpmiiaaGreatDoor
open Go.RowKit
set_option linter.unusedVariables false
set_option linter.unusedSimpArgs false

section
variable {α : Type} {f : α → List Value} {k : Nat}
theorem flat_get (hk : ∀ x, (f x).length = k) : ∀ (l : List α) (i j : Nat), j < k → (l.flatMap f)[i * k + j]? = l[i]?.bind fun x => (f x)[j]?
  | [], i, j, _ => by simp
  | x :: l, 0, j, hj => by
    rw [List.flatMap_cons, Nat.zero_mul, Nat.zero_add, List.getElem?_append_left (by rw [hk]; exact hj)]
    rfl
  | x :: l, i + 1, j, hj => by
    have e : (i + 1) * k + j - (f x).length = i * k + j := by rw [hk, Nat.succ_mul]; omega
    rw [List.flatMap_cons, List.getElem?_append_right (by rw [hk, Nat.succ_mul]; omega), e, flat_get hk l i j hj]
    rfl
theorem flat_len (hk : ∀ x, (f x).length = k) (l : List α) : (l.flatMap f).length = l.length * k := by
  induction l with
  | nil => simp
  | cons x l ih => rw [List.flatMap_cons, List.length_append, hk, ih, List.length_cons, Nat.succ_mul]; omega
/-- some cells set, one behind the other -/
def setL (xs : List Value) (p : Nat) : List Value → List Value
  | [] => xs
  | v :: vs => setL (xs.set p v) (p + 1) vs
theorem setL_len (vs : List Value) : ∀ (xs : List Value) (p : Nat), (setL xs p vs).length = xs.length := by
  induction vs with
  | nil => intro xs p; rfl
  | cons v vs ih => intro xs p; rw [setL, ih]; simp
theorem setL_get (vs : List Value) : ∀ (xs : List Value) (p q : Nat), p + vs.length ≤ xs.length → (setL xs p vs)[q]? = if p ≤ q ∧ q < p + vs.length then vs[q - p]? else xs[q]? := by
  induction vs with
  | nil => intro xs p q _; rw [setL, if_neg (by simp)]
  | cons v vs ih =>
    intro xs p q h
    rw [List.length_cons] at h
    rw [setL, ih _ _ _ (by rw [List.length_set]; omega), List.length_cons]
    by_cases h1 : p = q
    · subst h1
      rw [if_neg (by omega), if_pos (by omega), List.getElem?_set_self (by omega)]
      simp
    · by_cases h2 : p + 1 ≤ q ∧ q < p + 1 + vs.length
      · rw [if_pos h2, if_pos (by omega)]
        obtain ⟨d, rfl⟩ : ∃ d, q = p + 1 + d := ⟨q - (p + 1), by omega⟩
        rw [show p + 1 + d - (p + 1) = d by omega, show p + 1 + d - p = d + 1 by omega]
        rfl
      · rw [if_neg h2, if_neg (by omega), List.getElem?_set_ne h1]
theorem flat_set (hk : ∀ x, (f x).length = k) {l : List α} {i : Nat} (hi : i < l.length) (x : α) : setL (l.flatMap f) (i * k) (f x) = (l.set i x).flatMap f := by
  have hik : i * k + k ≤ l.length * k := by rw [← Nat.succ_mul]; exact Nat.mul_le_mul_right k hi
  apply List.ext_getElem?
  intro q
  rw [setL_get _ _ _ _ (by rw [hk, flat_len hk]; exact hik), hk]
  rcases Nat.eq_zero_or_pos k with h0 | hpos
  · subst h0
    rw [if_neg (by omega)]
    have e1 : l.flatMap f = [] := List.eq_nil_of_length_eq_zero (by rw [flat_len hk, Nat.mul_zero])
    have e2 : (l.set i x).flatMap f = [] := List.eq_nil_of_length_eq_zero (by rw [flat_len hk, Nat.mul_zero])
    rw [e1, e2]
  have hq : q = q / k * k + q % k := by rw [Nat.mul_comm]; exact (Nat.div_add_mod q k).symm
  have hm : q % k < k := Nat.mod_lt _ hpos
  have e : (l.set i x).flatMap f = (l.set i x).flatMap f := rfl
  have eR : ((l.set i x).flatMap f)[q]? = (l.set i x)[q / k]?.bind fun x => (f x)[q % k]? := by
    have := flat_get hk (l.set i x) (q / k) (q % k) hm
    rwa [← hq] at this
  have eL : (l.flatMap f)[q]? = l[q / k]?.bind fun x => (f x)[q % k]? := by
    have := flat_get hk l (q / k) (q % k) hm
    rwa [← hq] at this
  rw [eR]
  by_cases h : i = q / k
  · have h1 : i * k ≤ q ∧ q < i * k + k := by
      rw [← h] at hq
      omega
    rw [if_pos h1, ← h, List.getElem?_set_self hi]
    show _ = (f x)[q % k]?
    have : q - i * k = q % k := by rw [← h] at hq; omega
    rw [this]
  · have h1 : ¬ (i * k ≤ q ∧ q < i * k + k) := by
      rintro ⟨a, b⟩
      apply h
      have : q / k = i := by
        rw [Nat.div_eq_of_lt_le]
        · exact a
        · rw [Nat.succ_mul]; exact b
      exact this.symm
    rw [if_neg h1, List.getElem?_set_ne h, eL]
/-- The slice value '.slice A n c' reads as the records l, each laid out by f in k cells. -/
def RdR (f : α → List Value) (k : Nat) (w : World) (A : Option Addr) (n c : Nat) (l : List α) : Prop :=
  l.length = n ∧ n ≤ c ∧ c ≤ maxLen ∧ (A = none → c = 0) ∧
    (0 < n → ∃ b off, A = some ⟨b, off, none⟩ ∧ b < w.heap.size ∧ ∀ i x, l[i]? = some x → ∀ j v, (f x)[j]? = some v → w.cell? ⟨b, off + i * k + j, none⟩ = some v)
/-- '.slice A n c' is nil or a row of the call's own (from block B on) of records of type T. -/
def OwnR (T : TypeId) (f : α → List Value) (k : Nat) (w : World) (B : Nat) (A : Option Addr) (n c : Nat) (l : List α) : Prop :=
  w.ownsRow B T k (.slice A n c) n (l.flatMap f) ∧ l.length = n ∧ ∀ x, (f x).length = k
variable {T : TypeId} {w w' : World} {A : Option Addr} {n c : Nat} {l : List α} {B : Nat}
theorem RdR.len (h : RdR f k w A n c l) : l.length = n := h.1
theorem RdR.cap (h : RdR f k w A n c l) : n ≤ c ∧ c ≤ 9223372036854775807 := ⟨h.2.1, h.2.2.1⟩
theorem RdR.none0 (h : RdR f k w A n c l) : A = none → c = 0 := h.2.2.2.1
theorem RdR.at_ (h : RdR f k w A n c l) {i : Nat} (hi : i < n) : ∃ b off x, A = some ⟨b, off, none⟩ ∧ b < w.heap.size ∧ l[i]? = some x ∧ ∀ j v, (f x)[j]? = some v → w.cell? ⟨b, off + i * k + j, none⟩ = some v := by
  obtain ⟨b, off, hA, hb, hc⟩ := h.2.2.2.2 (by omega)
  have hil : i < l.length := by rw [h.len]; exact hi
  have hx : l[i]? = some l[i] := List.getElem?_eq_getElem hil
  exact ⟨b, off, _, hA, hb, hx, hc i _ hx⟩
theorem RdR.below (h : RdR f k w A n c l) (hb : Below w.heap.size w w') : RdR f k w' A n c l := by
  refine ⟨h.1, h.2.1, h.2.2.1, h.2.2.2.1, fun hn => ?_⟩
  obtain ⟨b, off, hA, hl, hc⟩ := h.2.2.2.2 hn
  exact ⟨b, off, hA, Nat.lt_of_lt_of_le hl hb.size, fun i x hx j v hv => (hb.cell (p := ⟨b, off + i * k + j, none⟩) hl).trans (hc i x hx j v hv)⟩
theorem RdR.drewN (h : RdR f k w A n c l) (m : Nat) : RdR f k (w.drewN m) A n c l := h
theorem RdR.nil (w : World) : RdR f k w none 0 0 [] := ⟨rfl, Nat.le_refl _, by simp [maxLen], fun _ => rfl, fun h => absurd h (by omega)⟩
/-- the first records alone -/
theorem RdR.take (h : RdR f k w A n c l) {m : Nat} (hm : m ≤ n) : RdR f k w A m c (l.take m) := by
  refine ⟨by rw [List.length_take, h.len]; omega, by have := h.cap; omega, h.2.2.1, h.none0, fun h0 => ?_⟩
  obtain ⟨b, off, hA, hl, hc⟩ := h.2.2.2.2 (by omega)
  refine ⟨b, off, hA, hl, fun i x hx => hc i x ?_⟩
  rw [List.getElem?_take] at hx
  split at hx
  · exact hx
  · cases hx
theorem OwnR.len (h : OwnR T f k w B A n c l) : l.length = n := h.2.1
theorem OwnR.cap (h : OwnR T f k w B A n c l) : n ≤ c ∧ c ≤ 9223372036854775807 := by
  rcases h.1.2 with ⟨hv, hn⟩ | ⟨g, cap, cur, hv, _, _, hnc, hm, _⟩
  · simp at hv
    omega
  · simp at hv
    obtain ⟨_, rfl⟩ := hv
    exact ⟨hnc, hm⟩
theorem OwnR.form (h : OwnR T f k w B A n c l) : (A = none ∧ n = 0 ∧ c = 0 ∧ l = []) ∨ ∃ g, A = some ⟨g, 0, none⟩ ∧ B ≤ g ∧ g < w.heap.size := by
  rcases h.1.2 with ⟨hv, hn⟩ | ⟨g, cap, cur, hv, hg, hh, _⟩
  · left
    simp at hv
    exact ⟨hv.1, hn, hv.2.2, List.eq_nil_of_length_eq_zero (by rw [h.len, hn])⟩
  · right
    simp at hv
    exact ⟨g, hv.1, hg, (Array.getElem?_eq_some_iff.1 hh).1⟩
theorem OwnR.nil (w : World) (B : Nat) (hk : ∀ x, (f x).length = k) : OwnR T f k w B none 0 0 [] := ⟨World.ownsRow_nil _ _ _ _, rfl, hk⟩
theorem OwnR.mono {B' : Nat} (h : OwnR T f k w B A n c l) (hB : B' ≤ B) : OwnR T f k w B' A n c l := by
  refine ⟨⟨h.1.1, ?_⟩, h.2⟩
  rcases h.1.2 with h1 | ⟨g, cap, cur, hv, hg, r⟩
  · exact .inl h1
  · exact .inr ⟨g, cap, cur, hv, by omega, r⟩
theorem OwnR.keepG {row : Option Nat} (h : OwnR T f k w B A n c l) (hg : w.grownBy w' row) (hne : (Value.slice A n c).ownBlock = none ∨ (Value.slice A n c).ownBlock ≠ row) : OwnR T f k w' B A n c l :=
  ⟨h.1.kept hg hne, h.2⟩
theorem OwnR.below (h : OwnR T f k w B A n c l) (hb : Below w.heap.size w w') : OwnR T f k w' B A n c l := by
  by_cases hA : (Value.slice A n c).ownBlock = none
  · exact h.keepG (grownBy_of_below hb none) (.inl hA)
  · exact h.keepG (grownBy_of_below hb none) (.inr hA)
theorem OwnR.drewN (h : OwnR T f k w B A n c l) (m : Nat) : OwnR T f k (w.drewN m) B A n c l := h
theorem OwnR.alloc (h : OwnR T f k w B A n c l) (o : Obj) : OwnR T f k (w.alloc o) B A n c l := ⟨h.1.alloc o, h.2⟩
theorem OwnR.frozen {g : Nat} (h : OwnR T f k w B (some ⟨g, 0, none⟩) n c l) (j : Nat) : w.frozen? ⟨g, j, none⟩ = false := h.1.frozenAt j
theorem OwnR.rd (h : OwnR T f k w B A n c l) : RdR f k w A n c l := by
  refine ⟨h.len, h.cap.1, h.cap.2, fun e => ?_, fun hn => ?_⟩
  · rcases h.form with ⟨_, _, h3, _⟩ | ⟨g, h3, _⟩
    · exact h3
    · rw [h3] at e; cases e
  rcases h.form with ⟨_, h0, _⟩ | ⟨g, hA, _, hl⟩
  · omega
  · subst hA
    refine ⟨g, 0, rfl, hl, fun i x hx j v hv => ?_⟩
    have hi : i < n := by rw [← h.len]; exact (List.getElem?_eq_some_iff.1 hx).1
    have hj : j < k := by rw [← h.2.2 x]; exact (List.getElem?_eq_some_iff.1 hv).1
    have hlt : i * k + j < n * k := by
      have : (i + 1) * k ≤ n * k := Nat.mul_le_mul_right k hi
      rw [Nat.succ_mul] at this
      omega
    rw [show 0 + i * k + j = i * k + j by omega, h.1.cellAt _ hlt, flat_get h.2.2 l i j hj, hx]
    exact hv
theorem OwnR.ownBlock (h : OwnR T f k w B A n c l) : (Value.slice A n c).ownBlock = none ∨ ∃ g, (Value.slice A n c).ownBlock = some g ∧ B ≤ g ∧ g < w.heap.size := by
  rcases h.form with ⟨rfl, _⟩ | ⟨g, rfl, h1, h2⟩
  · left; rfl
  · right; exact ⟨g, rfl, h1, h2⟩
theorem OwnR.empty (w : World) (hB : B ≤ w.heap.size) (hk : ∀ x, (f x).length = k) : OwnR T f k (w.alloc (.cells #[] T)) B (some ⟨w.heap.size, 0, none⟩) 0 0 [] :=
  ⟨World.ownsRow_made (e := T) (size := k) w #[] 0 hB (by simp [maxLen]) (by simp), rfl, hk⟩
/-- a row of cells given one by one -/
theorem OwnR.lit (w : World) (hB : B ≤ w.heap.size) (hk : ∀ x, (f x).length = k) (cs : Array Value) (l : List α) (hcs : cs.toList = l.flatMap f) (hn : l.length = n) (hm : n ≤ 9223372036854775807) :
    OwnR T f k (w.alloc (.cells cs T)) B (some ⟨w.heap.size, 0, none⟩) n n l := by
  have hl : cs.size = n * k := by
    have := congrArg List.length hcs
    rw [flat_len hk, Array.length_toList] at this
    rw [this, hn]
  have := World.ownsRow_lit (e := T) (size := k) (base := B) w cs n hB hm hl
  rw [hcs] at this
  exact ⟨this, hn, hk⟩
theorem below_ownR {w0 : World} {B' : Nat} (h : Below B w0 w) (hs : B ≤ w.heap.size) (ho : OwnR T f k w B' A n c l) (hB : B ≤ B') (hg : w.grownBy w' (Value.slice A n c).ownBlock) : Below B w0 w' :=
  h.grown hg hs (fun j hj => Nat.le_trans hB (ho.1.lt j hj).1)
/-- some cells of a block set -/
def setW (w : World) (g p : Nat) : List Value → World
  | [] => w
  | v :: vs => setW (w.setCell ⟨g, p, none⟩ v) g (p + 1) vs
theorem stored_all {xs : List Value} {g : Nat} : ∀ (vs : List Value) (w : World) (xs : List Value) (p : Nat), w.ownsRow B T k (.slice (some ⟨g, 0, none⟩) n c) n xs →
    (setW w g p vs).ownsRow B T k (.slice (some ⟨g, 0, none⟩) n c) n (setL xs p vs) ∧ w.grownBy (setW w g p vs) (some g)
  | [], w, xs, p, h => ⟨h, grown_refl _ _⟩
  | v :: vs, w, xs, p, h => by
    obtain ⟨h1, h2⟩ := h.stored p v
    obtain ⟨h3, h4⟩ := stored_all (xs := xs) vs _ _ (p + 1) h1
    exact ⟨h3, grown_trans h2 h4⟩
theorem OwnR.put {g : Nat} (h : OwnR T f k w B (some ⟨g, 0, none⟩) n c l) {i : Nat} (hi : i < n) (x : α) :
    OwnR T f k (setW w g (i * k) (f x)) B (some ⟨g, 0, none⟩) n c (l.set i x) ∧ w.grownBy (setW w g (i * k) (f x)) (some g) := by
  obtain ⟨h1, h2⟩ := stored_all (xs := []) (f x) w _ (i * k) h.1
  rw [flat_set h.2.2 (by rw [h.len]; exact hi)] at h1
  exact ⟨⟨h1, by rw [List.length_set]; exact h.len, h.2.2⟩, h2⟩
theorem ownR_of_row {v : Value} {xs : List Value} (h : w.ownsRow B T k v n xs) (hx : xs = l.flatMap f) (hn : l.length = n) (hk : ∀ x, (f x).length = k) : ∃ A c, v = .slice A n c ∧ OwnR T f k w B A n c l := by
  subst hx
  rcases h.2 with ⟨rfl, h0⟩ | ⟨g, cap, cur, rfl, r⟩
  · subst h0
    exact ⟨none, 0, rfl, ⟨h.1, .inl ⟨rfl, rfl⟩⟩, hn, hk⟩
  · exact ⟨_, cap, rfl, ⟨h.1, .inr ⟨g, cap, cur, rfl, r⟩⟩, hn, hk⟩
/-- append of records out of a literal block -/
theorem append_rec {t : TypeId} {bytes : Nat} {z : Value} (hinfo : (Tryz.prog.info? T).map (fun i => (i.zero, i.size, i.bytes)) = some (some z, k, bytes)) (ht : Tryz.prog.underlying t = some (.slice T)) (hzs : z.cells.size = k) (hk0 : 0 < k) (hbb : bytes ≤ 128)
    {ops : Array Oper} {rest : List Oper} {o : Oper} {a : Act} {Q : Exit → Act → World → Prop} (hgd : o.guard = none) (s x : Operand)
    (ho : o.op = .call { callee := .builtin .append, args := #[s, x], argTypes := #[t, t] })
    (hs : a.eval s = .slice A n c) (hown : OwnR T f k w B A n c l) (cs : Array Value) (m : Nat) (ys : List α) (hcs : cs.toList = ys.flatMap f) (hm : ys.length = m) (h1 : ∀ u ∈ ys.flatMap f, u.oneCell' = true)
    (hx : a.eval x = .slice (some ⟨w.heap.size, 0, none⟩) m m) (hn : n + m ≤ 16777216) (hB : B ≤ w.heap.size)
    (h : ∀ A' c' w', OwnR T f k w' B A' (n + m) c' (l ++ ys) → w.grownBy w' (Value.slice A n c).ownBlock → wpList Tryz.prog ops Q rest (a.put o.dst (.slice A' (n + m) c')) w') :
    wpList Tryz.prog ops Q (o :: rest) a (w.alloc (.cells cs T)) := by
  obtain ⟨i0, hi, hz0, hz1, hz2⟩ := info_parts hinfo
  have hb2 : (n + m) * bytes ≤ 140737488355328 := Nat.le_trans (Nat.mul_le_mul (Nat.le_refl (n + m)) hbb) (by omega)
  refine wpList_append_own _ hgd s x t ho B T i0 _ k bytes ht hi hz0 hz1 hz2 hzs hk0 (.slice A n c) n (l.flatMap f) hs (hown.alloc _).1
    ⟨w.heap.size, 0, none⟩ m m (ys.flatMap f) hx (by rw [flat_len hown.2.2, hm]) ?_ h1 (by simp only [maxLen]; omega) hb2 (by simp; omega) ?_
  · intro j u hu
    have e : (⟨w.heap.size, 0, none⟩ : Addr).add j = ⟨w.heap.size, j, none⟩ := by
      unfold Addr.add
      split
      · rename_i h0
        subst h0
        rfl
      · simp
    rw [e, World.cell?_alloc_new, ← Array.getElem?_toList, hcs]
    exact hu
  · intro v' w' hrow hg _
    rw [← List.flatMap_append] at hrow
    obtain ⟨A', c', rfl, ho'⟩ := ownR_of_row hrow rfl (by rw [List.length_append, hown.len, hm]) hown.2.2
    exact h A' c' w' ho' (grown_trans (World.grownBy_alloc w _ _) hg)
/-- append of the records of a slice that is read -/
theorem append_slice {t : TypeId} {bytes : Nat} {z : Value} (hinfo : (Tryz.prog.info? T).map (fun i => (i.zero, i.size, i.bytes)) = some (some z, k, bytes)) (ht : Tryz.prog.underlying t = some (.slice T)) (hzs : z.cells.size = k) (hk0 : 0 < k) (hbb : bytes ≤ 128)
    {ops : Array Oper} {rest : List Oper} {o : Oper} {a : Act} {Q : Exit → Act → World → Prop} (hgd : o.guard = none) (s x : Operand)
    (ho : o.op = .call { callee := .builtin .append, args := #[s, x], argTypes := #[t, t] })
    (hs : a.eval s = .slice A n c) (hown : OwnR T f k w B A n c l) {A2 : Option Addr} {m c2 : Nat} {ys : List α} (hr : RdR f k w A2 m c2 ys) (h1 : ∀ u ∈ ys.flatMap f, u.oneCell' = true)
    (hx : a.eval x = .slice A2 m c2) (hn : n + m ≤ 16777216) (hB : B ≤ w.heap.size)
    (h : ∀ A' c' w', OwnR T f k w' B A' (n + m) c' (l ++ ys) → w.grownBy w' (Value.slice A n c).ownBlock → wpList Tryz.prog ops Q rest (a.put o.dst (.slice A' (n + m) c')) w') :
    wpList Tryz.prog ops Q (o :: rest) a w := by
  obtain ⟨i0, hi, hz0, hz1, hz2⟩ := info_parts hinfo
  have hk := hown.2.2
  have hb2 : (n + m) * bytes ≤ 140737488355328 := Nat.le_trans (Nat.mul_le_mul (Nat.le_refl (n + m)) hbb) (by omega)
  have zero : m = 0 → wpList Tryz.prog ops Q rest (a.put o.dst (.slice A n c)) w := fun h0 => by
    subst h0
    have hy : ys = [] := List.eq_nil_of_length_eq_zero hr.len
    subst hy
    exact h A c w (by simpa using hown) (grown_refl _ _)
  cases A2 with
  | none =>
    have hc2 := hr.none0 rfl
    have hm : m = 0 := by have := hr.cap; omega
    subst hc2 hm
    refine wpList_append_own_none hgd s x t ho B T i0 k ht hi (.slice A n c) n (l.flatMap f) hs hown.1 hx ?_
    exact zero rfl
  | some ad =>
    refine wpList_append_own _ hgd s x t ho B T i0 _ k bytes ht hi hz0 hz1 hz2 hzs hk0 (.slice A n c) n (l.flatMap f) hs hown.1
      ad m c2 (ys.flatMap f) hx (by rw [flat_len hk, hr.len]) ?_ h1 (by simp only [maxLen]; omega) hb2 hB ?_
    · intro j u hu
      have hj : j < m * k := by
        have := (List.getElem?_eq_some_iff.1 hu).1
        rwa [flat_len hk, hr.len] at this
      have hkp : 0 < k := hk0
      have hi' : j / k < m := Nat.div_lt_of_lt_mul (by rw [Nat.mul_comm]; exact hj)
      obtain ⟨b, off, y, hA, _, hy, hc⟩ := hr.at_ hi'
      simp only [Option.some.injEq] at hA
      subst hA
      have e : (⟨b, off, none⟩ : Addr).add j = ⟨b, off + j, none⟩ := by
        unfold Addr.add
        split
        · rename_i h0
          subst h0
          rfl
        · rfl
      have hq : j = j / k * k + j % k := by rw [Nat.mul_comm]; exact (Nat.div_add_mod j k).symm
      have hu2 : (f y)[j % k]? = some u := by
        have := flat_get hk ys (j / k) (j % k) (Nat.mod_lt _ hk0)
        rw [← hq, hu, hy] at this
        exact this.symm
      have := hc _ _ hu2
      rw [show off + j / k * k + j % k = off + j by omega] at this
      rw [e]
      exact this
    · intro v' w' hrow hg _
      rw [← List.flatMap_append] at hrow
      obtain ⟨A', c', rfl, ho'⟩ := ownR_of_row hrow rfl (by rw [List.length_append, hown.len, hr.len]) hk
      exact h A' c' w' ho' hg
end
end Go.Proofs.YtdkhldebnpmiiaaGreatDoor
