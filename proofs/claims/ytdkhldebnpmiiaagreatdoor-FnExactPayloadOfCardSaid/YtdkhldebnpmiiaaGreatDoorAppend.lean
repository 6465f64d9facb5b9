/- append on an owned slice of int64: of new elements, of a slice that is read. -/
import Derived.Test.YtdkhldebnpmiiaaGreatDoorBase
import Derived.Laws.AppendOwnNone
namespace Go.Proofs.YtdkhldebnpmiiaaGreatDoor
open Go.RowKit
set_option linter.unusedVariables false
set_option linter.unusedSimpArgs false

section
variable {w w' : World} {A : Option Addr} {n c : Nat} {zs : List Int}
/-- the literal empty slice -/
theorem Own.empty (w : World) {B : Nat} (hB : B ≤ w.heap.size) : Own (w.alloc (.cells #[] 2)) B (some ⟨w.heap.size, 0, none⟩) 0 0 [] :=
  ⟨World.ownsRow_made (e := 2) (size := 1) w #[] 0 hB (by simp [maxLen]) (by simp), I64.nil⟩
/-- a literal slice -/
theorem Own.lit (w : World) {B : Nat} (hB : B ≤ w.heap.size) (cs : Array Value) (ys : List Int) (hcs : cs.toList = ints ys) (hy : I64 ys) (m : Nat) (hm : ys.length = m) (hm' : m ≤ 9223372036854775807) :
    Own (w.alloc (.cells cs 2)) B (some ⟨w.heap.size, 0, none⟩) m m ys := by
  have hl : cs.size = m * 1 := by
    have := congrArg List.length hcs
    rw [ints_length, Array.length_toList] at this
    omega
  have := World.ownsRow_lit (e := 2) (size := 1) (base := B) w cs m hB hm' hl
  rw [hcs] at this
  exact ⟨this, hy⟩

theorem append_new {ops : Array Oper} {rest : List Oper} {o : Oper} {a : Act} {Q : Exit → Act → World → Prop} (hgd : o.guard = none) (s x : Operand)
    (ho : o.op = .call { callee := .builtin .append, args := #[s, x], argTypes := #[40, 40] })
    (B : Nat) (hs : a.eval s = .slice A n c) (hown : Own w B A n c zs) (cs : Array Value) (ys : List Int) (m : Nat) (hcs : cs.toList = ints ys) (hy : I64 ys) (hm : ys.length = m)
    (hx : a.eval x = .slice (some ⟨w.heap.size, 0, none⟩) m m) (hn : n + m ≤ 16777216) (hB : B ≤ w.heap.size)
    (h : ∀ A' c' w', Own w' B A' (n + m) c' (zs ++ ys) → w.grownBy w' (Value.slice A n c).ownBlock → wpList Tryz.prog ops Q rest (a.put o.dst (.slice A' (n + m) c')) w') :
    wpList Tryz.prog ops Q (o :: rest) a (w.alloc (.cells cs 2)) := by
  obtain ⟨i0, hi, hz0, hz1, hz2⟩ := info_parts info_i64
  refine wpList_append_own _ hgd s x 40 ho B 2 i0 (.int .i64 0) 1 8 Tryz.underlying40 hi hz0 hz1 hz2 rfl (by decide) (.slice A n c) n (ints zs) hs (hown.alloc _).1
    ⟨w.heap.size, 0, none⟩ m m (ints ys) hx (by rw [ints_length]; omega) ?_ (ints_oneCell ys) (by simp only [maxLen]; omega) (by omega) (by simp; omega) ?_
  · intro j u hu
    have hj : j < ys.length := by
      have := (List.getElem?_eq_some_iff.1 hu).1
      rwa [ints_length] at this
    have e : (⟨w.heap.size, 0, none⟩ : Addr).add j = ⟨w.heap.size, j, none⟩ := by
      unfold Addr.add
      split
      · rename_i h0
        subst h0
        rfl
      · simp
    rw [e, World.cell?_alloc_new, ← Array.getElem?_toList, hcs]
    exact hu
  · intro v' w' hrow hg _
    rw [← ints_append] at hrow
    obtain ⟨A', c', rfl, ho'⟩ := own_of_row hrow rfl (hown.i64.append hy)
    exact h A' c' w' ho' (grown_trans (World.grownBy_alloc w _ _) hg)

theorem append_rd {ops : Array Oper} {rest : List Oper} {o : Oper} {a : Act} {Q : Exit → Act → World → Prop} (hgd : o.guard = none) (s x : Operand)
    (ho : o.op = .call { callee := .builtin .append, args := #[s, x], argTypes := #[40, 40] })
    (B : Nat) (hs : a.eval s = .slice A n c) (hown : Own w B A n c zs) {A2 : Option Addr} {m c2 : Nat} {ys : List Int} (hr : Rd w A2 m c2 ys)
    (hx : a.eval x = .slice A2 m c2) (hn : n + m ≤ 16777216) (hB : B ≤ w.heap.size)
    (h : ∀ A' c' w', Own w' B A' (n + m) c' (zs ++ ys) → w.grownBy w' (Value.slice A n c).ownBlock → wpList Tryz.prog ops Q rest (a.put o.dst (.slice A' (n + m) c')) w') :
    wpList Tryz.prog ops Q (o :: rest) a w := by
  obtain ⟨i0, hi, hz0, hz1, hz2⟩ := info_parts info_i64
  cases A2 with
  | none =>
    have hm : m = 0 := by
      rcases Nat.eq_zero_or_pos m with h0 | h0
      · exact h0
      · obtain ⟨_, _, h1, _⟩ := hr.at_ h0
        cases h1
    subst hm
    have hy : ys = [] := List.eq_nil_of_length_eq_zero hr.len
    subst hy
    refine wpList_append_own_none hgd s x 40 ho B 2 i0 1 Tryz.underlying40 hi (.slice A n c) n (ints zs) hs hown.1 (by rw [hx, hr.none0 rfl]) ?_
    exact h A c w (by simpa using hown) (grown_refl _ _)
  | some ad =>
    refine wpList_append_own _ hgd s x 40 ho B 2 i0 (.int .i64 0) 1 8 Tryz.underlying40 hi hz0 hz1 hz2 rfl (by decide) (.slice A n c) n (ints zs) hs hown.1
      ad m c2 (ints ys) hx (by rw [ints_length, hr.len]; omega) ?_ (ints_oneCell ys) (by simp only [maxLen]; omega) (by omega) hB ?_
    · intro j u hu
      have hj : j < ys.length := by
        have := (List.getElem?_eq_some_iff.1 hu).1
        rwa [ints_length] at this
      have hlen := hr.len
      obtain ⟨b, off, hA, _, hc⟩ := hr.at_ (by omega)
      simp only [Option.some.injEq] at hA
      subst hA
      have e : (⟨b, off, none⟩ : Addr).add j = ⟨b, off + j, none⟩ := by
        unfold Addr.add
        split
        · rename_i h0
          subst h0
          rfl
        · rfl
      rw [e, hc j (by omega), ← ints_get ys j hj]
      exact hu
    · intro v' w' hrow hg _
      rw [← ints_append] at hrow
      obtain ⟨A', c', rfl, ho'⟩ := own_of_row hrow rfl (hown.i64.append hr.i64)
      exact h A' c' w' ho' hg
end
end Go.Proofs.YtdkhldebnpmiiaaGreatDoor
