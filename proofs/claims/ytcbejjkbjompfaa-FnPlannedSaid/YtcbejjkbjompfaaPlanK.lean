/- Plain planning, and what its walks want: bookings appended, a table kept, the codes. -/
import Derived.Test.YtcbejjkbjompfaaFirst
namespace Go.Proofs.Ytcbejjkbjompfaa
open Go.RowKit
set_option linter.unusedVariables false
set_option linter.unusedSimpArgs false

theorem info_bk : (Try.prog.info? 31).map (fun i => (i.zero, i.size, i.bytes)) = some (some (.agg #[.int .i64 0, .int .i64 0]), 2, 16) := by kernel_rfl
theorem info_dem : (Try.prog.info? 38).map (fun i => (i.zero, i.size, i.bytes)) = some (some (.agg #[.int .i64 0, .int .i64 0, .int .i64 0]), 3, 24) := by kernel_rfl
theorem ownF_of_row {T : TypeId} {k B n : Nat} {w : World} {v : Value} {xs : List Value} {vs : List Int} (h : w.ownsRow B T k v n xs) (hx : xs = ints vs) (hz : I64 vs) : ∃ A c, v = .slice A n c ∧ OwnF T k w B A n c vs := by
  subst hx
  rcases h.2 with ⟨rfl, hn⟩ | ⟨g, cap, cur, rfl, r⟩
  · subst hn
    exact ⟨none, 0, rfl, ⟨h.1, .inl ⟨rfl, rfl⟩⟩, hz⟩
  · exact ⟨_, cap, rfl, ⟨h.1, .inr ⟨g, cap, cur, rfl, r⟩⟩, hz⟩
section
variable {w w' : World} {A : Option Addr} {n c : Nat} {vs : List Int}
theorem news_lit {w : World} {T : TypeId} {cs : Array Value} {ys : List Int} (hcs : cs.toList = ints ys) (j : Nat) (u : Value) (hu : (ints ys)[j]? = some u) : (w.alloc (.cells cs T)).cell? ((⟨w.heap.size, 0, none⟩ : Addr).add j) = some u := by
  have e : (⟨w.heap.size, 0, none⟩ : Addr).add j = ⟨w.heap.size, j, none⟩ := by
    unfold Addr.add
    split
    · rename_i h0
      subst h0
      rfl
    · simp
  rw [e, World.cell?_alloc_new, ← Array.getElem?_toList, hcs]
  exact hu
theorem append_bk {ops : Array Oper} {rest : List Oper} {o : Oper} {a : Act} {Q : Exit → Act → World → Prop} (hgd : o.guard = none) (s x : Operand)
    (ho : o.op = .call { callee := .builtin .append, args := #[s, x], argTypes := #[27, 27] })
    (B : Nat) (hs : a.eval s = .slice A n c) (hown : OwnF 31 2 w B A n c vs) (p q : Int) (hy : I64 [p, q])
    (hx : a.eval x = .slice (some ⟨w.heap.size, 0, none⟩) 1 1) (hn : n + 1 ≤ 16777216) (hB : B ≤ w.heap.size)
    (h : ∀ A' c' w', OwnF 31 2 w' B A' (n + 1) c' (vs ++ [p, q]) → w.grownBy w' (Value.slice A n c).ownBlock → wpList Try.prog ops Q rest (a.put o.dst (.slice A' (n + 1) c')) w') :
    wpList Try.prog ops Q (o :: rest) a (w.alloc (.cells #[.int .i64 p, .int .i64 q] 31)) := by
  obtain ⟨i0, hi, hz0, hz1, hz2⟩ := info_parts info_bk
  refine wpList_append_own _ hgd s x 27 ho B 31 i0 _ 2 16 Try.underlying27 hi hz0 hz1 hz2 rfl (by decide) (.slice A n c) n (ints vs) hs (hown.alloc _).1
    ⟨w.heap.size, 0, none⟩ 1 1 (ints [p, q]) hx rfl (news_lit rfl) (ints_oneCell _) (by simp only [maxLen]; omega) (by omega) (by simp; omega) ?_
  intro v' w' hrow hg _
  rw [← ints_append] at hrow
  obtain ⟨A', c', rfl, ho'⟩ := ownF_of_row hrow rfl (hown.i64.append hy)
  exact h A' c' w' ho' (grown_trans (World.grownBy_alloc w _ _) hg)
theorem append_dem {ops : Array Oper} {rest : List Oper} {o : Oper} {a : Act} {Q : Exit → Act → World → Prop} (hgd : o.guard = none) (s x : Operand)
    (ho : o.op = .call { callee := .builtin .append, args := #[s, x], argTypes := #[24, 24] })
    (B : Nat) (hs : a.eval s = .slice A n c) (hown : OwnF 38 3 w B A n c vs) (p q r : Int) (hy : I64 [p, q, r])
    (hx : a.eval x = .slice (some ⟨w.heap.size, 0, none⟩) 1 1) (hn : n + 1 ≤ 16777216) (hB : B ≤ w.heap.size)
    (h : ∀ A' c' w', OwnF 38 3 w' B A' (n + 1) c' (vs ++ [p, q, r]) → w.grownBy w' (Value.slice A n c).ownBlock → wpList Try.prog ops Q rest (a.put o.dst (.slice A' (n + 1) c')) w') :
    wpList Try.prog ops Q (o :: rest) a (w.alloc (.cells #[.int .i64 p, .int .i64 q, .int .i64 r] 38)) := by
  obtain ⟨i0, hi, hz0, hz1, hz2⟩ := info_parts info_dem
  refine wpList_append_own _ hgd s x 24 ho B 38 i0 _ 3 24 Try.underlying24 hi hz0 hz1 hz2 rfl (by decide) (.slice A n c) n (ints vs) hs (hown.alloc _).1
    ⟨w.heap.size, 0, none⟩ 1 1 (ints [p, q, r]) hx rfl (news_lit rfl) (ints_oneCell _) (by simp only [maxLen]; omega) (by omega) (by simp; omega) ?_
  intro v' w' hrow hg _
  rw [← ints_append] at hrow
  obtain ⟨A', c', rfl, ho'⟩ := ownF_of_row hrow rfl (hown.i64.append hy)
  exact h A' c' w' ho' (grown_trans (World.grownBy_alloc w _ _) hg)
end
theorem row_blocks_ne {w : World} {B B' : Nat} {e t : TypeId} {k j n m : Nat} {v u : Value} {xs ys : List Value} (h : w.ownsRow B e k v n xs) (o : w.ownsRow B' t j u m ys) (hne : e ≠ t) : v.ownBlock = none ∨ v.ownBlock ≠ u.ownBlock := by
  rcases h.2 with ⟨rfl, _⟩ | ⟨g, cap, cur, rfl, _, hh, _⟩
  · exact .inl rfl
  · right
    rcases o.2 with ⟨rfl, _⟩ | ⟨g', cap', cur', rfl, _, hh', _⟩
    · simp [Value.ownBlock]
    · intro e1
      simp [Value.ownBlock] at e1
      subst e1
      rw [hh] at hh'
      simp at hh'
      exact hne hh'.2
theorem TabH.keepF {w w' : World} {B : Nat} {hs : List (Nat × Nat)} {A : Option Addr} {n c m : Nat} {T : Nat → Nat → Int} (h : TabH w B hs A n c m T) {t : TypeId} {k B' j d : Nat} {A' : Option Addr} {vs : List Int} (o : OwnF t k w B' A' j d vs) (h1 : 56 ≠ t) (h2 : 2 ≠ t)
    (hg : w.grownBy w' (Value.slice A' j d).ownBlock) : TabH w' B hs A n c m T :=
  ⟨h.hl, h.out.kept hg (row_blocks_ne h.out o.1 h1), fun r hr => (h.row r hr).keepG hg (row_blocks_ne (h.row r hr).1 o.1 h2), h.inj⟩

/-! plain planning -/
def evN (ds : List Dem) (k : Nat) : Nat := (dem ds k).ev.toNat
def planK (ds : List Dem) (n m : Nat) : Nat → Option ((Nat → Nat → Int) × List Int)
  | 0 => some (T0, [])
  | k + 1 => match planK ds n m k with
    | none => none
    | some (T, bs) => match firstI T n m (evN ds k) with
      | none => none
      | some i => some (putN T (evN ds k) (i / evN ds k) (i % evN ds k) k n, bs ++ [((i / evN ds k : Nat) : Int), ((i % evN ds k : Nat) : Int)])
theorem planK_no {ds : List Dem} {n m k : Nat} (h : planK ds n m k = none) : planK ds n m (k + 1) = none := by rw [planK, h]
theorem planK_bad {ds : List Dem} {n m k : Nat} {T : Nat → Nat → Int} {bs : List Int} (h : planK ds n m k = some (T, bs)) (h2 : firstI T n m (evN ds k) = none) : planK ds n m (k + 1) = none := by rw [planK, h]; simp only [h2]
theorem planK_good {ds : List Dem} {n m k i : Nat} {T : Nat → Nat → Int} {bs : List Int} (h : planK ds n m k = some (T, bs)) (h2 : firstI T n m (evN ds k) = some i) :
    planK ds n m (k + 1) = some (putN T (evN ds k) (i / evN ds k) (i % evN ds k) k n, bs ++ [((i / evN ds k : Nat) : Int), ((i % evN ds k : Nat) : Int)]) := by rw [planK, h]; simp only [h2]
theorem planK_up {ds : List Dem} {n m k : Nat} (h : planK ds n m k = none) : ∀ j, planK ds n m (k + j) = none := by
  intro j
  induction j with
  | zero => exact h
  | succ j ih => exact planK_no ih
def planB (ds : List Dem) (n m : Nat) : Bool := (planK ds n m ds.length).isSome
def planL (ds : List Dem) (n m : Nat) : List Int := match planK ds n m ds.length with | some (_, bs) => bs | none => []
theorem plan_none {ds : List Dem} {n m k : Nat} (h : planK ds n m k = none) (hk : k ≤ ds.length) : planB ds n m = false ∧ planL ds n m = [] := by
  have := planK_up h (ds.length - k)
  rw [show k + (ds.length - k) = ds.length by omega] at this
  simp [planB, planL, this]
theorem plan_some {ds : List Dem} {n m : Nat} {T : Nat → Nat → Int} {bs : List Int} (h : planK ds n m ds.length = some (T, bs)) : planB ds n m = true ∧ planL ds n m = bs := by simp [planB, planL, h]
theorem ev_nat {ds : List Dem} {k : Nat} (h : areB ds = true) (hk : k < ds.length) : (dem ds k).ev = (evN ds k : Int) ∧ 1 ≤ evN ds k ∧ evN ds k ≤ 8 ∧ (evN ds k = 1 ∨ evN ds k = 2 ∨ evN ds k = 4 ∨ evN ds k = 8) := by
  have hd : demB (dem ds k) = true := by
    rw [areB, Bool.and_eq_true] at h
    exact List.all_eq_true.1 h.1 _ (dem_mem hk)
  rw [demB, Bool.and_eq_true, Bool.and_eq_true] at hd
  have he := hd.2.1
  simp [evB] at he
  rw [evN]
  rcases he with ((he | he) | he) | he <;> rw [he] <;> decide
theorem are_len {ds : List Dem} (h : areB ds = true) : ds.length ≤ 40 := by
  rw [areB, Bool.and_eq_true] at h
  simpa using h.2
def frB (r s : Int) : Bool := evB r && inB 1 16 s
def dcC (ds : List Dem) (r s : Int) : Int := if areB ds then (if frB r s then 0 else 2) else 1
theorem dc_bad {ds : List Dem} (r s : Int) (h : areB ds = false) : dcC ds r s = 1 := by simp [dcC, h]
theorem dc_fr {ds : List Dem} {r s : Int} (h : areB ds = true) (h2 : frB r s = false) : dcC ds r s = 2 := by simp [dcC, h, h2]
theorem dc_ok {ds : List Dem} {r s : Int} (h : areB ds = true) (h2 : frB r s = true) : dcC ds r s = 0 := by simp [dcC, h, h2]
theorem dc_get {ds : List Dem} {r s : Int} (h : dcC ds r s = 0) : areB ds = true ∧ ∃ n m : Nat, r = n ∧ s = m ∧ (n = 1 ∨ n = 2 ∨ n = 4 ∨ n = 8) ∧ 1 ≤ m ∧ m ≤ 16 := by
  cases h1 : areB ds
  · rw [dc_bad _ _ h1] at h; cases h
  · cases h2 : frB r s
    · rw [dc_fr h1 h2] at h; cases h
    · rw [frB, Bool.and_eq_true] at h2
      have hs := inB_true h2.2
      have hr := h2.1
      simp [evB] at hr
      refine ⟨rfl, r.toNat, s.toNat, by omega, by omega, by omega, by omega, by omega⟩
theorem demandCode_any (A : Option Addr) (n c : Nat) (ds : List Dem) (r s : Int) (w : World) (h : RdF 3 w A n c (flatD ds)) :
    Calls Try.prog 16 #[.slice A n c, .int .i64 r, .int .i64 s] w fun e w' => e = .returned (.int .i64 (dcC ds r s)) ∧ Below w.heap.size w w' := by
  go_enter Try.func16, Try.ntmps16
  cases e1 : areB ds
  · go_wp2_with (go_at_call 21; refine (iAreDemands_any _ _ _ ds _ h).mono ?_; rintro e w1 ⟨rfl, b1⟩; rw [e1])
    go_ret
    exact ⟨by rw [dc_bad _ _ e1]; rfl, b1⟩
  cases e2 : evB r
  · go_wp2_with (first | (go_at_call 21; refine (iAreDemands_any _ _ _ ds _ h).mono ?_; rintro e w1 ⟨rfl, b1⟩; rw [e1]) | (go_at_call 27; refine (isEvery_any _ _).mono ?_; rintro e w' ⟨rfl, rfl⟩; rw [e2]))
    go_ret
    exact ⟨by rw [dc_fr e1 (by simp [frB, e2])]; rfl, b1⟩
  cases e3 : inB 1 16 s
  · go_wp2_with (first | (go_at_call 21; refine (iAreDemands_any _ _ _ ds _ h).mono ?_; rintro e w1 ⟨rfl, b1⟩; rw [e1]) | (go_at_call 27; refine (isEvery_any _ _).mono ?_; rintro e w' ⟨rfl, rfl⟩; rw [e2]) | (go_at_call 28; refine (within_any _ _ _ _).mono ?_; rintro e w' ⟨rfl, rfl⟩; rw [e3]))
    go_ret
    exact ⟨by rw [dc_fr e1 (by simp [frB, e2, e3])]; rfl, b1⟩
  · go_wp2_with (first | (go_at_call 21; refine (iAreDemands_any _ _ _ ds _ h).mono ?_; rintro e w1 ⟨rfl, b1⟩; rw [e1]) | (go_at_call 27; refine (isEvery_any _ _).mono ?_; rintro e w' ⟨rfl, rfl⟩; rw [e2]) | (go_at_call 28; refine (within_any _ _ _ _).mono ?_; rintro e w' ⟨rfl, rfl⟩; rw [e3]))
    go_ret
    exact ⟨by rw [dc_ok e1 (by simp [frB, e2, e3])]; rfl, b1⟩
theorem l16Frame_any (r s : Int) (w : World) : Calls Try.prog 31 #[.int .i64 r, .int .i64 s] w fun e w' => e = .returned (.bool (frB r s)) ∧ w = w' := by
  go_enter Try.func31, Try.ntmps31
  cases e2 : evB r
  · go_wp2_with (first | (go_at_call 38; refine (l16Power_any _ _).mono ?_; rintro e w' ⟨rfl, rfl⟩; rw [e2]) | (go_at_call 39; refine (l01In_any _ _ _ _).mono ?_; rintro e w' ⟨rfl, rfl⟩))
    go_ret
    exact ⟨by rw [frB, e2]; rfl, rfl⟩
  · go_wp2_with (first | (go_at_call 38; refine (l16Power_any _ _).mono ?_; rintro e w' ⟨rfl, rfl⟩; rw [e2]) | (go_at_call 39; refine (l01In_any _ _ _ _).mono ?_; rintro e w' ⟨rfl, rfl⟩))
    go_ret
    exact ⟨by rw [frB, e2]; rfl, rfl⟩
theorem l16Code_any (A : Option Addr) (n c : Nat) (ds : List Dem) (r s : Int) (w : World) (h : RdF 3 w A n c (flatD ds)) :
    Calls Try.prog 18 #[.slice A n c, .int .i64 r, .int .i64 s] w fun e w' => e = .returned (.int .i64 (dcC ds r s)) ∧ Below w.heap.size w w' := by
  go_enter Try.func18, Try.ntmps18
  cases e1 : areB ds
  · go_wp2_with (go_at_call 25; refine (sAreDemands_any _ _ _ ds _ h).mono ?_; rintro e w1 ⟨rfl, b1⟩; rw [e1])
    go_ret
    exact ⟨by rw [dc_bad _ _ e1]; rfl, b1⟩
  cases e2 : frB r s
  · go_wp2_with (first | (go_at_call 25; refine (sAreDemands_any _ _ _ ds _ h).mono ?_; rintro e w1 ⟨rfl, b1⟩; rw [e1]) | (go_at_call 31; refine (l16Frame_any _ _ _).mono ?_; rintro e w' ⟨rfl, rfl⟩; rw [e2]))
    go_ret
    exact ⟨by rw [dc_fr e1 e2]; rfl, b1⟩
  · go_wp2_with (first | (go_at_call 25; refine (sAreDemands_any _ _ _ ds _ h).mono ?_; rintro e w1 ⟨rfl, b1⟩; rw [e1]) | (go_at_call 31; refine (l16Frame_any _ _ _).mono ?_; rintro e w' ⟨rfl, rfl⟩; rw [e2]))
    go_ret
    exact ⟨by rw [dc_ok e1 e2]; rfl, b1⟩
end Go.Proofs.Ytcbejjkbjompfaa
