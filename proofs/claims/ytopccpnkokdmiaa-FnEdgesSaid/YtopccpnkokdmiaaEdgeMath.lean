/- Plain facts: the changes are the sums of the runs; the first change behind an index. -/
import Derived.Test.YtopccpnkokdmiaaRunMath
namespace Go.Proofs.Ytopccpnkokdmiaa
open Go.RowKit
set_option linter.unusedVariables false
set_option linter.unusedSimpArgs false

/-- the sums of the first one, two, .. numbers -/
def psums (s : Int) : List Int → List Int
  | [] => []
  | x :: l => (s + x) :: psums (s + x) l
theorem sm_cons (x : Int) (l : List Int) : sm (x :: l) = x + sm l := by simp [sm]
theorem psums_snoc (l : List Int) (x : Int) : ∀ s, psums s (l ++ [x]) = psums s l ++ [s + sm l + x] := by
  induction l with
  | nil => intro s; simp [psums, sm]
  | cons y l ih =>
    intro s
    rw [List.cons_append, psums, psums, ih, List.cons_append]
    rw [sm_cons]
    rw [show s + y + sm l + x = s + (y + sm l) + x by omega]
theorem psums_len (l : List Int) : ∀ s, (psums s l).length = l.length := by
  induction l with
  | nil => intro s; rfl
  | cons y l ih => intro s; rw [psums, List.length_cons, List.length_cons, ih]
theorem sm_snoc (l : List Int) (x : Int) : sm (l ++ [x]) = sm l + x := by rw [sm_append, sm_one]
theorem psums_nth (l : List Int) : ∀ (s : Int) (k : Nat), k < l.length → nth (psums s l) k = s + sm (l.take (k + 1)) := by
  induction l with
  | nil => intro s k h; exact absurd h (by simp)
  | cons y l ih =>
    intro s k h
    cases k with
    | zero => simp [psums, nth, sm]
    | succ k =>
      have := ih (s + y) k (by simpa using h)
      rw [psums, List.take_succ_cons, sm_cons, ← Int.add_assoc, ← this]
      simp [nth]
theorem edg_psums (zs : List Int) (k : Nat) (hk : 0 < k) : ∃ (pre : List Int) (m : Int), runsTo zs k = pre ++ [m] ∧ edgG (pA zs) k = psums 0 pre ∧ sm pre + m = k := by
  induction k with
  | zero => omega
  | succ k ih =>
    by_cases h0 : k = 0
    · subst h0
      exact ⟨[], 1, by rw [runsTo_new (by omega)]; rfl, by rw [edgG_no (pA_zero zs)]; rfl, by simp [sm]⟩
    · obtain ⟨pre, m, h1, h2, h3⟩ := ih (by omega)
      by_cases hs : nth zs k = nth zs (k - 1)
      · exact ⟨pre, m + 1, by rw [runsTo_same ⟨by omega, hs⟩, h1, bump_snoc], by rw [edgG_no (pA_no hs), h2], by omega⟩
      · refine ⟨pre ++ [m], 1, by rw [runsTo_new (fun x => hs x.2), h1], ?_, by rw [sm_snoc]; omega⟩
        rw [edgG_yes (pA_yes (by omega) hs), h2, psums_snoc, Int.zero_add, h3]
theorem edgA_nth {zs : List Int} (hn : 0 < zs.length) (i : Nat) (hi : i + 1 < (runs zs).length) : nth (edgA zs) i = sm ((runs zs).take (i + 1)) := by
  obtain ⟨pre, m, h1, h2, h3⟩ := edg_psums zs zs.length hn
  rw [runs, h1] at hi ⊢
  rw [List.length_append, List.length_singleton] at hi
  rw [edgA, h2, psums_nth pre 0 i (by omega), Int.zero_add, List.take_append_of_le_length (by omega)]

/-- membership and order of the changes -/
theorem mem_edgG {p : Nat → Bool} {k : Nat} {x : Int} : x ∈ edgG p k ↔ ∃ j : Nat, j < k ∧ p j = true ∧ x = j := by
  induction k with
  | zero => simp [edgG]
  | succ k ih =>
    by_cases h : p k = true
    · rw [edgG_yes h, List.mem_append, ih, List.mem_singleton]
      constructor
      · rintro (⟨j, a, b, c⟩ | rfl)
        · exact ⟨j, by omega, b, c⟩
        · exact ⟨k, by omega, h, rfl⟩
      · rintro ⟨j, a, b, c⟩
        by_cases hj : j = k
        · subst hj; exact .inr c
        · exact .inl ⟨j, by omega, b, c⟩
    · have h' : p k = false := by simpa using h
      rw [edgG_no h', ih]
      constructor
      · rintro ⟨j, a, b, c⟩
        exact ⟨j, by omega, b, c⟩
      · rintro ⟨j, a, b, c⟩
        by_cases hj : j = k
        · subst hj; exact absurd b h
        · exact ⟨j, by omega, b, c⟩
theorem edgG_sorted (p : Nat → Bool) (k : Nat) : (edgG p k).Pairwise (· < ·) := by
  induction k with
  | zero => exact List.Pairwise.nil
  | succ k ih =>
    by_cases h : p k = true
    · rw [edgG_yes h, List.pairwise_append]
      refine ⟨ih, List.pairwise_singleton _ _, fun x hx y hy => ?_⟩
      obtain ⟨j, a, b, rfl⟩ := mem_edgG.1 hx
      rw [List.mem_singleton] at hy
      subst hy
      omega
    · have h' : p k = false := by simpa using h
      rw [edgG_no h']
      exact ih
theorem sorted_nth {l : List Int} (h : l.Pairwise (· < ·)) {i j : Nat} (hij : i < j) (hj : j < l.length) : nth l i < nth l j := by
  rw [nth_eq (by omega), nth_eq hj]
  exact List.pairwise_iff_getElem.1 h i j (by omega) hj hij

/-- the first number above a bound, and whether there is one -/
def nextL (l : List Int) (a : Int) : Int := ((l.find? fun x => decide (a < x)).getD 0)
def nextC (l : List Int) (a : Int) : Int := if (l.find? fun x => decide (a < x)).isSome then 0 else 4
theorem next_at {l : List Int} {a : Int} {k : Nat} (h : ∀ j, j < k → nth l j ≤ a) (hk : k < l.length) (hx : a < nth l k) : nextL l a = nth l k ∧ nextC l a = 0 := by
  have : (l.find? fun x => decide (a < x)) = some (nth l k) := by
    rw [List.find?_eq_some_iff_getElem]
    refine ⟨decide_eq_true hx, k, hk, (nth_eq hk).symm, fun j hj => ?_⟩
    have := h j hj
    rw [nth_eq (by omega)] at this
    simp
    omega
  simp [nextL, nextC, this]
theorem next_none {l : List Int} {a : Int} (h : ∀ j, j < l.length → nth l j ≤ a) : nextL l a = 0 ∧ nextC l a = 4 := by
  have : (l.find? fun x => decide (a < x)) = none := by
    rw [List.find?_eq_none]
    intro x hx
    obtain ⟨j, hj, rfl⟩ := List.getElem_of_mem hx
    have := h j hj
    rw [nth_eq hj] at this
    simp
    omega
  simp [nextL, nextC, this]

/-- falls and rises, sorted, are the changes -/
theorem perm_parts {zs : List Int} (hb : allB 0 1 zs = true) (k : Nat) : (edgG (pV zs 0) k ++ edgG (pV zs 1) k).Perm (edgG (pA zs) k) := by
  induction k with
  | zero => exact List.Perm.refl _
  | succ k ih =>
    by_cases h0 : k = 0
    · subst h0
      rw [edgG_no (pA_zero zs), edgG_no (pV_zero zs 0), edgG_no (pV_zero zs 1)]
      exact List.Perm.refl _
    · by_cases hs : nth zs k = nth zs (k - 1)
      · have c := bit_cases hb k
        rw [edgG_no (pA_no hs), edgG_no (pV_no (v := 0) (by omega)), edgG_no (pV_no (v := 1) (by omega))]
        exact ih
      · rcases bit_cases hb k with c | c
        · rw [edgG_yes (pA_yes (by omega) hs), edgG_yes (pV_yes (v := 0) (by omega) (by omega) c), edgG_no (pV_no (v := 1) (by omega))]
          refine List.Perm.trans ?_ (List.Perm.append_right [(k : Int)] ih)
          rw [List.append_assoc, List.append_assoc]
          exact List.Perm.append_left _ List.perm_append_comm
        · rw [edgG_yes (pA_yes (by omega) hs), edgG_yes (pV_yes (v := 1) (by omega) (by omega) c), edgG_no (pV_no (v := 0) (by omega)), ← List.append_assoc]
          exact List.Perm.append_right _ ih
theorem edg_sorted_unique {zs l : List Int} (hb : allB 0 1 zs = true) (hp : l.Perm (edgV zs 0 ++ edgV zs 1)) (hs : l.Pairwise (· ≤ ·)) : l = edgA zs :=
  List.Perm.eq_of_pairwise (le := (· ≤ ·)) (fun a b _ _ h1 h2 => Int.le_antisymm h1 h2) hs ((edgG_sorted _ _).imp fun h => Int.le_of_lt h) (hp.trans (perm_parts hb zs.length))
end Go.Proofs.Ytopccpnkokdmiaa
