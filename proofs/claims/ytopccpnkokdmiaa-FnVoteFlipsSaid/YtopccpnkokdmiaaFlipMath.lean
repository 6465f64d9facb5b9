/- Plain facts: flips that are apart by 6 shift the votes' changes, and neither add nor strike one. -/
import Derived.Test.YtopccpnkokdmiaaRunMath
import Derived.Test.YtopccpnkokdmiaaFlip
namespace Go.Proofs.Ytopccpnkokdmiaa
open Go.RowKit
set_option linter.unusedVariables false
set_option linter.unusedSimpArgs false

def maj (a b c d e : Bool) : Bool := decide (3 ≤ a.toNat + b.toNat + c.toNat + d.toNat + e.toNat)
/-- at most one of the six is flipped -/
def one6 (t0 t1 t2 t3 t4 t5 : Bool) : Bool := decide (t0.toNat + t1.toNat + t2.toNat + t3.toNat + t4.toNat + t5.toNat ≤ 1)
/-- behind a change the next four stay -/
def calm (a0 a1 a2 a3 a4 a5 : Bool) : Bool :=
  (a0 == a1 || (a1 == a2 && a1 == a3 && a1 == a4 && a1 == a5)) && (a1 == a2 || (a2 == a3 && a2 == a4 && a2 == a5)) && (a2 == a3 || (a3 == a4 && a3 == a5)) && (a3 == a4 || a4 == a5)
def alph (a b t0 t1 t2 : Bool) : Bool := (a != b) && (t0 || t1 || t2)
def stepB (a0 a1 a2 a3 a4 a5 t0 t1 t2 t3 t4 t5 : Bool) : Bool :=
  !(calm a0 a1 a2 a3 a4 a5 && one6 t0 t1 t2 t3 t4 t5) ||
    decide ((maj (a1 ^^ t1) (a2 ^^ t2) (a3 ^^ t3) (a4 ^^ t4) (a5 ^^ t5) != maj (a0 ^^ t0) (a1 ^^ t1) (a2 ^^ t2) (a3 ^^ t3) (a4 ^^ t4)).toNat + (alph a3 a2 t0 t1 t2).toNat + (alph a3 a2 t3 t4 t5).toNat =
      (maj a1 a2 a3 a4 a5 != maj a0 a1 a2 a3 a4).toNat + (alph a4 a3 t1 t2 t3).toNat + (alph a2 a1 t2 t3 t4).toNat)
def allB2 (p : Bool → Bool) : Bool := p false && p true
theorem allB2_spec {p : Bool → Bool} (h : allB2 p = true) (b : Bool) : p b = true := by
  unfold allB2 at h
  rw [Bool.and_eq_true] at h
  cases b
  · exact h.1
  · exact h.2
theorem stepAll : (allB2 fun a0 => allB2 fun a1 => allB2 fun a2 => allB2 fun a3 => allB2 fun a4 => allB2 fun a5 => allB2 fun t0 => allB2 fun t1 => allB2 fun t2 => allB2 fun t3 => allB2 fun t4 => allB2 fun t5 => stepB a0 a1 a2 a3 a4 a5 t0 t1 t2 t3 t4 t5) = true := by kernel_rfl
theorem stepB_true (a0 a1 a2 a3 a4 a5 t0 t1 t2 t3 t4 t5 : Bool) : stepB a0 a1 a2 a3 a4 a5 t0 t1 t2 t3 t4 t5 = true :=
  allB2_spec (allB2_spec (allB2_spec (allB2_spec (allB2_spec (allB2_spec (allB2_spec (allB2_spec (allB2_spec (allB2_spec (allB2_spec (allB2_spec stepAll a0) a1) a2) a3) a4) a5) t0) t1) t2) t3) t4) t5
theorem stepB_use {a0 a1 a2 a3 a4 a5 t0 t1 t2 t3 t4 t5 : Bool} (h : calm a0 a1 a2 a3 a4 a5 = true) (h1 : one6 t0 t1 t2 t3 t4 t5 = true) :
    (maj (a1 ^^ t1) (a2 ^^ t2) (a3 ^^ t3) (a4 ^^ t4) (a5 ^^ t5) != maj (a0 ^^ t0) (a1 ^^ t1) (a2 ^^ t2) (a3 ^^ t3) (a4 ^^ t4)).toNat + (alph a3 a2 t0 t1 t2).toNat + (alph a3 a2 t3 t4 t5).toNat =
      (maj a1 a2 a3 a4 a5 != maj a0 a1 a2 a3 a4).toNat + (alph a4 a3 t1 t2 t3).toNat + (alph a2 a1 t2 t3 t4).toNat := by
  have := stepB_true a0 a1 a2 a3 a4 a5 t0 t1 t2 t3 t4 t5
  rw [stepB, h, h1] at this
  simpa using this

/-- the samples as bits, ones ahead of them; and the flips -/
def wb (zs : List Int) (k : Int) : Bool := winAt zs k == 1
def tf (zs gs : List Int) (k : Int) : Bool := wb zs k != wb gs k
theorem wb_flip (zs gs : List Int) (k : Int) : wb gs k = (wb zs k ^^ tf zs gs k) := by
  unfold tf
  cases wb zs k <;> cases wb gs k <;> rfl
theorem wb_nat {zs : List Int} (hb : allB 0 1 zs = true) (k : Int) : winAt zs k = ((wb zs k).toNat : Int) := by
  have := winAt_bit hb k
  unfold wb
  by_cases h : winAt zs k = 1
  · simp [h]
  · have h0 : winAt zs k = 0 := by omega
    simp [h0]
theorem wb_eq {zs : List Int} (hb : allB 0 1 zs = true) {k l : Int} : (wb zs k == wb zs l) = decide (winAt zs k = winAt zs l) := by
  have h1 := winAt_bit hb k
  have h2 := winAt_bit hb l
  rcases (show winAt zs k = 0 ∨ winAt zs k = 1 by omega) with a | a <;> rcases (show winAt zs l = 0 ∨ winAt zs l = 1 by omega) with b | b <;> simp [wb, a, b]
theorem vote_maj {zs : List Int} (hb : allB 0 1 zs = true) (i : Nat) :
    voteAt zs i = ((maj (wb zs (i - 4)) (wb zs (i - 3)) (wb zs (i - 2)) (wb zs (i - 1)) (wb zs i)).toNat : Int) := by
  unfold voteAt maj
  rw [onesW_five, wb_nat hb, wb_nat hb ((i : Int) - 3), wb_nat hb ((i : Int) - 2), wb_nat hb ((i : Int) - 1), wb_nat hb (i : Int)]
  by_cases h : 3 ≤ (wb zs (i - 4)).toNat + (wb zs (i - 3)).toNat + (wb zs (i - 2)).toNat + (wb zs (i - 1)).toNat + (wb zs i).toNat
  · rw [if_pos (by omega), decide_eq_true h]; rfl
  · rw [if_neg (by omega), decide_eq_false h]; rfl
theorem calm_of {zs : List Int} (hb : allB 0 1 zs = true) (h : LongP zs) (h1 : nth zs 0 = 1) {i : Int} (hi : i < zs.length) :
    calm (wb zs (i - 5)) (wb zs (i - 4)) (wb zs (i - 3)) (wb zs (i - 2)) (wb zs (i - 1)) (wb zs i) = true := by
  have key : ∀ a b : Int, b = a - 1 → a ≤ i → winAt zs b = winAt zs a ∨ ∀ j, a ≤ j → j < a + 6 → winAt zs a = winAt zs j := by
    rintro a b rfl hai
    by_cases hc : winAt zs a = winAt zs (a - 1)
    · exact .inl hc.symm
    · exact .inr fun j hj1 hj2 => ((h.win h1 (by omega) hc).2.2 j hj1 hj2).symm
  have k1 := key (i - 4) (i - 5) (by omega) (by omega)
  have k2 := key (i - 3) (i - 4) (by omega) (by omega)
  have k3 := key (i - 2) (i - 3) (by omega) (by omega)
  have k4 := key (i - 1) (i - 2) (by omega) (by omega)
  have l1 : winAt zs (i - 5) = winAt zs (i - 4) ∨ (winAt zs (i - 4) = winAt zs (i - 3) ∧ winAt zs (i - 4) = winAt zs (i - 2) ∧ winAt zs (i - 4) = winAt zs (i - 1) ∧ winAt zs (i - 4) = winAt zs i) :=
    k1.imp id fun a => ⟨a _ (by omega) (by omega), a _ (by omega) (by omega), a _ (by omega) (by omega), a _ (by omega) (by omega)⟩
  have l2 : winAt zs (i - 4) = winAt zs (i - 3) ∨ (winAt zs (i - 3) = winAt zs (i - 2) ∧ winAt zs (i - 3) = winAt zs (i - 1) ∧ winAt zs (i - 3) = winAt zs i) :=
    k2.imp id fun a => ⟨a _ (by omega) (by omega), a _ (by omega) (by omega), a _ (by omega) (by omega)⟩
  have l3 : winAt zs (i - 3) = winAt zs (i - 2) ∨ (winAt zs (i - 2) = winAt zs (i - 1) ∧ winAt zs (i - 2) = winAt zs i) :=
    k3.imp id fun a => ⟨a _ (by omega) (by omega), a _ (by omega) (by omega)⟩
  have l4 : winAt zs (i - 2) = winAt zs (i - 1) ∨ winAt zs (i - 1) = winAt zs i := k4.imp id fun a => a _ (by omega) (by omega)
  simp only [calm, wb_eq hb, Bool.and_eq_true, Bool.or_eq_true, decide_eq_true_eq]
  exact ⟨⟨⟨l1.imp id fun ⟨a, b, c, d⟩ => ⟨⟨⟨a, b⟩, c⟩, d⟩, l2.imp id fun ⟨a, b, c⟩ => ⟨⟨a, b⟩, c⟩⟩, l3⟩, l4⟩

/-- no two flips within six places -/
def Sparse (zs gs : List Int) : Prop := ∀ p q : Int, tf zs gs p = true → tf zs gs q = true → p < q → p + 6 ≤ q
theorem one_of {zs gs : List Int} (hs : Sparse zs gs) (i : Int) : one6 (tf zs gs (i - 5)) (tf zs gs (i - 4)) (tf zs gs (i - 3)) (tf zs gs (i - 2)) (tf zs gs (i - 1)) (tf zs gs i) = true := by
  have key : ∀ p q : Int, p < q → q < p + 6 → (tf zs gs p).toNat + (tf zs gs q).toNat ≤ 1 := by
    intro p q h1 h2
    cases hp : tf zs gs p
    · cases tf zs gs q <;> decide
    · cases hq : tf zs gs q
      · decide
      · have := hs p q hp hq h1
        omega
  have a01 := key (i - 5) (i - 4) (by omega) (by omega)
  have a02 := key (i - 5) (i - 3) (by omega) (by omega)
  have a03 := key (i - 5) (i - 2) (by omega) (by omega)
  have a04 := key (i - 5) (i - 1) (by omega) (by omega)
  have a05 := key (i - 5) i (by omega) (by omega)
  have a12 := key (i - 4) (i - 3) (by omega) (by omega)
  have a13 := key (i - 4) (i - 2) (by omega) (by omega)
  have a14 := key (i - 4) (i - 1) (by omega) (by omega)
  have a15 := key (i - 4) i (by omega) (by omega)
  have a23 := key (i - 3) (i - 2) (by omega) (by omega)
  have a24 := key (i - 3) (i - 1) (by omega) (by omega)
  have a25 := key (i - 3) i (by omega) (by omega)
  have a34 := key (i - 2) (i - 1) (by omega) (by omega)
  have a35 := key (i - 2) i (by omega) (by omega)
  have a45 := key (i - 1) i (by omega) (by omega)
  refine decide_eq_true ?_
  generalize (tf zs gs (i - 5)).toNat = x0 at *
  generalize (tf zs gs (i - 4)).toNat = x1 at *
  generalize (tf zs gs (i - 3)).toNat = x2 at *
  generalize (tf zs gs (i - 2)).toNat = x3 at *
  generalize (tf zs gs (i - 1)).toNat = x4 at *
  generalize (tf zs gs i).toNat = x5 at *
  omega

/-- the votes' changes up to k -/
theorem vote_step {zs : List Int} (hb : allB 0 1 zs = true) {k : Nat} (hk : 0 < k) (hn : k < zs.length) :
    (edgG (pA (votes zs)) (k + 1)).length = (edgG (pA (votes zs)) k).length +
      (maj (wb zs (k - 4)) (wb zs (k - 3)) (wb zs (k - 2)) (wb zs (k - 1)) (wb zs k) != maj (wb zs (k - 5)) (wb zs (k - 4)) (wb zs (k - 3)) (wb zs (k - 2)) (wb zs (k - 1))).toNat := by
  have hv : ∀ j, j < zs.length → nth (votes zs) j = voteAt zs j := by
    intro j hj
    have : j < (votes zs).length := by rw [votes, votesTo_len]; exact hj
    rw [nth_eq this]
    simp [votes, votesTo]
  have e1 := hv k hn
  have e2 := hv (k - 1) (by omega)
  rw [vote_maj hb] at e1 e2
  rw [show ((k - 1 : Nat) : Int) - 4 = k - 5 by omega, show ((k - 1 : Nat) : Int) - 3 = k - 4 by omega, show ((k - 1 : Nat) : Int) - 2 = k - 3 by omega, show ((k - 1 : Nat) : Int) - 1 = k - 2 by omega, show ((k - 1 : Nat) : Int) = (k : Int) - 1 by omega] at e2
  generalize maj (wb zs (k - 4)) (wb zs (k - 3)) (wb zs (k - 2)) (wb zs (k - 1)) (wb zs k) = x at *
  generalize maj (wb zs (k - 5)) (wb zs (k - 4)) (wb zs (k - 3)) (wb zs (k - 2)) (wb zs (k - 1)) = y at *
  by_cases hxy : x = y
  · subst hxy
    rw [edgG_no (pA_no (e1.trans e2.symm))]
    simp
  · have : ¬ nth (votes zs) k = nth (votes zs) (k - 1) := by
      rw [e1, e2]
      intro h
      apply hxy
      cases x <;> cases y <;> simp_all
    rw [edgG_yes (pA_yes (by omega) this), List.length_append]
    cases x <;> cases y <;> simp_all

theorem count_flips {zs gs : List Int} (hl : gs.length = zs.length) (hb : allB 0 1 zs = true) (gb : allB 0 1 gs = true) (h : LongP zs) (h1 : nth zs 0 = 1) (hs : Sparse zs gs) (k : Nat) (hk : k < zs.length) :
    (edgG (pA (votes gs)) (k + 1)).length + (alph (wb zs (k - 2)) (wb zs (k - 3)) (tf zs gs (k - 2)) (tf zs gs (k - 1)) (tf zs gs k)).toNat =
      (edgG (pA (votes zs)) (k + 1)).length + (alph (wb zs (k - 1)) (wb zs (k - 2)) (tf zs gs (k - 4)) (tf zs gs (k - 3)) (tf zs gs (k - 2))).toNat := by
  induction k with
  | zero =>
    rw [edgG_no (pA_zero _), edgG_no (pA_zero _)]
    have a : ∀ j : Int, j < 0 → wb zs j = true := fun j hj => by simp [wb, winAt_neg hj]
    rw [a _ (by omega), a _ (by omega), a _ (by omega)]
    rfl
  | succ k ih =>
    have i1 := ih (by omega)
    have s1 := vote_step hb (k := k + 1) (by omega) hk
    have s2 := vote_step gb (k := k + 1) (by omega) (by omega)
    simp only [wb_flip zs gs] at s2
    have st := stepB_use (calm_of hb h h1 (i := ((k + 1 : Nat) : Int)) (by omega)) (one_of hs ((k + 1 : Nat) : Int))
    rw [show ((k + 1 : Nat) : Int) - 5 = (k : Int) - 4 by omega, show ((k + 1 : Nat) : Int) - 4 = (k : Int) - 3 by omega, show ((k + 1 : Nat) : Int) - 3 = (k : Int) - 2 by omega, show ((k + 1 : Nat) : Int) - 2 = (k : Int) - 1 by omega, show ((k + 1 : Nat) : Int) - 1 = (k : Int) by omega] at st s1 s2
    rw [show ((k + 1 : Nat) : Int) - 4 = (k : Int) - 3 by omega, show ((k + 1 : Nat) : Int) - 3 = (k : Int) - 2 by omega, show ((k + 1 : Nat) : Int) - 2 = (k : Int) - 1 by omega, show ((k + 1 : Nat) : Int) - 1 = (k : Int) by omega]
    omega
theorem flip_count {zs gs : List Int} (hl : gs.length = zs.length) (hb : allB 0 1 zs = true) (gb : allB 0 1 gs = true) (h : LongP zs) (h1 : nth zs 0 = 1) (hs : Sparse zs gs) (hn : 0 < zs.length) :
    (runs (votes gs)).length = (runs (votes zs)).length := by
  have l1 : (votes zs).length = zs.length := votesTo_len _ _
  have l2 : (votes gs).length = zs.length := by rw [votes, votesTo_len, hl]
  rw [runs_count (by omega), runs_count (by omega), edgA, edgA, l1, l2]
  have c := count_flips hl hb gb h h1 hs (zs.length - 1) (by omega)
  rw [show zs.length - 1 + 1 = zs.length by omega] at c
  have flat : ∀ e : Int, zs.length < e + 6 → e < zs.length → wb zs e = wb zs (e - 1) := by
    intro e he1 he2
    by_cases hc : winAt zs e = winAt zs (e - 1)
    · simp [wb, hc]
    · have := (h.win h1 he2 hc).2.1
      omega
  have f1 := flat (((zs.length - 1 : Nat) : Int) - 2) (by omega) (by omega)
  have f2 := flat (((zs.length - 1 : Nat) : Int) - 1) (by omega) (by omega)
  rw [show ((zs.length - 1 : Nat) : Int) - 2 - 1 = ((zs.length - 1 : Nat) : Int) - 3 by omega] at f1
  rw [show ((zs.length - 1 : Nat) : Int) - 1 - 1 = ((zs.length - 1 : Nat) : Int) - 2 by omega] at f2
  rw [f2, f1] at c
  simp only [alph, bne_self_eq_false, Bool.false_and, Bool.toNat_false, Nat.add_zero] at c
  omega

/-- what a flipped list holds -/
theorem flipTo_far {zs ix : List Int} {k : Nat} {p : Nat} (h : ∀ j, j < k → (nth ix j).toNat ≠ p) : nth (flipTo zs ix k) p = nth zs p := by
  induction k with
  | zero => rfl
  | succ k ih =>
    rw [flipTo_succ, nth, List.getD_eq_getElem?_getD, List.getElem?_set_ne (h k (by omega)), ← List.getD_eq_getElem?_getD]
    exact ih (fun j hj => h j (by omega))
theorem flips_diff {zs ix : List Int} {p : Nat} (h : nth (flips zs ix) p ≠ nth zs p) : ∃ j, j < ix.length ∧ (nth ix j).toNat = p := by
  rcases Classical.em (∃ j, j < ix.length ∧ (nth ix j).toNat = p) with h1 | h1
  · exact h1
  · exact absurd (flipTo_far (fun j hj e => h1 ⟨j, hj, e⟩)) h
theorem apart_get {ix : List Int} {d : Int} (h : ∀ j, 0 < j → j < ix.length → d ≤ nth ix j - nth ix (j - 1)) (hd : 0 ≤ d) (i j : Nat) (hij : i < j) (hj : j < ix.length) : nth ix i + d ≤ nth ix j := by
  induction j with
  | zero => omega
  | succ j ih =>
    have := h (j + 1) (by omega) hj
    rw [Nat.add_sub_cancel] at this
    by_cases he : i = j
    · subst he; omega
    · have := ih (by omega) (by omega)
      omega
theorem sparse_flips {zs ix : List Int} {n : Int} (hr : RiseP n ix ix.length) (h : ∀ j, 0 < j → j < ix.length → 6 ≤ nth ix j - nth ix (j - 1)) : Sparse zs (flips zs ix) := by
  have key : ∀ p : Int, tf zs (flips zs ix) p = true → ∃ j, j < ix.length ∧ nth ix j = p := by
    intro p hp
    have h0 : 0 ≤ p := by
      rcases Int.lt_or_le p 0 with hlt | hle
      · exfalso
        simp [tf, wb, winAt_neg hlt] at hp
      · exact hle
    obtain ⟨q, rfl⟩ := Int.eq_ofNat_of_zero_le h0
    obtain ⟨j, hj, e⟩ := flips_diff (zs := zs) (ix := ix) (p := q) (by
      intro e
      simp [tf, wb, winAt_nat, e] at hp)
    have := (hr j hj).1
    exact ⟨j, hj, by omega⟩
  intro p q hp hq hlt
  obtain ⟨i, hi, rfl⟩ := key p hp
  obtain ⟨j, hj, rfl⟩ := key q hq
  rcases Nat.lt_trichotomy i j with hij | hij | hij
  · have := apart_get h (by decide) i j hij hj
    omega
  · subst hij; omega
  · have := apart_get h (by decide) j i hij hi
    omega
end Go.Proofs.Ytopccpnkokdmiaa
