/- Plain facts on transmissions: bytes as bits, the cells of a transmission, how a line is read. -/
import Derived.Test.YtcbejjkbjompfaaBits
namespace Go.Proofs.Ytcbejjkbjompfaa
open Go.RowKit
set_option linter.unusedVariables false
set_option linter.unusedSimpArgs false

theorem nth_nil (k : Nat) : nth [] k = 0 := nth_out (by simp)
theorem nth_cons_zero (x : Int) (l : List Int) : nth (x :: l) 0 = x := rfl
theorem nth_cons_succ (x : Int) (l : List Int) (k : Nat) : nth (x :: l) (k + 1) = nth l k := by simp [nth]
theorem nth_append_lt {a b : List Int} {j : Nat} (h : j < a.length) : nth (a ++ b) j = nth a j := by simp [nth, List.getElem?_append_left h]
theorem nth_append_ge {a b : List Int} {j : Nat} (h : a.length ≤ j) : nth (a ++ b) j = nth b (j - a.length) := by simp [nth, List.getElem?_append_right h]
theorem nth_rep {v : Int} {m j : Nat} (h : j < m) : nth (List.replicate m v) j = v := by simp [nth, List.getElem?_replicate, h]
theorem nth_drop (l : List Int) (a j : Nat) : nth (l.drop a) j = nth l (a + j) := by simp [nth]
theorem list_ext_nth {a b : List Int} (hl : a.length = b.length) (h : ∀ j, j < a.length → nth a j = nth b j) : a = b := by
  apply List.ext_getElem hl
  intro j h1 h2
  have := h j h1
  rw [nth_eq h1, nth_eq h2] at this
  exact this
theorem allB_nth {lo hi : Int} {zs : List Int} : allB lo hi zs = true ↔ ∀ k, k < zs.length → lo ≤ nth zs k ∧ nth zs k ≤ hi := by
  constructor
  · exact fun h k hk => allB_get h k hk
  · intro h
    rw [allB, List.all_eq_true]
    intro x hx
    obtain ⟨k, hk, rfl⟩ := List.getElem_of_mem hx
    have := h k hk
    rw [nth_eq hk] at this
    simpa using this
theorem allB_append {lo hi : Int} {a b : List Int} : allB lo hi (a ++ b) = (allB lo hi a && allB lo hi b) := by simp [allB, List.all_append]

/-- the first j bits of a number in a width, most significant one first -/
def bitsTo (b : Int) (w j : Nat) : List Int := (List.range j).map fun (i : Nat) => b / 2 ^ (w - 1 - i) % 2
theorem bitsTo_succ (b : Int) (w j : Nat) : bitsTo b w (j + 1) = bitsTo b w j ++ [b / 2 ^ (w - 1 - j) % 2] := by simp [bitsTo, List.range_succ]
theorem bitsTo_len (b : Int) (w j : Nat) : (bitsTo b w j).length = j := by simp [bitsTo]
def bits8 (b : Int) : List Int := bitsTo b 8 8
theorem bits8_eq (b : Int) : bits8 b = [b / 128 % 2, b / 64 % 2, b / 32 % 2, b / 16 % 2, b / 8 % 2, b / 4 % 2, b / 2 % 2, b % 2] := by
  simp [bits8, bitsTo, List.range_succ]
theorem bits8_len (b : Int) : (bits8 b).length = 8 := bitsTo_len b 8 8
theorem bits8_bits (b : Int) : allB 0 1 (bits8 b) = true := by
  rw [bits8_eq]
  simp [allB]
  omega
/-- the number with some bits that stand from an index on -/
def numTo (zs : List Int) (a : Nat) : Nat → Int
  | 0 => 0
  | j + 1 => 2 * numTo zs a j + nth zs (a + j)
theorem numTo_succ (zs : List Int) (a j : Nat) : numTo zs a (j + 1) = 2 * numTo zs a j + nth zs (a + j) := rfl
theorem numTo_bounds {zs : List Int} (h : allB 0 1 zs = true) (a j : Nat) (hj : a + j ≤ zs.length) : 0 ≤ numTo zs a j ∧ numTo zs a j + 1 ≤ 2 ^ j := by
  induction j with
  | zero => simp [numTo]
  | succ j ih =>
    have h1 := ih (by omega)
    have h2 := allB_get h (a + j) (by omega)
    rw [numTo_succ, Int.pow_succ]
    omega
theorem numTo_256 {zs : List Int} (h : allB 0 1 zs = true) (a : Nat) (hj : a + 8 ≤ zs.length) : 0 ≤ numTo zs a 8 ∧ numTo zs a 8 ≤ 255 := by
  have := numTo_bounds h a 8 hj
  omega
theorem num8_eq (zs : List Int) (a : Nat) : numTo zs a 8 = 128 * nth zs a + 64 * nth zs (a + 1) + 32 * nth zs (a + 2) + 16 * nth zs (a + 3) + 8 * nth zs (a + 4) + 4 * nth zs (a + 5) + 2 * nth zs (a + 6) + nth zs (a + 7) := by
  simp only [numTo, Nat.add_zero]
  omega
theorem numTo_shift {a b : List Int} {i k : Nat} (n : Nat) (h : ∀ j, j < n → nth a (i + j) = nth b (k + j)) : numTo a i n = numTo b k n := by
  induction n with
  | zero => rfl
  | succ n ih => rw [numTo_succ, numTo_succ, ih (fun j hj => h j (by omega)), h n (by omega)]
theorem num_bits8 {b : Int} (h0 : 0 ≤ b) (h1 : b ≤ 255) : numTo (bits8 b) 0 8 = b := by
  rw [num8_eq, bits8_eq]
  simp only [nth, List.getD_cons_zero, List.getD_cons_succ, Nat.zero_add]
  omega
theorem bits8_num {zs : List Int} (h : allB 0 1 zs = true) {a : Nat} (ha : a + 8 ≤ zs.length) {j : Nat} (hj : j < 8) : nth (bits8 (numTo zs a 8)) j = nth zs (a + j) := by
  have h0 := allB_get h a (by omega)
  have h1 := allB_get h (a + 1) (by omega)
  have h2 := allB_get h (a + 2) (by omega)
  have h3 := allB_get h (a + 3) (by omega)
  have h4 := allB_get h (a + 4) (by omega)
  have h5 := allB_get h (a + 5) (by omega)
  have h6 := allB_get h (a + 6) (by omega)
  have h7 := allB_get h (a + 7) (by omega)
  rw [bits8_eq, num8_eq]
  have hj' : j = 0 ∨ j = 1 ∨ j = 2 ∨ j = 3 ∨ j = 4 ∨ j = 5 ∨ j = 6 ∨ j = 7 := by omega
  rcases hj' with rfl | rfl | rfl | rfl | rfl | rfl | rfl | rfl <;>
    simp only [nth, List.getD_cons_zero, List.getD_cons_succ, Nat.add_zero] at * <;> omega

/-- the cells of one byte, of bytes, of a transmission -/
def blk (b : Int) : List Int := 1 :: 0 :: bits8 b
theorem blk_len (b : Int) : (blk b).length = 10 := by simp [blk, bits8_len]
def blks (ds : List Int) : List Int := ds.flatMap blk
theorem blks_nil : blks [] = [] := rfl
theorem blks_cons (d : Int) (ds : List Int) : blks (d :: ds) = blk d ++ blks ds := rfl
theorem blks_snoc (ds : List Int) (d : Int) : blks (ds ++ [d]) = blks ds ++ blk d := by simp [blks]
theorem blks_len (ds : List Int) : (blks ds).length = 10 * ds.length := by
  induction ds with
  | nil => rfl
  | cons d ds ih => rw [blks_cons, List.length_append, blk_len, ih, List.length_cons]; omega
theorem blk_bits (b : Int) : allB 0 1 (blk b) = true := by
  have := bits8_bits b
  simpa [blk, allB] using this
theorem blks_bits (ds : List Int) : allB 0 1 (blks ds) = true := by
  induction ds with
  | nil => rfl
  | cons d ds ih => rw [blks_cons, allB_append, blk_bits, ih]; rfl
def tx (ds : List Int) (p : Nat) : List Int := List.replicate p 0 ++ (1 :: (blks ds ++ [0, 1]))
theorem tx_len (ds : List Int) (p : Nat) : (tx ds p).length = p + 3 + 10 * ds.length := by simp [tx, blks_len]; omega
theorem tx_bits (ds : List Int) (p : Nat) : allB 0 1 (tx ds p) = true := by
  have h1 : allB 0 1 (List.replicate p 0) = true := by simp [allB]
  have h2 : allB 0 1 (1 :: (blks ds ++ [0, 1])) = true := by
    have := blks_bits ds
    simp [allB] at this ⊢
    simpa using this
  rw [tx, allB_append, h1, h2]; rfl

/-- how many cells from an index on have a value -/
def runL (v : Int) : List Int → Nat
  | [] => 0
  | x :: l => if x = v then runL v l + 1 else 0
def runAt (zs : List Int) (a : Nat) (v : Int) : Nat := runL v (zs.drop a)
theorem runL_le (v : Int) (l : List Int) : runL v l ≤ l.length := by
  induction l with
  | nil => exact Nat.le_refl _
  | cons x l ih =>
    rw [runL]
    split
    · rw [List.length_cons]; omega
    · exact Nat.zero_le _
theorem runL_in {v : Int} {l : List Int} : ∀ {j : Nat}, j < runL v l → nth l j = v := by
  induction l with
  | nil => intro j h; simp [runL] at h
  | cons x l ih =>
    intro j h
    rw [runL] at h
    by_cases e : x = v
    · rw [if_pos e] at h
      cases j with
      | zero => exact e
      | succ j => rw [nth_cons_succ]; exact ih (by omega)
    · rw [if_neg e] at h; omega
theorem runL_end {v : Int} {l : List Int} (h : runL v l < l.length) : nth l (runL v l) ≠ v := by
  induction l with
  | nil => simp [runL] at h
  | cons x l ih =>
    rw [runL] at h ⊢
    by_cases e : x = v
    · rw [if_pos e] at h ⊢
      rw [nth_cons_succ]
      exact ih (by rw [List.length_cons] at h; omega)
    · rw [if_neg e, nth_cons_zero]
      exact e
theorem runL_spec {v : Int} {l : List Int} : ∀ {m : Nat}, (∀ j, j < m → nth l j = v) → m ≤ l.length → (m < l.length → nth l m ≠ v) → runL v l = m := by
  induction l with
  | nil => intro m _ h _; simp at h; rw [h]; rfl
  | cons x l ih =>
    intro m h1 h2 h3
    rw [runL]
    cases m with
    | zero =>
      have := h3 (by simp)
      rw [if_neg (by exact this)]
    | succ m =>
      have h0 := h1 0 (by omega)
      rw [if_pos (by exact h0), ih (m := m) (fun j hj => by have := h1 (j + 1) (by omega); rwa [nth_cons_succ] at this) (by simpa using h2) (fun h => by have := h3 (by simpa using h); rwa [nth_cons_succ] at this)]
theorem runAt_le (zs : List Int) (a : Nat) (v : Int) : runAt zs a v ≤ zs.length - a := by
  have := runL_le v (zs.drop a)
  rwa [List.length_drop] at this
theorem runAt_spec {zs : List Int} {a : Nat} {v : Int} {m : Nat} (h : ∀ j, j < m → nth zs (a + j) = v) (hm : a + m ≤ zs.length ∨ m = 0) (he : a + m < zs.length → nth zs (a + m) ≠ v) : runAt zs a v = m :=
  runL_spec (fun j hj => by rw [nth_drop]; exact h j hj) (by rw [List.length_drop]; omega) (fun hl => by rw [nth_drop]; rw [List.length_drop] at hl; exact he (by omega))
theorem runAt_in {zs : List Int} {a : Nat} {v : Int} {j : Nat} (h : j < runAt zs a v) : nth zs (a + j) = v := by
  rw [← nth_drop]
  exact runL_in h
theorem runAt_end {zs : List Int} {a : Nat} {v : Int} (h : a + runAt zs a v < zs.length) : nth zs (a + runAt zs a v) ≠ v := by
  rw [← nth_drop]
  exact runL_end (by rw [List.length_drop]; show runAt zs a v < _; omega)

/-- ten cells of a byte begin at a -/
def byteAt (zs : List Int) (a : Nat) : Bool := decide (a + 10 ≤ zs.length) && (decide (nth zs a = 1) && decide (nth zs (a + 1) = 0))
theorem byteAt_yes {zs : List Int} {a : Nat} (h : a + 10 ≤ zs.length) (h1 : nth zs a = 1) (h2 : nth zs (a + 1) = 0) : byteAt zs a = true := by simp [byteAt, h, h1, h2]
theorem byteAt_no {zs : List Int} {a : Nat} (h : ¬ (a + 10 ≤ zs.length ∧ nth zs a = 1 ∧ nth zs (a + 1) = 0)) : byteAt zs a = false := by
  rw [byteAt, Bool.and_eq_false_iff, Bool.and_eq_false_iff]
  by_cases h1 : a + 10 ≤ zs.length
  · by_cases h2 : nth zs a = 1
    · exact .inr (.inr (by simpa using fun h3 => h ⟨h1, h2, h3⟩))
    · exact .inr (.inl (by simpa using h2))
  · exact .inl (by simpa using h1)
theorem byteAt_get {zs : List Int} {a : Nat} (h : byteAt zs a = true) : a + 10 ≤ zs.length ∧ nth zs a = 1 ∧ nth zs (a + 1) = 0 := by
  simpa [byteAt, and_assoc] using h
/-- k bytes stand from a on, and no more -/
def Found (zs : List Int) (a k : Nat) : Prop := (∀ i, i < k → byteAt zs (a + 10 * i) = true) ∧ byteAt zs (a + 10 * k) = false
theorem Found.unique {zs : List Int} {a k l : Nat} (h : Found zs a k) (g : Found zs a l) : k = l := by
  rcases Nat.lt_trichotomy k l with h1 | h1 | h1
  · have := g.1 k h1
    rw [h.2] at this; cases this
  · exact h1
  · have := h.1 l h1
    rw [g.2] at this; cases this
def nBy (zs : List Int) : Nat → Nat → Nat
  | 0, _ => 0
  | f + 1, a => if byteAt zs a then nBy zs f (a + 10) + 1 else 0
theorem nBy_found (zs : List Int) : ∀ (f a : Nat), zs.length < a + 10 * f + 10 → Found zs a (nBy zs f a) := by
  intro f
  induction f with
  | zero =>
    intro a h
    exact ⟨fun i hi => by simp [nBy] at hi, byteAt_no (by omega)⟩
  | succ f ih =>
    intro a h
    by_cases hb : byteAt zs a = true
    · have h1 := ih (a + 10) (by omega)
      rw [nBy, if_pos hb]
      refine ⟨fun i hi => ?_, ?_⟩
      · cases i with
        | zero => exact hb
        | succ i =>
          have := h1.1 i (by omega)
          rwa [show a + 10 * (i + 1) = a + 10 + 10 * i by omega]
      · rw [show a + 10 * (nBy zs f (a + 10) + 1) = a + 10 + 10 * nBy zs f (a + 10) by omega]
        exact h1.2
    · rw [nBy, if_neg hb]
      exact ⟨fun i hi => by omega, by simpa using hb⟩
def datas (zs : List Int) (a k : Nat) : List Int := (List.range k).map fun (i : Nat) => numTo zs (a + 10 * i + 2) 8
theorem datas_succ (zs : List Int) (a k : Nat) : datas zs a (k + 1) = datas zs a k ++ [numTo zs (a + 10 * k + 2) 8] := by simp [datas, List.range_succ]
theorem datas_len (zs : List Int) (a k : Nat) : (datas zs a k).length = k := by simp [datas]
theorem datas_nth (zs : List Int) (a : Nat) {k i : Nat} (h : i < k) : nth (datas zs a k) i = numTo zs (a + 10 * i + 2) 8 := by
  rw [nth_eq (by rw [datas_len]; exact h)]
  simp [datas]
theorem datas_bytes {zs : List Int} (hb : allB 0 1 zs = true) {a k : Nat} (h : ∀ i, i < k → byteAt zs (a + 10 * i) = true) : allB 0 255 (datas zs a k) = true := by
  rw [allB_nth]
  intro i hi
  rw [datas_len] at hi
  rw [datas_nth zs a hi]
  have := (byteAt_get (h i hi)).1
  exact numTo_256 hb _ (by omega)

def lineA (zs : List Int) : Nat := runAt zs 0 1
def lineP (zs : List Int) : Nat := runAt zs (lineA zs) 0
def lineS (zs : List Int) : Nat := lineA zs + lineP zs + 1
def lineK (zs : List Int) : Nat := nBy zs zs.length (lineS zs)
def lineD (zs : List Int) : List Int := datas zs (lineS zs) (lineK zs)
def lineE (zs : List Int) : Nat := lineS zs + 10 * lineK zs
/-- it is a line -/
def lineB (zs : List Int) : Bool := decide (3 ≤ lineP zs ∧ lineP zs ≤ 15 ∧ lineS zs ≤ zs.length ∧ lineE zs + 2 ≤ zs.length ∧ nth zs (lineE zs) = 0 ∧ runAt zs (lineE zs + 1) 1 = zs.length - lineE zs - 1)
theorem line_found (zs : List Int) : Found zs (lineS zs) (lineK zs) := nBy_found zs zs.length _ (by omega)
theorem blk_nth2 (b : Int) (j : Nat) : nth (blk b) (j + 2) = nth (bits8 b) j := by rw [blk, nth_cons_succ, nth_cons_succ]
theorem take_blk {zs : List Int} (hb : allB 0 1 zs = true) {m : Nat} (h : byteAt zs m = true) : (zs.drop m).take 10 = blk (numTo zs (m + 2) 8) := by
  obtain ⟨h0, h1, h2⟩ := byteAt_get h
  apply list_ext_nth
  · rw [blk_len, List.length_take, List.length_drop]; omega
  · intro j hj
    rw [List.length_take, List.length_drop] at hj
    rw [nth_take _ _ _ (by omega), nth_drop]
    match j with
    | 0 => exact h1
    | 1 => exact h2
    | j + 2 =>
      rw [blk_nth2, bits8_num hb (by omega) (by omega)]
      congr 1
      omega
theorem take_line {zs : List Int} (hb : allB 0 1 zs = true) (hS : lineS zs ≤ zs.length) (k : Nat) (hk : ∀ i, i < k → byteAt zs (lineS zs + 10 * i) = true) :
    zs.take (lineS zs + 10 * k) = List.replicate (lineA zs) 1 ++ (List.replicate (lineP zs) 0 ++ (1 :: blks (datas zs (lineS zs) k))) := by
  induction k with
  | zero =>
    have hS' : lineS zs = lineA zs + lineP zs + 1 := rfl
    apply list_ext_nth
    · simp [datas, blks_nil]; omega
    · intro j hj
      rw [List.length_take] at hj
      rw [nth_take _ _ _ (by omega)]
      have hP : lineP zs = runAt zs (lineA zs) 0 := rfl
      have hA : lineA zs = runAt zs 0 1 := rfl
      by_cases h1 : j < lineA zs
      · rw [nth_append_lt (by simpa using h1), nth_rep h1]
        have := runAt_in (zs := zs) (a := 0) (v := 1) (j := j) (by rw [← hA]; exact h1)
        simpa using this
      · rw [nth_append_ge (by simp; omega), List.length_replicate]
        by_cases h2 : j - lineA zs < lineP zs
        · rw [nth_append_lt (by simpa using h2), nth_rep h2]
          have := runAt_in (zs := zs) (a := lineA zs) (v := 0) (j := j - lineA zs) (by rw [← hP]; exact h2)
          rwa [show lineA zs + (j - lineA zs) = j by omega] at this
        · rw [nth_append_ge (by simp; omega), List.length_replicate]
          have e : j = lineA zs + lineP zs := by omega
          subst e
          rw [show lineA zs + lineP zs - lineA zs - lineP zs = 0 by omega, nth_cons_zero]
          have h3 := runAt_end (zs := zs) (a := lineA zs) (v := 0) (by rw [← hP]; omega)
          rw [← hP] at h3
          have h4 := allB_get hb (lineA zs + lineP zs) (by omega)
          omega
  | succ k ih =>
    have h1 := hk k (by omega)
    have h2 := (byteAt_get h1).1
    rw [show lineS zs + 10 * (k + 1) = (lineS zs + 10 * k) + 10 by omega, List.take_add, ih (fun i hi => hk i (by omega)), take_blk hb h1, datas_succ, blks_snoc]
    simp
theorem line_sound {zs : List Int} (hb : allB 0 1 zs = true) (h : lineB zs = true) :
    zs = List.replicate (lineA zs) 1 ++ (tx (lineD zs) (lineP zs) ++ List.replicate (zs.length - lineE zs - 2) 1) ∧ allB 0 255 (lineD zs) = true ∧ 3 ≤ lineP zs ∧ lineP zs ≤ 15 := by
  obtain ⟨p1, p2, p3, p4, p5, p6⟩ := of_decide_eq_true h
  refine ⟨?_, datas_bytes hb (line_found zs).1, p1, p2⟩
  have e1 := take_line hb p3 (lineK zs) (line_found zs).1
  have e2 : zs.drop (lineE zs) = [0, 1] ++ List.replicate (zs.length - lineE zs - 2) 1 := by
    apply list_ext_nth
    · simp; omega
    · intro j hj
      rw [List.length_drop] at hj
      rw [nth_drop]
      match j with
      | 0 => exact p5
      | j + 1 =>
        have := runAt_in (zs := zs) (a := lineE zs + 1) (v := 1) (j := j) (by omega)
        rw [show lineE zs + (j + 1) = lineE zs + 1 + j by omega, this]
        match j with
        | 0 => rfl
        | j + 1 =>
          rw [List.cons_append, List.cons_append, List.nil_append, nth_cons_succ, nth_cons_succ, nth_rep (by omega)]
  have e3 := (List.take_append_drop (lineE zs) zs).symm
  rw [e2] at e3
  rw [show zs.take (lineE zs) = _ from e1] at e3
  rw [tx]
  simpa [lineD] using e3
theorem nth_blks (ds : List Int) : ∀ {i j : Nat}, i < ds.length → j < 10 → nth (blks ds) (10 * i + j) = nth (blk (nth ds i)) j := by
  induction ds with
  | nil => intro i j h; simp at h
  | cons d ds ih =>
    intro i j h hj
    rw [blks_cons]
    cases i with
    | zero => rw [nth_append_lt (by rw [blk_len]; omega), nth_cons_zero, Nat.mul_zero, Nat.zero_add]
    | succ i =>
      rw [nth_append_ge (by rw [blk_len]; omega), blk_len, nth_cons_succ, show 10 * (i + 1) + j - 10 = 10 * i + j by omega]
      exact ih (by simpa using h) hj
section
variable {a p b : Nat} {ds : List Int}
/-- a line with its parts -/
def lineOf (a p : Nat) (ds : List Int) (b : Nat) : List Int := List.replicate a 1 ++ (tx ds p ++ List.replicate b 1)
theorem lineOf_len : (lineOf a p ds b).length = a + (p + 3 + 10 * ds.length) + b := by simp [lineOf, tx_len]; omega
theorem lineOf_one {j : Nat} (h : j < a) : nth (lineOf a p ds b) j = 1 := by rw [lineOf, nth_append_lt (by simpa using h), nth_rep h]
theorem lineOf_tx {j : Nat} (h : j < p + 3 + 10 * ds.length) : nth (lineOf a p ds b) (a + j) = nth (tx ds p) j := by
  rw [lineOf, nth_append_ge (by simp), List.length_replicate, show a + j - a = j by omega, nth_append_lt (by rw [tx_len]; exact h)]
theorem lineOf_zero {j : Nat} (h : j < p) : nth (lineOf a p ds b) (a + j) = 0 := by
  rw [lineOf_tx (by omega), tx, nth_append_lt (by simpa using h), nth_rep h]
theorem lineOf_start : nth (lineOf a p ds b) (a + p) = 1 := by
  rw [lineOf_tx (by omega), tx, nth_append_ge (by simp), List.length_replicate, Nat.sub_self, nth_cons_zero]
theorem lineOf_body {j : Nat} (h : j < 10 * ds.length + 2) : nth (lineOf a p ds b) (a + p + 1 + j) = nth (blks ds ++ [0, 1]) j := by
  rw [show a + p + 1 + j = a + (p + (1 + j)) by omega, lineOf_tx (by omega), tx, nth_append_ge (by simp), List.length_replicate, show p + (1 + j) - p = j + 1 by omega, nth_cons_succ]
theorem lineOf_blk {i j : Nat} (h : i < ds.length) (hj : j < 10) : nth (lineOf a p ds b) (a + p + 1 + 10 * i + j) = nth (blk (nth ds i)) j := by
  rw [show a + p + 1 + 10 * i + j = a + p + 1 + (10 * i + j) by omega, lineOf_body (by omega), nth_append_lt (by rw [blks_len]; omega), nth_blks ds h hj]
theorem lineOf_end0 : nth (lineOf a p ds b) (a + p + 1 + 10 * ds.length) = 0 := by
  rw [lineOf_body (by omega), nth_append_ge (by rw [blks_len]; exact Nat.le_refl _), blks_len, Nat.sub_self]; rfl
theorem lineOf_end1 : nth (lineOf a p ds b) (a + p + 1 + 10 * ds.length + 1) = 1 := by
  rw [show a + p + 1 + 10 * ds.length + 1 = a + p + 1 + (10 * ds.length + 1) by omega, lineOf_body (by omega), nth_append_ge (by rw [blks_len]; omega), blks_len, show 10 * ds.length + 1 - 10 * ds.length = 1 by omega]; rfl
theorem lineOf_tail {j : Nat} (h : j < b) : nth (lineOf a p ds b) (a + p + 1 + 10 * ds.length + 2 + j) = 1 := by
  rw [lineOf, nth_append_ge (by simp; omega), List.length_replicate, nth_append_ge (by rw [tx_len]; omega), tx_len, show a + p + 1 + 10 * ds.length + 2 + j - a - (p + 3 + 10 * ds.length) = j by omega, nth_rep h]
theorem lineOf_bits : allB 0 1 (lineOf a p ds b) = true := by
  rw [lineOf, allB_append, allB_append, tx_bits]
  simp [allB]
theorem lineOf_A (hp : 3 ≤ p) : lineA (lineOf a p ds b) = a :=
  runAt_spec (fun j hj => by rw [Nat.zero_add]; exact lineOf_one hj) (.inl (by rw [lineOf_len]; omega)) (fun _ => by
    rw [Nat.zero_add]
    have := lineOf_zero (a := a) (p := p) (ds := ds) (b := b) (j := 0) (by omega)
    rw [Nat.add_zero] at this
    rw [this]; decide)
theorem lineOf_P (hp : 3 ≤ p) : lineP (lineOf a p ds b) = p := by
  rw [lineP, lineOf_A hp]
  exact runAt_spec (fun j hj => lineOf_zero hj) (.inl (by rw [lineOf_len]; omega)) (fun _ => by rw [lineOf_start]; decide)
theorem lineOf_S (hp : 3 ≤ p) : lineS (lineOf a p ds b) = a + p + 1 := by rw [lineS, lineOf_A hp, lineOf_P hp]
theorem lineOf_found : Found (lineOf a p ds b) (a + p + 1) ds.length := by
  refine ⟨fun i hi => byteAt_yes (by rw [lineOf_len]; omega) ?_ ?_, byteAt_no ?_⟩
  · have := lineOf_blk (a := a) (p := p) (ds := ds) (b := b) (j := 0) hi (by omega)
    rw [Nat.add_zero] at this
    rw [this]; rfl
  · rw [lineOf_blk hi (by omega)]; rfl
  · rintro ⟨_, h, _⟩
    rw [lineOf_end0] at h
    exact absurd h (by decide)
theorem lineOf_K (hp : 3 ≤ p) : lineK (lineOf a p ds b) = ds.length := by
  have h1 := line_found (lineOf a p ds b)
  rw [lineOf_S hp] at h1
  exact h1.unique lineOf_found
theorem lineOf_D (hp : 3 ≤ p) (hd : allB 0 255 ds = true) : lineD (lineOf a p ds b) = ds := by
  rw [lineD, lineOf_K hp, lineOf_S hp]
  apply list_ext_nth (datas_len _ _ _)
  intro i hi
  rw [datas_len] at hi
  rw [datas_nth _ _ hi]
  have h1 := allB_get hd i hi
  have h2 : numTo (lineOf a p ds b) (a + p + 1 + 10 * i + 2) 8 = numTo (bits8 (nth ds i)) 0 8 :=
    numTo_shift 8 fun j hj => by
      rw [show a + p + 1 + 10 * i + 2 + j = a + p + 1 + 10 * i + (j + 2) by omega, lineOf_blk hi (by omega), blk_nth2, Nat.zero_add]
  rw [h2, num_bits8 h1.1 h1.2]
theorem lineOf_E (hp : 3 ≤ p) : lineE (lineOf a p ds b) = a + p + 1 + 10 * ds.length := by rw [lineE, lineOf_S hp, lineOf_K hp]
theorem lineOf_B (hp : 3 ≤ p) (hp' : p ≤ 15) : lineB (lineOf a p ds b) = true := by
  refine decide_eq_true ⟨?_, ?_, ?_, ?_, ?_, ?_⟩
  · rw [lineOf_P hp]; exact hp
  · rw [lineOf_P hp]; exact hp'
  · rw [lineOf_S hp, lineOf_len]; omega
  · rw [lineOf_E hp, lineOf_len]; omega
  · rw [lineOf_E hp, lineOf_end0]
  · rw [lineOf_E hp, lineOf_len]
    refine runAt_spec (fun j hj => ?_) (.inl (by rw [lineOf_len]; omega)) (fun h => by rw [lineOf_len] at h; omega)
    cases j with
    | zero => exact lineOf_end1
    | succ j =>
      rw [show a + p + 1 + 10 * ds.length + 1 + (j + 1) = a + p + 1 + 10 * ds.length + 2 + j by omega]
      exact lineOf_tail (by omega)
end
theorem line_is {zs : List Int} (hb : allB 0 1 zs = true) (h : lineB zs = true) : zs = lineOf (lineA zs) (lineP zs) (lineD zs) (zs.length - lineE zs - 2) := (line_sound hb h).1
/-- what the program asks of the rebuilt line -/
theorem line_rebuilt {zs : List Int} (hb : allB 0 1 zs = true) (h3 : 3 ≤ lineP zs) (h15 : lineP zs ≤ 15) :
    lineB zs = true ↔ (lineA zs + (tx (lineD zs) (lineP zs)).length ≤ zs.length ∧ List.replicate (lineA zs) 1 ++ tx (lineD zs) (lineP zs) = zs.take (lineA zs + (tx (lineD zs) (lineP zs)).length) ∧ ¬ (0 : Int) ∈ zs.drop (lineA zs + (tx (lineD zs) (lineP zs)).length)) := by
  have hl : (List.replicate (lineA zs) (1 : Int) ++ tx (lineD zs) (lineP zs)).length = lineA zs + (tx (lineD zs) (lineP zs)).length := by simp
  constructor
  · intro h
    have e := (line_sound hb h).1
    have h1 : lineA zs + (tx (lineD zs) (lineP zs)).length ≤ zs.length := by
      have := congrArg List.length e
      simp only [List.length_append, List.length_replicate] at this
      omega
    have e' : zs = (List.replicate (lineA zs) 1 ++ tx (lineD zs) (lineP zs)) ++ List.replicate (zs.length - lineE zs - 2) 1 := by rw [List.append_assoc]; exact e
    generalize hM : List.replicate (lineA zs) (1 : Int) ++ tx (lineD zs) (lineP zs) = M at e' hl ⊢
    rw [← hl] at h1 ⊢
    generalize zs.length - lineE zs - 2 = r at e'
    subst e'
    refine ⟨h1, ?_, ?_⟩
    · rw [List.take_left']; rfl
    · rw [List.drop_left' rfl]
      simp
  · rintro ⟨h1, h2, h4⟩
    have e : zs = lineOf (lineA zs) (lineP zs) (lineD zs) (zs.length - (lineA zs + (tx (lineD zs) (lineP zs)).length)) := by
      have e0 := (List.take_append_drop (lineA zs + (tx (lineD zs) (lineP zs)).length) zs).symm
      rw [← h2] at e0
      have e2 : zs.drop (lineA zs + (tx (lineD zs) (lineP zs)).length) = List.replicate (zs.length - (lineA zs + (tx (lineD zs) (lineP zs)).length)) 1 := by
        rw [List.eq_replicate_iff]
        refine ⟨by rw [List.length_drop], fun x hx => ?_⟩
        have hx' := List.mem_of_mem_drop hx
        rw [allB, List.all_eq_true] at hb
        have := hb x hx'
        simp at this
        by_cases hx0 : x = 0
        · subst hx0; exact absurd hx h4
        · omega
      rw [e2] at e0
      rw [lineOf, ← List.append_assoc]
      exact e0
    rw [e]
    exact lineOf_B h3 h15
end Go.Proofs.Ytcbejjkbjompfaa
