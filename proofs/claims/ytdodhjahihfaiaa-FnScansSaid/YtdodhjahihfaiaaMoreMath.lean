/- Plain facts: the places of a line's bits, bytes out of bits, the first wrong cell, a completed line, sums. -/
import Derived.Test.YtdodhjahihfaiaaScanMath
import Derived.Test.YtdodhjahihfaiaaSlip
import Derived.Test.YtdodhjahihfaiaaMiddle
namespace Go.Proofs.Ytdodhjahihfaiaa
open Go.RowKit
set_option linter.unusedVariables false
set_option linter.unusedSimpArgs false

/-- the places of the bits of one byte -/
def placeB (a p i : Nat) (j : Nat) : List Int := (List.range j).map fun (b : Nat) => (a : Int) + (p : Int) + 1 + 10 * (i : Int) + 2 + (b : Int)
theorem placeB_succ (a p i j : Nat) : placeB a p i (j + 1) = placeB a p i j ++ [(a : Int) + (p : Int) + 1 + 10 * (i : Int) + 2 + (j : Int)] := by simp [placeB, List.range_succ]
theorem placeB_len (a p i j : Nat) : (placeB a p i j).length = j := by simp [placeB]
theorem placeB_nth (a p i : Nat) {j k : Nat} (h : k < j) : nth (placeB a p i j) k = (a : Int) + (p : Int) + 1 + 10 * (i : Int) + 2 + (k : Int) := by
  rw [nth_eq (by rw [placeB_len]; exact h)]
  simp [placeB]
/-- the places of the bits of the first k bytes -/
def placesTo (a p : Nat) : Nat → List Int
  | 0 => []
  | k + 1 => placesTo a p k ++ placeB a p k 8
theorem placesTo_succ (a p k : Nat) : placesTo a p (k + 1) = placesTo a p k ++ placeB a p k 8 := rfl
theorem placesTo_len (a p k : Nat) : (placesTo a p k).length = 8 * k := by
  induction k with
  | zero => rfl
  | succ k ih => rw [placesTo_succ, List.length_append, ih, placeB_len]; omega
theorem placesTo_nth (a p : Nat) : ∀ (k : Nat) {j : Nat}, j < 8 * k → nth (placesTo a p k) j = (a : Int) + (p : Int) + 1 + 10 * ((j / 8 : Nat) : Int) + 2 + ((j % 8 : Nat) : Int) := by
  intro k
  induction k with
  | zero => intro j h; omega
  | succ k ih =>
    intro j h
    rw [placesTo_succ]
    by_cases hj : j < 8 * k
    · rw [nth_append_lt (by rw [placesTo_len]; exact hj), ih hj]
    · rw [nth_append_ge (by rw [placesTo_len]; omega), placesTo_len, placeB_nth _ _ _ (by omega)]
      omega
/-- bytes out of bits -/
def bytes8 (bs : List Int) (k : Nat) : List Int := (List.range k).map fun (i : Nat) => numTo bs (8 * i) 8
theorem bytes8_succ (bs : List Int) (k : Nat) : bytes8 bs (k + 1) = bytes8 bs k ++ [numTo bs (8 * k) 8] := by simp [bytes8, List.range_succ]
theorem bytes8_len (bs : List Int) (k : Nat) : (bytes8 bs k).length = k := by simp [bytes8]
/-- the bits at the places -/
def bitsAt (zs ps : List Int) (k : Nat) : List Int := (List.range k).map fun (j : Nat) => nth zs (nth ps j).toNat
theorem bitsAt_succ (zs ps : List Int) (k : Nat) : bitsAt zs ps (k + 1) = bitsAt zs ps k ++ [nth zs (nth ps k).toNat] := by simp [bitsAt, List.range_succ]
theorem bitsAt_len (zs ps : List Int) (k : Nat) : (bitsAt zs ps k).length = k := by simp [bitsAt]
theorem bitsAt_nth (zs ps : List Int) {j k : Nat} (h : j < k) : nth (bitsAt zs ps k) j = nth zs (nth ps j).toNat := by
  rw [nth_eq (by rw [bitsAt_len]; exact h)]
  simp [bitsAt]
/-- the places of a line -/
def lineW (zs : List Int) : List Int := placesTo (lineA zs) (lineP zs) (lineK zs)
theorem lineW_len (zs : List Int) : (lineW zs).length = 8 * lineK zs := placesTo_len _ _ _
theorem lineW_nth {zs : List Int} {j : Nat} (h : j < 8 * lineK zs) : nth (lineW zs) j = ((lineS zs + 10 * (j / 8) + 2 + j % 8 : Nat) : Int) := by
  rw [lineW, placesTo_nth _ _ _ h, lineS]
  omega
theorem lineW_in {zs : List Int} (h : lineB zs = true) {j : Nat} (hj : j < 8 * lineK zs) : 0 ≤ nth (lineW zs) j ∧ nth (lineW zs) j < zs.length := by
  obtain ⟨_, _, _, h4, _, _⟩ := of_decide_eq_true h
  rw [lineW_nth hj]
  unfold lineE at h4
  omega
theorem lineW_bits {zs : List Int} (hb : allB 0 1 zs = true) (k : Nat) : allB 0 1 (bitsAt zs (lineW zs) k) = true := by
  rw [allB_nth]
  intro j hj
  rw [bitsAt_len] at hj
  rw [bitsAt_nth _ _ hj]
  by_cases h : (nth (lineW zs) j).toNat < zs.length
  · exact allB_get hb _ h
  · rw [nth_out (by omega)]; exact ⟨by decide, by decide⟩
theorem lineW_bytes (zs : List Int) : bytes8 (bitsAt zs (lineW zs) (8 * lineK zs)) (lineK zs) = lineD zs := by
  rw [lineD]
  apply list_ext_nth
  · rw [bytes8_len, datas_len]
  · intro i hi
    rw [bytes8_len] at hi
    rw [datas_nth _ _ hi, nth_eq (by rw [bytes8_len]; exact hi)]
    simp only [bytes8, List.getElem_map, List.getElem_range]
    refine numTo_shift 8 fun j hj => ?_
    rw [bitsAt_nth _ _ (by omega), lineW_nth (by omega)]
    congr 1
    omega

/-- the first wrong cell of the first k ones, or -1 -/
def fwTo (cs : List Int) : Nat → Int
  | 0 => -1
  | k + 1 => if 0 ≤ fwTo cs k then fwTo cs k else if (scanTo zeroS cs (k + 1)).ph = 7 then (k : Int) else -1
theorem fw_cases (cs : List Int) (n : Nat) : (fwTo cs n = -1 ∧ ∀ j, j ≤ n → (scanTo zeroS cs j).ph ≠ 7) ∨ ∃ k : Nat, k < n ∧ fwTo cs n = (k : Int) ∧ (∀ j, j ≤ k → (scanTo zeroS cs j).ph ≠ 7) ∧ (scanTo zeroS cs (k + 1)).ph = 7 := by
  induction n with
  | zero => exact .inl ⟨rfl, fun j hj => by obtain rfl : j = 0 := (by omega); show (0 : Int) ≠ 7; decide⟩
  | succ n ih =>
    rcases ih with ⟨h1, h2⟩ | ⟨k, h1, h2, h3, h4⟩
    · by_cases h : (scanTo zeroS cs (n + 1)).ph = 7
      · exact .inr ⟨n, by omega, by rw [fwTo, h1, if_neg (by decide), if_pos h], h2, h⟩
      · refine .inl ⟨by rw [fwTo, h1, if_neg (by decide), if_neg h], fun j hj => ?_⟩
        by_cases e : j = n + 1
        · subst e; exact h
        · exact h2 j (by omega)
    · exact .inr ⟨k, by omega, by rw [fwTo, h2, if_pos (by omega)], h3, h4⟩
theorem fw_none {cs : List Int} {n : Nat} (h : ∀ j, j ≤ n → (scanTo zeroS cs j).ph ≠ 7) : fwTo cs n = -1 := by
  rcases fw_cases cs n with ⟨h1, _⟩ | ⟨k, h1, _, _, h4⟩
  · exact h1
  · exact absurd h4 (h (k + 1) (by omega))
theorem fw_at {cs : List Int} {k n : Nat} (h : ∀ j, j ≤ k → (scanTo zeroS cs j).ph ≠ 7) (h7 : (scanTo zeroS cs (k + 1)).ph = 7) (hk : k < n) : fwTo cs n = (k : Int) := by
  rcases fw_cases cs n with ⟨_, h2⟩ | ⟨l, h1, h2, h3, h4⟩
  · exact absurd h7 (h2 (k + 1) (by omega))
  · rcases Nat.lt_trichotomy k l with e | e | e
    · exact absurd h7 (h3 (k + 1) (by omega))
    · subst e; exact h2
    · exact absurd h4 (h (l + 1) (by omega))
theorem fw_wrong {cs : List Int} {n k : Nat} (h : fwTo cs n = (k : Int)) : k < n ∧ (scanTo zeroS cs k).ph ≠ 7 ∧ (scanTo zeroS cs n).ph = 7 := by
  rcases fw_cases cs n with ⟨h1, _⟩ | ⟨l, h1, h2, h3, h4⟩
  · rw [h1] at h; omega
  · obtain rfl : k = l := by rw [h2] at h; omega
    refine ⟨h1, h3 k (Nat.le_refl _), ?_⟩
    have := scan_wrong h4 (n - (k + 1))
    rw [show k + 1 + (n - (k + 1)) = n by omega] at this
    rw [this]; exact h4
theorem fw_right {cs : List Int} {n : Nat} (h : fwTo cs n < 0) : (scanTo zeroS cs n).ph ≠ 7 := by
  rcases fw_cases cs n with ⟨_, h2⟩ | ⟨l, _, h2, _, _⟩
  · exact h2 n (Nat.le_refl _)
  · rw [h2] at h; omega
theorem scan_take {cs : List Int} {k n : Nat} (h : n ≤ k) : scanTo zeroS (cs.take k) n = scanTo zeroS cs n := scanTo_prefix fun j hj => nth_take cs k j (by omega)

/-- some cells and those that are missing -/
theorem miss_scan (cs xs : List Int) (j : Nat) : scanTo zeroS (cs ++ xs) (cs.length + j) = scanTo (scanTo zeroS cs cs.length) xs j := by
  rw [scanTo_add, List.drop_left]
  congr 1
  exact scanTo_prefix fun j hj => nth_append_lt hj
theorem miss_bits {cs : List Int} (hb : allB 0 1 cs = true) (s : Scn) : allB 0 1 (cs ++ missing s) = true := by rw [allB_append, hb, missing_bits]; rfl
theorem miss_can {cs : List Int} (hb : allB 0 1 cs = true) (h7 : (scanTo zeroS cs cs.length).ph ≠ 7) : Can (scanTo zeroS cs cs.length) := by
  have := Inv.scan hb cs.length (Nat.le_refl _)
  exact this.can h7
theorem miss_line {cs : List Int} (hb : allB 0 1 cs = true) (h7 : (scanTo zeroS cs cs.length).ph ≠ 7) : lineB (cs ++ missing (scanTo zeroS cs cs.length)) = true := by
  rw [← done_iff (miss_bits hb _), List.length_append, miss_scan]
  exact (missing_reach _ _ (miss_can hb h7) rfl).1
theorem miss_not {cs : List Int} (hb : allB 0 1 cs = true) (h7 : (scanTo zeroS cs cs.length).ph ≠ 7) {j : Nat} (hj : j < (missing (scanTo zeroS cs cs.length)).length) : lineB ((cs ++ missing (scanTo zeroS cs cs.length)).take (cs.length + j)) = false := by
  have hb' : allB 0 1 ((cs ++ missing (scanTo zeroS cs cs.length)).take (cs.length + j)) = true := by
    have := miss_bits hb (scanTo zeroS cs cs.length)
    rw [allB, List.all_eq_true] at this ⊢
    exact fun x hx => this x (List.mem_of_mem_take hx)
  have hl : ((cs ++ missing (scanTo zeroS cs cs.length)).take (cs.length + j)).length = cs.length + j := by
    rw [List.length_take, List.length_append]; omega
  have := (missing_reach _ _ (miss_can hb h7) rfl).2 j hj
  rw [← miss_scan, ← scan_take (Nat.le_refl _)] at this
  cases h : lineB ((cs ++ missing (scanTo zeroS cs cs.length)).take (cs.length + j))
  · rfl
  · rw [← done_iff hb', hl] at h
    exact absurd h this

theorem sm_rep (n : Nat) : sm (List.replicate n 1) = n := by
  induction n with
  | zero => rfl
  | succ n ih => rw [List.replicate_succ', sm_append, ih, sm_one]; omega
end Go.Proofs.Ytdodhjahihfaiaa
