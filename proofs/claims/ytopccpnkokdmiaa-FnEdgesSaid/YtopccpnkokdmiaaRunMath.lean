/- Plain facts: runs, their starts, and what five samples' votes make of them. -/
import Derived.Test.YtopccpnkokdmiaaVote
import Derived.Test.YtopccpnkokdmiaaEdges
import Derived.Test.YtopccpnkokdmiaaRepeat
namespace Go.Proofs.Ytopccpnkokdmiaa
open Go.RowKit
set_option linter.unusedVariables false
set_option linter.unusedSimpArgs false

/-- a run begins at k -/
def Start (zs : List Int) (k : Nat) : Prop := k = 0 ∨ nth zs k ≠ nth zs (k - 1)

/-- the runs of the first k samples, cut ahead of the last one -/
theorem runsTo_split (zs : List Int) (k : Nat) (hk : 0 < k) :
    ∃ (pre : List Int) (m : Nat), runsTo zs k = pre ++ [(m : Int)] ∧ 1 ≤ m ∧ m ≤ k ∧ (∀ j, k - m ≤ j → j < k → nth zs j = nth zs (k - 1)) ∧
      ((∀ x ∈ pre, 6 ≤ x) → ∀ e, e < k - m → Start zs e → e + 6 ≤ k - m ∧ ∀ j, e ≤ j → j < e + 6 → nth zs j = nth zs e) := by
  induction k with
  | zero => omega
  | succ k ih =>
    by_cases h0 : k = 0
    · subst h0
      refine ⟨[], 1, by rw [runsTo_new (by omega)]; rfl, by omega, by omega, fun j _ h2 => ?_, fun _ e he => by omega⟩
      have hj : j = 0 := by omega
      rw [hj]
    · obtain ⟨pre, m, h1, h2, h3, h4, h5⟩ := ih (by omega)
      by_cases hs : 0 < k ∧ nth zs k = nth zs (k - 1)
      · refine ⟨pre, m + 1, by rw [runsTo_same hs, h1, bump_snoc]; simp, by omega, by omega, fun j hj1 hj2 => ?_, ?_⟩
        · rw [Nat.add_sub_cancel]
          by_cases hj : j = k
          · subst hj; rfl
          · rw [hs.2]; exact h4 j (by omega) (by omega)
        · rw [show k + 1 - (m + 1) = k - m by omega]
          exact h5
      · refine ⟨pre ++ [(m : Int)], 1, by rw [runsTo_new hs, h1]; rfl, by omega, by omega, fun j hj1 hj2 => ?_, fun hx e he hst => ?_⟩
        · have : j = k := by omega
          subst this
          rw [Nat.add_sub_cancel]
        · rw [Nat.add_sub_cancel] at he ⊢
          have hp : ∀ x ∈ pre, 6 ≤ x := fun x hx' => hx x (List.mem_append_left _ hx')
          have hm : (6 : Int) ≤ (m : Int) := hx _ (List.mem_append_right _ (List.mem_singleton.2 rfl))
          by_cases hlt : e < k - m
          · obtain ⟨a1, a2⟩ := h5 hp e hlt hst
            exact ⟨by omega, a2⟩
          · have hee : e = k - m := by
              rcases hst with h | h
              · omega
              · by_cases hgt : k - m < e
                · exact absurd ((h4 e (by omega) he).trans (h4 (e - 1) (by omega) (by omega)).symm) h
                · omega
            subst hee
            refine ⟨by omega, fun j hj1 hj2 => ?_⟩
            rw [h4 j hj1 (by omega), h4 (k - m) (by omega) (by omega)]

/-- all runs are long -/
def LongP (zs : List Int) : Prop := ∀ e, e < zs.length → Start zs e → e + 6 ≤ zs.length ∧ ∀ j, e ≤ j → j < e + 6 → nth zs j = nth zs e
theorem long_of_runs {zs : List Int} (h : ∀ x ∈ runs zs, 6 ≤ x) : LongP zs := by
  intro e he hst
  obtain ⟨pre, m, h1, h2, h3, h4, h5⟩ := runsTo_split zs zs.length (by omega)
  rw [runs, h1] at h
  have hp : ∀ x ∈ pre, 6 ≤ x := fun x hx' => h x (List.mem_append_left _ hx')
  have hm : (6 : Int) ≤ (m : Int) := h _ (List.mem_append_right _ (List.mem_singleton.2 rfl))
  by_cases hlt : e < zs.length - m
  · obtain ⟨a1, a2⟩ := h5 hp e hlt hst
    exact ⟨by omega, a2⟩
  · have hee : e = zs.length - m := by
      rcases hst with h | h
      · omega
      · by_cases hgt : zs.length - m < e
        · exact absurd ((h4 e (by omega) he).trans (h4 (e - 1) (by omega) (by omega)).symm) h
        · omega
    subst hee
    refine ⟨by omega, fun j hj1 hj2 => ?_⟩
    rw [h4 j hj1 (by omega), h4 (zs.length - m) (by omega) (by omega)]

/-- the same for the samples with ones ahead of them -/
theorem LongP.win {zs : List Int} (h : LongP zs) (h1 : nth zs 0 = 1) {e : Int} (he : e < zs.length) (hne : winAt zs e ≠ winAt zs (e - 1)) :
    0 < e ∧ e + 6 ≤ zs.length ∧ ∀ j : Int, e ≤ j → j < e + 6 → winAt zs j = winAt zs e := by
  have h0 : 0 < e := by
    rcases Int.lt_or_le 0 e with h0 | h0
    · exact h0
    · exfalso
      apply hne
      rw [winAt_neg (k := e - 1) (by omega)]
      by_cases hz : e = 0
      · subst hz
        exact (winAt_nat zs 0).trans h1
      · rw [winAt_neg (by omega)]
  obtain ⟨n, rfl⟩ := Int.eq_ofNat_of_zero_le (Int.le_of_lt h0)
  have e1 : ((n : Int) - 1) = ((n - 1 : Nat) : Int) := by omega
  rw [e1, winAt_nat, winAt_nat] at hne
  obtain ⟨a1, a2⟩ := h n (by omega) (.inr hne)
  refine ⟨h0, by omega, fun j hj1 hj2 => ?_⟩
  obtain ⟨m, rfl⟩ := Int.eq_ofNat_of_zero_le (show 0 ≤ j by omega)
  rw [winAt_nat, winAt_nat]
  exact a2 m (by omega) (by omega)

/-- the ones in a window, as a sum -/
theorem onesW_five (zs : List Int) (i : Int) : onesW zs i = winAt zs (i - 4) + winAt zs (i - 3) + winAt zs (i - 2) + winAt zs (i - 1) + winAt zs i := by
  have h : (i + 1 - (i - 4)).toNat = 5 := by omega
  rw [onesW, onesK, h]
  simp only [onesTo]
  rw [show i - 4 + ((0 : Nat) : Int) = i - 4 by omega, show i - 4 + ((1 : Nat) : Int) = i - 3 by omega, show i - 4 + ((2 : Nat) : Int) = i - 2 by omega, show i - 4 + ((3 : Nat) : Int) = i - 1 by omega, show i - 4 + ((4 : Nat) : Int) = i by omega]
  omega

/-- where all runs are long, the vote is the sample two places back -/
theorem voteAt_long {zs : List Int} (hb : allB 0 1 zs = true) (h : LongP zs) (h1 : nth zs 0 = 1) {i : Nat} (hi : i < zs.length) : voteAt zs i = winAt zs ((i : Int) - 2) := by
  have b0 := winAt_bit hb ((i : Int) - 4)
  have b1 := winAt_bit hb ((i : Int) - 3)
  have b2 := winAt_bit hb ((i : Int) - 2)
  have b3 := winAt_bit hb ((i : Int) - 1)
  have b4 := winAt_bit hb (i : Int)
  have s := onesW_five zs i
  have e1 : winAt zs ((i : Int) - 3) = winAt zs ((i : Int) - 4) ∨ (winAt zs ((i : Int) - 2) = winAt zs ((i : Int) - 3) ∧ winAt zs ((i : Int) - 1) = winAt zs ((i : Int) - 3) ∧ winAt zs (i : Int) = winAt zs ((i : Int) - 3)) := by
    by_cases hc : winAt zs ((i : Int) - 3) = winAt zs ((i : Int) - 4)
    · exact .inl hc
    · obtain ⟨_, _, a⟩ := h.win h1 (e := (i : Int) - 3) (by omega) (by rw [show (i : Int) - 3 - 1 = i - 4 by omega]; exact hc)
      exact .inr ⟨a _ (by omega) (by omega), a _ (by omega) (by omega), a _ (by omega) (by omega)⟩
  have e2 : winAt zs ((i : Int) - 2) = winAt zs ((i : Int) - 3) ∨ (winAt zs ((i : Int) - 1) = winAt zs ((i : Int) - 2) ∧ winAt zs (i : Int) = winAt zs ((i : Int) - 2)) := by
    by_cases hc : winAt zs ((i : Int) - 2) = winAt zs ((i : Int) - 3)
    · exact .inl hc
    · obtain ⟨_, _, a⟩ := h.win h1 (e := (i : Int) - 2) (by omega) (by rw [show (i : Int) - 2 - 1 = i - 3 by omega]; exact hc)
      exact .inr ⟨a _ (by omega) (by omega), a _ (by omega) (by omega)⟩
  have e3 : winAt zs ((i : Int) - 1) = winAt zs ((i : Int) - 2) ∨ winAt zs (i : Int) = winAt zs ((i : Int) - 1) := by
    by_cases hc : winAt zs ((i : Int) - 1) = winAt zs ((i : Int) - 2)
    · exact .inl hc
    · obtain ⟨_, _, a⟩ := h.win h1 (e := (i : Int) - 1) (by omega) (by rw [show (i : Int) - 1 - 1 = i - 2 by omega]; exact hc)
      exact .inr (a _ (by omega) (by omega))
  unfold voteAt
  rw [s]
  generalize winAt zs ((i : Int) - 4) = x0 at *
  generalize winAt zs ((i : Int) - 3) = x1 at *
  generalize winAt zs ((i : Int) - 2) = x2 at *
  generalize winAt zs ((i : Int) - 1) = x3 at *
  generalize winAt zs (i : Int) = x4 at *
  split <;> omega
theorem votes_long {zs : List Int} (hb : allB 0 1 zs = true) (h : LongP zs) (h1 : nth zs 0 = 1) : votes zs = delays zs zs.length := by
  unfold votes votesTo delays
  apply List.map_congr_left
  intro j hj
  rw [voteAt_long hb h h1 (List.mem_range.1 hj)]
  by_cases h2 : j < 2
  · rw [if_pos h2, winAt_neg (by omega)]
  · rw [if_neg h2, show (j : Int) - 2 = ((j - 2 : Nat) : Int) by omega, winAt_nat]

/-- the number of runs is one more than that of the changes -/
theorem runsTo_count (zs : List Int) (k : Nat) (hk : 0 < k) : (runsTo zs k).length = (edgG (pA zs) k).length + 1 := by
  induction k with
  | zero => omega
  | succ k ih =>
    by_cases h0 : k = 0
    · subst h0
      rw [runsTo_new (by omega), edgG_no (pA_zero zs)]
      rfl
    · by_cases hs : nth zs k = nth zs (k - 1)
      · rw [runsTo_same ⟨by omega, hs⟩, bump_len, ih (by omega), edgG_no (pA_no hs)]
      · rw [runsTo_new (fun x => hs x.2), edgG_yes (pA_yes (by omega) hs), List.length_append, List.length_append, ih (by omega)]
        rfl
theorem runs_count {zs : List Int} (h : 0 < zs.length) : (runs zs).length = (edgA zs).length + 1 := runsTo_count zs zs.length h

/-- changes are falls and rises -/
theorem edg_parts {zs : List Int} (hb : allB 0 1 zs = true) (k : Nat) : (edgG (pV zs 0) k).length + (edgG (pV zs 1) k).length = (edgG (pA zs) k).length := by
  induction k with
  | zero => rfl
  | succ k ih =>
    by_cases h0 : k = 0
    · subst h0
      rw [edgG_no (pA_zero zs), edgG_no (pV_zero zs 0), edgG_no (pV_zero zs 1)]
      rfl
    · by_cases hs : nth zs k = nth zs (k - 1)
      · have c := bit_cases hb k
        rw [edgG_no (pA_no hs), edgG_no (pV_no (v := 0) (by omega)), edgG_no (pV_no (v := 1) (by omega))]
        exact ih
      · rcases bit_cases hb k with c | c
        · rw [edgG_yes (pA_yes (by omega) hs), edgG_yes (pV_yes (v := 0) (by omega) (by omega) c), edgG_no (pV_no (v := 1) (by omega)), List.length_append, List.length_append]
          simp only [List.length_singleton]
          omega
        · rw [edgG_yes (pA_yes (by omega) hs), edgG_yes (pV_yes (v := 1) (by omega) (by omega) c), edgG_no (pV_no (v := 0) (by omega)), List.length_append, List.length_append]
          simp only [List.length_singleton]
          omega

/-- samples are recovered from their runs -/
theorem fromTo_snoc (f : Int) (pre : List Int) (x : Int) : fromTo f (pre ++ [x]) (pre.length + 1) = fromTo f pre pre.length ++ List.replicate x.toNat (runV f pre.length) := by
  have hp : ∀ k, k ≤ pre.length → fromTo f (pre ++ [x]) k = fromTo f pre k := by
    intro k hk
    induction k with
    | zero => rfl
    | succ k ih =>
      rw [fromTo_succ, fromTo_succ, ih (by omega)]
      have : nth (pre ++ [x]) k = nth pre k := by simp [nth, List.getElem?_append_left (show k < pre.length by omega)]
      rw [this]
  rw [fromTo_succ, hp _ (Nat.le_refl _)]
  have : nth (pre ++ [x]) pre.length = x := by simp [nth]
  rw [this]
theorem fromTo_runsTo {zs : List Int} (hb : allB 0 1 zs = true) (k : Nat) (hk0 : 0 < k) (hk : k ≤ zs.length) :
    fromTo (nth zs 0) (runsTo zs k) (runsTo zs k).length = zs.take k ∧ runV (nth zs 0) ((runsTo zs k).length - 1) = nth zs (k - 1) := by
  induction k with
  | zero => omega
  | succ k ih =>
    by_cases h0 : k = 0
    · subst h0
      rw [runsTo_new (by omega)]
      refine ⟨?_, rfl⟩
      rw [take_snoc zs 0 (by omega)]
      simp [runsTo, fromTo, nth]
    · obtain ⟨i1, i2⟩ := ih (by omega) (by omega)
      obtain ⟨pre, m, h1, h2, h3, h4, h5⟩ := runsTo_split zs k (by omega)
      rw [h1] at i1 i2
      rw [List.length_append, List.length_singleton] at i1 i2
      rw [Nat.add_sub_cancel] at i2
      rw [fromTo_snoc] at i1
      by_cases hs : 0 < k ∧ nth zs k = nth zs (k - 1)
      · rw [runsTo_same hs, h1, bump_snoc, List.length_append, List.length_singleton, Nat.add_sub_cancel, Nat.add_sub_cancel]
        refine ⟨?_, by rw [i2, hs.2]⟩
        rw [fromTo_snoc, take_snoc zs k (by omega), ← i1, show ((m : Int) + 1).toNat = (m : Int).toNat + 1 by omega, List.replicate_succ', List.append_assoc, i2, hs.2]
      · have hne : nth zs k ≠ nth zs (k - 1) := fun x => hs ⟨by omega, x⟩
        have hc1 := bit_cases hb k
        have hc2 := bit_cases hb (k - 1)
        rw [runsTo_new hs, h1]
        have hl : (pre ++ [(m : Int)] ++ [1]).length = (pre ++ [(m : Int)]).length + 1 := by simp
        rw [hl, fromTo_snoc, Nat.add_sub_cancel]
        have hv : runV (nth zs 0) (pre ++ [(m : Int)]).length = nth zs k := by
          rw [List.length_append, List.length_singleton, runV_succ, i2]
          omega
        refine ⟨?_, by rw [hv, Nat.add_sub_cancel]⟩
        rw [hv, List.length_append, List.length_singleton, fromTo_snoc, i1, take_snoc zs k (by omega)]
        rfl
theorem fromTo_runs {zs : List Int} (hb : allB 0 1 zs = true) (hn : 0 < zs.length) : fromTo (nth zs 0) (runs zs) (runs zs).length = zs := by
  have := (fromTo_runsTo hb zs.length hn (Nat.le_refl _)).1
  rwa [List.take_length] at this

/-- runs are recovered from the samples that they make -/
theorem runsTo_prefix {a b : List Int} {k : Nat} (h : ∀ j, j < k → nth a j = nth b j) : runsTo a k = runsTo b k := by
  induction k with
  | zero => rfl
  | succ k ih =>
    rw [runsTo, runsTo, ih (fun j hj => h j (by omega)), h k (by omega)]
    by_cases h0 : 0 < k
    · rw [h (k - 1) (by omega)]
    · rw [if_neg (fun x => h0 x.1), if_neg (fun x => h0 x.1)]
theorem nth_append_left {a b : List Int} {j : Nat} (h : j < a.length) : nth (a ++ b) j = nth a j := by simp [nth, List.getElem?_append_left h]
theorem nth_append_rep {a : List Int} {m : Nat} {v : Int} {j : Nat} (h : a.length ≤ j) (hj : j < a.length + m) : nth (a ++ List.replicate m v) j = v := by
  rw [nth, List.getD_eq_getElem?_getD, List.getElem?_append_right h, List.getElem?_replicate_of_lt (by omega)]
  rfl
theorem runsTo_grow {zs : List Int} {v : Int} {m : Nat} (hm : 0 < m) (hne : 0 < zs.length → nth zs (zs.length - 1) ≠ v) (t : Nat) (ht : 0 < t) (htm : t ≤ m) :
    runsTo (zs ++ List.replicate m v) (zs.length + t) = runs zs ++ [(t : Int)] := by
  have hpre : runsTo (zs ++ List.replicate m v) zs.length = runs zs := runsTo_prefix (fun j hj => nth_append_left hj)
  induction t with
  | zero => omega
  | succ t ih =>
    by_cases h0 : t = 0
    · subst h0
      have hx : ¬ (0 < zs.length ∧ nth (zs ++ List.replicate m v) zs.length = nth (zs ++ List.replicate m v) (zs.length - 1)) := by
        rintro ⟨a, b⟩
        rw [nth_append_rep (Nat.le_refl _) (by omega), nth_append_left (by omega)] at b
        exact hne a b.symm
      rw [show zs.length + (0 + 1) = zs.length + 1 by rfl, runsTo_new hx, hpre]
      rfl
    · have hx : 0 < zs.length + t ∧ nth (zs ++ List.replicate m v) (zs.length + t) = nth (zs ++ List.replicate m v) (zs.length + t - 1) := by
        refine ⟨by omega, ?_⟩
        rw [nth_append_rep (by omega) (by omega), nth_append_rep (by omega) (by omega)]
      rw [show zs.length + (t + 1) = zs.length + t + 1 by rfl, runsTo_same hx, ih (by omega) (by omega), bump_snoc]
      simp
theorem runs_fromTo {f : Int} (h0 : 0 ≤ f) (h1 : f ≤ 1) {ls : List Int} {hi : Int} (h : allB 1 hi ls = true) (k : Nat) (hk : k ≤ ls.length) :
    runs (fromTo f ls k) = ls.take k ∧ (0 < k → 0 < (fromTo f ls k).length ∧ nth (fromTo f ls k) ((fromTo f ls k).length - 1) = runV f (k - 1)) := by
  induction k with
  | zero => exact ⟨rfl, fun h => absurd h (by omega)⟩
  | succ k ih =>
    obtain ⟨i1, i2⟩ := ih (by omega)
    have hb := allB_get h k (by omega)
    have hv := runV_bit h0 h1 k
    have hm : 0 < (nth ls k).toNat := by omega
    have hne : 0 < (fromTo f ls k).length → nth (fromTo f ls k) ((fromTo f ls k).length - 1) ≠ runV f k := by
      intro hl
      by_cases hz : k = 0
      · subst hz
        simp [fromTo] at hl
      · rw [(i2 (by omega)).2]
        have e := runV_succ f (k - 1)
        rw [show k - 1 + 1 = k by omega] at e
        omega
    have hg := runsTo_grow hm hne _ hm (Nat.le_refl _)
    have hl : (fromTo f ls k ++ List.replicate (nth ls k).toNat (runV f k)).length = (fromTo f ls k).length + (nth ls k).toNat := by simp
    rw [fromTo_succ]
    refine ⟨?_, fun _ => ⟨by omega, ?_⟩⟩
    · rw [runs, hl, hg, i1, take_snoc ls k (by omega), Int.toNat_of_nonneg (by omega)]
    · rw [hl, nth_append_rep (by omega) (by omega)]
      rfl
end Go.Proofs.Ytopccpnkokdmiaa
