/- Sorting demands in place: the merge, plain facts and its two short ways. -/
import Derived.Test.YtcbejjkbjompfaaSortB
import Derived.Deep.DeepCutAuto
namespace Go.Proofs.Ytcbejjkbjompfaa
open Go.RowKit
set_option linter.unusedVariables false
set_option linter.unusedSimpArgs false

/-! plain -/
/-- what a search by halves keeps -/
def BS (Q : Nat → Prop) (s0 r0 s r : Nat) : Prop := s0 ≤ s ∧ s ≤ r ∧ r ≤ r0 ∧ (s = s0 ∨ Q (s - 1)) ∧ (r = r0 ∨ ¬ Q r)
theorem BS.start (Q : Nat → Prop) {s0 r0 : Nat} (h : s0 ≤ r0) : BS Q s0 r0 s0 r0 := ⟨Nat.le_refl _, h, Nat.le_refl _, .inl rfl, .inl rfl⟩
theorem BS.up {Q : Nat → Prop} {s0 r0 s r c : Nat} (h : BS Q s0 r0 s r) (h1 : s ≤ c) (h2 : c < r) (hq : Q c) : BS Q s0 r0 (c + 1) r := ⟨by have := h.1; omega, h2, h.2.2.1, .inr hq, h.2.2.2.2⟩
theorem BS.down {Q : Nat → Prop} {s0 r0 s r c : Nat} (h : BS Q s0 r0 s r) (h1 : s ≤ c) (h2 : c < r) (hq : ¬ Q c) : BS Q s0 r0 s c := ⟨h.1, h1, by have := h.2.2.1; omega, h.2.2.2.1, .inr hq⟩
/-- the element at a carried to k -/
def ShL (a k : Nat) (ds fs : List Dem) : Prop := (∀ u, a ≤ u → u < k → dem fs u = dem ds (u + 1)) ∧ dem fs k = dem ds a ∧ ∀ u, u < a ∨ k < u → dem fs u = dem ds u
theorem ShL.start (a : Nat) (ds : List Dem) : ShL a a ds ds := ⟨fun u h1 h2 => by omega, rfl, fun _ _ => rfl⟩
theorem ShL.step {a k : Nat} {ds fs : List Dem} (h : ShL a k ds fs) (ha : a ≤ k) (hk : k + 1 < fs.length) : ShL a (k + 1) ds (swp fs k (k + 1)) := by
  have e : ∀ u, dem (swp fs k (k + 1)) u = if u = k + 1 then dem fs k else if u = k then dem fs (k + 1) else dem fs u := fun u => dem_swp (by omega) (by omega)
  refine ⟨fun u h1 h2 => ?_, ?_, fun u hu => ?_⟩
  · rw [e, if_neg (by omega)]
    by_cases c : u = k
    · subst c; rw [if_pos rfl]; exact h.2.2 _ (by omega)
    · rw [if_neg c]; exact h.1 u h1 (by omega)
  · rw [e, if_pos rfl]; exact h.2.1
  · rw [e, if_neg (by omega), if_neg (by omega)]; exact h.2.2 u (by omega)
theorem ShL.done {a k b : Nat} {ds fs : List Dem} (h : ShL a k ds fs) (ha : a ≤ k) (hkb : k < b) (hs : Srt (a + 1) b ds) (h1 : k = a ∨ (dem ds k).ev < (dem ds a).ev) (h2 : k + 1 = b ∨ ¬ (dem ds (k + 1)).ev < (dem ds a).ev) : Srt a b fs := fun u v h3 h4 h5 => by
  have mono : ∀ x y, a + 1 ≤ x → x ≤ y → y < b → (dem ds x).ev ≤ (dem ds y).ev := fun x y hx hxy hy => by
    rcases Nat.lt_or_eq_of_le hxy with hh | rfl
    · exact hs x y hx hh hy
    · exact Int.le_refl _
  rcases Nat.lt_trichotomy u k with hu | rfl | hu
  · rw [h.1 u h3 hu]
    rcases Nat.lt_trichotomy v k with hv | rfl | hv
    · rw [h.1 v (by omega) hv]; exact mono _ _ (by omega) (by omega) (by omega)
    · rw [h.2.1]
      have := mono (u + 1) v (by omega) (by omega) (by omega)
      omega
    · rw [h.2.2 v (.inr hv)]; exact mono _ _ (by omega) (by omega) (by omega)
  · rw [h.2.1, h.2.2 v (.inr h4)]
    have := mono (u + 1) v (by omega) (by omega) (by omega)
    omega
  · rw [h.2.2 u (.inr hu), h.2.2 v (by omega)]; exact mono _ _ (by omega) (by omega) (by omega)
/-- the element at m carried down to k -/
def ShR (m k : Nat) (ds fs : List Dem) : Prop := (∀ u, k < u → u ≤ m → dem fs u = dem ds (u - 1)) ∧ dem fs k = dem ds m ∧ ∀ u, u < k ∨ m < u → dem fs u = dem ds u
theorem ShR.start (m : Nat) (ds : List Dem) : ShR m m ds ds := ⟨fun u h1 h2 => by omega, rfl, fun _ _ => rfl⟩
theorem ShR.step {m k : Nat} {ds fs : List Dem} (h : ShR m (k + 1) ds fs) (hm : k + 1 ≤ m) (hk : m < fs.length) : ShR m k ds (swp fs k (k + 1)) := by
  have e : ∀ u, dem (swp fs k (k + 1)) u = if u = k + 1 then dem fs k else if u = k then dem fs (k + 1) else dem fs u := fun u => dem_swp (by omega) (by omega)
  refine ⟨fun u h1 h2 => ?_, ?_, fun u hu => ?_⟩
  · rw [e]
    by_cases c : u = k + 1
    · subst c; rw [if_pos rfl]; exact h.2.2 _ (by omega)
    · rw [if_neg c, if_neg (by omega)]; exact h.1 u (by omega) h2
  · rw [e, if_neg (by omega), if_pos rfl]; exact h.2.1
  · rw [e, if_neg (by omega), if_neg (by omega)]; exact h.2.2 u (by omega)
theorem ShR.done {a k m : Nat} {ds fs : List Dem} (h : ShR m k ds fs) (ha : a ≤ k) (hkm : k ≤ m) (hs : Srt a m ds) (h1 : k = a ∨ ¬ (dem ds m).ev < (dem ds (k - 1)).ev) (h2 : k = m ∨ (dem ds m).ev < (dem ds k).ev) : Srt a (m + 1) fs := fun u v h3 h4 h5 => by
  have mono : ∀ x y, a ≤ x → x ≤ y → y < m → (dem ds x).ev ≤ (dem ds y).ev := fun x y hx hxy hy => by
    rcases Nat.lt_or_eq_of_le hxy with hh | rfl
    · exact hs x y hx hh hy
    · exact Int.le_refl _
  rcases Nat.lt_trichotomy u k with hu | rfl | hu
  · rw [h.2.2 u (.inl hu)]
    rcases Nat.lt_trichotomy v k with hv | rfl | hv
    · rw [h.2.2 v (.inl hv)]; exact mono _ _ (by omega) (by omega) (by omega)
    · rw [h.2.1]
      have := mono u (v - 1) (by omega) (by omega) (by omega)
      omega
    · rw [h.1 v hv (by omega)]; exact mono _ _ (by omega) (by omega) (by omega)
  · rw [h.2.1, h.1 v h4 (by omega)]
    have := mono u (v - 1) (by omega) (by omega) (by omega)
    omega
  · rw [h.1 u hu (by omega), h.1 v (by omega) (by omega)]; exact mono _ _ (by omega) (by omega) (by omega)
/-- where the search between halves begins -/
def SR (a m b s0 r0 : Nat) : Prop := ((a + b) / 2 < m ∧ s0 + b = (a + b) / 2 + m ∧ r0 = (a + b) / 2) ∨ (m ≤ (a + b) / 2 ∧ s0 = a ∧ r0 = m)
theorem SR.le {a m b s0 r0 : Nat} (h : SR a m b s0 r0) (h1 : a < m) (h2 : m < b) : a ≤ s0 ∧ s0 ≤ r0 ∧ r0 ≤ m ∧ r0 ≤ (a + b) / 2 ∧ (a + b) / 2 + m ≤ s0 + b := by
  rcases h with ⟨h3, h4, h5⟩ | ⟨h3, h4, h5⟩ <;> omega
def QS (p : Nat) (ds : List Dem) (c : Nat) : Prop := ¬ (dem ds (p - c)).ev < (dem ds c).ev
theorem rot_id {f : Nat → Dem} {s m e : Nat} (hs : s ≤ m) (he : m ≤ e) (h : s = m ∨ m = e) (u : Nat) : rotf f s m e u = f u := by
  simp only [rotf]
  repeat' split
  all_goals first | omega | (congr 1; omega) | rfl
/-- where the search has ended -/
structure Cut (a m b mid s e : Nat) (ds : List Dem) : Prop where
  hmid : mid = (a + b) / 2
  he : s + e = mid + m
  has : a ≤ s
  sm : s ≤ m
  sd : s ≤ mid
  me : m ≤ e
  eb : e ≤ b
  de : mid ≤ e
  strict : ∀ u v, s ≤ u → u < m → m ≤ v → v < e → (dem ds v).ev < (dem ds u).ev
  weak : s = a ∨ e = b ∨ (dem ds (s - 1)).ev ≤ (dem ds e).ev
theorem cut_of {a m b s0 r0 s : Nat} {ds : List Dem} (h : SR a m b s0 r0) (h1 : a < m) (h2 : m < b) (hs1 : Srt a m ds) (hs2 : Srt m b ds) (hb : BS (QS ((a + b) / 2 + m - 1) ds) s0 r0 s s) : Cut a m b ((a + b) / 2) s ((a + b) / 2 + m - s) ds := by
  obtain ⟨l1, l2, l3, l4, l5⟩ := h.le h1 h2
  obtain ⟨b1, b2, b3, b4, b5⟩ := hb
  have m1 : ∀ x y, a ≤ x → x ≤ y → y < m → (dem ds x).ev ≤ (dem ds y).ev := fun x y hx hxy hy => by
    rcases Nat.lt_or_eq_of_le hxy with hh | rfl
    · exact hs1 x y hx hh hy
    · exact Int.le_refl _
  have m2 : ∀ x y, m ≤ x → x ≤ y → y < b → (dem ds x).ev ≤ (dem ds y).ev := fun x y hx hxy hy => by
    rcases Nat.lt_or_eq_of_le hxy with hh | rfl
    · exact hs2 x y hx hh hy
    · exact Int.le_refl _
  refine ⟨rfl, by omega, by omega, by omega, by omega, by omega, by omega, by omega, fun u v h3 h4 h5 h6 => ?_, ?_⟩
  · rcases b5 with h7 | h7
    · rcases h with ⟨g1, g2, g3⟩ | ⟨g1, g2, g3⟩ <;> omega
    · have h8 : (dem ds ((a + b) / 2 + m - 1 - s)).ev < (dem ds s).ev := Int.not_le.1 fun hh => h7 (by unfold QS; omega)
      have := m1 s u (by omega) h3 h4
      have := m2 v ((a + b) / 2 + m - 1 - s) h5 (by omega) (by omega)
      omega
  · rcases b4 with h7 | h7
    · rcases h with ⟨g1, g2, g3⟩ | ⟨g1, g2, g3⟩
      · right; left; omega
      · left; omega
    · by_cases h8 : s = a
      · exact .inl h8
      · refine .inr (.inr ?_)
        unfold QS at h7
        have h9 : (a + b) / 2 + m - 1 - (s - 1) = (a + b) / 2 + m - s := by omega
        rw [h9] at h7
        omega
/-- behind the rotation -/
structure Turned (a m b mid s e : Nat) (es : List Dem) : Prop where
  s1 : Srt a s es
  s2 : Srt s mid es
  s3 : Srt mid e es
  s4 : Srt e b es
  cross : ∀ u v, a ≤ u → u < mid → mid ≤ v → v < b → (dem es u).ev ≤ (dem es v).ev
theorem turned_of {a m b mid s e : Nat} {ds es : List Dem} (h : Cut a m b mid s e ds) (hs1 : Srt a m ds) (hs2 : Srt m b ds) (hr : ∀ u, dem es u = rotf (dem ds) s m e u) : Turned a m b mid s e es := by
  obtain ⟨_, he, has, hsm, hsd, hme, heb, hde, hst, hw⟩ := h
  have m1 : ∀ x y, a ≤ x → x ≤ y → y < m → (dem ds x).ev ≤ (dem ds y).ev := fun x y hx hxy hy => by
    rcases Nat.lt_or_eq_of_le hxy with hh | rfl
    · exact hs1 x y hx hh hy
    · exact Int.le_refl _
  have m2 : ∀ x y, m ≤ x → x ≤ y → y < b → (dem ds x).ev ≤ (dem ds y).ev := fun x y hx hxy hy => by
    rcases Nat.lt_or_eq_of_le hxy with hh | rfl
    · exact hs2 x y hx hh hy
    · exact Int.le_refl _
  have r1 : ∀ u, u < s → dem es u = dem ds u := fun u hu => by rw [hr, rotf, if_pos hu]
  have r2 : ∀ u, s ≤ u → u < mid → dem es u = dem ds (u - s + m) := fun u h1 h2 => by rw [hr, rotf, if_neg (by omega), if_pos (by omega)]
  have r3 : ∀ u, mid ≤ u → u < e → dem es u = dem ds (u - (e - m)) := fun u h1 h2 => by rw [hr, rotf, if_neg (by omega), if_neg (by omega), if_pos h2]
  have r4 : ∀ u, e ≤ u → dem es u = dem ds u := fun u h1 => by rw [hr, rotf, if_neg (by omega), if_neg (by omega), if_neg (by omega)]
  refine ⟨fun u v h1 h2 h3 => ?_, fun u v h1 h2 h3 => ?_, fun u v h1 h2 h3 => ?_, fun u v h1 h2 h3 => ?_, fun u v h1 h2 h3 h4 => ?_⟩
  · rw [r1 u (by omega), r1 v h3]; exact m1 _ _ h1 (by omega) (by omega)
  · rw [r2 u h1 (by omega), r2 v (by omega) h3]; exact m2 _ _ (by omega) (by omega) (by omega)
  · rw [r3 u h1 (by omega), r3 v (by omega) h3]; exact m1 _ _ (by omega) (by omega) (by omega)
  · rw [r4 u h1, r4 v (by omega)]; exact m2 _ _ (by omega) (by omega) (by omega)
  · by_cases c1 : u < s
    · rw [r1 u c1]
      by_cases c2 : v < e
      · rw [r3 v h3 c2]; exact m1 _ _ h1 (by omega) (by omega)
      · rw [r4 v (by omega)]
        rcases hw with hw | hw | hw
        · omega
        · omega
        · have := m1 u (s - 1) h1 (by omega) (by omega)
          have := m2 e v (by omega) (by omega) h4
          omega
    · rw [r2 u (by omega) h2]
      by_cases c2 : v < e
      · rw [r3 v h3 c2]
        have := hst (v - (e - m)) (u - s + m) (by omega) (by omega) (by omega) (by omega)
        omega
      · rw [r4 v (by omega)]; exact m2 _ _ (by omega) (by omega) h4
/-- the two halves sorted -/
theorem sym_join {a mid b : Nat} {es fs gs : List Dem} (hab : a ≤ mid) (hmb : mid ≤ b) (hc : ∀ u v, a ≤ u → u < mid → mid ≤ v → v < b → (dem es u).ev ≤ (dem es v).ev) (h1 : SP a mid es fs) (h2 : Srt a mid fs) (h3 : SP mid b fs gs) (h4 : Srt mid b gs) : Srt a b gs := fun u v g1 g2 g3 => by
  by_cases c1 : v < mid
  · rw [h3.out u (by omega), h3.out v (by omega)]; exact h2 u v g1 g2 c1
  · by_cases c2 : mid ≤ u
    · exact h4 u v c2 g2 g3
    · rw [h3.out u (by omega)]
      obtain ⟨i, i1, i2, i3⟩ := h1.rng u g1 (by omega)
      obtain ⟨j, j1, j2, j3⟩ := h3.rng v (by omega) g3
      rw [i3, j3, h1.out j (by omega)]
      exact hc i j i1 i2 j1 j2
end Go.Proofs.Ytcbejjkbjompfaa
