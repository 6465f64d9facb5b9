/- Plain facts on planning sorted demands: it fails just if the load is too great or one is wanted too rarely. -/
import Derived.Test.YtcbejjkbjompfaaSortS
import Derived.Test.YtcbejjkbjompfaaPoss
namespace Go.Proofs.Ytcbejjkbjompfaa
open Go.RowKit
set_option linter.unusedVariables false
set_option linter.unusedSimpArgs false

/-! sums -/
def sumF (f : Dem → Int) (l : List Dem) : Int := l.foldr (fun d a => f d + a) 0
theorem sumF_cons (f : Dem → Int) (d : Dem) (l : List Dem) : sumF f (d :: l) = f d + sumF f l := rfl
theorem sumF_nil (f : Dem → Int) : sumF f [] = 0 := rfl
theorem sumF_append (f : Dem → Int) (a b : List Dem) : sumF f (a ++ b) = sumF f a + sumF f b := by
  induction a with
  | nil => simp [sumF_nil]
  | cons d a ih => rw [List.cons_append, sumF_cons, sumF_cons, ih]; omega
theorem sumF_fev (f : Dem → Int) (d : Dem) (l : List Dem) (y : Int) : sumF f (fevD (d :: l) y) = (if d.ev = y then f d else 0) + sumF f (fevD l y) := by
  by_cases e : d.ev = y
  · simp [fevD, e, sumF_cons]
  · simp [fevD, e]
def ev4 (d : Dem) : Prop := d.ev = 1 ∨ d.ev = 2 ∨ d.ev = 4 ∨ d.ev = 8
theorem sumF_sort (f : Dem → Int) {ds : List Dem} (h : ∀ d ∈ ds, ev4 d) : sumF f (sortD ds) = sumF f ds := by
  induction ds with
  | nil => rfl
  | cons d ds ih =>
    have ih' := ih (fun x hx => h x (List.mem_cons_of_mem _ hx))
    have hd := h d (List.mem_cons_self ..)
    unfold sortD at ih' ⊢
    simp only [sumF_append, sumF_fev, sumF_cons] at ih' ⊢
    rcases hd with e | e | e | e <;> simp [e] <;> omega
theorem loadTo_sum (ds : List Dem) : ∀ k, k ≤ ds.length → loadTo ds k = sumF (fun d => 8 / d.ev) (ds.take k)
  | 0, _ => by simp [loadTo, sumF]
  | k + 1, hk => by
    rw [loadTo, loadTo_sum ds k (by omega), dem_take (by omega), sumF_append]
    simp [sumF]
theorem load_sort {ds : List Dem} (h : ∀ d ∈ ds, ev4 d) : loadTo (sortD ds) (sortD ds).length = loadTo ds ds.length := by
  rw [loadTo_sum _ _ (Nat.le_refl _), loadTo_sum _ _ (Nat.le_refl _), List.take_length, List.take_length, sumF_sort _ h]
theorem mem_sort {ds : List Dem} (h : ∀ d ∈ ds, ev4 d) (d : Dem) : d ∈ sortD ds ↔ d ∈ ds := by
  simp only [sortD, fevD, List.mem_append, List.mem_filter, beq_iff_eq]
  constructor
  · rintro (h | h | h | h) <;> exact h.1
  · intro hd
    rcases h d hd with e | e | e | e <;> simp [hd, e]
theorem len_sort {ds : List Dem} (h : ∀ d ∈ ds, ev4 d) : (sortD ds).length = ds.length := by
  have key : ∀ l : List Dem, sumF (fun _ => 1) l = (l.length : Int) := by
    intro l
    induction l with
    | nil => rfl
    | cons d l ih => rw [sumF_cons, ih, List.length_cons]; omega
  have := sumF_sort (fun _ => 1) h
  rw [key, key] at this
  omega
theorem sort_pair (ds : List Dem) : (sortD ds).Pairwise fun a b => a.ev ≤ b.ev := by
  have one : ∀ y, (fevD ds y).Pairwise fun a b => a.ev ≤ b.ev := by
    intro y
    apply List.Pairwise.imp_of_mem (R := fun _ _ => True)
    · intro a b ha hb _
      simp [fevD] at ha hb
      omega
    · exact List.pairwise_of_forall fun _ _ => trivial
  simp only [sortD, List.pairwise_append]
  refine ⟨one 1, ⟨one 2, ⟨one 4, one 8, ?_⟩, ?_⟩, ?_⟩
  · intro a ha b hb; simp [fevD] at ha hb; omega
  · intro a ha b hb
    simp [fevD] at ha hb
    omega
  · intro a ha b hb
    simp [fevD] at ha hb
    omega
theorem sort_le {ds : List Dem} {k l : Nat} (hkl : k < l) (hl : l < (sortD ds).length) : (dem (sortD ds) k).ev ≤ (dem (sortD ds) l).ev := by
  have := (List.pairwise_iff_getElem.1 (sort_pair ds)) k l (by omega) hl hkl
  rwa [dem_eq (by omega), dem_eq hl]
theorem are_ev4 {ds : List Dem} (ha : areB ds = true) : ∀ d ∈ ds, ev4 d := by
  intro d hd
  obtain ⟨k, hk, rfl⟩ := List.getElem_of_mem hd
  obtain ⟨e1, _, _, e4⟩ := ev_nat ha hk
  rw [← dem_eq hk]
  unfold ev4
  omega
theorem are_sort {ds : List Dem} (ha : areB ds = true) : areB (sortD ds) = true := by
  have h4 := are_ev4 ha
  have hl := are_len ha
  have hs := len_sort h4
  rw [are_all]
  · simp; omega
  · intro j hj
    rw [areB, Bool.and_eq_true] at ha
    have hm := (mem_sort h4 _).1 (dem_mem hj)
    exact List.all_eq_true.1 ha.1 _ hm

/-! counting -/
def cnt : Nat → (Nat → Bool) → Nat
  | 0, _ => 0
  | k + 1, f => cnt k f + (if f k then 1 else 0)
def sumN : Nat → (Nat → Nat) → Nat
  | 0, _ => 0
  | k + 1, f => sumN k f + f k
theorem cnt_congr {f g : Nat → Bool} : ∀ {n : Nat}, (∀ r, r < n → f r = g r) → cnt n f = cnt n g
  | 0, _ => rfl
  | n + 1, h => by rw [cnt, cnt, cnt_congr (fun r hr => h r (by omega)), h n (by omega)]
theorem cnt_all {f : Nat → Bool} : ∀ {n : Nat}, (∀ r, r < n → f r = true) → cnt n f = n
  | 0, _ => rfl
  | n + 1, h => by rw [cnt, cnt_all (fun r hr => h r (by omega)), h n (by omega)]; rfl
theorem cnt_none {f : Nat → Bool} : ∀ {n : Nat}, (∀ r, r < n → f r = false) → cnt n f = 0
  | 0, _ => rfl
  | n + 1, h => by rw [cnt, cnt_none (fun r hr => h r (by omega)), h n (by omega)]; rfl
theorem cnt_le (f : Nat → Bool) : ∀ n, cnt n f ≤ n
  | 0 => Nat.le_refl _
  | n + 1 => by have := cnt_le f n; rw [cnt]; split <;> omega
theorem cnt_or {f g : Nat → Bool} : ∀ {n : Nat}, (∀ r, r < n → ¬ (f r = true ∧ g r = true)) → cnt n (fun r => f r || g r) = cnt n f + cnt n g
  | 0, _ => rfl
  | n + 1, h => by
    have h1 := h n (by omega)
    rw [cnt, cnt, cnt, cnt_or (fun r hr => h r (by omega))]
    cases hf : f n <;> cases hg : g n <;> simp_all <;> omega
theorem sumN_congr {f g : Nat → Nat} : ∀ {m : Nat}, (∀ s, s < m → f s = g s) → sumN m f = sumN m g
  | 0, _ => rfl
  | m + 1, h => by rw [sumN, sumN, sumN_congr (fun r hr => h r (by omega)), h m (by omega)]
theorem sumN_const (c : Nat) : ∀ m, sumN m (fun _ => c) = m * c
  | 0 => by simp [sumN]
  | m + 1 => by rw [sumN, sumN_const c m, Nat.succ_mul]
theorem sumN_le {f : Nat → Nat} {c : Nat} : ∀ {m : Nat}, (∀ s, s < m → f s ≤ c) → sumN m f ≤ m * c
  | 0, _ => by simp [sumN]
  | m + 1, h => by
    have h1 := sumN_le (f := f) (c := c) (m := m) (fun s hs => h s (by omega))
    have h2 := h m (by omega)
    rw [sumN, Nat.succ_mul]; omega
theorem sumN_bump {f g : Nat → Nat} {s d : Nat} : ∀ {m : Nat}, s < m → (∀ t, t < m → t ≠ s → g t = f t) → g s = f s + d → sumN m g = sumN m f + d
  | m + 1, hs, h, e => by
    rw [sumN, sumN]
    by_cases hm : s = m
    · subst hm
      rw [sumN_congr (f := g) (g := f) (fun t ht => h t (by omega) (by omega)), e]; omega
    · rw [sumN_bump (m := m) (by omega) (fun t ht hne => h t (by omega) hne) e, h m (by omega) (by omega)]; omega
def occ (T : Nat → Nat → Int) (r s : Nat) : Bool := decide (0 ≤ T r s)
def tot (T : Nat → Nat → Int) (n m : Nat) : Nat := sumN m fun s => cnt n fun r => occ T r s
/-- the classes of a period: n / e rounds each -/
theorem cnt_class {n e p : Nat} (hn : n = 1 ∨ n = 2 ∨ n = 4 ∨ n = 8) (he : e = 1 ∨ e = 2 ∨ e = 4 ∨ e = 8) (hen : e ≤ n) (hp : p < e) : cnt n (fun r => decide (r % e = p)) = n / e := by
  have hp8 : p = 0 ∨ p = 1 ∨ p = 2 ∨ p = 3 ∨ p = 4 ∨ p = 5 ∨ p = 6 ∨ p = 7 := by omega
  rcases hn with rfl | rfl | rfl | rfl <;> rcases he with rfl | rfl | rfl | rfl <;> (first | omega | skip) <;> rcases hp8 with rfl | rfl | rfl | rfl | rfl | rfl | rfl | rfl <;> (first | omega | decide)
/-- occupied alike in all rounds of a class -/
def Per (T : Nat → Nat → Int) (n e : Nat) : Prop := ∀ r r', r < n → r' < n → r % e = r' % e → ∀ s, occ T r s = occ T r' s
theorem Per.mono {T : Nat → Nat → Int} {n e e' : Nat} (h : Per T n e) (hd : e ∣ e') : Per T n e' := by
  intro r r' hr hr' he s
  refine h r r' hr hr' ?_ s
  obtain ⟨q, rfl⟩ := hd
  rw [← Nat.mod_mul_right_mod r e q, ← Nat.mod_mul_right_mod r' e q, he]
theorem occ_put {T : Nat → Nat → Int} {n e s p k r t : Nat} (hr : r < n) : occ (putN T e s p k n) r t = (decide (r % e = p ∧ t = s) || occ T r t) := by
  unfold occ putN
  by_cases h : r % e = p ∧ t = s
  · have : r < n ∧ r % e = p ∧ t = s := ⟨hr, h⟩
    rw [if_pos this]
    simp [h]
  · rw [if_neg (fun g => h g.2)]
    simp [h]
theorem Per.put {T : Nat → Nat → Int} {n e s p k : Nat} (h : Per T n e) : Per (putN T e s p k n) n e := by
  intro r r' hr hr' he t
  rw [occ_put hr, occ_put hr', he, h r r' hr hr' he t]
theorem tot_put {T : Nat → Nat → Int} {n m e s p k : Nat} (hn : n = 1 ∨ n = 2 ∨ n = 4 ∨ n = 8) (he : e = 1 ∨ e = 2 ∨ e = 4 ∨ e = 8) (hen : e ≤ n) (hp : p < e) (hs : s < m) (hf : freeB T n e s p = true) : tot (putN T e s p k n) n m = tot T n m + n / e := by
  unfold tot
  refine sumN_bump hs (fun t ht hne => ?_) ?_
  · refine cnt_congr fun r hr => ?_
    rw [occ_put hr]
    simp [hne]
  · have e1 : cnt n (fun r => occ (putN T e s p k n) r s) = cnt n (fun r => decide (r % e = p) || occ T r s) := cnt_congr fun r hr => by rw [occ_put hr]; simp
    rw [e1, cnt_or, cnt_class hn he hen hp]
    · omega
    · rintro r hr ⟨h1, h2⟩
      have := freeB_get hf r hr (by simpa using h1)
      simp [occ] at h2
      omega
theorem tot_full {T : Nat → Nat → Int} {n m e : Nat} (he : 0 < e) (hen : e ≤ n) (hper : Per T n e) (h : firstI T n m e = none) : tot T n m = m * n := by
  have hall : ∀ s, s < m → ∀ r, r < n → occ T r s = true := by
    intro s hs r hr
    have hp : r % e < e := Nat.mod_lt _ he
    obtain ⟨d1, d2⟩ := place_div (s := s) hp
    have hj : s * e + r % e < m * e := by
      have := Nat.mul_le_mul_right e (Nat.succ_le_of_lt hs)
      rw [Nat.succ_mul] at this
      omega
    have hfit := first_nil h _ hj
    rw [d1, d2, fit_free hen] at hfit
    cases ho : occ T r s
    · have : freeB T n e s (r % e) = true := freeB_yes fun r' hr' hre => by
        have := hper r r' hr hr' hre.symm s
        rw [ho] at this
        simp [occ] at this
        omega
      rw [this] at hfit; cases hfit
    · rfl
  unfold tot
  rw [sumN_congr (g := fun _ => n) (fun s hs => cnt_all (hall s hs)), sumN_const]
theorem tot_le (T : Nat → Nat → Int) (n m : Nat) : tot T n m ≤ m * n := sumN_le fun s _ => cnt_le _ n
theorem tot_zero (n m : Nat) : tot T0 n m = 0 := by
  unfold tot
  rw [sumN_congr (g := fun _ => 0) (fun s hs => cnt_none (fun r hr => by simp [occ, T0])), sumN_const]
  simp
theorem Per.put2 {T : Nat → Nat → Int} {n e e' s p k : Nat} (h : Per T n e') (hd : e ∣ e') : Per (putN T e s p k n) n e' := by
  intro r r' hr hr' he t
  have he2 : r % e = r' % e := by
    obtain ⟨q, rfl⟩ := hd
    rw [← Nat.mod_mul_right_mod r e q, ← Nat.mod_mul_right_mod r' e q, he]
  rw [occ_put hr, occ_put hr', he2, h r r' hr hr' he t]
def ldn (ss : List Dem) (n : Nat) : Nat → Nat
  | 0 => 0
  | k + 1 => ldn ss n k + n / evN ss k
theorem ldn_load {ss : List Dem} (ha : areB ss = true) : ∀ k, k ≤ ss.length → loadTo ss k = (ldn ss 8 k : Int)
  | 0, _ => rfl
  | k + 1, hk => by
    obtain ⟨e1, _, _, _⟩ := ev_nat ha (k := k) (by omega)
    rw [loadTo, ldn_load ha k (by omega), e1, ldn, Int.natCast_add, Int.natCast_ediv]
    rfl
theorem ldn_scale {ss : List Dem} {n : Nat} (ha : areB ss = true) (hn : n = 1 ∨ n = 2 ∨ n = 4 ∨ n = 8) : ∀ k, k ≤ ss.length → (∀ j, j < k → evN ss j ≤ n) → ldn ss 8 k * n = 8 * ldn ss n k
  | 0, _, _ => by simp [ldn]
  | k + 1, hk, h => by
    obtain ⟨_, _, _, e4⟩ := ev_nat ha (k := k) (by omega)
    have ih := ldn_scale ha hn k (by omega) (fun j hj => h j (by omega))
    have hle := h k (by omega)
    rw [ldn, ldn, Nat.add_mul, Nat.mul_add, ih]
    have : 8 / evN ss k * n = 8 * (n / evN ss k) := by
      rcases hn with rfl | rfl | rfl | rfl <;> rcases e4 with e | e | e | e <;> rw [e] at hle ⊢ <;> omega
    omega
theorem ldn_mono (ss : List Dem) (n k : Nat) : ∀ j, ldn ss n k ≤ ldn ss n (k + j)
  | 0 => Nat.le_refl _
  | j + 1 => Nat.le_trans (ldn_mono ss n k j) (Nat.le_add_right _ _)
theorem plan_inv {ss : List Dem} {n m : Nat} (ha : areB ss = true) (hn : n = 1 ∨ n = 2 ∨ n = 4 ∨ n = 8) : ∀ {k : Nat} {T : Nat → Nat → Int} {b : List Int}, k ≤ ss.length → planK ss n m k = some (T, b) →
    tot T n m = ldn ss n k ∧ (∀ e, (∀ j, j < k → evN ss j ∣ e) → Per T n e) ∧ ∀ j, j < k → evN ss j ≤ n
  | 0, T, b, _, h => by
    simp [planK] at h
    obtain ⟨rfl, _⟩ := h
    exact ⟨tot_zero n m, fun e _ r r' _ _ _ s => rfl, fun j hj => by omega⟩
  | k + 1, T', b', hk, h => by
    obtain ⟨T, b, i, h0, h1, rfl, _⟩ := plan_down h
    obtain ⟨t1, t2, t3⟩ := plan_inv ha hn (by omega) h0
    obtain ⟨_, e2, _, e4⟩ := ev_nat ha (k := k) (by omega)
    obtain ⟨f1, f2⟩ := first_get h1
    rw [fitN, Bool.and_eq_true] at f2
    have hen : evN ss k ≤ n := by simpa using f2.1
    have hs : i / evN ss k < m := Nat.div_lt_of_lt_mul (by rw [Nat.mul_comm]; exact f1)
    have hp : i % evN ss k < evN ss k := Nat.mod_lt _ (by omega)
    refine ⟨?_, fun e he => ?_, fun j hj => ?_⟩
    · rw [tot_put hn e4 hen hp hs f2.2, t1, ldn]
    · exact (t2 e (fun j hj => he j (by omega))).put2 (he k (by omega))
    · by_cases e : j = k
      · subst e; exact hen
      · exact t3 j (by omega)
theorem plan_stop {ss : List Dem} {n m : Nat} : ∀ {k : Nat}, planK ss n m k = none → ∃ j, j < k ∧ ∃ T b, planK ss n m j = some (T, b) ∧ firstI T n m (evN ss j) = none
  | 0, h => by simp [planK] at h
  | k + 1, h => by
    cases h0 : planK ss n m k with
    | none =>
      obtain ⟨j, hj, r⟩ := plan_stop h0
      exact ⟨j, by omega, r⟩
    | some p =>
      obtain ⟨T, b⟩ := p
      refine ⟨k, by omega, T, b, h0, ?_⟩
      cases h1 : firstI T n m (evN ss k) with
      | none => rfl
      | some i => rw [planK_good h0 h1] at h; cases h
theorem sort_dvd {ds : List Dem} (ha : areB ds = true) {k l : Nat} (hkl : k < l) (hl : l < (sortD ds).length) : evN (sortD ds) k ∣ evN (sortD ds) l := by
  have hs := are_sort ha
  obtain ⟨e1, _, _, e4⟩ := ev_nat hs (k := k) (by omega)
  obtain ⟨g1, _, _, g4⟩ := ev_nat hs (k := l) hl
  have hle := sort_le hkl hl
  rw [e1, g1] at hle
  rcases e4 with e | e | e | e <;> rcases g4 with g | g | g | g <;> rw [e, g] at hle ⊢ <;> first | omega | decide
/-- planning sorted demands succeeds just if the load is small enough and none is wanted too rarely -/
theorem planned {ds : List Dem} {n m : Nat} (ha : areB ds = true) (hn : n = 1 ∨ n = 2 ∨ n = 4 ∨ n = 8) :
    planB (sortD ds) n m = true ↔ (loadTo ds ds.length ≤ 8 * m ∧ ∀ k, k < ds.length → (dem ds k).ev ≤ n) := by
  have hs := are_sort ha
  have h4 := are_ev4 ha
  have hload : loadTo ds ds.length = (ldn (sortD ds) 8 (sortD ds).length : Int) := by rw [← load_sort h4, ldn_load hs _ (Nat.le_refl _)]
  have hev : (∀ k, k < ds.length → (dem ds k).ev ≤ n) ↔ ∀ j, j < (sortD ds).length → evN (sortD ds) j ≤ n := by
    constructor
    · intro h j hj
      obtain ⟨e1, _, _, _⟩ := ev_nat hs hj
      have hm := (mem_sort h4 _).1 (dem_mem hj)
      obtain ⟨k, hk, ek⟩ := List.getElem_of_mem hm
      have := h k hk
      rw [dem_eq hk, ek, e1] at this
      omega
    · intro h k hk
      have hm := (mem_sort h4 _).2 (dem_mem hk)
      obtain ⟨j, hj, ej⟩ := List.getElem_of_mem hm
      obtain ⟨e1, _, _, _⟩ := ev_nat hs hj
      have := h j hj
      rw [dem_eq hj, ej] at e1
      omega
  rw [hload, hev]
  constructor
  · intro hp
    rw [planB, Option.isSome_iff_exists] at hp
    obtain ⟨⟨T, b⟩, e⟩ := hp
    obtain ⟨t1, _, t3⟩ := plan_inv hs hn (Nat.le_refl _) e
    refine ⟨?_, t3⟩
    have h1 := tot_le T n m
    have h2 := ldn_scale hs hn _ (Nat.le_refl _) t3
    rw [t1] at h1
    have h3 : ldn (sortD ds) 8 (sortD ds).length * n ≤ 8 * m * n := by rw [h2, Nat.mul_assoc]; omega
    have h5 : ldn (sortD ds) 8 (sortD ds).length ≤ 8 * m := Nat.le_of_mul_le_mul_right h3 (by omega)
    omega
  · rintro ⟨hl, he⟩
    cases hp : planB (sortD ds) n m
    · exfalso
      have hnone : planK (sortD ds) n m (sortD ds).length = none := by
        rw [planB] at hp
        cases hc : planK (sortD ds) n m (sortD ds).length with
        | none => rfl
        | some x => rw [hc] at hp; cases hp
      obtain ⟨j, hj, T, b, h0, h1⟩ := plan_stop hnone
      obtain ⟨t1, t2, t3⟩ := plan_inv hs hn (by omega) h0
      obtain ⟨_, e2, _, e4⟩ := ev_nat hs hj
      have hper := t2 (evN (sortD ds) j) (fun i hi => sort_dvd ha hi hj)
      have hfull := tot_full (by omega) (he j hj) hper h1
      rw [t1] at hfull
      have h2 := ldn_scale hs hn j (by omega) t3
      rw [hfull] at h2
      have h3 : ldn (sortD ds) 8 j * n = 8 * m * n := by rw [h2, Nat.mul_assoc]
      have h5 : ldn (sortD ds) 8 j = 8 * m := Nat.eq_of_mul_eq_mul_right (by omega) h3
      have h6 := ldn_mono (sortD ds) 8 (j + 1) ((sortD ds).length - (j + 1))
      rw [show j + 1 + ((sortD ds).length - (j + 1)) = (sortD ds).length by omega, ldn, h5] at h6
      have h7 : 1 ≤ 8 / evN (sortD ds) j := by rcases e4 with e | e | e | e <;> rw [e] <;> decide
      omega
    · rfl
end Go.Proofs.Ytcbejjkbjompfaa
