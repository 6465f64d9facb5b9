/- Contracts: the bookings that planning gives are possible. -/
import Derived.Test.YtcbejjkbjompfaaPlanP
namespace Go.Proofs.Ytcbejjkbjompfaa
open Go.RowKit
set_option linter.unusedVariables false
set_option linter.unusedSimpArgs false

theorem nthA_lt {a b : List Int} {k : Nat} (h : k < a.length) : nth (a ++ b) k = nth a k := by simp [nth, List.getElem?_append_left h]
theorem nthA_ge {a b : List Int} {k : Nat} (h : a.length ≤ k) : nth (a ++ b) k = nth b (k - a.length) := by simp [nth, List.getElem?_append_right h]
theorem plan_down {ds : List Dem} {n m k : Nat} {T' : Nat → Nat → Int} {b' : List Int} (h : planK ds n m (k + 1) = some (T', b')) :
    ∃ T b i, planK ds n m k = some (T, b) ∧ firstI T n m (evN ds k) = some i ∧ T' = putN T (evN ds k) (i / evN ds k) (i % evN ds k) k n ∧ b' = b ++ [((i / evN ds k : Nat) : Int), ((i % evN ds k : Nat) : Int)] := by
  cases h1 : planK ds n m k with
  | none => rw [planK_no h1] at h; cases h
  | some p =>
    obtain ⟨T, b⟩ := p
    cases h2 : firstI T n m (evN ds k) with
    | none => rw [planK_bad h1 h2] at h; cases h
    | some i =>
      rw [planK_good h1 h2] at h
      simp only [Option.some.injEq, Prod.mk.injEq] at h
      exact ⟨T, b, i, rfl, h2, h.1.symm, h.2.symm⟩
theorem plan_len {ds : List Dem} {n m : Nat} : ∀ {k : Nat} {T : Nat → Nat → Int} {b : List Int}, planK ds n m k = some (T, b) → b.length = k * 2
  | 0, T, b, h => by simp [planK] at h; rw [h.2]; rfl
  | k + 1, T, b, h => by
    obtain ⟨T0, b0, i, h0, _, _, hb⟩ := plan_down h
    rw [hb, List.length_append, plan_len h0]; simp; omega
theorem plan_at {ds : List Dem} {n m : Nat} : ∀ {l : Nat} {T' : Nat → Nat → Int} {b' : List Int}, planK ds n m l = some (T', b') → ∀ k, k < l →
    ∃ T b i, planK ds n m k = some (T, b) ∧ firstI T n m (evN ds k) = some i ∧ nth b' (k * 2) = ((i / evN ds k : Nat) : Int) ∧ nth b' (k * 2 + 1) = ((i % evN ds k : Nat) : Int)
  | 0, _, _, _, k, hk => by omega
  | l + 1, T', b', h, k, hk => by
    obtain ⟨T, b, i, h0, h1, _, hb⟩ := plan_down h
    have hl := plan_len h0
    by_cases e : k = l
    · subst e
      refine ⟨T, b, i, h0, h1, ?_, ?_⟩
      · rw [hb, nthA_ge (by omega), show k * 2 - b.length = 0 by omega]; rfl
      · rw [hb, nthA_ge (by omega), show k * 2 + 1 - b.length = 1 by omega]; rfl
    · obtain ⟨T2, b2, i2, g0, g1, g2, g3⟩ := plan_at h0 k (by omega)
      exact ⟨T2, b2, i2, g0, g1, by rw [hb, nthA_lt (by omega)]; exact g2, by rw [hb, nthA_lt (by omega)]; exact g3⟩
set_option maxHeartbeats 6400000 in
set_option maxRecDepth 100000 in
theorem bookAll_any (A : Option Addr) (q c : Nat) (ds : List Dem) (n m : Nat) (A2 : Option Addr) (c2 : Nat) (T : Nat → Nat → Int) (bs : List Int) (w : World) (h : RdF 3 w A q c (flatD ds)) (h2 : RdF 2 w A2 q c2 bs) (hp : planK ds n m q = some (T, bs)) (ha : areB ds = true) (hn : 1 ≤ n ∧ n ≤ 8) (hm : 1 ≤ m ∧ m ≤ 16) :
    Calls Try.prog 20 #[.slice A q c, .int .i64 (n : Int), .int .i64 (m : Int), .slice A2 q c2] w fun x w' => ∃ v, x = .returned (.tuple #[v, .bool true]) ∧ Below w.heap.size w w' := by
  have hl : ds.length = q := by have := h.len; rw [flatD_len] at this; omega
  have hq := are_len ha
  have hcap := h.cap
  have hcap2 := h2.cap
  have t0 : ((q : Int) != (q : Int)) = false := by simp
  have HP := hide hp
  clear hp
  go_enter Try.func20, Try.ntmps20
  go_wp2_with (go_at_call 29; refine (emptyTable_any n m _ hn.2 hm).mono ?_; rintro x w1 ⟨hs, A1, c1, rfl, T1, b1⟩)
  have hbase := hide (fun p hp => (T1.base p hp).1)
  go_loopw [23] (fun i wr => ∃ (k : Nat) (T : Nat → Nat → Int) (bk : List Int), k ≤ q ∧ i = .int .i64 k ∧ Hid (planK ds n m k = some (T, bk)) ∧ TabH wr w.heap.size hs A1 n c1 m T ∧ Below w.heap.size w wr) (fun i _ => q - (intOf i).toNat)
  case atStart => exact ⟨0, T0, [], by omega, rfl, hide rfl, T1, b1⟩
  case round =>
    obtain ⟨k, T, bk, hk, rfl, hpl, htab, hbel⟩ := hrel
    have hsz := hbel.size
    by_cases hlt : k < q
    · obtain ⟨b, off, rfl, hbb, hc⟩ := h.at_ (by omega)
      obtain ⟨d0, d1, d2⟩ := dem_cells hc hl hbel hbb hlt
      obtain ⟨e1, e2, e3, e4⟩ := ev_nat ha (k := k) (by omega)
      rw [e1] at d1
      obtain ⟨e, he⟩ : ∃ e, e = evN ds k := ⟨_, rfl⟩
      obtain ⟨T', bk', i, g0, g1, g2, g3⟩ := plan_at HP.out k hlt
      rw [hpl.out] at g0
      simp only [Option.some.injEq, Prod.mk.injEq] at g0
      obtain ⟨rfl, rfl⟩ := g0
      obtain ⟨b', off', rfl, hbb', hc'⟩ := h2.at_ (by omega)
      have p0 := (hbel.cell (p := ⟨b', off' + k * 2, none⟩) hbb').trans (hc' (k * 2) (by omega))
      have p1 := (hbel.cell (p := ⟨b', off' + (k * 2 + 1), none⟩) hbb').trans (hc' (k * 2 + 1) (by omega))
      rw [g2] at p0
      rw [g3, ← Nat.add_assoc] at p1
      have hpl2 := hide (planK_good hpl.out g1)
      rw [← he] at d1 e2 e3 p0 p1 g1 hpl2
      obtain ⟨i1, i2⟩ := first_get g1
      have hi1 : i / e < m := Nat.div_lt_of_lt_mul (by rw [Nat.mul_comm]; exact i1)
      have hi2 : i % e < e := Nat.mod_lt _ (by omega)
      obtain ⟨u, hu⟩ : ∃ u, u = i / e := ⟨_, rfl⟩
      obtain ⟨v, hv⟩ : ∃ v, v = i % e := ⟨_, rfl⟩
      rw [← hu] at p0 hi1 i2 hpl2
      rw [← hv] at p1 hi2 i2 hpl2
      obtain ⟨nd, hnd⟩ : ∃ x, x = (dem ds k).nd := ⟨_, rfl⟩
      obtain ⟨sz, hsz'⟩ : ∃ x, x = (dem ds k).sz := ⟨_, rfl⟩
      rw [← hnd] at d0
      rw [← hsz'] at d2
      have ba := (Below.refl wr.heap.size wr).alloc (Nat.le_refl _) (.cells #[.int .i64 nd, .int .i64 (e : Int), .int .i64 sz] 38)
      have TW := hide (htab.below ba)
      have BW := hide (below_trans hbel ba)
      have KW := hide (Tk.of_below (hs := hs) ba)
      have HF := hide i2
      clear hc hc' e1 e4 he hnd hsz' g1 g2 g3 hu hv i1 i2 ba htab hbel
      have zb : b < wr.heap.size := by omega
      have zb' : b' < wr.heap.size := by omega
      go_wp2_with fail
      go_region_with (go_at_call 30; (with_reducible refine (book_any w.heap.size hs A1 n c1 m T _ TW.out.drew nd sz e u v k ⟨e2, e3⟩ hn hm.2 hi1 hi2 (by omega)).mono ?_); rintro x w3 ⟨rfl, T3, k3⟩; rw [HF.out])
      all_goals
        rw [bookT_yes k HF.out] at T3
        have k4 : Tk (wr.alloc (.cells #[.int .i64 nd, .int .i64 (e : Int), .int .i64 sz] 38)) w3 hs := ⟨k3.os, k3.tape, k3.output, k3.size, k3.block⟩
        have B3 := k4.below BW.out hbase.out
        go_wp2_with fail
        go_roundw
        case rel => exact ⟨k + 1, _, _, by omega, by go_num, hpl2, T3, B3⟩
        case measure => simp [intOf]; omega
    · obtain rfl : k = q := by omega
      go_wp2
      go_ret2
      exact ⟨_, rfl, hbel⟩
theorem arePossible_any (A : Option Addr) (q c : Nat) (ds : List Dem) (r s : Int) (A2 : Option Addr) (j c2 : Nat) (w : World) (h : RdF 3 w A q c (flatD ds)) (h2 : RdF 2 w A2 j c2 (plR ds r s)) (h0 : plC ds r s = 0) :
    Calls Try.prog 8 #[.slice A q c, .int .i64 r, .int .i64 s, .slice A2 j c2] w fun x w' => x = .returned (.bool true) ∧ Below w.heap.size w w' := by
  have hl : ds.length = q := by have := h.len; rw [flatD_len] at this; omega
  have hd : dcC ds r s = 0 := by
    by_cases e : dcC ds r s = 0
    · exact e
    · rw [(pl_bad e).1] at h0; exact absurd h0 e
  obtain ⟨ha, n, m, rfl, rfl, hn, hm1, hm2⟩ := dc_get hd
  have hpb : planB ds n m = true := by
    cases e : planB ds n m
    · rw [(pl_no hd (by simpa using e)).1] at h0; cases h0
    · rfl
  have hpr := (pl_yes hd (by simpa using hpb)).2
  obtain ⟨T, bs, hpk⟩ : ∃ T bs, planK ds n m ds.length = some (T, bs) := by
    rw [planB, Option.isSome_iff_exists] at hpb
    obtain ⟨⟨T, bs⟩, e⟩ := hpb
    exact ⟨T, bs, e⟩
  have hbs := (plan_some hpk).2
  rw [hpr] at h2
  simp only [Int.toNat_natCast] at h2
  rw [hbs] at h2
  have hj : j = q := by have := h2.len; rw [plan_len hpk, hl] at this; omega
  subst hj
  rw [hl] at hpk
  have HD := hide hd
  have HK := hide hpk
  clear hpr hbs hpb h0 hd hpk
  go_enter Try.func8, Try.ntmps8
  go_wp2_with (first | (go_at_call 16; refine (demandCode_any _ _ _ ds n m _ h).mono ?_; rintro x w1 ⟨rfl, b1⟩; rw [HD.out]) | (go_at_call 20; refine (bookAll_any _ _ _ ds n m _ _ T bs _ (h.below b1) (h2.below b1) HK.out ha (by omega) ⟨hm1, hm2⟩).mono ?_; rintro x w2 ⟨v, rfl, b2⟩))
  go_ret
  exact ⟨rfl, below_trans b1 b2⟩
end Go.Proofs.Ytcbejjkbjompfaa
