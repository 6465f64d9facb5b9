/- Sorting demands in place: exchanged blocks, the rotation; plain facts of the merge. -/
import Derived.Test.YtcbejjkbjompfaaSortA
namespace Go.Proofs.Ytcbejjkbjompfaa
open Go.RowKit
set_option linter.unusedVariables false
set_option linter.unusedSimpArgs false

/-! plain -/
theorem dem_ext {a b : List Dem} (hl : a.length = b.length) (h : ∀ u, u < a.length → dem a u = dem b u) : a = b :=
  List.ext_getElem hl fun u h1 h2 => by
    have := h u h1
    rwa [dem_eq h1, dem_eq h2] at this
theorem dem_over {ds : List Dem} {u : Nat} (h : ds.length ≤ u) : dem ds u = ⟨0, 0, 0⟩ := by
  rw [dem, List.getD_eq_getElem?_getD, List.getElem?_eq_none h]; rfl
theorem dem_app (a b : List Dem) (u : Nat) : dem (a ++ b) u = if u < a.length then dem a u else dem b (u - a.length) := by
  simp only [dem, List.getD_eq_getElem?_getD]
  by_cases h : u < a.length
  · rw [if_pos h, List.getElem?_append_left h]
  · rw [if_neg h, List.getElem?_append_right (by omega)]
theorem dem_takeu (a : List Dem) {k u : Nat} (h : u < k) : dem (a.take k) u = dem a u := by
  simp [dem, List.getElem?_take, h]
theorem dem_dropu (a : List Dem) (k u : Nat) : dem (a.drop k) u = dem a (k + u) := by
  simp [dem, List.getElem?_drop]
def swapf (f : Nat → Dem) (a b k : Nat) (u : Nat) : Dem := if a ≤ u ∧ u < a + k then f (u - a + b) else if b ≤ u ∧ u < b + k then f (u - b + a) else f u
def rotf (f : Nat → Dem) (s m e : Nat) (u : Nat) : Dem := if u < s then f u else if u < s + (e - m) then f (u - s + m) else if u < e then f (u - (e - m)) else f u
theorem swapf_step {ds es : List Dem} {a b k : Nat} (hl : es.length = ds.length) (hab : a + k < b) (hb : b + k < ds.length) (h : ∀ u, dem es u = swapf (dem ds) a b k u) (u : Nat) : dem (swp es (a + k) (b + k)) u = swapf (dem ds) a b (k + 1) u := by
  rw [dem_swp (by omega) (by omega), h, h, h]
  simp only [swapf]
  repeat' split
  all_goals first | omega | (congr 1; omega) | rfl
theorem rot_done {f : Nat → Dem} {m i : Nat} (h : i ≤ m) (u : Nat) : swapf f (m - i) m i u = rotf f (m - i) m (m + i) u := by
  simp only [swapf, rotf]
  repeat' split
  all_goals first | omega | (congr 1; omega) | rfl
theorem rot_left {f : Nat → Dem} {m i j : Nat} (h : i ≤ m) (hij : j < i) (u : Nat) : rotf f (m - i) m (m + j) u = rotf (swapf f (m - i) m j) (m - (i - j)) m (m + j) u := by
  simp only [swapf, rotf]
  repeat' split
  all_goals first | omega | (congr 1; omega) | rfl
theorem rot_right {f : Nat → Dem} {m i j : Nat} (h : i ≤ m) (hij : i < j) (u : Nat) : rotf f (m - i) m (m + j) u = rotf (swapf f (m - i) (m + j - i) i) (m - i) m (m + (j - i)) u := by
  simp only [swapf, rotf]
  repeat' split
  all_goals first | omega | (congr 1; omega) | rfl
theorem filter_comm {L R : List Dem} (v : Int) (h : ∀ x ∈ L, ∀ y ∈ R, y.ev < x.ev) : fevD L v ++ fevD R v = fevD R v ++ fevD L v := by
  by_cases e : ∃ x ∈ L, x.ev = v
  · obtain ⟨x, hx, rfl⟩ := e
    have : fevD R x.ev = [] := List.filter_eq_nil_iff.2 fun y hy => by
      have := h x hx y hy
      simp; omega
    rw [this, List.nil_append, List.append_nil]
  · have : fevD L v = [] := List.filter_eq_nil_iff.2 fun x hx => by
      simp only [beq_iff_eq]
      exact fun hv => e ⟨x, hx, hv⟩
    rw [this, List.nil_append, List.append_nil]
theorem fev_app (a b : List Dem) (v : Int) : fevD (a ++ b) v = fevD a v ++ fevD b v := List.filter_append _ _
theorem dem_of_mem {ds : List Dem} {d : Dem} (h : d ∈ ds) : ∃ u, u < ds.length ∧ dem ds u = d := by
  obtain ⟨u, hu, e⟩ := List.getElem_of_mem h
  exact ⟨u, hu, by rw [dem_eq hu, e]⟩
theorem rot_SP {ds es : List Dem} {a s m e b : Nat} (h1 : a ≤ s) (h2 : s ≤ m) (h3 : m ≤ e) (h4 : e ≤ b) (hb : b ≤ ds.length) (hl : es.length = ds.length) (hr : ∀ u, dem es u = rotf (dem ds) s m e u)
    (hlt : ∀ u v, s ≤ u → u < m → m ≤ v → v < e → (dem ds v).ev < (dem ds u).ev) : SP a b ds es := by
  obtain ⟨P, hP⟩ : ∃ P, P = ds.take s := ⟨_, rfl⟩
  obtain ⟨L, hL⟩ : ∃ L, L = (ds.drop s).take (m - s) := ⟨_, rfl⟩
  obtain ⟨R, hR⟩ : ∃ R, R = (ds.drop m).take (e - m) := ⟨_, rfl⟩
  obtain ⟨C, hC⟩ : ∃ C, C = ds.drop e := ⟨_, rfl⟩
  have lP : P.length = s := by rw [hP]; simp; omega
  have lL : L.length = m - s := by rw [hL]; simp; omega
  have lR : R.length = e - m := by rw [hR]; simp; omega
  have lC : C.length = ds.length - e := by rw [hC]; simp
  have dP : ∀ u, u < s → dem P u = dem ds u := fun u hu => by rw [hP, dem_takeu _ hu]
  have dL : ∀ u, u < m - s → dem L u = dem ds (s + u) := fun u hu => by rw [hL, dem_takeu _ hu, dem_dropu]
  have dR : ∀ u, u < e - m → dem R u = dem ds (m + u) := fun u hu => by rw [hR, dem_takeu _ hu, dem_dropu]
  have dC : ∀ u, dem C u = dem ds (e + u) := fun u => by rw [hC, dem_dropu]
  clear hP hL hR hC
  have eds : ds = P ++ (L ++ (R ++ C)) := by
    refine dem_ext (by simp only [List.length_append]; omega) fun u hu => ?_
    rw [dem_app, dem_app, dem_app, lP, lL, lR]
    by_cases c1 : u < s
    · rw [if_pos c1, dP u c1]
    · rw [if_neg c1]
      by_cases c2 : u - s < m - s
      · rw [if_pos c2, dL _ c2]; congr 1; omega
      · rw [if_neg c2]
        by_cases c3 : u - s - (m - s) < e - m
        · rw [if_pos c3, dR _ c3]; congr 1; omega
        · rw [if_neg c3, dC]; congr 1; omega
  have ees : es = P ++ (R ++ (L ++ C)) := by
    refine dem_ext (by simp only [List.length_append]; omega) fun u hu => ?_
    rw [hr, rotf, dem_app, dem_app, dem_app, lP, lL, lR]
    by_cases c1 : u < s
    · rw [if_pos c1, if_pos c1, dP u c1]
    · rw [if_neg c1, if_neg c1]
      by_cases c2 : u - s < e - m
      · rw [if_pos (by omega), if_pos c2, dR _ c2]; congr 1; omega
      · rw [if_neg (by omega), if_neg c2]
        by_cases c3 : u - s - (e - m) < m - s
        · rw [if_pos (by omega), if_pos c3, dL _ c3]; congr 1; omega
        · rw [if_neg (by omega), if_neg c3, dC]; congr 1; omega
  have hLR : ∀ x ∈ L, ∀ y ∈ R, y.ev < x.ev := fun x hx y hy => by
    obtain ⟨u, hu, rfl⟩ := dem_of_mem hx
    obtain ⟨v, hv, rfl⟩ := dem_of_mem hy
    rw [dL u (by omega), dR v (by omega)]
    exact hlt _ _ (by omega) (by omega) (by omega) (by omega)
  refine ⟨hl, fun v => ?_, fun j hj => ?_, fun d hd => ?_, fun j h5 h6 => ?_⟩
  · have c := filter_comm v hLR
    rw [ees, eds]
    simp only [fev_app, ← List.append_assoc] at c ⊢
    rw [List.append_assoc (fevD P v), ← c]
    simp only [List.append_assoc]
  · rw [hr, rotf]
    by_cases c1 : j < s
    · rw [if_pos c1]
    · rw [if_neg c1, if_neg (by omega), if_neg (by omega)]
  · rw [ees] at hd
    rw [eds]
    simp only [List.mem_append] at hd ⊢
    rcases hd with h | h | h | h
    · exact .inl h
    · exact .inr (.inr (.inl h))
    · exact .inr (.inl h)
    · exact .inr (.inr (.inr h))
  · rw [hr, rotf]
    by_cases c1 : j < s
    · exact ⟨j, h5, h6, by rw [if_pos c1]⟩
    · by_cases c2 : j < s + (e - m)
      · exact ⟨j - s + m, by omega, by omega, by rw [if_neg c1, if_pos c2]⟩
      · by_cases c3 : j < e
        · exact ⟨j - (e - m), by omega, by omega, by rw [if_neg c1, if_neg c2, if_pos c3]⟩
        · exact ⟨j, h5, h6, by rw [if_neg c1, if_neg c2, if_neg c3]⟩
theorem ev_mem {d : Dem} (h : demB d = true) : d.ev = 1 ∨ d.ev = 2 ∨ d.ev = 4 ∨ d.ev = 8 := by
  have : evB d.ev = true := by
    unfold demB at h
    simp only [Bool.and_eq_true] at h
    exact h.2.1
  unfold evB at this
  simp only [Bool.or_eq_true, beq_iff_eq] at this
  omega
theorem srt_self : ∀ (es : List Dem), (∀ d ∈ es, d.ev = 1 ∨ d.ev = 2 ∨ d.ev = 4 ∨ d.ev = 8) → Srt 0 es.length es → es = sortD es
  | [], _, _ => rfl
  | d :: t, he, hs => by
    have ht : Srt 0 t.length t := fun u v _ h2 h3 => hs (u + 1) (v + 1) (by omega) (by omega) (by simpa using h3)
    have ih := srt_self t (fun x hx => he x (List.mem_cons_of_mem _ hx)) ht
    have hd : ∀ x ∈ t, d.ev ≤ x.ev := fun x hx => by
      obtain ⟨u, hu, rfl⟩ := dem_of_mem hx
      exact hs 0 (u + 1) (by omega) (by omega) (by simpa using hu)
    have hno : ∀ y, y < d.ev → fevD t y = [] := fun y hy => List.filter_eq_nil_iff.2 fun x hx => by
      have := hd x hx
      simp; omega
    have hc : ∀ y, fevD (d :: t) y = if d.ev = y then d :: fevD t y else fevD t y := fun y => by
      rw [fevD, List.filter_cons]
      by_cases e : d.ev = y <;> simp [e, fevD]
    have e0 : sortD (d :: t) = d :: sortD t := by
      unfold sortD
      rw [hc, hc, hc, hc]
      rcases he d (by simp) with e | e | e | e
      · rw [if_pos e, if_neg (by omega), if_neg (by omega), if_neg (by omega)]; rfl
      · rw [if_neg (by omega), if_pos e, if_neg (by omega), if_neg (by omega), hno 1 (by omega)]; rfl
      · rw [if_neg (by omega), if_neg (by omega), if_pos e, if_neg (by omega), hno 1 (by omega), hno 2 (by omega)]; rfl
      · rw [if_neg (by omega), if_neg (by omega), if_neg (by omega), if_pos e, hno 1 (by omega), hno 2 (by omega), hno 4 (by omega)]; rfl
    exact (e0.trans (congrArg _ ih.symm)).symm
theorem srt_is {ds es : List Dem} (ha : areB ds = true) (hsp : SP 0 ds.length ds es) (hs : Srt 0 ds.length es) : es = sortD ds := by
  have hd : ∀ d ∈ es, d.ev = 1 ∨ d.ev = 2 ∨ d.ev = 4 ∨ d.ev = 8 := fun d hd => by
    have := are_ev4 ha d (hsp.mem d hd)
    unfold ev4 at this
    omega
  have h := srt_self es hd (by rw [hsp.len]; exact hs)
  rw [h]
  unfold sortD
  rw [hsp.fev, hsp.fev, hsp.fev, hsp.fev]
def RowOut (w : World) (B g n c : Nat) (P : List Dem → Prop) (x : Ending) (w' : World) : Prop :=
  x = .returned (.tuple #[]) ∧ ∃ es, OwnF 38 3 w' B (some ⟨g, 0, none⟩) n c (flatD es) ∧ P es ∧ w.grownBy w' (some g)
set_option maxHeartbeats 6400000 in
set_option maxRecDepth 100000 in
theorem swapRange_any (B g n c a b k : Nat) (f : Value) (ds : List Dem) (w : World) (h : OwnF 38 3 w B (some ⟨g, 0, none⟩) n c (flatD ds)) (hab : a + k ≤ b) (hbn : b + k ≤ n) (hn : n ≤ 1000) :
    Calls Try.prog 48 #[.slice (some ⟨g, 0, none⟩) n c, .int .i64 (a : Int), .int .i64 (b : Int), .int .i64 (k : Int), f] w (RowOut w B g n c fun es => es.length = ds.length ∧ ∀ u, dem es u = swapf (dem ds) a b k u) := by
  have hcap := h.cap
  have hlen : ds.length = n := by have := h.len; rw [flatD_len] at this; omega
  go_enter Try.func48, Try.ntmps48
  go_wp2
  go_loopw [10] (fun i wr => ∃ (s : Nat) (es : List Dem), s ≤ k ∧ i = .int .i64 s ∧ OwnF 38 3 wr B (some ⟨g, 0, none⟩) n c (flatD es) ∧ Hid (es.length = ds.length ∧ ∀ u, dem es u = swapf (dem ds) a b s u) ∧ w.grownBy wr (some g)) (fun i _ => k - (intOf i).toNat)
  case atStart => exact ⟨0, ds, by omega, by go_num, h, hide ⟨rfl, fun u => by simp only [swapf]; rw [if_neg (by omega), if_neg (by omega)]⟩, grown_refl _ _⟩
  case round =>
    obtain ⟨s, es, hsk, rfl, hown, hes, hgr⟩ := hrel
    by_cases hlt : s < k
    · obtain ⟨i, hi⟩ : ∃ i, i = a + s := ⟨_, rfl⟩
      obtain ⟨j, hj⟩ : ∃ j, j = b + s := ⟨_, rfl⟩
      have hel : es.length = n := hes.out.1.trans hlen
      obtain ⟨x, hx⟩ : ∃ x, x = dem es j := ⟨_, rfl⟩
      obtain ⟨y, hy⟩ : ∃ y, y = dem es i := ⟨_, rfl⟩
      obtain ⟨n0, n1, n2⟩ := nth_flatD es (k := j) (by omega)
      obtain ⟨m0, m1, m2⟩ := nth_flatD es (k := i) (by omega)
      have c0 := hown.cell (j := j * 3) (by omega)
      have c1 := hown.cell (j := j * 3 + 1) (by omega)
      have c2 := hown.cell (j := j * 3 + 2) (by omega)
      have d0 := hown.cell (j := i * 3) (by omega)
      have d1 := hown.cell (j := i * 3 + 1) (by omega)
      have d2 := hown.cell (j := i * 3 + 2) (by omega)
      have q0 := hown.frozen (j * 3)
      have q1 := hown.frozen (j * 3 + 1)
      have q2 := hown.frozen (j * 3 + 2)
      have r0 := hown.frozen (i * 3)
      have r1 := hown.frozen (i * 3 + 1)
      have r2 := hown.frozen (i * 3 + 2)
      rw [n0, ← hx] at c0
      rw [n1, ← hx] at c1
      rw [n2, ← hx] at c2
      rw [m0, ← hy] at d0
      rw [m1, ← hy] at d1
      rw [m2, ← hy] at d2
      clear n0 n1 n2 m0 m1 m2
      have z1 : (0 : Int) ≤ (i : Int) := by omega
      have z2 : (i : Int) < (n : Int) := by omega
      have z3 : (0 : Int) ≤ (j : Int) := by omega
      have z4 : (j : Int) < (n : Int) := by omega
      have tw : IntKind.i64.wrap ((a : Int) + (s : Int)) = (i : Int) := by
        rw [IntWalk.i64_in _ ⟨by omega, by omega⟩]; omega
      have tv : IntKind.i64.wrap ((b : Int) + (s : Int)) = (j : Int) := by
        rw [IntWalk.i64_in _ ⟨by omega, by omega⟩]; omega
      have HX := hide hx
      have HY := hide hy
      have HI := hide hi
      have HJ := hide hj
      have hf : i < es.length ∧ j < es.length ∧ i ≠ j := by omega
      have HO := hide hown
      have HG := hide hgr
      clear hx hy hi hj hown hgr
      go_wp2_with fail
      go_region
      all_goals go_wp2
      obtain ⟨O3, G3⟩ := HO.out.swap2 hf.1 hf.2.1 HX.out HY.out
      refine ⟨⟨s + 1, swp es i j, by omega, by go_num, O3.drew, hide ⟨(swp_len _ _ _).trans hes.out.1, fun u => ?_⟩, grown_drewS (grown_trans HG.out G3)⟩, by simp [intOf]; omega⟩
      rw [HI.out, HJ.out]
      exact swapf_step hes.out.1 (by omega) (by omega) hes.out.2 u
    · obtain rfl : s = k := by omega
      go_wp2
      go_end0
      exact ⟨rfl, es, hown, hes.out, hgr⟩
set_option maxHeartbeats 6400000 in
set_option maxRecDepth 100000 in
theorem rotate_any (B g n c a m b : Nat) (f : Value) (ds : List Dem) (w : World) (h : OwnF 38 3 w B (some ⟨g, 0, none⟩) n c (flatD ds)) (ham : a < m) (hmb : m < b) (hbn : b ≤ n) (hn : n ≤ 1000) :
    Calls Try.prog 45 #[.slice (some ⟨g, 0, none⟩) n c, .int .i64 (a : Int), .int .i64 (m : Int), .int .i64 (b : Int), f] w (RowOut w B g n c fun es => es.length = ds.length ∧ ∀ u, dem es u = rotf (dem ds) a m b u) := by
  have hcap := h.cap
  have hlen : ds.length = n := by have := h.len; rw [flatD_len] at this; omega
  go_enter Try.func45, Try.ntmps45
  go_wp2
  go_loopw [10, 11] (fun p q wr => ∃ (i j : Nat) (es : List Dem), 0 < i ∧ 0 < j ∧ a + i ≤ m ∧ m + j ≤ b ∧ p = .int .i64 i ∧ q = .int .i64 j ∧ OwnF 38 3 wr B (some ⟨g, 0, none⟩) n c (flatD es) ∧ Hid (es.length = ds.length ∧ ∀ u, rotf (dem es) (m - i) m (m + j) u = rotf (dem ds) a m b u) ∧ w.grownBy wr (some g)) (fun p q _ => (intOf p).toNat + (intOf q).toNat)
  case atStart => exact ⟨m - a, b - m, ds, by omega, by omega, by omega, by omega, by go_num, by go_num, h, hide ⟨rfl, fun u => by rw [show m - (m - a) = a by omega, show m + (b - m) = b by omega]⟩, grown_refl _ _⟩
  case round =>
    obtain ⟨i, j, es, hi0, hj0, him, hjb, rfl, rfl, hown, hes, hgr⟩ := hrel
    have hel : es.length = n := hes.out.1.trans hlen
    have e1 : ((m - i : Nat) : Int) = (m : Int) - i := by omega
    have HO := hide hown
    have HG := hide hgr
    clear hown hgr
    rcases Nat.lt_trichotomy i j with hij | hij | hij
    · have e2 : ((m + j - i : Nat) : Int) = (m : Int) + j - i := by omega
      go_wp2_with (go_at_call 48; have hc := swapRange_any B g n c (m - i) (m + j - i) i f es _ HO.out (by omega) (by omega) hn; rw [e1, e2] at hc; refine hc.mono ?_; rintro e w2 ⟨rfl, fs, O2, F2, G2⟩)
      exact ⟨⟨i, j - i, fs, by omega, by omega, by omega, by omega, rfl, by go_num, O2, hide ⟨F2.1.trans hes.out.1, fun u => by rw [← hes.out.2 u, rot_right (by omega) hij u, show dem fs = swapf (dem es) (m - i) (m + j - i) i from funext F2.2]⟩, grown_trans HG.out G2⟩, by simp [intOf]; omega⟩
    · subst hij
      go_wp2_with (go_at_call 48; have hc := swapRange_any B g n c (m - i) m i f es _ HO.out (by omega) (by omega) hn; rw [e1] at hc; refine hc.mono ?_; rintro e w2 ⟨rfl, fs, O2, F2, G2⟩)
      go_end0
      exact ⟨rfl, fs, O2, ⟨F2.1.trans hes.out.1, fun u => by rw [F2.2 u, rot_done (by omega), hes.out.2 u]⟩, grown_trans HG.out G2⟩
    · go_wp2_with (go_at_call 48; have hc := swapRange_any B g n c (m - i) m j f es _ HO.out (by omega) (by omega) hn; rw [e1] at hc; refine hc.mono ?_; rintro e w2 ⟨rfl, fs, O2, F2, G2⟩)
      exact ⟨⟨i - j, j, fs, by omega, by omega, by omega, by omega, by go_num, rfl, O2, hide ⟨F2.1.trans hes.out.1, fun u => by rw [← hes.out.2 u, rot_left (by omega) hij u, show dem fs = swapf (dem es) (m - i) m j from funext F2.2]⟩, grown_trans HG.out G2⟩, by simp [intOf]; omega⟩
end Go.Proofs.Ytcbejjkbjompfaa
