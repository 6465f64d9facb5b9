/- Sorting demands in place: plain facts, the comparison, the copy, the insertion sort. -/
import Derived.Test.YtcbejjkbjompfaaPlanMath
import Derived.Deep.RegionWith
import Derived.IntWalk
import Derived.Deep.RegionHeld3
namespace Go.Proofs.Ytcbejjkbjompfaa
open Go.RowKit
set_option linter.unusedVariables false
set_option linter.unusedSimpArgs false

theorem grown_drewS {w w' : World} {r : Option Nat} (h : w.grownBy w' r) : w.grownBy w'.drew r := ⟨h.os, h.tape, h.output, h.size, h.block⟩
/-! plain -/
def swp (ds : List Dem) (i j : Nat) : List Dem := (ds.set i (dem ds j)).set j (dem ds i)
theorem swp_len (ds : List Dem) (i j : Nat) : (swp ds i j).length = ds.length := by simp [swp]
theorem dem_set {ds : List Dem} {i u : Nat} (d : Dem) (h : i < ds.length) : dem (ds.set i d) u = if u = i then d else dem ds u := by
  by_cases e : u = i
  · subst e
    rw [if_pos rfl, dem_eq (by simpa using h)]
    simp
  · rw [if_neg e]
    simp [dem, List.getElem?_set, Ne.symm e]
theorem dem_swp {ds : List Dem} {i j u : Nat} (hi : i < ds.length) (hj : j < ds.length) : dem (swp ds i j) u = if u = j then dem ds i else if u = i then dem ds j else dem ds u := by
  rw [swp, dem_set _ (by simpa using hj), dem_set _ hi]
theorem fev_swap : ∀ {ds : List Dem} {i : Nat}, i + 1 < ds.length → (dem ds (i + 1)).ev ≠ (dem ds i).ev → ∀ v, fevD (swp ds i (i + 1)) v = fevD ds v
  | [], i, h, _, _ => by simp at h
  | [x], i, h, _, _ => by simp at h
  | x :: y :: t, 0, _, hne, v => by
    have e : swp (x :: y :: t) 0 1 = y :: x :: t := rfl
    rw [e]
    simp only [fevD, List.filter_cons]
    have hne' : y.ev ≠ x.ev := hne
    by_cases h1 : x.ev = v <;> by_cases h2 : y.ev = v <;> simp [h1, h2]
    exact absurd (h2.trans h1.symm) hne'
  | x :: t, i + 1, h, hne, v => by
    have e : swp (x :: t) (i + 1) (i + 1 + 1) = x :: swp t i (i + 1) := rfl
    have ih := fev_swap (ds := t) (i := i) (by simpa using h) hne v
    rw [e]
    simp only [fevD, List.filter_cons] at ih ⊢
    rw [ih]
theorem mem_swp {ds : List Dem} {i j : Nat} (hi : i < ds.length) (hj : j < ds.length) {d : Dem} (h : d ∈ swp ds i j) : d ∈ ds := by
  rcases List.mem_or_eq_of_mem_set h with h | rfl
  · rcases List.mem_or_eq_of_mem_set h with h | rfl
    · exact h
    · exact dem_mem hj
  · exact dem_mem hi
/-- a list put in another order from a to b, elements of one Every in the order they had -/
structure SP (a b : Nat) (ds es : List Dem) : Prop where
  len : es.length = ds.length
  fev : ∀ v, fevD es v = fevD ds v
  out : ∀ j, (j < a ∨ b ≤ j) → dem es j = dem ds j
  mem : ∀ d ∈ es, d ∈ ds
  rng : ∀ j, a ≤ j → j < b → ∃ i, a ≤ i ∧ i < b ∧ dem es j = dem ds i
def Srt (a b : Nat) (ds : List Dem) : Prop := ∀ u v, a ≤ u → u < v → v < b → (dem ds u).ev ≤ (dem ds v).ev
theorem SP.refl (a b : Nat) (ds : List Dem) : SP a b ds ds := ⟨rfl, fun _ => rfl, fun _ _ => rfl, fun _ h => h, fun j h1 h2 => ⟨j, h1, h2, rfl⟩⟩
theorem SP.trans {a b : Nat} {x y z : List Dem} (h : SP a b x y) (k : SP a b y z) : SP a b x z :=
  ⟨k.len.trans h.len, fun v => (k.fev v).trans (h.fev v), fun j hj => (k.out j hj).trans (h.out j hj), fun d hd => h.mem d (k.mem d hd), fun j h1 h2 => by
    obtain ⟨i, h3, h4, h5⟩ := k.rng j h1 h2
    obtain ⟨i', h6, h7, h8⟩ := h.rng i h3 h4
    exact ⟨i', h6, h7, h5.trans h8⟩⟩
theorem SP.mono {a b a' b' : Nat} {x y : List Dem} (h : SP a b x y) (ha : a' ≤ a) (hb : b ≤ b') : SP a' b' x y := ⟨h.len, h.fev, fun j hj => h.out j (by omega), h.mem, fun j h1 h2 => by
    by_cases hj : a ≤ j ∧ j < b
    · obtain ⟨i, h3, h4, h5⟩ := h.rng j hj.1 hj.2
      exact ⟨i, by omega, by omega, h5⟩
    · exact ⟨j, h1, h2, h.out j (by omega)⟩⟩
theorem SP.swap {a b i : Nat} {ds : List Dem} (h1 : a ≤ i) (h2 : i + 1 < b) (hb : b ≤ ds.length) (hne : (dem ds (i + 1)).ev ≠ (dem ds i).ev) : SP a b ds (swp ds i (i + 1)) :=
  ⟨swp_len _ _ _, fev_swap (by omega) hne, fun j hj => by rw [dem_swp (by omega) (by omega), if_neg (by omega), if_neg (by omega)], fun d hd => mem_swp (by omega) (by omega) hd, fun j h3 h4 => by
    rw [dem_swp (by omega) (by omega)]
    by_cases e : j = i + 1
    · exact ⟨i, h1, by omega, by rw [if_pos e]⟩
    · rw [if_neg e]
      by_cases e2 : j = i
      · exact ⟨i + 1, by omega, h2, by rw [if_pos e2]⟩
      · exact ⟨j, h3, h4, by rw [if_neg e2]⟩⟩
theorem flatD_set (ds : List Dem) (i : Nat) (d : Dem) : flatD (ds.set i d) = (((flatD ds).set (i * 3) d.nd).set (i * 3 + 1) d.ev).set (i * 3 + 2) d.sz := by
  induction ds generalizing i with
  | nil => rfl
  | cons x ds ih =>
    cases i with
    | zero => rfl
    | succ i =>
      rw [List.set_cons_succ, flatD_cons, flatD_cons, ih, show (i + 1) * 3 = i * 3 + 1 + 1 + 1 by omega]
      rfl
theorem OwnF.put3 {w : World} {B b n c : Nat} {ds : List Dem} (h : OwnF 38 3 w B (some ⟨b, 0, none⟩) n c (flatD ds)) (i : Nat) (d : Dem) (hd : I64 [d.nd, d.ev, d.sz]) :
    OwnF 38 3 (((w.setCell ⟨b, i * 3, none⟩ (.int .i64 d.nd)).setCell ⟨b, i * 3 + 1, none⟩ (.int .i64 d.ev)).setCell ⟨b, i * 3 + 2, none⟩ (.int .i64 d.sz)) B (some ⟨b, 0, none⟩) n c (flatD (ds.set i d)) ∧
    w.grownBy (((w.setCell ⟨b, i * 3, none⟩ (.int .i64 d.nd)).setCell ⟨b, i * 3 + 1, none⟩ (.int .i64 d.ev)).setCell ⟨b, i * 3 + 2, none⟩ (.int .i64 d.sz)) (some b) := by
  have i0 := hd d.nd (by simp)
  have i1 := hd d.ev (by simp)
  have i2 := hd d.sz (by simp)
  have h0 := h.1.stored (i * 3) (.int .i64 d.nd)
  have g0 := h0.2
  rw [ints_set] at h0
  have h1 := h0.1.stored (i * 3 + 1) (.int .i64 d.ev)
  have g1 := h1.2
  rw [ints_set] at h1
  have h2 := h1.1.stored (i * 3 + 2) (.int .i64 d.sz)
  have g2 := h2.2
  rw [ints_set] at h2
  rw [flatD_set]
  exact ⟨⟨h2.1, ((h.2.set _ i0.1 i0.2).set _ i1.1 i1.2).set _ i2.1 i2.2⟩, grown_trans (grown_trans g0 g1) g2⟩
theorem swp_comm {ds : List Dem} {i j : Nat} (h : i ≠ j) : (ds.set j (dem ds i)).set i (dem ds j) = swp ds i j := by
  rw [swp, List.set_comm _ _ h]
theorem I64_dem {ds : List Dem} {k : Nat} (h : I64 (flatD ds)) (hk : k < ds.length) : I64 [(dem ds k).nd, (dem ds k).ev, (dem ds k).sz] := fun z hz =>
  h z (List.mem_flatMap.2 ⟨_, dem_mem hk, hz⟩)
/-- between a and k all is sorted but that the element at j may stand too far right -/
def InsI (a j k : Nat) (fs : List Dem) : Prop :=
  (∀ u v, a ≤ u → u < v → v ≤ k → u ≠ j → v ≠ j → (dem fs u).ev ≤ (dem fs v).ev) ∧ ∀ v, j < v → v ≤ k → (dem fs j).ev ≤ (dem fs v).ev
theorem ins_end {a j k : Nat} {fs : List Dem} (h : InsI a j k fs) (haj : a ≤ j) (hjk : j ≤ k) (he : j = a ∨ (a < j ∧ (dem fs (j - 1)).ev ≤ (dem fs j).ev)) : Srt a (k + 1) fs := fun u v h1 h2 h3 => by
  by_cases eu : u = j
  · subst eu
    exact h.2 v h2 (by omega)
  · by_cases ev : v = j
    · subst ev
      rcases he with rfl | ⟨h4, h5⟩
      · omega
      · by_cases e : u = v - 1
        · rw [e]; exact h5
        · exact Int.le_trans (h.1 u (v - 1) h1 (by omega) (by omega) eu (by omega)) h5
    · exact h.1 u v h1 h2 (by omega) eu ev
theorem ins_step {a i k : Nat} {fs : List Dem} (h : InsI a (i + 1) k fs) (hai : a ≤ i) (hik : i + 1 ≤ k) (hk : k < fs.length) (hlt : (dem fs (i + 1)).ev < (dem fs i).ev) : InsI a i k (swp fs i (i + 1)) := by
  have e : ∀ u, dem (swp fs i (i + 1)) u = if u = i + 1 then dem fs i else if u = i then dem fs (i + 1) else dem fs u := fun u => dem_swp (by omega) (by omega)
  constructor
  · intro u v h1 h2 h3 h4 h5
    rw [e u, e v, if_neg h4, if_neg h5]
    by_cases e1 : u = i + 1
    · rw [if_pos e1, if_neg (by omega)]
      exact h.1 i v (by omega) (by omega) h3 (by omega) (by omega)
    · rw [if_neg e1]
      by_cases e2 : v = i + 1
      · rw [if_pos e2]
        exact h.1 u i h1 (by omega) (by omega) (by omega) (by omega)
      · rw [if_neg e2]
        exact h.1 u v h1 h2 h3 e1 e2
  · intro v h1 h2
    rw [e i, e v, if_neg (by omega), if_pos rfl]
    by_cases e2 : v = i + 1
    · rw [if_pos e2]; omega
    · rw [if_neg e2, if_neg (by omega)]
      exact h.2 v (by omega) h2
theorem OwnF.swap1 {w : World} {B b n c i j : Nat} {ds : List Dem} (h : OwnF 38 3 w B (some ⟨b, 0, none⟩) n c (flatD ds)) (hi : i < ds.length) (hj : j < ds.length) (hij : i ≠ j) {x y : Dem} (hx : x = dem ds j) (hy : y = dem ds i) :
    let w' := ((((((w.setCell ⟨b, j * 3, none⟩ (.int .i64 y.nd)).setCell ⟨b, j * 3 + 1, none⟩ (.int .i64 y.ev)).setCell ⟨b, j * 3 + 2, none⟩ (.int .i64 y.sz)).setCell ⟨b, i * 3, none⟩ (.int .i64 x.nd)).setCell ⟨b, i * 3 + 1, none⟩ (.int .i64 x.ev)).setCell ⟨b, i * 3 + 2, none⟩ (.int .i64 x.sz))
    OwnF 38 3 w' B (some ⟨b, 0, none⟩) n c (flatD (swp ds i j)) ∧ w.grownBy w' (some b) := by
  subst hx hy
  have h1 := h.put3 j _ (I64_dem h.i64 hi)
  have h2 := h1.1.put3 i _ (I64_dem h.i64 hj)
  rw [swp_comm hij] at h2
  exact ⟨h2.1, grown_trans h1.2 h2.2⟩
theorem OwnF.swap2 {w : World} {B b n c i j : Nat} {ds : List Dem} (h : OwnF 38 3 w B (some ⟨b, 0, none⟩) n c (flatD ds)) (hi : i < ds.length) (hj : j < ds.length) {x y : Dem} (hx : x = dem ds j) (hy : y = dem ds i) :
    let w' := ((((((w.setCell ⟨b, i * 3, none⟩ (.int .i64 x.nd)).setCell ⟨b, i * 3 + 1, none⟩ (.int .i64 x.ev)).setCell ⟨b, i * 3 + 2, none⟩ (.int .i64 x.sz)).setCell ⟨b, j * 3, none⟩ (.int .i64 y.nd)).setCell ⟨b, j * 3 + 1, none⟩ (.int .i64 y.ev)).setCell ⟨b, j * 3 + 2, none⟩ (.int .i64 y.sz))
    OwnF 38 3 w' B (some ⟨b, 0, none⟩) n c (flatD (swp ds i j)) ∧ w.grownBy w' (some b) := by
  subst hx hy
  have h1 := h.put3 i _ (I64_dem h.i64 hj)
  have h2 := h1.1.put3 j _ (I64_dem h.i64 hi)
  exact ⟨h2.1, grown_trans h1.2 h2.2⟩
/-- each Every is small -/
def Sml (ds : List Dem) : Prop := ∀ d ∈ ds, 1 ≤ d.ev ∧ d.ev ≤ 8
theorem are_sml {ds : List Dem} (ha : areB ds = true) : Sml ds := fun d hd => by
  have := are_ev4 ha d hd
  unfold ev4 at this
  omega
theorem Sml.sp {a b : Nat} {x y : List Dem} (h : Sml x) (k : SP a b x y) : Sml y := fun d hd => h d (k.mem d hd)
theorem cmp_any (x y : Dem) (w : World) (hx : 1 ≤ x.ev ∧ x.ev ≤ 8) (hy : 1 ≤ y.ev ∧ y.ev ≤ 8) :
    Calls Try.prog 24 #[.agg #[.int .i64 x.nd, .int .i64 x.ev, .int .i64 x.sz], .agg #[.int .i64 y.nd, .int .i64 y.ev, .int .i64 y.sz]] w fun e w' => e = .returned (.int .i64 (x.ev - y.ev)) ∧ Below w.heap.size w w' := by
  go_enter Try.func24, Try.ntmps24
  go_wp2
  go_ret
  exact ⟨rfl, by (repeat (first | exact Below.refl _ _ | (refine Below.alloc ?_ (by simp <;> omega) _) | (refine Below.setCell ?_ (by simp <;> omega) _)))⟩
theorem hOb {T : TypeId} {k : Nat} {w : World} {B g n c : Nat} {vs : List Int} (h : OwnF T k w B (some ⟨g, 0, none⟩) n c vs) : g < w.heap.size := by
  rcases h.form with ⟨h0, _⟩ | ⟨g', hA, _, hl⟩
  · cases h0
  · simp at hA; omega
theorem below_drewS2 {B : Nat} {a w : World} (h : Below B a.drew w) : Below B a w := ⟨h.os, h.tape, h.output, h.size, h.block⟩
def SortOut (w : World) (B g n c a b : Nat) (ds : List Dem) (x : Ending) (w' : World) : Prop :=
  x = .returned (.tuple #[]) ∧ ∃ es, OwnF 38 3 w' B (some ⟨g, 0, none⟩) n c (flatD es) ∧ SP a b ds es ∧ Srt a b es ∧ w.grownBy w' (some g)
set_option maxHeartbeats 6400000 in
set_option maxRecDepth 100000 in
theorem insertion_any (B g n c a b : Nat) (ds : List Dem) (w : World) (h : OwnF 38 3 w B (some ⟨g, 0, none⟩) n c (flatD ds)) (hs : Sml ds) (hab : a < b) (hbn : b ≤ n) (hn : n ≤ 1000) :
    Calls Try.prog 42 #[.slice (some ⟨g, 0, none⟩) n c, .int .i64 (a : Int), .int .i64 (b : Int), .func (.func 24) #[] #[]] w (SortOut w B g n c a b ds) := by
  have hcap := h.cap
  have hlen : ds.length = n := by have := h.len; rw [flatD_len] at this; omega
  go_enter Try.func42, Try.ntmps42
  go_wp2
  go_loopw [8] (fun i wr => ∃ (k : Nat) (es : List Dem), a < k ∧ k ≤ b ∧ i = .int .i64 k ∧ OwnF 38 3 wr B (some ⟨g, 0, none⟩) n c (flatD es) ∧ Hid (SP a b ds es) ∧ Hid (Srt a k es) ∧ w.grownBy wr (some g)) (fun i _ => b - (intOf i).toNat)
  case atStart => exact ⟨a + 1, ds, by omega, by omega, by go_num, h, SP.refl _ _ _, hide (fun u v h1 h2 h3 => by omega), grown_refl _ _⟩
  case round =>
    obtain ⟨k, es, hak, hkb, rfl, hown, hsp, hsrt, hgr⟩ := hrel
    by_cases hlt : k < b
    · go_wp2
      go_loopw [9] (fun i wr => ∃ (j : Nat) (fs : List Dem), a ≤ j ∧ j ≤ k ∧ i = .int .i64 j ∧ OwnF 38 3 wr B (some ⟨g, 0, none⟩) n c (flatD fs) ∧ Hid (SP a b ds fs) ∧ Hid (InsI a j k fs) ∧ w.grownBy wr (some g)) (fun i _ => (intOf i).toNat)
      case atStart => exact ⟨k, es, by omega, by omega, rfl, hown, hsp, hide ⟨fun u v h1 h2 h3 _ h5 => hsrt.out u v h1 h2 (by omega), fun v h1 h2 => by omega⟩, hgr⟩
      case round =>
        obtain ⟨j, fs, haj, hjk, rfl, hown2, hsp2, hinv, hgr2⟩ := hrel
        have hfl : fs.length = n := by rw [hsp2.out.len]; exact hlen
        by_cases hja : a < j
        · obtain ⟨i, hij⟩ : ∃ i, i + 1 = j := ⟨j - 1, by omega⟩
          obtain ⟨x, hx⟩ : ∃ x, x = dem fs j := ⟨_, rfl⟩
          obtain ⟨y, hy⟩ : ∃ y, y = dem fs i := ⟨_, rfl⟩
          have sx := hs.sp hsp2.out x (by rw [hx]; exact dem_mem (by omega))
          have sy := hs.sp hsp2.out y (by rw [hy]; exact dem_mem (by omega))
          obtain ⟨n0, n1, n2⟩ := nth_flatD fs (k := j) (by omega)
          obtain ⟨m0, m1, m2⟩ := nth_flatD fs (k := i) (by omega)
          have c0 := hown2.cell (j := j * 3) (by omega)
          have c1 := hown2.cell (j := j * 3 + 1) (by omega)
          have c2 := hown2.cell (j := j * 3 + 2) (by omega)
          have d0 := hown2.cell (j := i * 3) (by omega)
          have d1 := hown2.cell (j := i * 3 + 1) (by omega)
          have d2 := hown2.cell (j := i * 3 + 2) (by omega)
          rw [n0, ← hx] at c0
          rw [n1, ← hx] at c1
          rw [n2, ← hx] at c2
          rw [m0, ← hy] at d0
          rw [m1, ← hy] at d1
          rw [m2, ← hy] at d2
          clear n0 n1 n2 m0 m1 m2
          have z1 : (0 : Int) ≤ (i : Int) := by omega
          have z2 : (i : Int) < (n : Int) := by omega
          have z3 : (0 : Int) ≤ (j : Int) := by omega
          have z4 : (j : Int) < (n : Int) := by omega
          have tw : IntKind.i64.wrap ((j : Int) - 1) = (i : Int) := by
            rw [IntWalk.i64_in _ ⟨by omega, by omega⟩]; omega
          have HX := hide hx
          have HY := hide hy
          have HO := hide hown2
          have HG := hide hgr2
          have HIJ := hide hij
          have gb := (hOb hown2)
          have tg : decide ((a : Int) < (j : Int)) = true := decide_eq_true (by omega)
          have tg2 : (a : Int) < (j : Int) := by omega
          clear hx hy hown2 hgr2 hij
          go_wp2_with fail
          go_region_held3 (fun w' => w'.cell? ⟨g, j * 3, none⟩ = some (.int .i64 x.nd) ∧ w'.cell? ⟨g, j * 3 + 1, none⟩ = some (.int .i64 x.ev) ∧ w'.cell? ⟨g, j * 3 + 2, none⟩ = some (.int .i64 x.sz) ∧ w'.cell? ⟨g, i * 3, none⟩ = some (.int .i64 y.nd) ∧ w'.cell? ⟨g, i * 3 + 1, none⟩ = some (.int .i64 y.ev) ∧ w'.cell? ⟨g, i * 3 + 2, none⟩ = some (.int .i64 y.sz)) (go_keep) ((go_at_call 24; (with_reducible refine (cmp_any x y _ sx sy).mono ?_); rintro e w2 ⟨rfl, b2'⟩; have b2 := below_drewS2 b2'; have e0 := (b2.cell (p := ⟨g, j * 3, none⟩) gb).trans c0; have e1 := (b2.cell (p := ⟨g, j * 3 + 1, none⟩) gb).trans c1; have e2 := (b2.cell (p := ⟨g, j * 3 + 2, none⟩) gb).trans c2; have f0 := (b2.cell (p := ⟨g, i * 3, none⟩) gb).trans d0; have f1 := (b2.cell (p := ⟨g, i * 3 + 1, none⟩) gb).trans d1; have f2 := (b2.cell (p := ⟨g, i * 3 + 2, none⟩) gb).trans d2; have O2 := HO.out.below b2; have q0 := O2.frozen (j * 3); have q1 := O2.frozen (j * 3 + 1); have q2 := O2.frozen (j * 3 + 2); have r0 := O2.frozen (i * 3); have r1 := O2.frozen (i * 3 + 1); have r2 := O2.frozen (i * 3 + 2); have HO2 := hide O2; have HG2 := hide (grown_trans HG.out (grownBy_of_below b2 (some g))); clear b2 b2' O2))
          have hfl2 : i < fs.length ∧ j < fs.length := by omega
          have hij2 : i ≠ j := by have := HIJ.out; omega
          by_cases hc : x.ev - y.ev < 0
          · have tc : decide (x.ev - y.ev < 0) = true := decide_eq_true hc
            simp only [tc]
            go_wp2_with fail
            go_region
            all_goals go_wp2
            obtain ⟨O3, G3⟩ := HO2.out.swap1 hfl2.1 hfl2.2 hij2 HX.out HY.out
            have hlt2 : (dem fs (i + 1)).ev < (dem fs i).ev := by
              rw [HIJ.out, ← HX.out, ← HY.out]; omega
            have hI := hinv.out
            rw [← HIJ.out] at hI
            have es3 : swp fs i j = swp fs i (i + 1) := by rw [HIJ.out]
            rw [es3] at O3
            have hsw : SP a b fs (swp fs i (i + 1)) := SP.swap (by have := HIJ.out; omega) (by have := HIJ.out; omega) (by omega) (by omega)
            exact ⟨⟨i, swp fs i (i + 1), by have := HIJ.out; omega, by have := HIJ.out; omega, rfl, O3.drew, hide (hsp2.out.trans hsw), hide (ins_step hI (by have := HIJ.out; omega) (by have := HIJ.out; omega) (by omega) hlt2), grown_drewS (grown_trans HG2.out G3)⟩, by simp [intOf]; have := HIJ.out; omega⟩
          · have tc : decide (x.ev - y.ev < 0) = false := decide_eq_false hc
            simp only [tc]
            go_wp2
            refine ⟨⟨k + 1, fs, by omega, by omega, by go_num, HO2.out, hsp2, hide (ins_end hinv.out haj hjk (.inr ⟨hja, ?_⟩)), HG2.out⟩, by simp [intOf]; omega⟩
            have e1 := HX.out
            have e2 := HY.out
            have e3 : j - 1 = i := by have := HIJ.out; omega
            rw [e3, ← e1, ← e2]
            omega
        · obtain rfl : j = a := by omega
          have tg : decide ((j : Int) < (j : Int)) = false := decide_eq_false (by omega)
          have HO := hide hown2
          have HG := hide hgr2
          clear hown2 hgr2
          go_wp2_with fail
          go_region
          all_goals go_wp2
          all_goals exact ⟨⟨k + 1, fs, by omega, by omega, by go_num, HO.out.drew, hsp2, hide (ins_end hinv.out haj hjk (.inl rfl)), grown_drewS HG.out⟩, by simp [intOf]; omega⟩
    · obtain rfl : k = b := by omega
      go_wp2
      go_end0
      exact ⟨rfl, es, hown, hsp.out, hsrt.out, hgr⟩
set_option maxRecDepth 100000 in
theorem insertion_none (B g n c a : Nat) (A : Option Addr) (ds : List Dem) (w : World) (ha : a ≤ 1000) :
    Calls Try.prog 42 #[.slice A n c, .int .i64 (a : Int), .int .i64 (a : Int), .func (.func 24) #[] #[]] w (fun x w' => x = .returned (.tuple #[]) ∧ w' = w) := by
  go_enter Try.func42, Try.ntmps42
  go_wp2
  go_loopw [8] (fun i wr => i = .int .i64 ((a : Int) + 1) ∧ wr = w) (fun i _ => 0)
  case atStart => exact ⟨rfl, rfl⟩
  case round =>
    obtain ⟨rfl, rfl⟩ := hrel
    go_wp2
    go_end0
    exact ⟨rfl, rfl⟩
end Go.Proofs.Ytcbejjkbjompfaa
