/- Words for memory: a slice of records of k int64 fields that reads as a flat list; one that the call itself owns. -/
import Derived.Test.YtcbejjkbjompfaaAppend
import Derived.Test.YtcbejjkbjompfaaRepeat
namespace Go.Proofs.Ytcbejjkbjompfaa
open Go.RowKit
set_option linter.unusedVariables false
set_option linter.unusedSimpArgs false

/-- The slice value '.slice A n c' of records of k fields reads as the flat list vs. -/
def RdF (k : Nat) (w : World) (A : Option Addr) (n c : Nat) (vs : List Int) : Prop :=
  vs.length = n * k ∧ n ≤ c ∧ c ≤ maxLen ∧ (I64 vs ∧ (A = none → c = 0)) ∧
    (0 < n → ∃ b off, A = some ⟨b, off, none⟩ ∧ b < w.heap.size ∧ ∀ j, j < n * k → w.cell? ⟨b, off + j, none⟩ = some (.int .i64 (nth vs j)))
/-- '.slice A n c' is nil or a row of the call's own (from block B on) of records of type T. -/
def OwnF (T : TypeId) (k : Nat) (w : World) (B : Nat) (A : Option Addr) (n c : Nat) (vs : List Int) : Prop :=
  w.ownsRow B T k (.slice A n c) n (ints vs) ∧ I64 vs
section
variable {T : TypeId} {k : Nat} {w w' : World} {A : Option Addr} {n c : Nat} {vs : List Int}
theorem RdF.len (h : RdF k w A n c vs) : vs.length = n * k := h.1
theorem RdF.cap (h : RdF k w A n c vs) : n ≤ c ∧ c ≤ 9223372036854775807 := ⟨h.2.1, h.2.2.1⟩
theorem RdF.i64 (h : RdF k w A n c vs) : I64 vs := h.2.2.2.1.1
theorem RdF.none0 (h : RdF k w A n c vs) : A = none → c = 0 := h.2.2.2.1.2
theorem RdF.at_ (h : RdF k w A n c vs) (hn : 0 < n) : ∃ b off, A = some ⟨b, off, none⟩ ∧ b < w.heap.size ∧ ∀ j, j < n * k → w.cell? ⟨b, off + j, none⟩ = some (.int .i64 (nth vs j)) := h.2.2.2.2 hn
theorem RdF.below (h : RdF k w A n c vs) (hb : Below w.heap.size w w') : RdF k w' A n c vs := by
  refine ⟨h.1, h.2.1, h.2.2.1, h.2.2.2.1, fun hn => ?_⟩
  obtain ⟨b, off, hA, hl, hc⟩ := h.at_ hn
  exact ⟨b, off, hA, Nat.lt_of_lt_of_le hl hb.size, fun j hj => (hb.cell (p := ⟨b, off + j, none⟩) hl).trans (hc j hj)⟩
theorem RdF.drew (h : RdF k w A n c vs) : RdF k w.drew A n c vs := h
theorem RdF.drewN (h : RdF k w A n c vs) (m : Nat) : RdF k (w.drewN m) A n c vs := h
theorem RdF.nil (w : World) : RdF k w none 0 0 [] := ⟨by simp, Nat.le_refl _, by simp [maxLen], ⟨I64.nil, fun _ => rfl⟩, fun h => absurd h (by omega)⟩
theorem OwnF.len {B : Nat} (h : OwnF T k w B A n c vs) : vs.length = n * k := by
  have := h.1.1
  rwa [ints_length] at this
theorem OwnF.cap {B : Nat} (h : OwnF T k w B A n c vs) : n ≤ c ∧ c ≤ 9223372036854775807 := by
  rcases h.1.2 with ⟨hv, hn⟩ | ⟨g, cap, cur, hv, _, _, hnc, hm, _⟩
  · simp at hv
    omega
  · simp at hv
    obtain ⟨_, rfl⟩ := hv
    exact ⟨hnc, hm⟩
theorem OwnF.form {B : Nat} (h : OwnF T k w B A n c vs) : (A = none ∧ n = 0 ∧ c = 0 ∧ vs = []) ∨ ∃ g, A = some ⟨g, 0, none⟩ ∧ B ≤ g ∧ g < w.heap.size := by
  rcases h.1.2 with ⟨hv, hn⟩ | ⟨g, cap, cur, hv, hg, hh, _⟩
  · left
    simp at hv
    refine ⟨hv.1, hn, hv.2.2, ?_⟩
    exact List.eq_nil_of_length_eq_zero (by rw [h.len, hn]; simp)
  · right
    simp at hv
    exact ⟨g, hv.1, hg, (Array.getElem?_eq_some_iff.1 hh).1⟩
theorem OwnF.nil (w : World) (B : Nat) : OwnF T k w B none 0 0 [] := ⟨World.ownsRow_nil _ _ _ _, I64.nil⟩
theorem OwnF.mono {B B' : Nat} (h : OwnF T k w B A n c vs) (hB : B' ≤ B) : OwnF T k w B' A n c vs := by
  refine ⟨⟨h.1.1, ?_⟩, h.2⟩
  rcases h.1.2 with h1 | ⟨g, cap, cur, hv, hg, r⟩
  · exact .inl h1
  · exact .inr ⟨g, cap, cur, hv, by omega, r⟩
theorem OwnF.keepG {B : Nat} {row : Option Nat} (h : OwnF T k w B A n c vs) (hg : w.grownBy w' row) (hne : (Value.slice A n c).ownBlock = none ∨ (Value.slice A n c).ownBlock ≠ row) : OwnF T k w' B A n c vs :=
  ⟨h.1.kept hg hne, h.2⟩
theorem OwnF.below {B : Nat} (h : OwnF T k w B A n c vs) (hb : Below w.heap.size w w') : OwnF T k w' B A n c vs := by
  by_cases hA : (Value.slice A n c).ownBlock = none
  · exact h.keepG (grownBy_of_below hb none) (.inl hA)
  · exact h.keepG (grownBy_of_below hb none) (.inr hA)
theorem OwnF.drew {B : Nat} (h : OwnF T k w B A n c vs) : OwnF T k w.drew B A n c vs := h
theorem OwnF.drewN {B : Nat} (h : OwnF T k w B A n c vs) (m : Nat) : OwnF T k (w.drewN m) B A n c vs := h
theorem OwnF.alloc {B : Nat} (h : OwnF T k w B A n c vs) (o : Obj) : OwnF T k (w.alloc o) B A n c vs := ⟨h.1.alloc o, h.2⟩
theorem OwnF.cell {B g : Nat} (h : OwnF T k w B (some ⟨g, 0, none⟩) n c vs) {j : Nat} (hj : j < n * k) : w.cell? ⟨g, j, none⟩ = some (.int .i64 (nth vs j)) := by
  rw [h.1.cellAt j hj, ints_get vs j (by rw [h.len]; exact hj)]
theorem OwnF.frozen {B g : Nat} (h : OwnF T k w B (some ⟨g, 0, none⟩) n c vs) (j : Nat) : w.frozen? ⟨g, j, none⟩ = false := h.1.frozenAt j
theorem OwnF.rd {B : Nat} (h : OwnF T k w B A n c vs) : RdF k w A n c vs := by
  refine ⟨h.len, h.cap.1, h.cap.2, ⟨h.2, fun e => ?_⟩, fun hn => ?_⟩
  · rcases h.form with ⟨_, _, h3, _⟩ | ⟨g, h3, _⟩
    · exact h3
    · rw [h3] at e; cases e
  rcases h.form with ⟨_, h0, _⟩ | ⟨g, hA, _, hl⟩
  · omega
  · subst hA
    exact ⟨g, 0, rfl, hl, fun j hj => by rw [Nat.zero_add]; exact h.cell hj⟩
theorem OwnF.ownBlock {B : Nat} (h : OwnF T k w B A n c vs) : (Value.slice A n c).ownBlock = none ∨ ∃ g, (Value.slice A n c).ownBlock = some g ∧ B ≤ g ∧ g < w.heap.size := by
  rcases h.form with ⟨rfl, _⟩ | ⟨g, rfl, h1, h2⟩
  · left; rfl
  · right; exact ⟨g, rfl, h1, h2⟩
theorem OwnF.i64 {B : Nat} (h : OwnF T k w B A n c vs) : I64 vs := h.2
theorem OwnF.empty (w : World) {B : Nat} (hB : B ≤ w.heap.size) : OwnF T k (w.alloc (.cells #[] T)) B (some ⟨w.heap.size, 0, none⟩) 0 0 [] :=
  ⟨World.ownsRow_made (e := T) (size := k) w #[] 0 hB (by simp [maxLen]) (by simp), I64.nil⟩
end

/-! the demands -/
structure Dem where
  nd : Int
  ev : Int
  sz : Int
deriving DecidableEq, Inhabited
def flatD (ds : List Dem) : List Int := ds.flatMap fun d => [d.nd, d.ev, d.sz]
def dem (ds : List Dem) (k : Nat) : Dem := ds.getD k ⟨0, 0, 0⟩
theorem flatD_len (ds : List Dem) : (flatD ds).length = ds.length * 3 := by
  induction ds with
  | nil => rfl
  | cons d ds ih => simp [flatD, List.flatMap_cons] at ih ⊢; omega
theorem flatD_cons (d : Dem) (ds : List Dem) : flatD (d :: ds) = d.nd :: d.ev :: d.sz :: flatD ds := rfl
theorem flatD_append (a b : List Dem) : flatD (a ++ b) = flatD a ++ flatD b := by simp [flatD]
theorem nth_flatD (ds : List Dem) {k : Nat} (hk : k < ds.length) : nth (flatD ds) (k * 3) = (dem ds k).nd ∧ nth (flatD ds) (k * 3 + 1) = (dem ds k).ev ∧ nth (flatD ds) (k * 3 + 2) = (dem ds k).sz := by
  induction ds generalizing k with
  | nil => simp at hk
  | cons d ds ih =>
    cases k with
    | zero => exact ⟨rfl, rfl, rfl⟩
    | succ k =>
      have h := ih (k := k) (by simpa using hk)
      rw [flatD_cons, show (k + 1) * 3 = k * 3 + 1 + 1 + 1 by omega]
      exact h
/-- the three cells of a demand -/
theorem dem_cells {w w' : World} {b off n k : Nat} {ds : List Dem} {B : Nat} (hc : ∀ j, j < n * 3 → w.cell? ⟨b, off + j, none⟩ = some (.int .i64 (nth (flatD ds) j))) (hl : ds.length = n) (hb : Below B w w') (hbB : b < B) (hk : k < n) :
    w'.cell? ⟨b, off + k * 3, none⟩ = some (.int .i64 (dem ds k).nd) ∧ w'.cell? ⟨b, off + k * 3 + 1, none⟩ = some (.int .i64 (dem ds k).ev) ∧ w'.cell? ⟨b, off + k * 3 + 2, none⟩ = some (.int .i64 (dem ds k).sz) := by
  obtain ⟨f0, f1, f2⟩ := nth_flatD ds (k := k) (by omega)
  have c0 := (hb.cell (p := ⟨b, off + k * 3, none⟩) hbB).trans (hc (k * 3) (by omega))
  have c1 := (hb.cell (p := ⟨b, off + (k * 3 + 1), none⟩) hbB).trans (hc (k * 3 + 1) (by omega))
  have c2 := (hb.cell (p := ⟨b, off + (k * 3 + 2), none⟩) hbB).trans (hc (k * 3 + 2) (by omega))
  rw [f0] at c0
  rw [f1] at c1
  rw [f2] at c2
  exact ⟨c0, by rwa [Nat.add_assoc], by rwa [Nat.add_assoc]⟩
def evB (n : Int) : Bool := n == 1 || n == 2 || n == 4 || n == 8
def demB (d : Dem) : Bool := inB 0 31 d.nd && (evB d.ev && inB 1 32 d.sz)
/-- the demands are valid -/
def areB (ds : List Dem) : Bool := ds.all demB && decide (ds.length ≤ 40)
theorem dem_eq {ds : List Dem} {k : Nat} (h : k < ds.length) : dem ds k = ds[k] := by
  rw [dem, List.getD_eq_getElem?_getD, List.getElem?_eq_getElem h]; rfl
theorem dem_mem {ds : List Dem} {k : Nat} (h : k < ds.length) : dem ds k ∈ ds := by rw [dem_eq h]; exact List.getElem_mem h
theorem are_bad {ds : List Dem} {k : Nat} (hk : k < ds.length) (h : demB (dem ds k) = false) : areB ds = false := by
  have : ds.all demB = false := List.all_eq_false.2 ⟨_, dem_mem hk, by simp [h]⟩
  rw [areB, this]; rfl
theorem are_all {ds : List Dem} (h : ∀ j, j < ds.length → demB (dem ds j) = true) : areB ds = decide (ds.length ≤ 40) := by
  have : ds.all demB = true := List.all_eq_true.2 fun d hd => by
    obtain ⟨j, hj, rfl⟩ := List.getElem_of_mem hd
    rw [← dem_eq hj]; exact h j hj
  rw [areB, this]; rfl
theorem demB_parts (d : Dem) : demB d = (inB 0 31 d.nd && (evB d.ev && inB 1 32 d.sz)) := rfl
theorem evB_or (n : Int) : (n == 1 || n == 2 || n == 4 || n == 8) = evB n := rfl
theorem isEvery_any (n : Int) (w : World) : Calls Try.prog 27 #[.int .i64 n] w fun e w' => e = .returned (.bool (evB n)) ∧ w = w' := by
  go_enter Try.func27, Try.ntmps27
  go_wp2
  all_goals go_ret
  all_goals exact ⟨by simp_all [evB], rfl⟩
theorem isNode_any (n : Int) (w : World) : Calls Try.prog 35 #[.int .i64 n] w fun e w' => e = .returned (.bool (inB 0 31 n)) ∧ w = w' := by
  go_enter Try.func35, Try.ntmps35
  go_wp2_with (go_at_call 28; refine (within_any n 0 31 _).mono ?_; rintro e w' ⟨rfl, rfl⟩)
  go_ret
  exact ⟨rfl, rfl⟩
theorem l16Power_any (n : Int) (w : World) : Calls Try.prog 38 #[.int .i64 n] w fun e w' => e = .returned (.bool (evB n)) ∧ w = w' := by
  go_enter Try.func38, Try.ntmps38
  go_wp2
  all_goals go_ret
  all_goals exact ⟨by simp_all [evB], rfl⟩
theorem l05Node_any (n : Int) (w : World) : Calls Try.prog 37 #[.int .i64 n] w fun e w' => e = .returned (.bool (inB 0 31 n)) ∧ w = w' := by
  go_enter Try.func37, Try.ntmps37
  go_wp2_with (go_at_call 39; refine (l01In_any n 0 31 _).mono ?_; rintro e w' ⟨rfl, rfl⟩)
  go_ret
  exact ⟨rfl, rfl⟩
set_option maxHeartbeats 1600000 in
theorem iAreDemands_any (A : Option Addr) (n c : Nat) (ds : List Dem) (w : World) (h : RdF 3 w A n c (flatD ds)) :
    Calls Try.prog 21 #[.slice A n c] w fun e w' => e = .returned (.bool (areB ds)) ∧ Below w.heap.size w w' := by
  have hl : ds.length = n := by have := h.len; rw [flatD_len] at this; omega
  have hcap := h.cap
  go_enter Try.func21, Try.ntmps21
  go_wp2
  go_loopw [7] (fun i wr => ∃ k : Nat, k ≤ n ∧ i = .int .i64 k ∧ Hid (∀ j, j < k → demB (dem ds j) = true) ∧ Below w.heap.size w wr) (fun i _ => n - (intOf i).toNat)
  case atStart => exact ⟨0, by omega, rfl, hide (fun j hj => absurd hj (by omega)), Below.refl _ _⟩
  case round =>
    obtain ⟨k, hk, rfl, hall, hbel⟩ := hrel
    by_cases hlt : k < n
    · obtain ⟨b, off, rfl, hbb, hc⟩ := h.at_ (by omega)
      obtain ⟨c0, c1, c2⟩ := dem_cells hc hl hbel hbb hlt
      have DP := hide (demB_parts (dem ds k))
      clear hc
      cases e1 : inB 0 31 (dem ds k).nd
      · go_wp2_with (first | (go_at_call 35; refine (isNode_any _ _).mono ?_; rintro e w' ⟨rfl, rfl⟩; rw [e1]) | (go_at_call 27; refine (isEvery_any _ _).mono ?_; rintro e w' ⟨rfl, rfl⟩; rw [e2]) | (go_at_call 28; refine (within_any _ _ _ _).mono ?_; rintro e w' ⟨rfl, rfl⟩; rw [e3]))
        go_ret
        exact ⟨by rw [are_bad (k := k) (by omega) (by rw [DP.out, e1]; rfl)]; rfl, hbel.alloc hbel.size _⟩
      cases e2 : evB (dem ds k).ev
      · go_wp2_with (first | (go_at_call 35; refine (isNode_any _ _).mono ?_; rintro e w' ⟨rfl, rfl⟩; rw [e1]) | (go_at_call 27; refine (isEvery_any _ _).mono ?_; rintro e w' ⟨rfl, rfl⟩; rw [e2]) | (go_at_call 28; refine (within_any _ _ _ _).mono ?_; rintro e w' ⟨rfl, rfl⟩; rw [e3]))
        go_ret
        exact ⟨by rw [are_bad (k := k) (by omega) (by rw [DP.out, e1, e2]; rfl)]; rfl, hbel.alloc hbel.size _⟩
      cases e3 : inB 1 32 (dem ds k).sz
      · go_wp2_with (first | (go_at_call 35; refine (isNode_any _ _).mono ?_; rintro e w' ⟨rfl, rfl⟩; rw [e1]) | (go_at_call 27; refine (isEvery_any _ _).mono ?_; rintro e w' ⟨rfl, rfl⟩; rw [e2]) | (go_at_call 28; refine (within_any _ _ _ _).mono ?_; rintro e w' ⟨rfl, rfl⟩; rw [e3]))
        go_ret
        exact ⟨by rw [are_bad (k := k) (by omega) (by rw [DP.out, e1, e2, e3]; rfl)]; rfl, hbel.alloc hbel.size _⟩
      · go_wp2_with (first | (go_at_call 35; refine (isNode_any _ _).mono ?_; rintro e w' ⟨rfl, rfl⟩; rw [e1]) | (go_at_call 27; refine (isEvery_any _ _).mono ?_; rintro e w' ⟨rfl, rfl⟩; rw [e2]) | (go_at_call 28; refine (within_any _ _ _ _).mono ?_; rintro e w' ⟨rfl, rfl⟩; rw [e3]))
        have hall2 : Hid (∀ j, j < k + 1 → demB (dem ds j) = true) := hide (fun j hj => by
          by_cases ej : j = k
          · subst ej; rw [DP.out, e1, e2, e3]; rfl
          · exact hall.out j (by omega))
        go_roundw
        case rel => exact ⟨k + 1, by omega, by go_num, hall2, hbel.alloc hbel.size _⟩
        case measure => simp [intOf]; omega
    · obtain rfl : k = n := by omega
      go_wp2
      go_ret
      exact ⟨by rw [are_all (by rw [hl]; exact hall.out), hl]; simp <;> omega, hbel⟩
set_option maxHeartbeats 1600000 in
theorem sAreDemands_any (A : Option Addr) (n c : Nat) (ds : List Dem) (w : World) (h : RdF 3 w A n c (flatD ds)) :
    Calls Try.prog 25 #[.slice A n c] w fun e w' => e = .returned (.bool (areB ds)) ∧ Below w.heap.size w w' := by
  have hl : ds.length = n := by have := h.len; rw [flatD_len] at this; omega
  have hcap := h.cap
  go_enter Try.func25, Try.ntmps25
  go_wp2
  go_loopw [3] (fun i wr => ∃ k : Nat, k ≤ n ∧ i = .int .i64 k ∧ Hid (∀ j, j < k → demB (dem ds j) = true) ∧ Below w.heap.size w wr) (fun i _ => n - (intOf i).toNat)
  case atStart => exact ⟨0, by omega, rfl, hide (fun j hj => absurd hj (by omega)), Below.refl _ _⟩
  case round =>
    obtain ⟨k, hk, rfl, hall, hbel⟩ := hrel
    by_cases hlt : k < n
    · obtain ⟨b, off, rfl, hbb, hc⟩ := h.at_ (by omega)
      obtain ⟨c0, c1, c2⟩ := dem_cells hc hl hbel hbb hlt
      have DP := hide (demB_parts (dem ds k))
      clear hc
      cases e1 : inB 0 31 (dem ds k).nd
      · go_wp2_with (first | (go_at_call 37; refine (l05Node_any _ _).mono ?_; rintro e w' ⟨rfl, rfl⟩; rw [e1]) | (go_at_call 38; refine (l16Power_any _ _).mono ?_; rintro e w' ⟨rfl, rfl⟩; rw [e2]) | (go_at_call 39; refine (l01In_any _ _ _ _).mono ?_; rintro e w' ⟨rfl, rfl⟩; rw [e3]))
        go_ret
        exact ⟨by rw [are_bad (k := k) (by omega) (by rw [DP.out, e1]; rfl)]; rfl, hbel⟩
      cases e2 : evB (dem ds k).ev
      · go_wp2_with (first | (go_at_call 37; refine (l05Node_any _ _).mono ?_; rintro e w' ⟨rfl, rfl⟩; rw [e1]) | (go_at_call 38; refine (l16Power_any _ _).mono ?_; rintro e w' ⟨rfl, rfl⟩; rw [e2]) | (go_at_call 39; refine (l01In_any _ _ _ _).mono ?_; rintro e w' ⟨rfl, rfl⟩; rw [e3]))
        go_ret
        exact ⟨by rw [are_bad (k := k) (by omega) (by rw [DP.out, e1, e2]; rfl)]; rfl, hbel⟩
      cases e3 : inB 1 32 (dem ds k).sz
      · go_wp2_with (first | (go_at_call 37; refine (l05Node_any _ _).mono ?_; rintro e w' ⟨rfl, rfl⟩; rw [e1]) | (go_at_call 38; refine (l16Power_any _ _).mono ?_; rintro e w' ⟨rfl, rfl⟩; rw [e2]) | (go_at_call 39; refine (l01In_any _ _ _ _).mono ?_; rintro e w' ⟨rfl, rfl⟩; rw [e3]))
        go_ret
        exact ⟨by rw [are_bad (k := k) (by omega) (by rw [DP.out, e1, e2, e3]; rfl)]; rfl, hbel⟩
      · go_wp2_with (first | (go_at_call 37; refine (l05Node_any _ _).mono ?_; rintro e w' ⟨rfl, rfl⟩; rw [e1]) | (go_at_call 38; refine (l16Power_any _ _).mono ?_; rintro e w' ⟨rfl, rfl⟩; rw [e2]) | (go_at_call 39; refine (l01In_any _ _ _ _).mono ?_; rintro e w' ⟨rfl, rfl⟩; rw [e3]))
        have hall2 : Hid (∀ j, j < k + 1 → demB (dem ds j) = true) := hide (fun j hj => by
          by_cases ej : j = k
          · subst ej; rw [DP.out, e1, e2, e3]; rfl
          · exact hall.out j (by omega))
        go_roundw
        case rel => exact ⟨k + 1, by omega, by go_num, hall2, hbel⟩
        case measure => simp [intOf]; omega
    · obtain rfl : k = n := by omega
      go_wp2
      go_ret
      exact ⟨by rw [are_all (by rw [hl]; exact hall.out), hl]; simp <;> omega, hbel⟩
end Go.Proofs.Ytcbejjkbjompfaa
