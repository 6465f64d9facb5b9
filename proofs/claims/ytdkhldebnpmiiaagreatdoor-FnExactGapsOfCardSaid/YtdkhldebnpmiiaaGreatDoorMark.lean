/- Contracts: the law's own marks in a schedule: only the schedule's own rows turn. -/
import Derived.Test.YtdkhldebnpmiiaaGreatDoorBkH
import Derived.Deep.RegionHeld3
import Derived.IntWalk
import Derived.Laws.IdiomStrings
namespace Go.Proofs.YtdkhldebnpmiiaaGreatDoor
open Go.RowKit
set_option linter.unusedVariables false
set_option linter.unusedSimpArgs false

/-- old blocks outside of B .. B2 stay -/
structure Btw (B B2 : Nat) (w w' : World) : Prop where
  os : w'.os = w.os
  tape : w'.tape = w.tape
  output : w'.output = w.output
  size : w.heap.size ≤ w'.heap.size
  block : ∀ i, i < w.heap.size → (i < B ∨ B2 ≤ i) → w'.heap[i]? = w.heap[i]?
/-- blocks of type T stay -/
def TyK (T : TypeId) (w w' : World) : Prop := ∀ (g : Nat) (cs : Array Value) (fr : Nat × Nat), w.heap[g]? = some (.cells cs T fr) → w'.heap[g]? = w.heap[g]?
/-- a row of the call's own, whatever it holds -/
def RawO (T : TypeId) (k : Nat) (w : World) (B : Nat) (A : Option Addr) (n c : Nat) : Prop := ∃ xs, w.ownsRow B T k (.slice A n c) n xs
section
variable {B B2 k n c g : Nat} {w w' w'' : World} {T U : TypeId} {A : Option Addr}
theorem Btw.refl (B B2 : Nat) (w : World) : Btw B B2 w w := ⟨rfl, rfl, rfl, Nat.le_refl _, fun _ _ _ => rfl⟩
theorem Btw.trans (h : Btw B B2 w w') (k : Btw B B2 w' w'') : Btw B B2 w w'' := ⟨k.os.trans h.os, k.tape.trans h.tape, k.output.trans h.output, Nat.le_trans h.size k.size, fun i hi hr => (k.block i (Nat.lt_of_lt_of_le hi h.size) hr).trans (h.block i hi hr)⟩
theorem Btw.of (h : Below w.heap.size w w') : Btw B B2 w w' := ⟨h.os, h.tape, h.output, h.size, fun i hi _ => h.block i hi⟩
theorem Btw.set (h : Btw B B2 w w') {p : Nat} (h1 : B ≤ g) (h2 : g < B2) (v : Value) : Btw B B2 w (w'.setCell ⟨g, p, none⟩ v) :=
  h.trans ⟨rfl, rfl, rfl, by simp, fun i hi hr => heap_setCell_other w' ⟨g, p, none⟩ i v (fun e => by simp at e; omega)⟩
theorem Btw.grown (h : Btw B B2 w w') {row : Option Nat} (hg : w'.grownBy w'' row) (hr : ∀ g, row = some g → B ≤ g ∧ g < B2) : Btw B B2 w w'' :=
  h.trans ⟨hg.os, hg.tape, hg.output, hg.size, fun i hi ho => hg.block i hi (fun e => by have := hr i e.symm; omega)⟩
theorem Btw.belowB (h : Btw B B2 w w') (hB : B ≤ w.heap.size) : Below B w w' := ⟨h.os, h.tape, h.output, h.size, fun i hi => h.block i (by omega) (.inl hi)⟩
theorem TyK.refl (T : TypeId) (w : World) : TyK T w w := fun _ _ _ _ => rfl
theorem TyK.trans (h : TyK T w w') (k : TyK T w' w'') : TyK T w w'' := fun g cs fr hg => (k g cs fr ((h g cs fr hg).trans hg)).trans (h g cs fr hg)
theorem TyK.of (h : Below w.heap.size w w') : TyK T w w' := fun g cs fr hg => h.block g (Array.getElem?_eq_some_iff.1 hg).1
theorem TyK.set {xs : List Value} (hr : w.ownsRow B U k (.slice (some ⟨g, 0, none⟩) n c) n xs) (hT : T ≠ U) (p : Nat) (v : Value) : TyK T w (w.setCell ⟨g, p, none⟩ v) := fun i cs fr hi => by
  refine heap_setCell_other w ⟨g, p, none⟩ i v (fun e => ?_)
  simp at e
  subst e
  rcases hr.2 with ⟨h, _⟩ | ⟨g', cap, cur, h, _, hh, _⟩
  · cases h
  · simp at h
    obtain ⟨rfl, _⟩ := h
    rw [hi] at hh
    simp at hh
    exact hT hh.2.1
theorem TyK.row {xs : List Value} {v : Value} (h : TyK T w w') (hs : w.heap.size ≤ w'.heap.size) (hr : w.ownsRow B T k v n xs) : w'.ownsRow B T k v n xs := by
  refine ⟨hr.1, ?_⟩
  rcases hr.2 with h1 | ⟨g, cap, cur, h1, h2, h3, h4⟩
  · exact .inl h1
  · exact .inr ⟨g, cap, cur, h1, h2, (h g cur _ h3).trans h3, h4⟩
theorem TyK.grown {xs : List Value} {v : Value} (hr : w.ownsRow B U k v n xs) (hT : T ≠ U) (hg : w.grownBy w' v.ownBlock) : TyK T w w' := fun i cs fr hi => by
  refine hg.block i (Array.getElem?_eq_some_iff.1 hi).1 (fun e => ?_)
  rcases hr.2 with ⟨h, _⟩ | ⟨g', cap, cur, h, _, hh, _⟩
  · rw [h] at e; simp [Value.ownBlock] at e
  · rw [h] at e
    simp [Value.ownBlock] at e
    subst e
    rw [hi] at hh
    simp at hh
    exact hT hh.2.1
theorem RawO.set (h : RawO T k w B (some ⟨g, 0, none⟩) n c) (p : Nat) (v : Value) : RawO T k (w.setCell ⟨g, p, none⟩ v) B (some ⟨g, 0, none⟩) n c := by
  obtain ⟨xs, h⟩ := h
  exact ⟨_, (h.stored p v).1⟩
theorem RawO.below (h : RawO T k w B A n c) (hb : Below w.heap.size w w') : RawO T k w' B A n c := by
  obtain ⟨xs, h⟩ := h
  refine ⟨xs, h.1, ?_⟩
  rcases h.2 with h1 | ⟨g, cap, cur, h1, h2, h3, h4⟩
  · exact .inl h1
  · exact .inr ⟨g, cap, cur, h1, h2, (hb.block g (Array.getElem?_eq_some_iff.1 h3).1).trans h3, h4⟩
theorem RawO.cell (h : RawO T k w B (some ⟨g, 0, none⟩) n c) {p : Nat} (hp : p < n * k) : ∃ v, w.cell? ⟨g, p, none⟩ = some v := by
  obtain ⟨xs, h⟩ := h
  have hl : p < xs.length := by rw [h.1]; exact hp
  exact ⟨_, (h.cellAt p hp).trans (List.getElem?_eq_getElem hl)⟩
theorem RawO.frozen (h : RawO T k w B (some ⟨g, 0, none⟩) n c) (p : Nat) : w.frozen? ⟨g, p, none⟩ = false := by
  obtain ⟨xs, h⟩ := h
  exact h.frozenAt p
theorem RawO.tyk (h : RawO U k w B (some ⟨g, 0, none⟩) n c) (hT : T ≠ U) (p : Nat) (v : Value) : TyK T w (w.setCell ⟨g, p, none⟩ v) := by
  obtain ⟨xs, h⟩ := h
  exact TyK.set h hT p v
theorem RawO.form (h : RawO T k w B A n c) (hn : 0 < n) : ∃ g, A = some ⟨g, 0, none⟩ ∧ B ≤ g ∧ g < w.heap.size := by
  obtain ⟨xs, h⟩ := h
  rcases h.2 with ⟨_, h0⟩ | ⟨g, cap, cur, h1, h2, h3, _⟩
  · omega
  · simp at h1
    exact ⟨g, h1.1, h2, (Array.getElem?_eq_some_iff.1 h3).1⟩
theorem RawO.cap (h : RawO T k w B A n c) : n ≤ c ∧ c ≤ 9223372036854775807 := by
  obtain ⟨xs, h⟩ := h
  rcases h.2 with ⟨h1, h0⟩ | ⟨g, cap, cur, h1, h2, h3, h4, h5, _⟩
  · simp at h1; omega
  · simp at h1
    obtain ⟨_, rfl⟩ := h1
    exact ⟨h4, h5⟩
theorem RawO.of {α : Type} {f : α → List Value} {l : List α} (h : OwnR T f k w B A n c l) : RawO T k w B A n c := ⟨_, h.1⟩
theorem Own.raw {zs : List Int} (h : Own w B A n c zs) : RawO 2 1 w B A n c := ⟨_, h.1⟩
end
/-- string(b) of one byte in a new block -/
theorem conv_one (w : World) (x : Int) : (convert 22 9 (.slice (some ⟨w.heap.size, 0, none⟩) 1 1)).run Tryz.prog (w.alloc (.cells #[.int .u8 x] 5)) = .ok (.string ⟨#[UInt8.ofNat x.toNat]⟩) (w.alloc (.cells #[.int .u8 x] 5)) := by
  rw [run_convert_bytes_string _ _ _ 5 _ 1 1 Tryz.underlying22 Tryz.underlying5 Tryz.underlying9]
  have hl := run_loadCells_list (P := Tryz.prog) (w.alloc (.cells #[.int .u8 x] 5)) ⟨w.heap.size, 0, none⟩ [.int .u8 x] (fun j v hj => by
    match j, hj with
    | 0, hj =>
      simp at hj
      subst hj
      show (w.alloc (.cells #[.int .u8 x] 5)).cell? ⟨w.heap.size, 0, none⟩ = _
      simp)
  rw [run_bytesToString _ _ 1 1 [x] hl]
  rfl
set_option maxHeartbeats 1600000 in
set_option maxRecDepth 100000 in
theorem markText_any (k : Int) (w : World) (h0 : 0 ≤ k) (h1 : k ≤ 1152921504606846976) :
    Calls Tryz.prog 99 #[.int .i64 k] w (fun e w' => (∃ s, e = .returned (.string s)) ∧ Below w.heap.size w w') := by
  go_enter Tryz.func99, Tryz.ntmps99
  by_cases hk : k ≤ 0
  · go_wp2
    go_ret
    exact ⟨⟨_, rfl⟩, Below.refl _ _⟩
  · obtain ⟨K, rfl⟩ := Int.eq_ofNat_of_zero_le h0
    go_wp2
    go_loopw [0, 3] (fun q s wr => ∃ (J : Nat) (S : ByteArray), q = .int .i64 J ∧ s = .string S ∧ S.size + J ≤ K ∧ Hid (Below w.heap.size w wr)) (fun q _ _ => (intOf q).toNat)
    case atStart => exact ⟨K, _, rfl, rfl, by show 0 + K ≤ K; omega, hide (Below.refl _ _)⟩
    case round =>
      obtain ⟨J, S, rfl, rfl, hJ, hb⟩ := hrel
      have hS : S.size ≤ 1152921504606846976 := by omega
      by_cases hJ0 : J = 0
      · subst hJ0
        go_wp2
        go_ret
        exact ⟨⟨_, rfl⟩, hb.out⟩
      · have hJp : 0 < J := by omega
        have hd : J / 10 < J := Nat.div_lt_self hJp (by omega)
        have HB := hide (fun (o : Obj) => hb.out.alloc hb.out.size o)
        have hcv := conv_one
        go_wp2
        go_roundw
        case rel => exact ⟨J / 10, _, by go_num, rfl, by rw [ByteArray.size_append]; show 1 + S.size + J / 10 ≤ K; omega, hide (HB.out _)⟩
        case measure => simp [intOf]; omega
set_option maxHeartbeats 1600000 in
theorem markNodeInfoS_any (A : Option Addr) (n c : Nat) (B B2 : Nat) (k0 : Int) (w : World) (h : RawO 68 4 w B A n c) (hA : ∀ g, A = some ⟨g, 0, none⟩ → g < B2) (hn : n ≤ 1048576) (h0 : 0 ≤ k0) (h1 : k0 ≤ 1125899906842624) :
    Calls Tryz.prog 67 #[.slice A n c, .int .i64 k0] w (fun e w' => e = .returned (.int .i64 (k0 + 4 * n)) ∧ Btw B B2 w w' ∧ ∀ T, T ≠ 68 → TyK T w w') := by
  have hcap := h.cap
  have HA := hide hA
  clear hA
  go_enter Tryz.func67, Tryz.ntmps67
  go_wp2
  go_loopw [1, 5] (fun q i wr => ∃ (j : Nat) (K : Int), j ≤ n ∧ i = .int .i64 j ∧ q = .int .i64 K ∧ K = k0 + 4 * j ∧ Hid (RawO 68 4 wr B A n c) ∧ Hid (Btw B B2 w wr) ∧ Hid (∀ T, T ≠ 68 → TyK T w wr)) (fun _ i _ => n - (intOf i).toNat)
  case atStart => exact ⟨0, k0, by omega, rfl, rfl, by omega, hide h, hide (Btw.refl _ _ _), hide (fun T _ => TyK.refl T w)⟩
  case round =>
    obtain ⟨j, K, hj, rfl, rfl, hK, hr, hb, ht⟩ := hrel
    by_cases hlt : j < n
    · obtain ⟨g, rfl, g0, g1⟩ := hr.out.form (by omega)
      have g2 := HA.out g rfl
      obtain ⟨u0, c0⟩ := hr.out.cell (p := j * 4) (by omega)
      have f0 := hr.out.frozen (j * 4)
      have K0 : 0 ≤ K := by omega
      have HKj := hide (show K + 4 = k0 + 4 * ((j + 1 : Nat) : Int) by omega)
      have K1 : K ≤ 1125899911036928 := by omega
      clear hK
      have HR1 := hide (hr.out.set (j * 4) (.int .i64 K))
      have HB1 := hide (hb.out.set (p := j * 4) g0 g2 (.int .i64 K))
      have HT1 := hide (fun T (hT : T ≠ 68) => (ht.out T hT).trans (hr.out.tyk hT (j * 4) (.int .i64 K)))
      obtain ⟨W1, hW1⟩ : ∃ W1, W1 = wr.setCell ⟨g, j * 4, none⟩ (.int .i64 K) := ⟨_, rfl⟩
      rw [← hW1] at HR1 HB1 HT1
      have HW1 := hide hW1
      clear hr hb ht h hW1
      go_wp2_with fail
      rw [← HW1.out]
      go_at_call 99
      (with_reducible refine (markText_any _ _ (by omega) (by omega)).mono ?_)
      rintro ee w2 ⟨⟨s, rfl⟩, b2⟩
      have HR2 := hide (HR1.out.below b2)
      have HB2 := hide (HB1.out.trans (Btw.of b2))
      have HT2 := hide (fun T (hT : T ≠ 68) => (HT1.out T hT).trans (TyK.of b2))
      obtain ⟨u1, c1⟩ := HR2.out.cell (p := j * 4 + 1) (by omega)
      obtain ⟨u2, c2⟩ := HR2.out.cell (p := j * 4 + 2) (by omega)
      obtain ⟨u3, c3⟩ := HR2.out.cell (p := j * 4 + 3) (by omega)
      have f1 := HR2.out.frozen (j * 4 + 1)
      have f2 := HR2.out.frozen (j * 4 + 2)
      have f3 := HR2.out.frozen (j * 4 + 3)
      clear b2 HR1 HB1 HT1 c0 f0 HW1
      go_wp2
      go_roundw
      case rel => exact ⟨j + 1, K + 4, by omega, by go_num, by go_num, HKj.out, hide (((HR2.out.set _ _).set _ _).set _ _), hide (((HB2.out.set g0 g2 _).set g0 g2 _).set g0 g2 _), hide (fun T hT => (((HT2.out T hT).trans (HR2.out.tyk hT _ _)).trans ((HR2.out.set _ _).tyk hT _ _)).trans (((HR2.out.set _ _).set _ _).tyk hT _ _))⟩
      case measure => simp [intOf]; omega
    · obtain rfl : j = n := by omega
      have E := hide hK
      clear hK
      go_wp2
      go_ret
      exact ⟨by rw [E.out]; rfl, hb.out, ht.out⟩
set_option maxHeartbeats 6400000 in
theorem markSlotInfoS_any (A : Option Addr) (n c : Nat) (B B2 : Nat) (k0 : Int) (w : World) (h : RawO 61 8 w B A n c) (hA : ∀ g, A = some ⟨g, 0, none⟩ → g < B2) (hn : n ≤ 1048576) (h0 : 0 ≤ k0) (h1 : k0 ≤ 1125899906842624) :
    Calls Tryz.prog 69 #[.slice A n c, .int .i64 k0] w (fun e w' => e = .returned (.int .i64 (k0 + 8 * n)) ∧ Btw B B2 w w') := by
  have hcap := h.cap
  have HA := hide hA
  clear hA
  go_enter Tryz.func69, Tryz.ntmps69
  go_wp2
  go_loopw [1, 5] (fun q i wr => ∃ (j : Nat) (K : Int), j ≤ n ∧ i = .int .i64 j ∧ q = .int .i64 K ∧ K = k0 + 8 * j ∧ Hid (RawO 61 8 wr B A n c) ∧ Hid (Btw B B2 w wr)) (fun _ i _ => n - (intOf i).toNat)
  case atStart => exact ⟨0, k0, by omega, rfl, rfl, by omega, hide h, hide (Btw.refl _ _ _)⟩
  case round =>
    obtain ⟨j, K, hj, rfl, rfl, hK, hr, hb⟩ := hrel
    by_cases hlt : j < n
    · obtain ⟨g, rfl, g0, g1⟩ := hr.out.form (by omega)
      have g2 := HA.out g rfl
      have K0 : 0 ≤ K := by omega
      have HKj := hide (show K + 8 = k0 + 8 * ((j + 1 : Nat) : Int) by omega)
      have K1 : K ≤ 1125899915231232 := by omega
      clear hK
      obtain ⟨u0, c0⟩ := hr.out.cell (p := j * 8) (by omega)
      have f0 := hr.out.frozen (j * 8)
      obtain ⟨u1, c1⟩ := hr.out.cell (p := j * 8 + 1) (by omega)
      have f1 := hr.out.frozen (j * 8 + 1)
      obtain ⟨u2, c2⟩ := hr.out.cell (p := j * 8 + 2) (by omega)
      have f2 := hr.out.frozen (j * 8 + 2)
      obtain ⟨u3, c3⟩ := hr.out.cell (p := j * 8 + 3) (by omega)
      have f3 := hr.out.frozen (j * 8 + 3)
      obtain ⟨u4, c4⟩ := hr.out.cell (p := j * 8 + 4) (by omega)
      have f4 := hr.out.frozen (j * 8 + 4)
      obtain ⟨u5, c5⟩ := hr.out.cell (p := j * 8 + 5) (by omega)
      have f5 := hr.out.frozen (j * 8 + 5)
      obtain ⟨u6, c6⟩ := hr.out.cell (p := j * 8 + 6) (by omega)
      have f6 := hr.out.frozen (j * 8 + 6)
      obtain ⟨u7, c7⟩ := hr.out.cell (p := j * 8 + 7) (by omega)
      have f7 := hr.out.frozen (j * 8 + 7)
      have HRS := hide (fun (v0 v1 v2 v3 v4 v5 v6 v7 : Value) => (((((((hr.out.set (j * 8) v0).set (j * 8 + 1) v1).set (j * 8 + 2) v2).set (j * 8 + 3) v3).set (j * 8 + 4) v4).set (j * 8 + 5) v5).set (j * 8 + 6) v6).set (j * 8 + 7) v7)
      have HBS := hide (fun (v0 v1 v2 v3 v4 v5 v6 v7 : Value) => (((((((hb.out.set (p := j * 8) g0 g2 v0).set (p := j * 8 + 1) g0 g2 v1).set (p := j * 8 + 2) g0 g2 v2).set (p := j * 8 + 3) g0 g2 v3).set (p := j * 8 + 4) g0 g2 v4).set (p := j * 8 + 5) g0 g2 v5).set (p := j * 8 + 6) g0 g2 v6).set (p := j * 8 + 7) g0 g2 v7)
      clear hr hb h
      go_wp2
      go_roundw
      case rel => exact ⟨j + 1, K + 8, by omega, by go_num, by go_num, HKj.out, hide (HRS.out _ _ _ _ _ _ _ _), hide (HBS.out _ _ _ _ _ _ _ _)⟩
      case measure => simp [intOf]; omega
    · obtain rfl : j = n := by omega
      have E := hide hK
      clear hK
      go_wp2
      go_ret
      exact ⟨by rw [E.out]; rfl, hb.out⟩
theorem markR_any (A : Option Addr) (n c : Nat) (B : Nat) (k0 : Int) (w : World) (h : RawO 2 1 w B A n c) (hn : n ≤ 16777216) (h0 : 0 ≤ k0) (h1 : k0 ≤ 2251799813685248) :
    Calls Tryz.prog 25 #[.slice A n c, .int .i64 k0] w fun e w' => e = .returned (.int .i64 (k0 + n)) ∧ RawO 2 1 w' B A n c ∧ w.grownBy w' (Value.slice A n c).ownBlock := by
  have hcap := h.cap
  go_enter Tryz.func25, Tryz.ntmps25
  go_wp2
  go_loopw [1, 5] (fun m i wr => ∃ k : Nat, k ≤ n ∧ i = .int .i64 k ∧ m = .int .i64 (k0 + k) ∧ Hid (RawO 2 1 wr B A n c) ∧ Hid (w.grownBy wr (Value.slice A n c).ownBlock)) (fun _ i _ => n - (intOf i).toNat)
  case atStart => exact ⟨0, Nat.zero_le _, rfl, by go_num, hide h, hide (grown_refl _ _)⟩
  case round =>
    obtain ⟨k, hk, rfl, rfl, hr, hg⟩ := hrel
    by_cases hlt : k < n
    · obtain ⟨g, rfl, g0, g1⟩ := hr.out.form (by omega)
      obtain ⟨u, c0⟩ := hr.out.cell (p := k) (by omega)
      have f0 := hr.out.frozen k
      have HR := hide (hr.out.set k (.int .i64 (k0 + k)))
      have HG := hide (grown_trans hg.out (show wr.grownBy (wr.setCell ⟨g, k, none⟩ (.int .i64 (k0 + k))) (some g) from ⟨rfl, rfl, rfl, by simp, fun q _ hq => heap_setCell_other wr ⟨g, k, none⟩ q _ (fun e => hq (by simp [e]))⟩))
      clear hr hg h
      go_wp2
      go_roundw
      case rel => exact ⟨k + 1, by omega, by go_num, by go_num, HR, HG⟩
      case measure => simp [intOf]; omega
    · obtain rfl : k = n := by omega
      go_wp2
      go_ret
      exact ⟨rfl, hr.out, hg.out⟩
/-- a slice of integers within the schedule's own blocks -/
def NxO (w : World) (B B2 : Nat) (x : Mod) : Prop := RawO 2 1 w B x.A x.n x.c ∧ (∀ g, x.A = some ⟨g, 0, none⟩ → g < B2) ∧ x.n ≤ 1048576
/-- a row of modes with such slices -/
def MsO (w : World) (B B2 : Nat) (A : Option Addr) (n c : Nat) : Prop := ∃ l : List Mod, OwnR 107 Mod.v 3 w B A n c l ∧ ∀ x ∈ l, NxO w B B2 x
section
variable {B B2 n c g k : Nat} {w w' : World} {A : Option Addr} {x y : Mod} {T : TypeId}
theorem RawO.tykeep (h : RawO T k w B A n c) (ht : TyK T w w') (hs : w.heap.size ≤ w'.heap.size) : RawO T k w' B A n c := by
  obtain ⟨xs, h⟩ := h
  exact ⟨xs, ht.row hs h⟩
/-- one row turns: the others of the type lie there still -/
theorem RawO.marked {A2 : Option Addr} {n2 c2 : Nat} (hx : RawO T 1 w B A n c) (hy : RawO T 1 w B A2 n2 c2) (hy' : RawO T 1 w' B A2 n2 c2) (hg : w.grownBy w' (Value.slice A2 n2 c2).ownBlock) : RawO T 1 w' B A n c := by
  obtain ⟨xs, hx⟩ := hx
  rcases hx.2 with ⟨h1, h0⟩ | ⟨gx, cap, cur, h1, h2, h3, h4, h5, h6, h7⟩
  · simp at h1
    obtain ⟨rfl, rfl, rfl⟩ := h1
    exact ⟨[], rfl, .inl ⟨rfl, rfl⟩⟩
  · by_cases e : some gx = (Value.slice A2 n2 c2).ownBlock
    · obtain ⟨ys, hy⟩ := hy
      obtain ⟨zs, hy'⟩ := hy'
      rcases hy.2 with ⟨q1, _⟩ | ⟨gy, capy, cury, q1, _, q3, _, _, q6, _⟩
      · rw [q1] at e; simp [Value.ownBlock] at e
      · rw [q1] at e
        simp [Value.ownBlock] at e
        subst e
        rw [h3] at q3
        simp at q3
        subst q3
        rcases hy'.2 with ⟨r1, _⟩ | ⟨gz, capz, curz, r1, _, r3, _, _, r6, _⟩
        · rw [q1] at r1; cases r1
        · rw [q1] at r1
          simp at r1
          obtain ⟨rfl, rfl⟩ := r1
          have hsz : curz.size = cap * 1 := by omega
          refine ⟨curz.toList.take (n * 1), by simp; omega, .inr ⟨gx, cap, curz, h1, h2, r3, h4, h5, hsz, rfl⟩⟩
    · exact ⟨xs, hx.1, .inr ⟨gx, cap, cur, h1, h2, (hg.block gx (Array.getElem?_eq_some_iff.1 h3).1 e).trans h3, h4, h5, h6, h7⟩⟩
theorem MsO.below (h : MsO w B B2 A n c) (hb : Below w.heap.size w w') : MsO w' B B2 A n c := by
  obtain ⟨l, h1, h2⟩ := h
  exact ⟨l, h1.below hb, fun x hx => ⟨(h2 x hx).1.below hb, (h2 x hx).2⟩⟩
theorem MsO.tyk (h : MsO w B B2 A n c) (h1 : TyK 2 w w') (h2 : TyK 107 w w') (hs : w.heap.size ≤ w'.heap.size) : MsO w' B B2 A n c := by
  obtain ⟨l, k1, k2⟩ := h
  exact ⟨l, ⟨h2.row hs k1.1, k1.2⟩, fun x hx => ⟨(k2 x hx).1.tykeep h1 hs, (k2 x hx).2⟩⟩
end
section
variable {α : Type} {f : α → List Value} {k : Nat} {T : TypeId} {w : World} {n c B g i : Nat} {l : List α}
theorem OwnR.put1 {x x' : α} (h : OwnR T f k w B (some ⟨g, 0, none⟩) n c l) (hi : l[i]? = some x) (t : Nat) (ht : t < k) (v : Value) (hx : f x' = (f x).set t v) : OwnR T f k (w.setCell ⟨g, i * k + t, none⟩ v) B (some ⟨g, 0, none⟩) n c (l.set i x') := by
  refine ⟨?_, by rw [List.length_set]; exact h.len, h.2.2⟩
  have s := (h.1.stored (i * k + t) v).1
  have hk := h.2.2
  have hil := get_lt hi
  have e : (l.flatMap f).set (i * k + t) v = (l.set i x').flatMap f := by
    apply List.ext_getElem?
    intro q
    have hk0 : 0 < k := by omega
    have hq : q = q / k * k + q % k := by rw [Nat.mul_comm]; exact (Nat.div_add_mod q k).symm
    have hm : q % k < k := Nat.mod_lt _ hk0
    have eR := flat_get hk (l.set i x') (q / k) (q % k) hm
    have eL := flat_get hk l (q / k) (q % k) hm
    rw [← hq] at eR eL
    rw [eR]
    by_cases h1 : i * k + t = q
    · have hd : q / k = i := by rw [← h1, Nat.mul_comm, Nat.mul_add_div hk0, Nat.div_eq_of_lt ht]; omega
      have hmm : q % k = t := by rw [← h1, Nat.mul_comm, Nat.mul_add_mod, Nat.mod_eq_of_lt ht]
      have hlen : i * k + t < (l.flatMap f).length := by
        rw [flat_len hk]
        have : (i + 1) * k ≤ l.length * k := Nat.mul_le_mul_right k hil
        rw [Nat.succ_mul] at this
        omega
      rw [h1, List.getElem?_set_self (by omega), hd, List.getElem?_set_self hil, hmm]
      show _ = (f x')[t]?
      rw [hx, List.getElem?_set_self (by rw [hk]; exact ht)]
    · rw [List.getElem?_set_ne h1, eL]
      by_cases h2 : i = q / k
      · rw [← h2, List.getElem?_set_self hil, hi]
        show (f x)[q % k]? = (f x')[q % k]?
        rw [hx, List.getElem?_set_ne (by intro e2; apply h1; rw [hq, ← h2, ← e2])]
      · rw [List.getElem?_set_ne h2]
  rw [e] at s
  exact s
theorem OwnR.at0 (h : OwnR T f k w B (some ⟨g, 0, none⟩) n c l) {i : Nat} (hi : i < n) : ∃ x, l[i]? = some x ∧ ∀ t v, (f x)[t]? = some v → w.cell? ⟨g, i * k + t, none⟩ = some v := by
  obtain ⟨b, off, x, hA, hb, hx, hc⟩ := h.rd.at_ hi
  simp at hA
  obtain ⟨rfl, rfl⟩ := hA
  exact ⟨x, hx, fun t v hv => by have := hc t v hv; rwa [Nat.zero_add] at this⟩
end
set_option maxHeartbeats 3200000 in
theorem markModeInfoS_any (A : Option Addr) (n c : Nat) (B B2 : Nat) (k0 : Int) (w : World) (h : MsO w B B2 A n c) (hA : ∀ g, A = some ⟨g, 0, none⟩ → g < B2) (hn : n ≤ 1048576) (h0 : 0 ≤ k0) (h1 : k0 ≤ 1073741824) :
    Calls Tryz.prog 68 #[.slice A n c, .int .i64 k0] w (fun e w' => ∃ K : Int, e = .returned (.int .i64 K) ∧ k0 ≤ K ∧ K ≤ k0 + 1048578 * n ∧ Btw B B2 w w' ∧ ∀ T, T ≠ 107 → T ≠ 2 → TyK T w w') := by
  have hcap : n ≤ c ∧ c ≤ 9223372036854775807 := by obtain ⟨l, h, _⟩ := h; exact h.cap
  have HA := hide hA
  clear hA
  go_enter Tryz.func68, Tryz.ntmps68
  go_wp2
  go_loopw [1, 5] (fun q i wr => ∃ (j : Nat) (K : Int), j ≤ n ∧ i = .int .i64 j ∧ q = .int .i64 K ∧ k0 ≤ K ∧ K ≤ k0 + 1048578 * j ∧ Hid (MsO wr B B2 A n c) ∧ Hid (Btw B B2 w wr) ∧ Hid (∀ T, T ≠ 107 → T ≠ 2 → TyK T w wr)) (fun _ i _ => n - (intOf i).toNat)
  case atStart => exact ⟨0, k0, by omega, rfl, rfl, by omega, by omega, hide h, hide (Btw.refl _ _ _), hide (fun T _ _ => TyK.refl T w)⟩
  case round =>
    obtain ⟨j, K, hj, rfl, rfl, hK0, hK1, hr, hb, ht⟩ := hrel
    by_cases hlt : j < n
    · obtain ⟨l, hl, hx⟩ := hr.out
      obtain ⟨g, rfl, g0, g1⟩ := (RawO.of hl).form (by omega)
      have g2 := HA.out g rfl
      obtain ⟨x, hxj, hc⟩ := hl.at0 hlt
      have hxm := List.mem_of_getElem? hxj
      have c0 := hc 0 _ rfl
      have c1 := hc 1 _ rfl
      have c2 := hc 2 _ rfl
      simp at c0
      have f0 := hl.frozen (j * 3)
      have f1 := hl.frozen (j * 3 + 1)
      have K0 : 0 ≤ K := by omega
      have K2 : K ≤ 1125899911036928 := by omega
      have hjl := get_lt hxj
      have p1 := hl.put1 (x' := ⟨K, x.sl, x.A, x.n, x.c, x.nx⟩) hxj 0 (by omega) (.int .i64 K) rfl
      have p2 := p1.put1 (x' := ⟨K, K + 1, x.A, x.n, x.c, x.nx⟩) (List.getElem?_set_self hjl) 1 (by omega) (.int .i64 (K + 1)) rfl
      have t1 : ∀ T, T ≠ 107 → TyK T wr _ := fun T hT => ((RawO.of hl).tyk hT (j * 3 + 0) (.int .i64 K)).trans ((RawO.of p1).tyk hT (j * 3 + 1) (.int .i64 (K + 1)))
      have b1 := ((hb.out.set (p := j * 3 + 0) g0 g2 (.int .i64 K)).set (p := j * 3 + 1) g0 g2 (.int .i64 (K + 1)))
      obtain ⟨W1, hW1⟩ : ∃ W1, W1 = (wr.setCell ⟨g, j * 3, none⟩ (.int .i64 K)).setCell ⟨g, j * 3 + 1, none⟩ (.int .i64 (K + 1)) := ⟨_, rfl⟩
      rw [Nat.add_zero, ← hW1] at p2 b1
      have t2 : ∀ T, T ≠ 107 → TyK T wr W1 := fun T hT => by rw [hW1]; exact t1 T hT
      have hsz : wr.heap.size ≤ W1.heap.size := by rw [hW1]; simp
      have HX := hide (hx x hxm)
      have RX := hide ((hx x hxm).1.tykeep (t2 2 (by decide)) hsz)
      have HALL := hide (show ∀ y ∈ l, NxO W1 B B2 y from fun y hy => ⟨(hx y hy).1.tykeep (t2 2 (by decide)) hsz, (hx y hy).2⟩)
      have HP := hide p2
      have HB1 := hide b1
      have HT1 := hide (show ∀ T, T ≠ 107 → T ≠ 2 → TyK T w W1 from fun T hT hI => (ht.out T hT hI).trans (t2 T hT))
      have hxn := HX.out.2.2
      have HW1 := hide hW1
      clear hr hb ht h hW1 p1 p2 t1 t2 b1 hx hl hc hsz
      go_wp2_with fail
      rw [← HW1.out]
      go_at_call 25
      (with_reducible refine (markR_any _ _ _ _ _ _ RX.out (by omega) (by omega) (by omega)).mono ?_)
      rintro ee w2 ⟨rfl, r2, gr⟩
      have HB2 := hide (HB1.out.grown gr (fun q hq => by
        obtain ⟨xs, hh⟩ := RX.out
        rcases hh.2 with ⟨h1, _⟩ | ⟨q', cap, cur, h1, h2, _⟩
        · rw [h1] at hq; simp [Value.ownBlock] at hq
        · rw [h1] at hq
          simp [Value.ownBlock] at hq
          simp at h1
          subst hq
          exact ⟨h2, HX.out.2.1 _ h1.1⟩))
      have HM2 := hide (show MsO w2 B B2 (some ⟨g, 0, none⟩) n c from ⟨_, (by
        obtain ⟨xs, hh⟩ := RX.out
        exact ⟨(TyK.grown hh (by decide) gr).row gr.size HP.out.1, HP.out.2⟩), fun y hy => by
        rcases List.mem_or_eq_of_mem_set hy with q | rfl
        · rcases List.mem_or_eq_of_mem_set q with q | rfl
          · exact ⟨(HALL.out y q).1.marked RX.out r2 gr, (HALL.out y q).2⟩
          · exact ⟨r2, HX.out.2⟩
        · exact ⟨r2, HX.out.2⟩⟩)
      have HT2 := hide (show ∀ T, T ≠ 107 → T ≠ 2 → TyK T w w2 from fun T hT hI => (HT1.out T hT hI).trans (by
        obtain ⟨xs, hh⟩ := RX.out
        exact TyK.grown hh hI gr))
      clear gr r2 HB1 HT1 c0 c1 c2 f0 f1
      go_wp2
      go_roundw
      case rel => exact ⟨j + 1, K + 1 + 1 + x.n, by omega, by go_num, by go_num, by omega, by omega, HM2, HB2, HT2⟩
      case measure => simp [intOf]; omega
    · obtain rfl : j = n := by omega
      go_wp2
      go_ret
      exact ⟨K, rfl, by omega, by omega, hb.out, ht.out⟩
set_option maxHeartbeats 3200000 in
theorem markMedl_any (v : Value) (m : Mdl) (B B2 : Nat) (wx w : World) (hx : OwnM wx B v m) (hB2 : B2 = wx.heap.size) (hb : Below wx.heap.size wx w) (sm : SmlM m) :
    Calls Tryz.prog 24 #[v, .int .i64 1] w (fun e w' => ∃ K : Int, e = .returned (.int .i64 K) ∧ 0 ≤ K ∧ Btw B B2 w w') := by
  obtain ⟨A1, n1, c1, A2, n2, c2, A3, n3, q3, rfl, h1, h2, h3⟩ := hx
  have hl1 : n1 ≤ 1048576 := by rw [← h1.len]; exact sm.ns
  have hl3 : n3 ≤ 1048576 := by rw [← h3.len]; exact sm.ss
  have hl2 : n2 ≤ 1048576 := by rw [← h2.rd.len]; exact sm.ms
  have a1 : ∀ g, A1 = some ⟨g, 0, none⟩ → g < B2 := fun g e => by
    rcases h1.form with ⟨q, _⟩ | ⟨g', q, _, r⟩
    · rw [q] at e; cases e
    · rw [q] at e; simp at e; omega
  have a3 : ∀ g, A3 = some ⟨g, 0, none⟩ → g < B2 := fun g e => by
    rcases h3.form with ⟨q, _⟩ | ⟨g', q, _, r⟩
    · rw [q] at e; cases e
    · rw [q] at e; simp at e; omega
  have hms : MsO wx B B2 A2 n2 c2 ∧ ∀ g, A2 = some ⟨g, 0, none⟩ → g < B2 := by
    obtain ⟨l, k1, k2, k3⟩ := h2
    refine ⟨⟨l, k1, fun x hx => ⟨(k2 x hx).raw, fun g e => ?_, ?_⟩⟩, fun g e => ?_⟩
    · rcases (k2 x hx).form with ⟨q, _⟩ | ⟨g', q, _, r⟩
      · rw [q] at e; cases e
      · rw [q] at e; simp at e; omega
    · have q := sm.nx (Mod.p x) (by rw [← k3]; exact List.mem_map.2 ⟨x, hx, rfl⟩)
      rw [← (k2 x hx).len]
      exact q
    · rcases k1.form with ⟨q, _⟩ | ⟨g', q, _, r⟩
      · rw [q] at e; cases e
      · rw [q] at e; simp at e; omega
  obtain ⟨W0, hW0⟩ : ∃ W0, W0 = w.alloc (.cells #[.int .i64 m.id, .slice A1 n1 c1, .slice A2 n2 c2, .slice A3 n3 q3] 28) := ⟨_, rfl⟩
  have F0 : At W0 w.heap.size 28 #[.int .i64 m.id, .slice A1 n1 c1, .slice A2 n2 c2, .slice A3 n3 q3] := by rw [hW0]; exact At.fresh _ _ _
  have BA := show Below w.heap.size w W0 by rw [hW0]; exact (Below.refl _ _).alloc (Nat.le_refl _) _
  have BX := below_trans hb BA
  have T0 := hide (show Btw B B2 w W0 from Btw.of BA)
  have R1 := hide ((RawO.of h1).below BX)
  have R2 := hide (hms.1.below BX)
  have R3 := hide ((RawO.of h3).below BX)
  have hs2 : B2 ≤ w.heap.size := by rw [hB2]; exact hb.size
  have d1 := F0.cell 1
  have d2 := F0.cell 2
  have d3 := F0.cell 3
  simp at d1 d2 d3
  have hlt0 := F0.lt
  have HW := hide hW0
  have HA2 := hide hms.2
  have H1 := hide a1
  have H3 := hide a3
  clear h1 h2 h3 hms hW0 F0 BA BX hb a1 a3
  go_enter Tryz.func24, Tryz.ntmps24
  go_wp2_with fail
  rw [← HW.out]
  go_at_call 67
  (with_reducible refine (markNodeInfoS_any _ _ _ B B2 _ _ R1.out H1.out hl1 (by omega) (by omega)).mono ?_)
  rintro ee w1 ⟨rfl, b1, t1⟩
  have T1 := hide (T0.out.trans b1)
  have R21 := hide (R2.out.tyk (t1 2 (by decide)) (t1 107 (by decide)) b1.size)
  have R31 := hide (R3.out.tykeep (t1 61 (by decide)) b1.size)
  have e2 := (World.cell?_of_block (a := ⟨w.heap.size, 2, none⟩) (b1.block w.heap.size hlt0 (.inr hs2))).trans d2
  have e3 := (World.cell?_of_block (a := ⟨w.heap.size, 3, none⟩) (b1.block w.heap.size hlt0 (.inr hs2))).trans d3
  have hlt1 : w.heap.size < w1.heap.size := Nat.lt_of_lt_of_le hlt0 b1.size
  clear b1 t1 d1 d2 d3 R1 R2 R3
  go_wp2_with fail
  go_at_call 68
  (with_reducible refine (markModeInfoS_any _ _ _ B B2 _ _ R21.out HA2.out hl2 (by omega) (by omega)).mono ?_)
  rintro ee w2 ⟨K, rfl, K0, K1, b2, t2⟩
  have T2 := hide (T1.out.trans b2)
  have R32 := hide (R31.out.tykeep (t2 61 (by decide) (by decide)) b2.size)
  have g3 := (World.cell?_of_block (a := ⟨w.heap.size, 3, none⟩) (b2.block w.heap.size hlt1 (.inr hs2))).trans e3
  clear b2 t2 e2 e3
  go_wp2_with fail
  go_at_call 69
  (with_reducible refine (markSlotInfoS_any _ _ _ B B2 _ _ R32.out H3.out hl3 (by omega) (by omega)).mono ?_)
  rintro ee w3 ⟨rfl, b3⟩
  have T3 := hide (T2.out.trans b3)
  clear b3 g3
  go_wp2
  go_ret
  exact ⟨_, rfl, by omega, T3.out⟩
end Go.Proofs.YtdkhldebnpmiiaaGreatDoor
