/- Contracts: the library's Grow of nil and Concat of three lists; a padded line. -/
import Derived.Test.YtdodhjahihfaiaaCellsI
import Derived.Test.YtdodhjahihfaiaaIdle
import Derived.Lib.AppendZerosOnto
namespace Go.Proofs.Ytdodhjahihfaiaa
open Go.RowKit
set_option linter.unusedVariables false
set_option linter.unusedSimpArgs false

set_option maxHeartbeats 1600000 in
set_option maxRecDepth 100000 in
theorem growNil_any (n : Nat) (w : World) (hn : n ≤ 16777216) :
    Calls Try.prog 108 #[.slice none 0 0, .int .i64 n] w fun e w' => ∃ A c, e = .returned (.slice A 0 c) ∧ Own w' w.heap.size A 0 c [] ∧ Below w.heap.size w w' := by
  by_cases h0 : n = 0
  · subst h0
    go_enter Try.func108, Try.ntmps108
    go_wp2
    go_ret
    exact ⟨none, 0, rfl, Own.nil _ _, Below.refl _ _⟩
  · have n0 : 0 < n := by omega
    clear h0
    obtain ⟨i0, hi, hz0, hz1, hz2⟩ := info_parts info_i64
    have hrz := Lib.run_append_nil_zeros (P := Try.prog) w 25 3 25 2 i0 (.int .i64 0) .i64 .i64 Try.underlying25 Try.underlying3 hi hz0 n n0 (by omega) (by omega) (by rw [hz2]; omega)
    have hge := grownCap_ge w n 0 2
    have hmax : grownCap w n 0 2 ≤ 9223372036854775807 := grownCap_le_maxLen w n 0 2 (by simp only [maxLen]; omega)
    obtain ⟨G, hG⟩ : ∃ G, G = grownCap w n 0 2 := ⟨_, rfl⟩
    rw [← hG] at hrz hge hmax
    have own0 : Own (w.drew.alloc (.cells (Builtin.zeroCells #[.int .i64 0] n ++ Builtin.zeroCells #[.int .i64 0] (G - n)) 2)) w.heap.size (some ⟨w.heap.size, 0, none⟩) 0 G [] := by
      refine ⟨⟨rfl, .inr ⟨w.heap.size, G, _, rfl, Nat.le_refl _, heap_alloc_new w.drew _, Nat.zero_le _, hmax, ?_, rfl⟩⟩, I64.nil⟩
      rw [Array.size_append, size_zeroCells, size_zeroCells]
      show n * 1 + (G - n) * 1 = G * 1
      omega
    have HR := hide hrz
    have HO := hide own0
    clear hrz own0 hG hi hz0 hz1 hz2
    go_enter Try.func108, Try.ntmps108
    go_wp2_with (at_builtin; refine Lib.wpList_append_run _ rfl _ _ _ _ rfl _ _ rfl rfl _ _ HR.out ?_)
    go_ret
    exact ⟨_, _, rfl, HO.out, ((Below.refl w.heap.size w).alloc (Nat.le_refl _) _).drew⟩
theorem growNil_at (x : Int) (n : Nat) (hx : x = n) (w : World) (hn : n ≤ 16777216) :
    Calls Try.prog 108 #[.slice none 0 0, .int .i64 x] w fun e w' => ∃ A c, e = .returned (.slice A 0 c) ∧ Own w' w.heap.size A 0 c [] ∧ Below w.heap.size w w' := by
  subst hx; exact growNil_any n w hn
def lists3 (xs ys zs : List Int) : Nat → List Int
  | 0 => []
  | 1 => xs
  | 2 => xs ++ ys
  | _ => xs ++ ys ++ zs
def sizes3 (a b c : Nat) : Nat → Nat
  | 0 => 0
  | 1 => a
  | 2 => a + b
  | _ => a + b + c
/-- the argument of Concat: three slices in a block -/
def Rd3 (w : World) (g : Nat) (A1 A2 A3 : Option Addr) (n1 c1 n2 c2 n3 c3 : Nat) : Prop :=
  w.cell? ⟨g, 0, none⟩ = some (.slice A1 n1 c1) ∧ w.cell? ⟨g, 1, none⟩ = some (.slice A2 n2 c2) ∧ w.cell? ⟨g, 2, none⟩ = some (.slice A3 n3 c3)
set_option maxHeartbeats 3200000 in
set_option maxRecDepth 100000 in
theorem concat3_any (g : Nat) (A1 A2 A3 : Option Addr) (n1 c1 n2 c2 n3 c3 : Nat) (xs ys zs : List Int) (w : World) (hg : g < w.heap.size) (h : Rd3 w g A1 A2 A3 n1 c1 n2 c2 n3 c3) (h1 : Rd w A1 n1 c1 xs) (h2 : Rd w A2 n2 c2 ys) (h3 : Rd w A3 n3 c3 zs) (b1 : n1 ≤ 16384) (b2 : n2 ≤ 16384) (b3 : n3 ≤ 16384) :
    Calls Try.prog 84 #[.slice (some ⟨g, 0, none⟩) 3 3] w fun e w' => ∃ A' c', e = .returned (.slice A' (n1 + n2 + n3) c') ∧ Own w' w.heap.size A' (n1 + n2 + n3) c' (xs ++ ys ++ zs) ∧ Below w.heap.size w w' := by
  obtain ⟨q0, q1, q2⟩ := h
  go_enter Try.func84, Try.ntmps84
  have hc1 := h1.cap
  have hc2 := h2.cap
  have hc3 := h3.cap
  go_wp2_with fail
  go_loop [3, 11] (fun sz i => ∃ k : Nat, k ≤ 3 ∧ i = .int .i64 k ∧ sz = .int .i64 ((sizes3 n1 n2 n3 k : Nat) : Int)) (fun _ i => 3 - (intOf i).toNat)
  case atStart => exact ⟨0, by omega, rfl, rfl⟩
  case round =>
    obtain ⟨k, hk, rfl, rfl⟩ := hrel
    have hk4 : k = 0 ∨ k = 1 ∨ k = 2 ∨ k = 3 := by omega
    rcases hk4 with rfl | rfl | rfl | rfl
    · simp only [sizes3]
      go_wp2_with fail
      go_round
      case rel => exact ⟨1, by omega, by go_num, by simp [sizes3]⟩
      case measure => simp [intOf]
    · simp only [sizes3]
      go_wp2_with fail
      go_round
      case rel => exact ⟨2, by omega, by go_num, by simp [sizes3]⟩
      case measure => simp [intOf]
    · simp only [sizes3]
      go_wp2_with fail
      go_round
      case rel => exact ⟨3, by omega, by go_num, by simp [sizes3]⟩
      case measure => simp [intOf]
    · simp only [sizes3]
      go_wp2_with fail
      refine (growNil_at _ (n1 + n2 + n3) (by omega) _ (by omega)).mono ?_
      rintro e w1 ⟨A0, c0, rfl, own0, bel0⟩
      have q0' := (bel0.cell (p := ⟨g, 0, none⟩) hg).trans q0
      have q1' := (bel0.cell (p := ⟨g, 1, none⟩) hg).trans q1
      have q2' := (bel0.cell (p := ⟨g, 2, none⟩) hg).trans q2
      clear q0 q1 q2
      go_wp2_with fail
      go_loopw [6, 27] (fun s i wr => ∃ (k : Nat) (A' : Option Addr) (c' : Nat), k ≤ 3 ∧ i = .int .i64 k ∧ s = .slice A' (sizes3 n1 n2 n3 k) c' ∧ Own wr w.heap.size A' (sizes3 n1 n2 n3 k) c' (lists3 xs ys zs k) ∧ Below w.heap.size w wr) (fun _ i _ => 3 - (intOf i).toNat)
      case atStart => exact ⟨0, _, _, by omega, rfl, rfl, own0, bel0⟩
      case round =>
        obtain ⟨k, A', c', hk, rfl, rfl, hown, hbel⟩ := hrel
        have hsz := hbel.size
        have hk4 : k = 0 ∨ k = 1 ∨ k = 2 ∨ k = 3 := by omega
        rcases hk4 with rfl | rfl | rfl | rfl
        · have q := (hbel.cell (p := ⟨g, 0, none⟩) hg).trans ((bel0.cell (p := ⟨g, 0, none⟩) hg).symm.trans q0')
          simp only [sizes3, lists3] at hown ⊢
          go_wp2_with (at_builtin; refine append_rd rfl _ _ rfl w.heap.size rfl hown (h1.below hbel) rfl (by omega) hsz ?_; intro A2' c2' w2 own2 gr2)
          have hb2 := below_own hbel hsz hown (Nat.le_refl _) gr2
          simp only [Nat.zero_add, List.nil_append] at own2
          go_roundw
          case rel => exact ⟨1, A2', c2', by omega, by go_num, by simp [sizes3], own2, hb2⟩
          case measure => simp [intOf]
        · have q := (hbel.cell (p := ⟨g, 1, none⟩) hg).trans ((bel0.cell (p := ⟨g, 1, none⟩) hg).symm.trans q1')
          simp only [sizes3, lists3] at hown ⊢
          go_wp2_with (at_builtin; refine append_rd rfl _ _ rfl w.heap.size rfl hown (h2.below hbel) rfl (by omega) hsz ?_; intro A2' c2' w2 own2 gr2)
          have hb2 := below_own hbel hsz hown (Nat.le_refl _) gr2
          go_roundw
          case rel => exact ⟨2, A2', c2', by omega, by go_num, by simp [sizes3], own2, hb2⟩
          case measure => simp [intOf]
        · have q := (hbel.cell (p := ⟨g, 2, none⟩) hg).trans ((bel0.cell (p := ⟨g, 2, none⟩) hg).symm.trans q2')
          simp only [sizes3, lists3] at hown ⊢
          go_wp2_with (at_builtin; refine append_rd rfl _ _ rfl w.heap.size rfl hown (h3.below hbel) rfl (by omega) hsz ?_; intro A2' c2' w2 own2 gr2)
          have hb2 := below_own hbel hsz hown (Nat.le_refl _) gr2
          go_roundw
          case rel => exact ⟨3, A2', c2', by omega, by go_num, by simp [sizes3], own2, hb2⟩
          case measure => simp [intOf]
        · simp only [sizes3, lists3] at hown ⊢
          go_wp2_with fail
          go_ret
          exact ⟨_, _, rfl, hown, hbel⟩

set_option maxHeartbeats 1600000 in
set_option maxRecDepth 100000 in
theorem iPadLine_c (A : Option Addr) (n c : Nat) (zs : List Int) (a b : Int) (w : World) (h : Rd w A n c zs) (ha : -9223372036854775808 ≤ a ∧ a ≤ 9223372036854775807) (hb : -9223372036854775808 ≤ b ∧ b ≤ 9223372036854775807) (hn : n ≤ 1048576) :
    Calls Try.prog 38 #[.slice A n c, .int .i64 a, .int .i64 b] w fun e w' => ∃ A' n' c', e = .returned (.tuple #[.slice A' n' c', .int .i64 (padC zs a b)]) ∧ Own w' w.heap.size A' n' c' (padR zs a b) ∧ Below w.heap.size w w' ∧ n' ≤ 1048576 := by
  have hlen := h.le
  have hcap := h.cap
  by_cases hz : bitsB zs = true
  · by_cases hia : inB 0 8192 a = true
    · by_cases hib : inB 0 8192 b = true
      · obtain ⟨a0, a1⟩ := inB_true hia
        obtain ⟨b0, b1⟩ := inB_true hib
        by_cases h8 : 8192 < (zs.length : Int) + a + b
        · obtain ⟨e1, e2⟩ := pad_long hz hia hib h8
          have E1 := hide e1
          have E2 := hide e2
          have t1 : decide (8192 < a + b + (n : Int)) = true := by simp; omega
          have hn8 := bits_len hz
          clear e1 e2 h8
          go_enter Try.func38, Try.ntmps38
          go_wp2_with (first | (go_at_call 83; refine (iIsBits_any _ _ _ _ _ h).mono ?_; rintro e w' ⟨rfl, rfl⟩) | (go_at_call 74; refine (within_any _ _ _ _).mono ?_; rintro e w' ⟨rfl, rfl⟩))
          go_ret2
          exact ⟨none, 0, 0, ret_sc E2.out, by rw [E1.out]; exact Own.nil _ _, Below.refl _ _, by omega⟩
        · obtain ⟨e1, e2⟩ := pad_yes hz hia hib h8
          have E1 := hide e1
          have E2 := hide e2
          have hn8 := bits_len hz
          have t1 : decide (8192 < a + b + (n : Int)) = false := by simp; omega
          clear e1 e2 h8
          go_enter Try.func38, Try.ntmps38
          go_wp2_with (first | (go_at_call 83; refine (iIsBits_any _ _ _ _ _ h).mono ?_; rintro e w' ⟨rfl, rfl⟩) | (go_at_call 74; refine (within_any _ _ _ _).mono ?_; rintro e w' ⟨rfl, rfl⟩))
          refine (highs_any a _ a0 (by omega)).mono ?_
          rintro e w1 ⟨A1, c1, rfl, own1, bel1⟩
          go_wp2_with fail
          refine (highs_any b _ b0 (by omega)).mono ?_
          rintro e w2 ⟨A2, c2, rfl, own2, bel2⟩
          have o1 := own1.below bel2
          have B2 := hide (below_trans bel1 bel2)
          clear own1 bel1 bel2
          have an : a.toNat ≤ 8192 := by omega
          have bn : b.toNat ≤ 8192 := by omega
          go_wp2_with fail
          have hbl : Below w2.heap.size w2 (w2.alloc (.cells #[.slice A1 a.toNat c1, .slice A n c, .slice A2 b.toNat c2] 25)) := (Below.refl _ _).alloc (Nat.le_refl _) _
          refine (concat3_any w2.heap.size A1 A A2 a.toNat c1 n c b.toNat c2 _ zs _ _ (by simp) ⟨World.cell?_alloc_new _ _ _ _, World.cell?_alloc_new _ _ _ _, World.cell?_alloc_new _ _ _ _⟩ (o1.rd.below hbl) ((h.below B2.out).below hbl) (own2.rd.below hbl) (by omega) (by omega) (by omega)).mono ?_
          rintro e w3 ⟨A3, c3, rfl, own3, bel3⟩
          go_wp2_with fail
          go_ret2
          exact ⟨_, _, _, ret_sc E2.out, by rw [E1.out]; exact own3.mono (by have := B2.out.size; simp; omega), below_trans (below_trans B2.out hbl) bel3, by omega⟩
      · rw [Bool.not_eq_true] at hib
        obtain ⟨e1, e2⟩ := pad_range hz (.inr hib)
        have E1 := hide e1
        have E2 := hide e2
        clear e1 e2
        go_enter Try.func38, Try.ntmps38
        go_wp2_with (first | (go_at_call 83; refine (iIsBits_any _ _ _ _ _ h).mono ?_; rintro e w' ⟨rfl, rfl⟩) | (go_at_call 74; refine (within_any _ _ _ _).mono ?_; rintro e w' ⟨rfl, rfl⟩))
        go_ret2
        exact ⟨none, 0, 0, ret_sc E2.out, by rw [E1.out]; exact Own.nil _ _, Below.refl _ _, by omega⟩
    · rw [Bool.not_eq_true] at hia
      obtain ⟨e1, e2⟩ := pad_range (b := b) hz (.inl hia)
      have E1 := hide e1
      have E2 := hide e2
      clear e1 e2
      go_enter Try.func38, Try.ntmps38
      go_wp2_with (first | (go_at_call 83; refine (iIsBits_any _ _ _ _ _ h).mono ?_; rintro e w' ⟨rfl, rfl⟩) | (go_at_call 74; refine (within_any _ _ _ _).mono ?_; rintro e w' ⟨rfl, rfl⟩))
      go_ret2
      exact ⟨none, 0, 0, ret_sc E2.out, by rw [E1.out]; exact Own.nil _ _, Below.refl _ _, by omega⟩
  · rw [Bool.not_eq_true] at hz
    obtain ⟨e1, e2⟩ := pad_no (a := a) (b := b) hz
    have E1 := hide e1
    have E2 := hide e2
    clear e1 e2
    go_enter Try.func38, Try.ntmps38
    go_wp2_with (first | (go_at_call 83; refine (iIsBits_any _ _ _ _ _ h).mono ?_; rintro e w' ⟨rfl, rfl⟩))
    go_ret2
    exact ⟨none, 0, 0, ret_sc E2.out, by rw [E1.out]; exact Own.nil _ _, Below.refl _ _, by omega⟩
end Go.Proofs.Ytdodhjahihfaiaa
