/- Contracts: byte lists, the bits of bytes, the cells of a transmission, a padded line. -/
import Derived.Test.YtdodhjahihfaiaaLineMath
import Derived.Test.YtdodhjahihfaiaaRepeat
import Derived.Test.YtdodhjahihfaiaaMiddle
import Derived.Laws.BitsAllLaws
import Derived.Laws.BitsLemmas
namespace Go.Proofs.Ytdodhjahihfaiaa
open Go.RowKit
set_option linter.unusedVariables false
set_option linter.unusedSimpArgs false

theorem sIsBytes_any (A : Option Addr) (n c : Nat) (zs : List Int) (w : World) (h : Rd w A n c zs) :
    Calls Try.prog 78 #[.slice A n c] w fun e w' => e = .returned (.bool (bytesB zs)) ∧ w = w' := by
  go_enter Try.func78, Try.ntmps78
  go_wp2_with (go_at_call 104; refine (l01All_any _ _ _ _ 1024 _ _ (by omega) h).mono ?_; rintro e w' ⟨rfl, rfl⟩)
  go_ret
  exact ⟨rfl, rfl⟩
theorem iIsBytes_any (A : Option Addr) (n c : Nat) (zs : List Int) (w : World) (h : Rd w A n c zs) :
    Calls Try.prog 79 #[.slice A n c] w fun e w' => e = .returned (.bool (bytesB zs)) ∧ w = w' := by
  have hlen := h.le
  have hcap := h.cap
  by_cases hn : n ≤ 1024
  · have hfin := hide (upB_yes (m := 1024) (lo := 0) (hi := 255) (zs := zs) (by omega))
    go_enter Try.func79, Try.ntmps79
    go_wp2_with (go_at_call 105; refine (allWithin_any _ _ _ _ _ _ _ h).mono ?_; rintro e w' ⟨rfl, rfl⟩)
    go_ret
    exact ⟨ret_bool hfin.out.symm, rfl⟩
  · have hfin := hide (upB_no (m := 1024) (lo := 0) (hi := 255) (zs := zs) (by omega))
    go_enter Try.func79, Try.ntmps79
    go_wp2
    go_ret
    exact ⟨ret_bool hfin.out.symm, rfl⟩
theorem l18Preamble_any (p : Int) (w : World) : Calls Try.prog 73 #[.int .i64 p] w fun e w' => e = .returned (.bool (inB 3 15 p)) ∧ w = w' := by
  go_enter Try.func73, Try.ntmps73
  go_wp2_with (go_at_call 72; refine (l01In_any _ _ _ _).mono ?_; rintro e w' ⟨rfl, rfl⟩)
  go_ret
  exact ⟨rfl, rfl⟩
theorem isPreamble_any (p : Int) (w : World) : Calls Try.prog 75 #[.int .i64 p] w fun e w' => e = .returned (.bool (inB 3 15 p)) ∧ w = w' := by
  go_enter Try.func75, Try.ntmps75
  go_wp2_with (go_at_call 74; refine (within_any _ _ _ _).mono ?_; rintro e w' ⟨rfl, rfl⟩)
  go_ret
  exact ⟨rfl, rfl⟩

/-- the lowest bit of a number of at least 0 -/
theorem i64_and_one {x : Int} (h0 : 0 ≤ x) (h1 : x < 9223372036854775808) : bits .and .i64 x 1 = x % 2 := by
  obtain ⟨n, rfl⟩ := Int.eq_ofNat_of_zero_le h0
  have hx : n &&& 1 < 2 ^ 63 := Nat.and_lt_two_pow _ (by omega)
  have e (a : Nat) (ha : a < 9223372036854775808) : (BitVec.ofInt 64 (a : Int)).toNat = a := by
    rw [BitVec.ofInt_natCast, BitVec.toNat_ofNat]; exact Nat.mod_eq_of_lt (by omega)
  show IntKind.i64.wrap ((BitVec.ofInt 64 (n : Int) &&& BitVec.ofInt 64 ((1 : Nat) : Int)).toNat : Int) = _
  rw [BitVec.toNat_and, e n (by omega), e 1 (by omega), Nat.and_one_is_mod, IntKind.wrap_i64]
  omega

/-- the bits of the first k bytes -/
def bitsAll (zs : List Int) : Nat → List Int
  | 0 => []
  | k + 1 => bitsAll zs k ++ bits8 (nth zs k)
theorem bitsAll_succ (zs : List Int) (k : Nat) : bitsAll zs (k + 1) = bitsAll zs k ++ bits8 (nth zs k) := rfl
theorem bitsAll_len (zs : List Int) (k : Nat) : (bitsAll zs k).length = 8 * k := by
  induction k with
  | zero => rfl
  | succ k ih => rw [bitsAll_succ, List.length_append, ih, bits8_len]; omega
theorem bit_step (x : Int) (j : Nat) : bitsTo x 8 (j + 1) = bitsTo x 8 j ++ [x / 2 ^ (7 - j) % 2] := bitsTo_succ x 8 j
theorem bit_lt {x : Int} (h0 : 0 ≤ x) (h1 : x ≤ 255) (j : Nat) : 0 ≤ x / 2 ^ j ∧ x / 2 ^ j ≤ 255 := by
  have hp : (0 : Int) < 2 ^ j := Int.pow_pos (by decide)
  refine ⟨Int.ediv_nonneg h0 (by omega), ?_⟩
  have := Int.ediv_le_self (2 ^ j) h0
  omega

set_option maxHeartbeats 1600000 in
theorem l01Bits_any (A : Option Addr) (n c : Nat) (zs : List Int) (w : World) (h : Rd w A n c zs) (hn : n ≤ 8192) (hb : allB 0 255 zs = true) :
    Calls Try.prog 106 #[.slice A n c] w fun e w' => ∃ A' c', e = .returned (.slice A' (8 * n) c') ∧ Own w' w.heap.size A' (8 * n) c' (bitsAll zs n) ∧ Below w.heap.size w w' := by
  have hlen := h.le
  have hcap := h.cap
  go_enter Try.func106, Try.ntmps106
  go_wp2
  go_loopw [3, 4] (fun s i wr => ∃ (k : Nat) (A' : Option Addr) (c' : Nat), k ≤ n ∧ i = .int .i64 k ∧ s = .slice A' (8 * k) c' ∧ Own wr w.heap.size A' (8 * k) c' (bitsAll zs k) ∧ Below w.heap.size w wr) (fun _ i _ => n - (intOf i).toNat)
  case atStart => exact ⟨0, _, _, by omega, rfl, rfl, Own.empty w (Nat.le_refl _), (Below.refl _ _).alloc (Nat.le_refl _) _⟩
  case round =>
    obtain ⟨k, A', c', hk, rfl, rfl, hown, hbel⟩ := hrel
    by_cases hlt : k < n
    · obtain ⟨b, off, rfl, hbb, hc⟩ := h.at_ (by omega)
      have hck0 := hc k hlt
      have hz := allB_get hb k (by omega)
      have hst := hide (bitsAll_succ zs k)
      have HC := hide hck0
      clear hc hck0
      obtain ⟨wo, rfl⟩ : ∃ wo : World, wo = wr := ⟨_, rfl⟩
      go_wp2
      go_loopw [3, 5] (fun s i wr => ∃ (j : Nat) (A' : Option Addr) (c' : Nat), j ≤ 8 ∧ i = .int .i64 (7 - (j : Int)) ∧ s = .slice A' (8 * k + j) c' ∧ Own wr w.heap.size A' (8 * k + j) c' (bitsAll zs k ++ bitsTo (nth zs k) 8 j) ∧ Below w.heap.size w wr) (fun _ i _ => (intOf i + 1).toNat)
      case atStart => exact ⟨0, A', c', by omega, rfl, rfl, by simpa [bitsTo] using hown, hbel⟩
      case round =>
        obtain ⟨j, A1, c1, hj, rfl, rfl, own1, bel1⟩ := hrel
        have hsz := bel1.size
        by_cases hj8 : j < 8
        · have hck := (bel1.cell (p := ⟨b, off + k, none⟩) hbb).trans HC.out
          have hd := bit_lt hz.1 hz.2 (7 - j)
          have hand := i64_and_one (x := nth zs k / 2 ^ (7 - j)) hd.1 (by omega)
          have hbs := hide (bit_step (nth zs k) j)
          obtain ⟨y, hy⟩ : ∃ y, y = nth zs k / 2 ^ (7 - j) % 2 := ⟨_, rfl⟩
          have y0 : 0 ≤ y ∧ y ≤ 1 := by omega
          rw [← hy] at hand hbs
          clear hy hd
          go_wp2_with (at_builtin; refine append_new rfl _ _ rfl w.heap.size rfl own1 _ [y] 1 rfl (I64.one (by omega) (by omega)) rfl rfl (by omega) hsz ?_; intro A2 c2 w2 own2 gr2)
          have hb2 := below_mark bel1 own1 (Nat.le_refl _) gr2
          rw [List.append_assoc, ← hbs.out] at own2
          go_roundw
          case rel => exact ⟨j + 1, A2, c2, by omega, by go_num, rfl, own2, hb2⟩
          case measure => simp [intOf]; omega
        · obtain rfl : j = 8 := by omega
          rw [show bitsTo (nth zs k) 8 8 = bits8 (nth zs k) from rfl, ← hst.out] at own1
          go_wp2
          go_roundw
          case rel => exact ⟨k + 1, A1, c1, by omega, by go_num, rfl, own1, bel1⟩
          case measure => simp [intOf]; omega
    · obtain rfl : k = n := by omega
      go_wp2
      go_ret
      exact ⟨_, _, rfl, hown, hbel⟩

theorem append_newL {w : World} {A : Option Addr} {n c : Nat} {zs : List Int} {ops : Array Oper} {rest : List Oper} {o : Oper} {a : Act} {Q : Exit → Act → World → Prop} (hgd : o.guard = none) (s x : Operand)
    (ho : o.op = .call { callee := .builtin .append, args := #[s, x], argTypes := #[25, 25] })
    (B : Nat) (hs : a.eval s = .slice A n c) (hown : Own w B A n c zs) (cs : Array Value) (ys : List Int) (m L : Nat) (hcs : cs.toList = ints ys) (hy : I64 ys) (hm : ys.length = m)
    (hx : a.eval x = .slice (some ⟨L, 0, none⟩) m m) (hL : L = w.heap.size) (hn : n + m ≤ 16777216) (hB : B ≤ w.heap.size)
    (h : ∀ A' c' w', Own w' B A' (n + m) c' (zs ++ ys) → w.grownBy w' (Value.slice A n c).ownBlock → wpList Try.prog ops Q rest (a.put o.dst (.slice A' (n + m) c')) w') :
    wpList Try.prog ops Q (o :: rest) a (w.alloc (.cells cs 2)) := by
  subst hL
  exact append_new hgd s x ho B hs hown cs ys m hcs hy hm hx hn hB h
/-- a part of a slice -/
theorem Rd.sub {w : World} {b off n c : Nat} {zs : List Int} (h : Rd w (some ⟨b, off, none⟩) n c zs) (i j : Nat) (hij : i ≤ j) (hj : j ≤ n) : Rd w (some ⟨b, off + i, none⟩) (j - i) (c - i) ((zs.take j).drop i) := by
  have hl := h.len
  have hc := h.cap
  refine ⟨by simp; omega, by omega, by have := h.2.2.1; omega, ⟨fun z hz => h.i64 z (List.mem_of_mem_take (List.mem_of_mem_drop hz)), fun e => by cases e⟩, fun hn => ⟨b, off + i, rfl, fun k hk => ?_⟩⟩
  obtain ⟨b', off', hA, _, hcell⟩ := h.at_ (by omega)
  simp at hA
  obtain ⟨rfl, rfl⟩ := hA
  rw [nth_drop, nth_take _ _ _ (by omega), Nat.add_assoc]
  exact hcell (i + k) (by omega)
theorem bitsAll_one (x : Int) : bitsAll [x] 1 = bits8 x := by simp [bitsAll, nth_cons_zero]
theorem one_at (zs : List Int) (k : Nat) (h : k < zs.length) : (zs.take (k + 1)).drop k = [nth zs k] := by
  rw [take_snoc zs k h, List.drop_append_of_le_length (by simp; omega), List.drop_of_length_le (by simp; omega), List.nil_append]
theorem blks_take (zs : List Int) (k : Nat) (h : k < zs.length) : blks (zs.take (k + 1)) = blks (zs.take k) ++ ([1, 0] ++ bits8 (nth zs k)) := by
  rw [take_snoc zs k h, blks_snoc]; rfl

set_option maxHeartbeats 1600000 in
theorem l18Cells_any (A : Option Addr) (n c : Nat) (zs : List Int) (p : Nat) (w : World) (h : Rd w A n c zs) (hn : n ≤ 1024) (hb : allB 0 255 zs = true) (hp : p ≤ 15) :
    Calls Try.prog 80 #[.slice A n c, .int .i64 p] w fun e w' => ∃ A' c', e = .returned (.slice A' (p + 3 + 10 * n) c') ∧ Own w' w.heap.size A' (p + 3 + 10 * n) c' (tx zs p) ∧ Below w.heap.size w w' := by
  have hlen := h.le
  have hcap := h.cap
  have hmk : ∀ W : World, (Instr.makeSlice 25 (.int .i64 (p : Int)) (.int .i64 (p : Int))).run Try.prog W = .ok (.slice (some ⟨W.heap.size, 0, none⟩) p p) (W.alloc (.cells (madeCells #[.int .i64 0] p) 2)) :=
    run_make_row' (P := Try.prog) 25 2 (.int .i64 0) 8 Try.underlying25 info_i64 rfl .i64 .i64 p (by omega) (by omega)
  have own0 := Own.made w (n := p) (by omega)
  have O0 := hide own0
  clear own0
  go_enter Try.func80, Try.ntmps80
  go_wp2_with (at_builtin; refine append_newL rfl _ _ rfl w.heap.size rfl O0.out _ [1] 1 (w.heap.size + 1) rfl (I64.one (by omega) (by omega)) rfl rfl (by simp) (by omega) (by simp) ?_; intro A1 c1 w1 own1 gr1)
  have hb1 := below_own ((Below.refl w.heap.size w).alloc (Nat.le_refl _) _) (by simp) O0.out (Nat.le_refl _) gr1
  clear gr1
  go_loopw [5, 6] (fun s i wr => ∃ (k : Nat) (A' : Option Addr) (c' : Nat), k ≤ n ∧ i = .int .i64 k ∧ s = .slice A' (p + 1 + 10 * k) c' ∧ Own wr w.heap.size A' (p + 1 + 10 * k) c' (List.replicate p 0 ++ [1] ++ blks (zs.take k)) ∧ Below w.heap.size w wr) (fun _ i _ => n - (intOf i).toNat)
  case atStart => exact ⟨0, A1, c1, by omega, rfl, rfl, by simpa [blks_nil] using own1, hb1⟩
  case round =>
    obtain ⟨k, A', c', hk, rfl, rfl, hown, hbel⟩ := hrel
    have hsz := hbel.size
    by_cases hlt : k < n
    · obtain ⟨b, off, rfl, hbb, hc⟩ := h.at_ (by omega)
      have hsub0 := h.sub k (k + 1) (by omega) (by omega)
      rw [show k + 1 - k = 1 by omega, one_at zs k (by omega)] at hsub0
      have hsub := hide hsub0
      have hz := allB_get hb k (by omega)
      have hz1 : allB 0 255 [nth zs k] = true := by simp [allB, hz.1, hz.2]
      have HZ := hide hz1
      have hb1 := hide (bitsAll_one (nth zs k))
      have hst := hide (blks_take zs k (by omega))
      clear hc hsub0 hz1
      go_wp2_with (at_builtin; refine append_new rfl _ _ rfl w.heap.size rfl hown _ [1, 0] 2 rfl (by intro z hz; simp at hz; omega) rfl rfl (by omega) hsz ?_; intro A2 c2 w2 own2 gr2)
      have hb2 := below_own hbel hsz hown (Nat.le_refl _) gr2
      refine (l01Bits_any _ _ _ [nth zs k] _ (hsub.out.below hb2) (by omega) HZ.out).mono ?_
      rintro e w3 ⟨A3, c3, rfl, own3, bel3⟩
      have hb3 := hb2.trans (bel3.mono hb2.size)
      have own2' := own2.below bel3
      rw [hb1.out] at own3
      have hsz3 := hb3.size
      clear own2 hown hsz
      go_wp2_with (at_builtin; refine append_rd rfl _ _ rfl w.heap.size rfl own2' own3.rd rfl (by omega) hsz3 ?_; intro A4 c4 w4 own4 gr4)
      have hb4 := below_own hb3 hsz3 own2' (Nat.le_refl _) gr4
      rw [List.append_assoc, List.append_assoc, ← hst.out] at own4
      go_roundw
      case rel => exact ⟨k + 1, A4, c4, by omega, by go_num, rfl, own4, hb4⟩
      case measure => simp [intOf]; omega
    · obtain rfl : k = n := by omega
      have e1 : Hid (zs.take k = zs) := List.take_of_length_le (by omega)
      go_wp2_with (at_builtin; refine append_new rfl _ _ rfl w.heap.size rfl hown _ [0, 1] 2 rfl (by intro z hz; simp at hz; omega) rfl rfl (by omega) hsz ?_; intro A2 c2 w2 own2 gr2)
      have hb2 := below_own hbel hsz hown (Nat.le_refl _) gr2
      rw [e1.out] at own2
      go_ret
      refine ⟨A2, c2, ?_, ?_, hb2⟩
      · rw [show p + 3 + 10 * k = p + 1 + 10 * k + 2 by omega]
        rfl
      · rw [show p + 3 + 10 * k = p + 1 + 10 * k + 2 by omega]
        simpa [tx] using own2

/-- the code and the cells of CellsOf -/
def cellsC (zs : List Int) (p : Int) : Int := if bytesB zs then (if inB 3 15 p then (if 8192 < p + 3 + 10 * zs.length then 3 else 0) else 2) else 1
def cellsR (zs : List Int) (p : Int) : List Int := if cellsC zs p = 0 then tx zs p.toNat else []
theorem cells_yes {zs : List Int} {p : Int} (h : bytesB zs = true) (hp : inB 3 15 p = true) (h8 : ¬ 8192 < p + 3 + 10 * (zs.length : Int)) : cellsR zs p = tx zs p.toNat ∧ 0 = cellsC zs p := by
  have : cellsC zs p = 0 := by simp [cellsC, h, hp, h8]
  exact ⟨by rw [cellsR, if_pos this], this.symm⟩
theorem cells_long {zs : List Int} {p : Int} (h : bytesB zs = true) (hp : inB 3 15 p = true) (h8 : 8192 < p + 3 + 10 * (zs.length : Int)) : cellsR zs p = [] ∧ 3 = cellsC zs p := by
  have : cellsC zs p = 3 := by simp [cellsC, h, hp, h8]
  exact ⟨by rw [cellsR, if_neg (by omega)], this.symm⟩
theorem cells_range {zs : List Int} {p : Int} (h : bytesB zs = true) (hp : inB 3 15 p = false) : cellsR zs p = [] ∧ 2 = cellsC zs p := by
  have : cellsC zs p = 2 := by simp [cellsC, h, hp]
  exact ⟨by rw [cellsR, if_neg (by omega)], this.symm⟩
theorem cells_no {zs : List Int} {p : Int} (h : bytesB zs = false) : cellsR zs p = [] ∧ 1 = cellsC zs p := by
  have : cellsC zs p = 1 := by simp [cellsC, h]
  exact ⟨by rw [cellsR, if_neg (by omega)], this.symm⟩
theorem bytesB_get {zs : List Int} (h : bytesB zs = true) : zs.length ≤ 1024 ∧ allB 0 255 zs = true := by simpa [bytesB, upB] using h

set_option maxHeartbeats 800000 in
theorem sCellsOf_c (A : Option Addr) (n c : Nat) (zs : List Int) (p : Int) (w : World) (h : Rd w A n c zs) (hp : -9223372036854775808 ≤ p ∧ p ≤ 9223372036854775807) (hn : n ≤ 1048576) :
    Calls Try.prog 31 #[.slice A n c, .int .i64 p] w fun e w' => ∃ A' n' c', e = .returned (.tuple #[.slice A' n' c', .int .i64 (cellsC zs p)]) ∧ Own w' w.heap.size A' n' c' (cellsR zs p) ∧ Below w.heap.size w w' ∧ n' ≤ 1048576 := by
  have hlen := h.le
  have hcap := h.cap
  by_cases hb : bytesB zs = true
  · by_cases hpp : inB 3 15 p = true
    · obtain ⟨p3, p15⟩ := inB_true hpp
      by_cases h8 : 8192 < p + 3 + 10 * (zs.length : Int)
      · obtain ⟨e1, e2⟩ := cells_long hb hpp h8
        have E1 := hide e1
        have E2 := hide e2
        have t1 : decide (8192 < p + 3 + 10 * (n : Int)) = true := by simp; omega
        clear e1 e2 h8
        go_enter Try.func31, Try.ntmps31
        go_wp2_with (first | (go_at_call 78; refine (sIsBytes_any _ _ _ _ _ h).mono ?_; rintro e w' ⟨rfl, rfl⟩) | (go_at_call 73; refine (l18Preamble_any _ _).mono ?_; rintro e w' ⟨rfl, rfl⟩))
        go_ret2
        exact ⟨none, 0, 0, ret_sc E2.out, by rw [E1.out]; exact Own.nil _ _, Below.refl _ _, by omega⟩
      · obtain ⟨e1, e2⟩ := cells_yes hb hpp h8
        have hbb := bytesB_get hb
        have hall := hide hbb.2
        obtain ⟨p, rfl⟩ := Int.eq_ofNat_of_zero_le (a := p) (by omega)
        rw [Int.toNat_natCast] at e1
        have E1 := hide e1
        have E2 := hide e2
        have t1 : decide (8192 < (p : Int) + 3 + 10 * (n : Int)) = false := by simp; omega
        have hn4 : n ≤ 1024 := by omega
        clear e1 e2 h8 hbb
        go_enter Try.func31, Try.ntmps31
        go_wp2_with (first | (go_at_call 78; refine (sIsBytes_any _ _ _ _ _ h).mono ?_; rintro e w' ⟨rfl, rfl⟩) | (go_at_call 73; refine (l18Preamble_any _ _).mono ?_; rintro e w' ⟨rfl, rfl⟩) | (go_at_call 80; refine (l18Cells_any _ _ _ _ _ _ h (by omega) hall.out (by omega)).mono ?_; rintro e w' ⟨A1, c1, rfl, own1, bel1⟩))
        go_ret2
        exact ⟨A1, _, c1, ret_sc E2.out, by rw [E1.out]; exact own1, bel1, by omega⟩
    · rw [Bool.not_eq_true] at hpp
      obtain ⟨e1, e2⟩ := cells_range hb hpp
      have E1 := hide e1
      have E2 := hide e2
      clear e1 e2
      go_enter Try.func31, Try.ntmps31
      go_wp2_with (first | (go_at_call 78; refine (sIsBytes_any _ _ _ _ _ h).mono ?_; rintro e w' ⟨rfl, rfl⟩) | (go_at_call 73; refine (l18Preamble_any _ _).mono ?_; rintro e w' ⟨rfl, rfl⟩))
      go_ret2
      exact ⟨none, 0, 0, ret_sc E2.out, by rw [E1.out]; exact Own.nil _ _, Below.refl _ _, by omega⟩
  · rw [Bool.not_eq_true] at hb
    obtain ⟨e1, e2⟩ := cells_no (p := p) hb
    have E1 := hide e1
    have E2 := hide e2
    clear e1 e2
    go_enter Try.func31, Try.ntmps31
    go_wp2_with (first | (go_at_call 78; refine (sIsBytes_any _ _ _ _ _ h).mono ?_; rintro e w' ⟨rfl, rfl⟩))
    go_ret2
    exact ⟨none, 0, 0, ret_sc E2.out, by rw [E1.out]; exact Own.nil _ _, Below.refl _ _, by omega⟩

/-- the code and the cells of PadLine -/
def padC (zs : List Int) (a b : Int) : Int := if bitsB zs then (if inB 0 8192 a && inB 0 8192 b then (if 8192 < (zs.length : Int) + a + b then 3 else 0) else 2) else 1
def padR (zs : List Int) (a b : Int) : List Int := if padC zs a b = 0 then List.replicate a.toNat 1 ++ zs ++ List.replicate b.toNat 1 else []
theorem pad_yes {zs : List Int} {a b : Int} (h : bitsB zs = true) (ha : inB 0 8192 a = true) (hb : inB 0 8192 b = true) (h8 : ¬ 8192 < (zs.length : Int) + a + b) : padR zs a b = List.replicate a.toNat 1 ++ zs ++ List.replicate b.toNat 1 ∧ 0 = padC zs a b := by
  have : padC zs a b = 0 := by simp [padC, h, ha, hb, h8]
  exact ⟨by rw [padR, if_pos this], this.symm⟩
theorem pad_long {zs : List Int} {a b : Int} (h : bitsB zs = true) (ha : inB 0 8192 a = true) (hb : inB 0 8192 b = true) (h8 : 8192 < (zs.length : Int) + a + b) : padR zs a b = [] ∧ 3 = padC zs a b := by
  have : padC zs a b = 3 := by simp [padC, h, ha, hb, h8]
  exact ⟨by rw [padR, if_neg (by omega)], this.symm⟩
theorem pad_range {zs : List Int} {a b : Int} (h : bitsB zs = true) (ha : inB 0 8192 a = false ∨ inB 0 8192 b = false) : padR zs a b = [] ∧ 2 = padC zs a b := by
  have : padC zs a b = 2 := by rcases ha with ha | ha <;> simp [padC, h, ha]
  exact ⟨by rw [padR, if_neg (by omega)], this.symm⟩
theorem pad_no {zs : List Int} {a b : Int} (h : bitsB zs = false) : padR zs a b = [] ∧ 1 = padC zs a b := by
  have : padC zs a b = 1 := by simp [padC, h]
  exact ⟨by rw [padR, if_neg (by omega)], this.symm⟩

set_option maxHeartbeats 1600000 in
theorem sPadLine_c (A : Option Addr) (n c : Nat) (zs : List Int) (a b : Int) (w : World) (h : Rd w A n c zs) (ha : -9223372036854775808 ≤ a ∧ a ≤ 9223372036854775807) (hb : -9223372036854775808 ≤ b ∧ b ≤ 9223372036854775807) (hn : n ≤ 1048576) :
    Calls Try.prog 37 #[.slice A n c, .int .i64 a, .int .i64 b] w fun e w' => ∃ A' n' c', e = .returned (.tuple #[.slice A' n' c', .int .i64 (padC zs a b)]) ∧ Own w' w.heap.size A' n' c' (padR zs a b) ∧ Below w.heap.size w w' ∧ n' ≤ 1048576 := by
  have hlen := h.le
  have hcap := h.cap
  by_cases hz : bitsB zs = true
  · by_cases hia : inB 0 8192 a = true
    · by_cases hib : inB 0 8192 b = true
      · obtain ⟨a0, a1⟩ := inB_true hia
        obtain ⟨b0, b1⟩ := inB_true hib
        by_cases h8 : 8192 < (zs.length : Int) + a + b
        · obtain ⟨e1, e2⟩ := pad_long hz hia hib h8
          have E1 := hide e1
          have E2 := hide e2
          have t1 : decide (8192 < (n : Int) + a + b) = true := by simp; omega
          clear e1 e2 h8
          go_enter Try.func37, Try.ntmps37
          go_wp2_with (first | (go_at_call 82; refine (sIsBits_any _ _ _ _ _ h).mono ?_; rintro e w' ⟨rfl, rfl⟩) | (go_at_call 72; refine (l01In_any _ _ _ _).mono ?_; rintro e w' ⟨rfl, rfl⟩))
          go_ret2
          exact ⟨none, 0, 0, ret_sc E2.out, by rw [E1.out]; exact Own.nil _ _, Below.refl _ _, by omega⟩
        · obtain ⟨e1, e2⟩ := pad_yes hz hia hib h8
          obtain ⟨a, rfl⟩ := Int.eq_ofNat_of_zero_le a0
          obtain ⟨b, rfl⟩ := Int.eq_ofNat_of_zero_le b0
          rw [Int.toNat_natCast, Int.toNat_natCast] at e1
          have E1 := hide e1
          have E2 := hide e2
          have hz8 := bits_len hz
          have t1 : decide (8192 < (n : Int) + (a : Int) + (b : Int)) = false := by simp; omega
          clear e1 e2 h8
          go_enter Try.func37, Try.ntmps37
          go_wp2_with (first | (go_at_call 82; refine (sIsBits_any _ _ _ _ _ h).mono ?_; rintro e w' ⟨rfl, rfl⟩) | (go_at_call 72; refine (l01In_any _ _ _ _).mono ?_; rintro e w' ⟨rfl, rfl⟩))
          go_loopw [8, 9] (fun s i wr => ∃ (k : Nat) (A' : Option Addr) (c' : Nat), k ≤ a ∧ i = .int .i64 k ∧ s = .slice A' k c' ∧ Own wr w.heap.size A' k c' (List.replicate k 1) ∧ Below w.heap.size w wr) (fun _ i _ => a - (intOf i).toNat)
          case atStart => exact ⟨0, _, _, by omega, rfl, rfl, Own.empty w (Nat.le_refl _), (Below.refl _ _).alloc (Nat.le_refl _) _⟩
          case round =>
            obtain ⟨k, A', c', hk, rfl, rfl, hown, hbel⟩ := hrel
            have hsz := hbel.size
            by_cases hlt : k < a
            · have hd := hide (rep_succ k 1)
              go_wp2_with (at_builtin; refine append_new rfl _ _ rfl w.heap.size rfl hown _ [1] 1 rfl (I64.one (by omega) (by omega)) rfl rfl (by omega) hsz ?_; intro A2 c2 w2 own2 gr2)
              have hb2 := below_own hbel hsz hown (Nat.le_refl _) gr2
              rw [← hd.out] at own2
              go_roundw
              case rel => exact ⟨k + 1, A2, c2, by omega, by go_num, rfl, own2, hb2⟩
              case measure => simp [intOf]; omega
            · obtain rfl : k = a := by omega
              go_wp2_with (at_builtin; refine append_rd rfl _ _ rfl w.heap.size rfl hown (h.below hbel) rfl (by omega) hsz ?_; intro A2 c2 w2 own2 gr2)
              have hb2 := below_own hbel hsz hown (Nat.le_refl _) gr2
              clear hown hbel hsz gr2
              go_loopw [8, 10] (fun s i wr => ∃ (j : Nat) (A' : Option Addr) (c' : Nat), j ≤ b ∧ i = .int .i64 j ∧ s = .slice A' (k + n + j) c' ∧ Own wr w.heap.size A' (k + n + j) c' (List.replicate k 1 ++ zs ++ List.replicate j 1) ∧ Below w.heap.size w wr) (fun _ i _ => b - (intOf i).toNat)
              case atStart => exact ⟨0, _, _, by omega, rfl, rfl, by simpa using own2, hb2⟩
              case round =>
                obtain ⟨j, A', c', hj, rfl, rfl, hown, hbel⟩ := hrel
                have hsz := hbel.size
                by_cases hlj : j < b
                · have hd := hide (rep_succ j 1)
                  go_wp2_with (at_builtin; refine append_new rfl _ _ rfl w.heap.size rfl hown _ [1] 1 rfl (I64.one (by omega) (by omega)) rfl rfl (by omega) hsz ?_; intro A2 c2 w2 own2 gr2)
                  have hb2 := below_own hbel hsz hown (Nat.le_refl _) gr2
                  rw [List.append_assoc, ← hd.out] at own2
                  go_roundw
                  case rel => exact ⟨j + 1, A2, c2, by omega, by go_num, rfl, own2, hb2⟩
                  case measure => simp [intOf]; omega
                · obtain rfl : j = b := by omega
                  go_wp2
                  go_ret2
                  exact ⟨_, _, _, ret_sc E2.out, by rw [E1.out]; exact hown, hbel, by omega⟩
      · rw [Bool.not_eq_true] at hib
        obtain ⟨e1, e2⟩ := pad_range hz (.inr hib)
        have E1 := hide e1
        have E2 := hide e2
        clear e1 e2
        go_enter Try.func37, Try.ntmps37
        go_wp2_with (first | (go_at_call 82; refine (sIsBits_any _ _ _ _ _ h).mono ?_; rintro e w' ⟨rfl, rfl⟩) | (go_at_call 72; refine (l01In_any _ _ _ _).mono ?_; rintro e w' ⟨rfl, rfl⟩))
        go_ret2
        exact ⟨none, 0, 0, ret_sc E2.out, by rw [E1.out]; exact Own.nil _ _, Below.refl _ _, by omega⟩
    · rw [Bool.not_eq_true] at hia
      obtain ⟨e1, e2⟩ := pad_range (b := b) hz (.inl hia)
      have E1 := hide e1
      have E2 := hide e2
      clear e1 e2
      go_enter Try.func37, Try.ntmps37
      go_wp2_with (first | (go_at_call 82; refine (sIsBits_any _ _ _ _ _ h).mono ?_; rintro e w' ⟨rfl, rfl⟩) | (go_at_call 72; refine (l01In_any _ _ _ _).mono ?_; rintro e w' ⟨rfl, rfl⟩))
      go_ret2
      exact ⟨none, 0, 0, ret_sc E2.out, by rw [E1.out]; exact Own.nil _ _, Below.refl _ _, by omega⟩
  · rw [Bool.not_eq_true] at hz
    obtain ⟨e1, e2⟩ := pad_no (a := a) (b := b) hz
    have E1 := hide e1
    have E2 := hide e2
    clear e1 e2
    go_enter Try.func37, Try.ntmps37
    go_wp2_with (first | (go_at_call 82; refine (sIsBits_any _ _ _ _ _ h).mono ?_; rintro e w' ⟨rfl, rfl⟩))
    go_ret2
    exact ⟨none, 0, 0, ret_sc E2.out, by rw [E1.out]; exact Own.nil _ _, Below.refl _ _, by omega⟩
end Go.Proofs.Ytdodhjahihfaiaa
