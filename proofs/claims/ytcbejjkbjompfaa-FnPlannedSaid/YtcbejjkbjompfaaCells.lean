/- Contracts: byte lists, the bits of bytes, the cells of a transmission, a padded line. -/
import Derived.Test.YtcbejjkbjompfaaLineMath
import Derived.Test.YtcbejjkbjompfaaRepeat
import Derived.Test.YtcbejjkbjompfaaMiddle
import Derived.Laws.BitsAllLaws
import Derived.Laws.BitsLemmas
namespace Go.Proofs.Ytcbejjkbjompfaa
open Go.RowKit
set_option linter.unusedVariables false
set_option linter.unusedSimpArgs false


/-- the lowest bit of a number of at least 0 -/
theorem i64_and_one {x : Int} (h0 : 0 ≤ x) (h1 : x < 9223372036854775808) : bits .and .i64 x 1 = x % 2 := by
  obtain ⟨n, rfl⟩ := Int.eq_ofNat_of_zero_le h0
  have hx : n &&& 1 < 2 ^ 63 := Nat.and_lt_two_pow _ (by omega)
  have e (a : Nat) (ha : a < 9223372036854775808) : (BitVec.ofInt 64 (a : Int)).toNat = a := by
    rw [BitVec.ofInt_natCast, BitVec.toNat_ofNat]; exact Nat.mod_eq_of_lt (by omega)
  show IntKind.i64.wrap ((BitVec.ofInt 64 (n : Int) &&& BitVec.ofInt 64 ((1 : Nat) : Int)).toNat : Int) = _
  rw [BitVec.toNat_and, e n (by omega), e 1 (by omega), Nat.and_one_is_mod, IntKind.wrap_i64]
  omega

/-- the bits of the first k bytes -/
def bitsAll (zs : List Int) : Nat → List Int
  | 0 => []
  | k + 1 => bitsAll zs k ++ bits8 (nth zs k)
theorem bitsAll_succ (zs : List Int) (k : Nat) : bitsAll zs (k + 1) = bitsAll zs k ++ bits8 (nth zs k) := rfl
theorem bitsAll_len (zs : List Int) (k : Nat) : (bitsAll zs k).length = 8 * k := by
  induction k with
  | zero => rfl
  | succ k ih => rw [bitsAll_succ, List.length_append, ih, bits8_len]; omega
theorem bit_step (x : Int) (j : Nat) : bitsTo x 8 (j + 1) = bitsTo x 8 j ++ [x / 2 ^ (7 - j) % 2] := bitsTo_succ x 8 j
theorem bit_lt {x : Int} (h0 : 0 ≤ x) (h1 : x ≤ 255) (j : Nat) : 0 ≤ x / 2 ^ j ∧ x / 2 ^ j ≤ 255 := by
  have hp : (0 : Int) < 2 ^ j := Int.pow_pos (by decide)
  refine ⟨Int.ediv_nonneg h0 (by omega), ?_⟩
  have := Int.ediv_le_self (2 ^ j) h0
  omega


theorem append_newL {w : World} {A : Option Addr} {n c : Nat} {zs : List Int} {ops : Array Oper} {rest : List Oper} {o : Oper} {a : Act} {Q : Exit → Act → World → Prop} (hgd : o.guard = none) (s x : Operand)
    (ho : o.op = .call { callee := .builtin .append, args := #[s, x], argTypes := #[56, 56] })
    (B : Nat) (hs : a.eval s = .slice A n c) (hown : Own w B A n c zs) (cs : Array Value) (ys : List Int) (m L : Nat) (hcs : cs.toList = ints ys) (hy : I64 ys) (hm : ys.length = m)
    (hx : a.eval x = .slice (some ⟨L, 0, none⟩) m m) (hL : L = w.heap.size) (hn : n + m ≤ 16777216) (hB : B ≤ w.heap.size)
    (h : ∀ A' c' w', Own w' B A' (n + m) c' (zs ++ ys) → w.grownBy w' (Value.slice A n c).ownBlock → wpList Try.prog ops Q rest (a.put o.dst (.slice A' (n + m) c')) w') :
    wpList Try.prog ops Q (o :: rest) a (w.alloc (.cells cs 2)) := by
  subst hL
  exact append_new hgd s x ho B hs hown cs ys m hcs hy hm hx hn hB h
/-- a part of a slice -/
theorem Rd.sub {w : World} {b off n c : Nat} {zs : List Int} (h : Rd w (some ⟨b, off, none⟩) n c zs) (i j : Nat) (hij : i ≤ j) (hj : j ≤ n) : Rd w (some ⟨b, off + i, none⟩) (j - i) (c - i) ((zs.take j).drop i) := by
  have hl := h.len
  have hc := h.cap
  refine ⟨by simp; omega, by omega, by have := h.2.2.1; omega, ⟨fun z hz => h.i64 z (List.mem_of_mem_take (List.mem_of_mem_drop hz)), fun e => by cases e⟩, fun hn => ⟨b, off + i, rfl, fun k hk => ?_⟩⟩
  obtain ⟨b', off', hA, _, hcell⟩ := h.at_ (by omega)
  simp at hA
  obtain ⟨rfl, rfl⟩ := hA
  rw [nth_drop, nth_take _ _ _ (by omega), Nat.add_assoc]
  exact hcell (i + k) (by omega)
theorem bitsAll_one (x : Int) : bitsAll [x] 1 = bits8 x := by simp [bitsAll, nth_cons_zero]
theorem one_at (zs : List Int) (k : Nat) (h : k < zs.length) : (zs.take (k + 1)).drop k = [nth zs k] := by
  rw [take_snoc zs k h, List.drop_append_of_le_length (by simp; omega), List.drop_of_length_le (by simp; omega), List.nil_append]
theorem blks_take (zs : List Int) (k : Nat) (h : k < zs.length) : blks (zs.take (k + 1)) = blks (zs.take k) ++ ([1, 0] ++ bits8 (nth zs k)) := by
  rw [take_snoc zs k h, blks_snoc]; rfl


/-- the code and the cells of CellsOf -/
def cellsC (zs : List Int) (p : Int) : Int := if bytesB zs then (if inB 3 15 p then (if 8192 < p + 3 + 10 * zs.length then 3 else 0) else 2) else 1
def cellsR (zs : List Int) (p : Int) : List Int := if cellsC zs p = 0 then tx zs p.toNat else []
theorem cells_yes {zs : List Int} {p : Int} (h : bytesB zs = true) (hp : inB 3 15 p = true) (h8 : ¬ 8192 < p + 3 + 10 * (zs.length : Int)) : cellsR zs p = tx zs p.toNat ∧ 0 = cellsC zs p := by
  have : cellsC zs p = 0 := by simp [cellsC, h, hp, h8]
  exact ⟨by rw [cellsR, if_pos this], this.symm⟩
theorem cells_long {zs : List Int} {p : Int} (h : bytesB zs = true) (hp : inB 3 15 p = true) (h8 : 8192 < p + 3 + 10 * (zs.length : Int)) : cellsR zs p = [] ∧ 3 = cellsC zs p := by
  have : cellsC zs p = 3 := by simp [cellsC, h, hp, h8]
  exact ⟨by rw [cellsR, if_neg (by omega)], this.symm⟩
theorem cells_range {zs : List Int} {p : Int} (h : bytesB zs = true) (hp : inB 3 15 p = false) : cellsR zs p = [] ∧ 2 = cellsC zs p := by
  have : cellsC zs p = 2 := by simp [cellsC, h, hp]
  exact ⟨by rw [cellsR, if_neg (by omega)], this.symm⟩
theorem cells_no {zs : List Int} {p : Int} (h : bytesB zs = false) : cellsR zs p = [] ∧ 1 = cellsC zs p := by
  have : cellsC zs p = 1 := by simp [cellsC, h]
  exact ⟨by rw [cellsR, if_neg (by omega)], this.symm⟩
theorem bytesB_get {zs : List Int} (h : bytesB zs = true) : zs.length ≤ 1024 ∧ allB 0 255 zs = true := by simpa [bytesB, upB] using h


/-- the code and the cells of PadLine -/
def padC (zs : List Int) (a b : Int) : Int := if bitsB zs then (if inB 0 8192 a && inB 0 8192 b then (if 8192 < (zs.length : Int) + a + b then 3 else 0) else 2) else 1
def padR (zs : List Int) (a b : Int) : List Int := if padC zs a b = 0 then List.replicate a.toNat 1 ++ zs ++ List.replicate b.toNat 1 else []
theorem pad_yes {zs : List Int} {a b : Int} (h : bitsB zs = true) (ha : inB 0 8192 a = true) (hb : inB 0 8192 b = true) (h8 : ¬ 8192 < (zs.length : Int) + a + b) : padR zs a b = List.replicate a.toNat 1 ++ zs ++ List.replicate b.toNat 1 ∧ 0 = padC zs a b := by
  have : padC zs a b = 0 := by simp [padC, h, ha, hb, h8]
  exact ⟨by rw [padR, if_pos this], this.symm⟩
theorem pad_long {zs : List Int} {a b : Int} (h : bitsB zs = true) (ha : inB 0 8192 a = true) (hb : inB 0 8192 b = true) (h8 : 8192 < (zs.length : Int) + a + b) : padR zs a b = [] ∧ 3 = padC zs a b := by
  have : padC zs a b = 3 := by simp [padC, h, ha, hb, h8]
  exact ⟨by rw [padR, if_neg (by omega)], this.symm⟩
theorem pad_range {zs : List Int} {a b : Int} (h : bitsB zs = true) (ha : inB 0 8192 a = false ∨ inB 0 8192 b = false) : padR zs a b = [] ∧ 2 = padC zs a b := by
  have : padC zs a b = 2 := by rcases ha with ha | ha <;> simp [padC, h, ha]
  exact ⟨by rw [padR, if_neg (by omega)], this.symm⟩
theorem pad_no {zs : List Int} {a b : Int} (h : bitsB zs = false) : padR zs a b = [] ∧ 1 = padC zs a b := by
  have : padC zs a b = 1 := by simp [padC, h]
  exact ⟨by rw [padR, if_neg (by omega)], this.symm⟩

end Go.Proofs.Ytcbejjkbjompfaa
