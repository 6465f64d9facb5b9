/- Vectors: sets of nodes, as numbers below 2^32. -/
import Derived.Test.YtdkhldebnpmiiaaGreatDoorFind
import Derived.Laws.Bits64b
namespace Go.Proofs.YtdkhldebnpmiiaaGreatDoor
open Go.RowKit
set_option linter.unusedVariables false
set_option linter.unusedSimpArgs false

theorem wrap_nat {a : Nat} (h : a < 9223372036854775808) : IntKind.i64.wrap (a : Int) = (a : Int) := by
  refine IntWalk.i64_in ?_ ?_
  all_goals omega
theorem ofInt_nat {a : Nat} (ha : a < 4294967296) : (BitVec.ofInt 64 (a : Int)).toNat = a := by
  rw [BitVec.ofInt_natCast, BitVec.toNat_ofNat]
  exact Nat.mod_eq_of_lt (by omega)
theorem or_nat (a b : Nat) (ha : a < 4294967296) (hb : b < 4294967296) : bits .or .i64 (a : Int) (b : Int) = ((a ||| b : Nat) : Int) := by
  have hx : a ||| b < 2 ^ 32 := Nat.or_lt_two_pow (by omega) (by omega)
  show IntKind.i64.wrap ((BitVec.ofInt 64 (a : Int) ||| BitVec.ofInt 64 (b : Int)).toNat : Int) = _
  rw [BitVec.toNat_or, ofInt_nat ha, ofInt_nat hb]
  exact wrap_nat (by omega)
theorem and_nat (a b : Nat) (ha : a < 4294967296) (hb : b < 4294967296) : bits .and .i64 (a : Int) (b : Int) = ((a &&& b : Nat) : Int) := by
  have hx : a &&& b < 2 ^ 32 := Nat.and_lt_two_pow _ (by omega)
  show IntKind.i64.wrap ((BitVec.ofInt 64 (a : Int) &&& BitVec.ofInt 64 (b : Int)).toNat : Int) = _
  rw [BitVec.toNat_and, ofInt_nat ha, ofInt_nat hb]
  exact wrap_nat (by omega)
theorem xor_nat (a b : Nat) (ha : a < 4294967296) (hb : b < 4294967296) : bits .xor .i64 (a : Int) (b : Int) = ((a ^^^ b : Nat) : Int) := by
  have hx : a ^^^ b < 2 ^ 32 := Nat.xor_lt_two_pow (by omega) (by omega)
  show IntKind.i64.wrap ((BitVec.ofInt 64 (a : Int) ^^^ BitVec.ofInt 64 (b : Int)).toNat : Int) = _
  rw [BitVec.toNat_xor, ofInt_nat ha, ofInt_nat hb]
  exact wrap_nat (by omega)
theorem pow_lt32 {n : Nat} (hn : n < 32) : 2 ^ n < 4294967296 := by
  have h : 2 ^ n ≤ 2 ^ 31 := Nat.pow_le_pow_right (by omega) (by omega)
  omega
theorem div_lt32 {v : Nat} (n : Nat) (hv : v < 4294967296) : v / 2 ^ n < 4294967296 := Nat.lt_of_le_of_lt (Nat.div_le_self _ _) hv
theorem has_nat (v n : Nat) (hv : v < 4294967296) : (bits .and .i64 ((v : Int) / 2 ^ n) 1 == 1) = v.testBit n := by
  have e : ((v : Int) / 2 ^ n) = ((v / 2 ^ n : Nat) : Int) := by
    rw [Int.natCast_ediv, Int.natCast_pow]
    rfl
  rw [e, show (1 : Int) = ((1 : Nat) : Int) from rfl, and_nat _ _ (div_lt32 n hv) (by omega), Nat.and_one_is_mod, Nat.testBit_eq_decide_div_mod_eq]
  exact Bool.eq_iff_iff.mpr (by rw [beq_iff_eq, decide_eq_true_iff]; omega)
theorem shl_nat {n : Nat} (hn : n < 32) : wrap64 (2 ^ n) = ((2 ^ n : Nat) : Int) := by
  have e : ((2 : Int) ^ n) = ((2 ^ n : Nat) : Int) := by
    rw [Int.natCast_pow]
    rfl
  have := pow_lt32 hn
  rw [e]
  generalize 2 ^ n = p at *
  exact IntWalk.wrap64_in _ ⟨by omega, by omega⟩
theorem or_lt32 {a b : Nat} (ha : a < 4294967296) (hb : b < 4294967296) : a ||| b < 4294967296 := by
  have := Nat.or_lt_two_pow (n := 32) (x := a) (y := b) (by omega) (by omega)
  omega
theorem xor_pow {v n : Nat} (h : v.testBit n = false) : v ^^^ 2 ^ n = v ||| 2 ^ n := by
  apply Nat.eq_of_testBit_eq
  intro i
  rw [Nat.testBit_xor, Nat.testBit_or, Nat.testBit_two_pow]
  by_cases e : n = i
  · subst e
    simp [h]
  · simp [e]
theorem or_pow {v n : Nat} (h : v.testBit n = true) : v ||| 2 ^ n = v := by
  apply Nat.eq_of_testBit_eq
  intro i
  rw [Nat.testBit_or, Nat.testBit_two_pow]
  by_cases e : n = i
  · subst e
    simp [h]
  · simp [e]
/-- what an or with one bit says of a bit -/
theorem or_pow_bit (v n i : Nat) : (v ||| 2 ^ n).testBit i = (v.testBit i || decide (n = i)) := by
  rw [Nat.testBit_or, Nat.testBit_two_pow]
/-- a and not b is none when all bits of a are bits of b -/
theorem andNot_nat (a b : Nat) (ha : a < 4294967296) (hb : b < 4294967296) : bits .andNot .i64 (a : Int) (b : Int) = ((a &&& (a ^^^ b) : Nat) : Int) := by
  have hx : a &&& (a ^^^ b) < 2 ^ 32 := Nat.lt_of_le_of_lt (Nat.and_le_left) (by omega)
  show IntKind.i64.wrap ((BitVec.ofInt 64 (a : Int) &&& ~~~ BitVec.ofInt 64 (b : Int)).toNat : Int) = _
  have e : BitVec.ofInt 64 (a : Int) &&& ~~~ BitVec.ofInt 64 (b : Int) = BitVec.ofInt 64 (a : Int) &&& (BitVec.ofInt 64 (a : Int) ^^^ BitVec.ofInt 64 (b : Int)) := by
    ext i hi
    simp only [BitVec.getElem_and, BitVec.getElem_not, BitVec.getElem_xor]
    cases (BitVec.ofInt 64 (a : Int))[i] <;> cases (BitVec.ofInt 64 (b : Int))[i] <;> rfl
  rw [e, BitVec.toNat_and, BitVec.toNat_xor, ofInt_nat ha, ofInt_nat hb]
  exact wrap_nat (by omega)
/-- within: the spare bits are none when the greater has no bit more -/
theorem spare_none {a b : Nat} (hs : ∀ i, b.testBit i = true → a.testBit i = true) : a &&& (a ^^^ b) = 0 ↔ b = a := by
  constructor
  · intro h
    apply Nat.eq_of_testBit_eq
    intro i
    have hi : (a &&& (a ^^^ b)).testBit i = false := by rw [h]; exact Nat.zero_testBit i
    rw [Nat.testBit_and, Nat.testBit_xor] at hi
    have := hs i
    revert hi this
    cases a.testBit i <;> cases b.testBit i <;> simp
  · rintro rfl
    rw [Nat.xor_self, Nat.and_zero]
def orV (v : Nat) (n : Int) : Nat := v ||| 2 ^ n.toNat
/-- the nodes that are not passive -/
def actV (l : List Nod) : Nat := l.foldl (fun v x => if x.pas then v else orV v x.id) 0
set_option maxHeartbeats 800000 in
theorem ihas_any (v n : Nat) (hv : v < 4294967296) (hn : n < 32) (w : World) : Calls Tryz.prog 84 #[.int .i64 v, .int .i64 n] w (fun e w' => e = .returned (.bool (v.testBit n)) ∧ w = w') := by
  have HV := hide (has_nat v n hv)
  go_enter Tryz.func84, Tryz.ntmps84
  go_wp2
  go_ret
  exact ⟨by rw [HV.out]; rfl, rfl⟩
set_option maxHeartbeats 800000 in
theorem l05Has_any (v n : Nat) (hv : v < 4294967296) (hn : n < 32) (w : World) : Calls Tryz.prog 88 #[.int .i64 v, .int .i64 n] w (fun e w' => e = .returned (.bool (v.testBit n)) ∧ w = w') := by
  have HV := hide (has_nat v n hv)
  go_enter Tryz.func88, Tryz.ntmps88
  go_wp2
  go_ret
  exact ⟨by rw [HV.out]; rfl, rfl⟩
set_option maxHeartbeats 800000 in
theorem l05Set_any (v n : Nat) (hv : v < 4294967296) (hn : n < 32) (w : World) : Calls Tryz.prog 115 #[.int .i64 v, .int .i64 n, .bool true] w (fun e w' => e = .returned (.int .i64 ((v ||| 2 ^ n : Nat) : Int)) ∧ w = w') := by
  have HS := hide (show wrap64 (2 ^ n) = ((2 ^ n : Nat) : Int) from shl_nat hn)
  have HX := hide (xor_nat v (2 ^ n) hv (pow_lt32 hn))
  cases hb : v.testBit n
  · have HE := hide (xor_pow hb)
    have t := (has_nat v n hv).trans hb
    clear hb
    go_enter Tryz.func115, Tryz.ntmps115
    go_wp2
    go_ret
    exact ⟨by rw [HS.out, HX.out, HE.out]; rfl, rfl⟩
  · have HE := hide (or_pow hb)
    have t := (has_nat v n hv).trans hb
    clear hb
    go_enter Tryz.func115, Tryz.ntmps115
    go_wp2
    go_ret
    exact ⟨by rw [HE.out]; rfl, rfl⟩
/-- the nodes' ids are numbers below 32 -/
def Ids (l : List Nod) : Prop := ∀ x ∈ l, 0 ≤ x.id ∧ x.id < 32
theorem actV_lt (l : List Nod) (h : Ids l) : actV l < 4294967296 := by
  have H : ∀ (l : List Nod) (v : Nat), Ids l → v < 4294967296 → l.foldl (fun v x => if x.pas then v else orV v x.id) v < 4294967296 := by
    intro l
    induction l with
    | nil => intro v _ hv; exact hv
    | cons x l ih =>
      intro v hi hv
      refine ih _ (fun y hy => hi y (by simp [hy])) ?_
      have := hi x (by simp)
      show (if x.pas = true then v else orV v x.id) < _
      split
      · exact hv
      · exact or_lt32 hv (pow_lt32 (by omega))
  exact H l 0 h (by omega)
theorem actV_succ {l : List Nod} {k : Nat} {x : Nod} (h : l[k]? = some x) : actV (l.take (k + 1)) = if x.pas then actV (l.take k) else orV (actV (l.take k)) x.id := by
  rw [actV, List.take_add_one, h, List.foldl_append]
  rfl
set_option maxHeartbeats 1600000 in
theorem activeVector_any (A : Option Addr) (n c : Nat) (l : List Nod) (w : World) (h : RdR Nod.v 4 w A n c l) (hi : Ids l) : Calls Tryz.prog 85 #[.slice A n c] w (fun e w' => e = .returned (.int .i64 (actV l : Int)) ∧ Below w.heap.size w w') := by
  have hcap := h.cap
  have hlen := hide h.len
  go_enter Tryz.func85, Tryz.ntmps85
  go_wp2
  go_loopw [3, 8] (fun v i wr => ∃ k u : Nat, k ≤ n ∧ i = .int .i64 k ∧ v = .int .i64 u ∧ Hid (u = actV (l.take k)) ∧ Hid (Below w.heap.size w wr)) (fun _ i _ => n - (intOf i).toNat)
  case atStart => exact ⟨0, 0, by omega, rfl, rfl, hide (by simp [actV]), hide (Below.refl _ _)⟩
  case round =>
    obtain ⟨k, u, hk, rfl, rfl, hu, hbel⟩ := hrel
    by_cases hlt : k < n
    · obtain ⟨b, off, x, rfl, hb, hx, c0, c1, c2, c3⟩ := nod_at (h.below hbel.out) hlt
      obtain ⟨i0, i1⟩ := hi x (List.mem_of_getElem? hx)
      obtain ⟨d, hd⟩ : ∃ d : Nat, x.id = d := ⟨x.id.toNat, by omega⟩
      rw [hd] at c0
      have hd32 : d < 32 := by omega
      have HU := hide (show u < 4294967296 by rw [hu.out]; exact actV_lt _ (fun y hy => hi y (List.mem_of_mem_take hy)))
      have HS := hide (show wrap64 (2 ^ d) = ((2 ^ d : Nat) : Int) from shl_nat hd32)
      have HX := hide (or_nat u (2 ^ d) HU.out (pow_lt32 hd32))
      have HB := hide (show Below w.heap.size w (wr.alloc (.cells #[.int .i64 d, .string x.nm, .int .i64 x.dr, .bool x.pas] 68)) from below_trans hbel.out ((Below.refl _ _).alloc (Nat.le_refl _) _))
      have HN := hide (actV_succ hx)
      have HD := hide hd
      clear hx i0 i1 hd
      cases hp : x.pas
      · rw [hp] at HN c3 HB
        have NN := hide (show (u ||| 2 ^ d) = actV (l.take (k + 1)) by rw [HN.out, ← hu.out, orV, HD.out]; simp)
        clear hp HN
        go_wp2
        go_roundw
        case rel => exact ⟨k + 1, u ||| 2 ^ d, by omega, by go_num, by rw [HS.out, HX.out], NN, HB⟩
        case measure => simp [intOf]; omega
      · rw [hp] at HN c3 HB
        have NN := hide (show u = actV (l.take (k + 1)) by rw [HN.out, ← hu.out]; simp)
        clear hp HN
        go_wp2
        go_roundw
        case rel => exact ⟨k + 1, u, by omega, by go_num, rfl, NN, HB⟩
        case measure => simp [intOf]; omega
    · obtain rfl : k = n := by omega
      have E := hide (show u = actV l by rw [hu.out, ← hlen.out, List.take_length])
      go_wp2
      go_ret
      exact ⟨by rw [E.out]; rfl, hbel.out⟩
set_option maxHeartbeats 1600000 in
theorem l10Active_any (A : Option Addr) (n c : Nat) (l : List Nod) (w : World) (h : RdR Nod.v 4 w A n c l) (hi : Ids l) : Calls Tryz.prog 89 #[.slice A n c] w (fun e w' => e = .returned (.int .i64 (actV l : Int)) ∧ w = w') := by
  have hcap := h.cap
  have hlen := hide h.len
  go_enter Tryz.func89, Tryz.ntmps89
  go_wp2
  go_loopw [3, 4] (fun v i wr => ∃ k u : Nat, k ≤ n ∧ i = .int .i64 k ∧ v = .int .i64 u ∧ Hid (u = actV (l.take k)) ∧ wr = w) (fun _ i _ => n - (intOf i).toNat)
  case atStart => exact ⟨0, 0, by omega, rfl, rfl, hide (by simp [actV]), rfl⟩
  case round =>
    obtain ⟨k, u, hk, rfl, rfl, hu, rfl⟩ := hrel
    by_cases hlt : k < n
    · obtain ⟨b, off, x, rfl, hb, hx, c0, c1, c2, c3⟩ := nod_at h hlt
      obtain ⟨i0, i1⟩ := hi x (List.mem_of_getElem? hx)
      obtain ⟨d, hd⟩ : ∃ d : Nat, x.id = d := ⟨x.id.toNat, by omega⟩
      rw [hd] at c0
      have hd32 : d < 32 := by omega
      have HU := hide (show u < 4294967296 by rw [hu.out]; exact actV_lt _ (fun y hy => hi y (List.mem_of_mem_take hy)))
      have HN := hide (actV_succ hx)
      have HD := hide hd
      clear hx i0 i1 hd
      cases hp : x.pas
      · rw [hp] at HN c3
        have NN := hide (show (u ||| 2 ^ d) = actV (l.take (k + 1)) by rw [HN.out, ← hu.out, orV, HD.out]; simp)
        clear hp HN
        go_wp2_with fail
        go_at_call 115
        (with_reducible refine (l05Set_any u d HU.out hd32 _).mono ?_)
        rintro ee w1 ⟨rfl, rfl⟩
        go_wp2
        go_roundw
        case rel => exact ⟨k + 1, u ||| 2 ^ d, by omega, by go_num, rfl, NN, trivial⟩
        case measure => simp [intOf]; omega
      · rw [hp] at HN c3
        have NN := hide (show u = actV (l.take (k + 1)) by rw [HN.out, ← hu.out]; simp)
        clear hp HN
        go_wp2
        go_roundw
        case rel => exact ⟨k + 1, u, by omega, by go_num, rfl, NN, trivial⟩
        case measure => simp [intOf]; omega
    · obtain rfl : k = n := by omega
      have E := hide (show u = actV l by rw [hu.out, ← hlen.out, List.take_length])
      go_wp2
      go_ret
      exact ⟨by rw [E.out]; rfl, rfl⟩
end Go.Proofs.YtdkhldebnpmiiaaGreatDoor
