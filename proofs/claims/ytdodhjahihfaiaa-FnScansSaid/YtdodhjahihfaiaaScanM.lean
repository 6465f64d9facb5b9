/- Contracts: the missing cells, by the program. Written by gen_scank.py. -/
import Derived.Test.YtdodhjahihfaiaaScanK
namespace Go.Proofs.Ytdodhjahihfaiaa
open Go.RowKit
set_option linter.unusedVariables false
set_option linter.unusedSimpArgs false

def msC (zs : List Int) : Int := if bitsB zs then (if 0 ≤ fwR zs then 4 else 0) else 1
def msR (zs : List Int) : List Int := if msC zs = 0 then missing (scnEnd zs) else []
theorem ms_yes {zs : List Int} (h : bitsB zs = true) (h0 : ¬ 0 ≤ fwR zs) : msC zs = 0 ∧ msR zs = missing (scnEnd zs) := by
  have e : msC zs = 0 := by simp [msC, h, h0]
  exact ⟨e, by simp [msR, e]⟩
theorem ms_wrong {zs : List Int} (h : bitsB zs = true) (h0 : 0 ≤ fwR zs) : msC zs = 4 ∧ msR zs = [] := by
  have e : msC zs = 4 := by simp [msC, h, h0]
  exact ⟨e, by simp [msR, e]⟩
theorem ms_bad {zs : List Int} (h : bitsB zs = false) : msC zs = 1 ∧ msR zs = [] := by
  have e : msC zs = 1 := by simp [msC, h]
  exact ⟨e, by simp [msR, e]⟩
theorem scnEnd_can {zs : List Int} (hb : allB 0 1 zs = true) (h0 : ¬ 0 ≤ fwR zs) : Can (scnEnd zs) := miss_can hb (fw_right (by simp only [fwR] at h0; omega))
theorem mk_lit (k : Nat) (h : k ≤ 1048576) (W : World) : (Instr.makeSlice 25 (.int .i64 (k : Int)) (.int .i64 (k : Int))).run Try.prog W = .ok (.slice (some ⟨W.heap.size, 0, none⟩) k k) (W.alloc (.cells (madeCells #[.int .i64 0] k) 2)) :=
  run_make_row' (P := Try.prog) 25 2 (.int .i64 0) 8 Try.underlying25 info_i64 rfl .i64 .i64 k (by omega) (by omega) W
theorem Own.made1 (w : World) (o : Obj) {n B : Nat} (hn : n ≤ 9223372036854775807) (hB : B ≤ w.heap.size) : Own ((w.alloc o).alloc (.cells (madeCells #[.int .i64 0] n) 2)) B (some ⟨w.heap.size + 1, 0, none⟩) n n (List.replicate n 0) := by
  have := (Own.made (w.alloc o) hn).mono (B' := B) (by simp; omega)
  rwa [show (w.alloc o).heap.size = w.heap.size + 1 by simp] at this
theorem Own.lit1 (w : World) (o : Obj) {B : Nat} (hB : B ≤ w.heap.size) (cs : Array Value) (ys : List Int) (hcs : cs.toList = ints ys) (hy : I64 ys) (m : Nat) (hm : ys.length = m) (hm' : m ≤ 9223372036854775807) : Own ((w.alloc o).alloc (.cells cs 2)) B (some ⟨w.heap.size + 1, 0, none⟩) m m ys := by
  have := Own.lit (w.alloc o) (B := B) (by simp; omega) cs ys hcs hy m hm hm'
  rwa [show (w.alloc o).heap.size = w.heap.size + 1 by simp] at this
set_option maxHeartbeats 1600000 in
theorem iMissing_p00 (A : Option Addr) (n c : Nat) (zs : List Int) (w : World) (h : Rd w A n c zs) (hn : n ≤ 8192) (hb : allB 0 1 zs = true) (hz : bitsB zs = true) (h0 : ¬ 0 ≤ fwR zs) (hp : (scnEnd zs).ph = 0)  (hc : (scnEnd zs).ct = 0) :
    Calls Try.prog 42 #[.slice A n c] w fun e w' => ∃ A' m c', e = .returned (.tuple #[.slice A' m c', .int .i64 0]) ∧ Own w' w.heap.size A' m c' (List.replicate 3 0 ++ [1, 0, 1]) ∧ Below w.heap.size w w' ∧ m ≤ 1048576 := by
  have t0 : decide (fwR zs ≥ 0) = false := by simpa using h0
  have hmk : ∀ W : World, (Instr.makeSlice 25 (.int .i64 3) (.int .i64 3)).run Try.prog W = .ok (.slice (some ⟨W.heap.size, 0, none⟩) 3 3) (W.alloc (.cells (madeCells #[.int .i64 0] 3) 2)) := mk_lit 3 (by omega)
  clear h0
  go_enter Try.func42, Try.ntmps42
  go_wp2_with (go_at_call 83; refine (iIsBits_any _ _ _ _ _ h).mono ?_; rintro e w' ⟨rfl, rfl⟩)
  refine (firstWrong_any A n c zs _ h hn hb).mono ?_
  rintro e w2 ⟨A2, m2, c2, rfl, own2, b2, hm2⟩
  have b3 := below_trans b2 ((Below.refl _ _).alloc (Nat.le_refl _) (.cells #[.int .i64 0, .int .i64 0, .int .i64 (scnEnd zs).vl, .slice A2 m2 c2] 30))
  have B3 := hide b3
  have hsz := b2.size
  clear b2 b3 own2
  have O4 := hide (Own.made1 w2 (.cells #[.int .i64 0, .int .i64 0, .int .i64 (scnEnd zs).vl, .slice A2 m2 c2] 30) (n := 3) (by omega) hsz)
  have B4 := hide (below_trans B3.out ((Below.refl _ _).alloc (Nat.le_refl _) (.cells (madeCells #[.int .i64 0] 3) 2)))
  go_wp2_with (at_builtin; go_must (refine append_newL rfl _ _ rfl w.heap.size rfl O4.out _ [1, 0, 1] 3 _ rfl (by intro z hz; simp at hz; omega) rfl rfl (by simp) (by omega) B4.out.size ?_); intro A5 c5 w5 own5 gr5)
  go_ret2
  exact ⟨A5, 3 + 3, c5, rfl, own5, below_own B4.out B4.out.size O4.out (Nat.le_refl _) gr5, by omega⟩

set_option maxHeartbeats 1600000 in
theorem iMissing_p11 (A : Option Addr) (n c : Nat) (zs : List Int) (w : World) (h : Rd w A n c zs) (hn : n ≤ 8192) (hb : allB 0 1 zs = true) (hz : bitsB zs = true) (h0 : ¬ 0 ≤ fwR zs) (hp : (scnEnd zs).ph = 1)  (hc : (scnEnd zs).ct = 1) :
    Calls Try.prog 42 #[.slice A n c] w fun e w' => ∃ A' m c', e = .returned (.tuple #[.slice A' m c', .int .i64 0]) ∧ Own w' w.heap.size A' m c' (List.replicate 2 0 ++ [1, 0, 1]) ∧ Below w.heap.size w w' ∧ m ≤ 1048576 := by
  have t0 : decide (fwR zs ≥ 0) = false := by simpa using h0
  have hmk : ∀ W : World, (Instr.makeSlice 25 (.int .i64 2) (.int .i64 2)).run Try.prog W = .ok (.slice (some ⟨W.heap.size, 0, none⟩) 2 2) (W.alloc (.cells (madeCells #[.int .i64 0] 2) 2)) := mk_lit 2 (by omega)
  clear h0
  go_enter Try.func42, Try.ntmps42
  go_wp2_with (go_at_call 83; refine (iIsBits_any _ _ _ _ _ h).mono ?_; rintro e w' ⟨rfl, rfl⟩)
  refine (firstWrong_any A n c zs _ h hn hb).mono ?_
  rintro e w2 ⟨A2, m2, c2, rfl, own2, b2, hm2⟩
  have b3 := below_trans b2 ((Below.refl _ _).alloc (Nat.le_refl _) (.cells #[.int .i64 1, .int .i64 1, .int .i64 (scnEnd zs).vl, .slice A2 m2 c2] 30))
  have B3 := hide b3
  have hsz := b2.size
  clear b2 b3 own2
  have O4 := hide (Own.made1 w2 (.cells #[.int .i64 1, .int .i64 1, .int .i64 (scnEnd zs).vl, .slice A2 m2 c2] 30) (n := 2) (by omega) hsz)
  have B4 := hide (below_trans B3.out ((Below.refl _ _).alloc (Nat.le_refl _) (.cells (madeCells #[.int .i64 0] 2) 2)))
  go_wp2_with (at_builtin; go_must (refine append_newL rfl _ _ rfl w.heap.size rfl O4.out _ [1, 0, 1] 3 _ rfl (by intro z hz; simp at hz; omega) rfl rfl (by simp) (by omega) B4.out.size ?_); intro A5 c5 w5 own5 gr5)
  go_ret2
  exact ⟨A5, 2 + 3, c5, rfl, own5, below_own B4.out B4.out.size O4.out (Nat.le_refl _) gr5, by omega⟩

set_option maxHeartbeats 1600000 in
theorem iMissing_p12 (A : Option Addr) (n c : Nat) (zs : List Int) (w : World) (h : Rd w A n c zs) (hn : n ≤ 8192) (hb : allB 0 1 zs = true) (hz : bitsB zs = true) (h0 : ¬ 0 ≤ fwR zs) (hp : (scnEnd zs).ph = 1)  (hc : (scnEnd zs).ct = 2) :
    Calls Try.prog 42 #[.slice A n c] w fun e w' => ∃ A' m c', e = .returned (.tuple #[.slice A' m c', .int .i64 0]) ∧ Own w' w.heap.size A' m c' (List.replicate 1 0 ++ [1, 0, 1]) ∧ Below w.heap.size w w' ∧ m ≤ 1048576 := by
  have t0 : decide (fwR zs ≥ 0) = false := by simpa using h0
  have hmk : ∀ W : World, (Instr.makeSlice 25 (.int .i64 1) (.int .i64 1)).run Try.prog W = .ok (.slice (some ⟨W.heap.size, 0, none⟩) 1 1) (W.alloc (.cells (madeCells #[.int .i64 0] 1) 2)) := mk_lit 1 (by omega)
  clear h0
  go_enter Try.func42, Try.ntmps42
  go_wp2_with (go_at_call 83; refine (iIsBits_any _ _ _ _ _ h).mono ?_; rintro e w' ⟨rfl, rfl⟩)
  refine (firstWrong_any A n c zs _ h hn hb).mono ?_
  rintro e w2 ⟨A2, m2, c2, rfl, own2, b2, hm2⟩
  have b3 := below_trans b2 ((Below.refl _ _).alloc (Nat.le_refl _) (.cells #[.int .i64 1, .int .i64 2, .int .i64 (scnEnd zs).vl, .slice A2 m2 c2] 30))
  have B3 := hide b3
  have hsz := b2.size
  clear b2 b3 own2
  have O4 := hide (Own.made1 w2 (.cells #[.int .i64 1, .int .i64 2, .int .i64 (scnEnd zs).vl, .slice A2 m2 c2] 30) (n := 1) (by omega) hsz)
  have B4 := hide (below_trans B3.out ((Below.refl _ _).alloc (Nat.le_refl _) (.cells (madeCells #[.int .i64 0] 1) 2)))
  go_wp2_with (at_builtin; go_must (refine append_newL rfl _ _ rfl w.heap.size rfl O4.out _ [1, 0, 1] 3 _ rfl (by intro z hz; simp at hz; omega) rfl rfl (by simp) (by omega) B4.out.size ?_); intro A5 c5 w5 own5 gr5)
  go_ret2
  exact ⟨A5, 1 + 3, c5, rfl, own5, below_own B4.out B4.out.size O4.out (Nat.le_refl _) gr5, by omega⟩

set_option maxHeartbeats 1600000 in
theorem iMissing_p13 (A : Option Addr) (n c : Nat) (zs : List Int) (w : World) (h : Rd w A n c zs) (hn : n ≤ 8192) (hb : allB 0 1 zs = true) (hz : bitsB zs = true) (h0 : ¬ 0 ≤ fwR zs) (hp : (scnEnd zs).ph = 1)  (hc : 3 ≤ (scnEnd zs).ct) (hc2 : (scnEnd zs).ct ≤ 15) :
    Calls Try.prog 42 #[.slice A n c] w fun e w' => ∃ A' m c', e = .returned (.tuple #[.slice A' m c', .int .i64 0]) ∧ Own w' w.heap.size A' m c' (List.replicate 0 0 ++ [1, 0, 1]) ∧ Below w.heap.size w w' ∧ m ≤ 1048576 := by
  have t0 : decide (fwR zs ≥ 0) = false := by simpa using h0
  have hmk : ∀ W : World, (Instr.makeSlice 25 (.int .i64 0) (.int .i64 0)).run Try.prog W = .ok (.slice (some ⟨W.heap.size, 0, none⟩) 0 0) (W.alloc (.cells (madeCells #[.int .i64 0] 0) 2)) := mk_lit 0 (by omega)
  clear h0
  go_enter Try.func42, Try.ntmps42
  go_wp2_with (go_at_call 83; refine (iIsBits_any _ _ _ _ _ h).mono ?_; rintro e w' ⟨rfl, rfl⟩)
  refine (firstWrong_any A n c zs _ h hn hb).mono ?_
  rintro e w2 ⟨A2, m2, c2, rfl, own2, b2, hm2⟩
  have b3 := below_trans b2 ((Below.refl _ _).alloc (Nat.le_refl _) (.cells #[.int .i64 1, .int .i64 (scnEnd zs).ct, .int .i64 (scnEnd zs).vl, .slice A2 m2 c2] 30))
  have B3 := hide b3
  have hsz := b2.size
  clear b2 b3 own2
  have O4 := hide (Own.made1 w2 (.cells #[.int .i64 1, .int .i64 (scnEnd zs).ct, .int .i64 (scnEnd zs).vl, .slice A2 m2 c2] 30) (n := 0) (by omega) hsz)
  have B4 := hide (below_trans B3.out ((Below.refl _ _).alloc (Nat.le_refl _) (.cells (madeCells #[.int .i64 0] 0) 2)))
  go_wp2_with (at_builtin; go_must (refine append_newL rfl _ _ rfl w.heap.size rfl O4.out _ [1, 0, 1] 3 _ rfl (by intro z hz; simp at hz; omega) rfl rfl (by simp) (by omega) B4.out.size ?_); intro A5 c5 w5 own5 gr5)
  go_ret2
  exact ⟨A5, 0 + 3, c5, rfl, own5, below_own B4.out B4.out.size O4.out (Nat.le_refl _) gr5, by omega⟩

set_option maxHeartbeats 1600000 in
theorem iMissing_p2 (A : Option Addr) (n c : Nat) (zs : List Int) (w : World) (h : Rd w A n c zs) (hn : n ≤ 8192) (hb : allB 0 1 zs = true) (hz : bitsB zs = true) (h0 : ¬ 0 ≤ fwR zs) (hp : (scnEnd zs).ph = 2)  :
    Calls Try.prog 42 #[.slice A n c] w fun e w' => ∃ A' m c', e = .returned (.tuple #[.slice A' m c', .int .i64 0]) ∧ Own w' w.heap.size A' m c' [0, 1] ∧ Below w.heap.size w w' ∧ m ≤ 1048576 := by
  have t0 : decide (fwR zs ≥ 0) = false := by simpa using h0
  clear h0
  go_enter Try.func42, Try.ntmps42
  go_wp2_with (go_at_call 83; refine (iIsBits_any _ _ _ _ _ h).mono ?_; rintro e w' ⟨rfl, rfl⟩)
  refine (firstWrong_any A n c zs _ h hn hb).mono ?_
  rintro e w2 ⟨A2, m2, c2, rfl, own2, b2, hm2⟩
  have b3 := below_trans b2 ((Below.refl _ _).alloc (Nat.le_refl _) (.cells #[.int .i64 2, .int .i64 (scnEnd zs).ct, .int .i64 (scnEnd zs).vl, .slice A2 m2 c2] 30))
  have B3 := hide b3
  have hsz := b2.size
  clear b2 b3 own2
  have B4 := hide (below_trans B3.out ((Below.refl _ _).alloc (Nat.le_refl _) (.cells #[.int .i64 0, .int .i64 1] 2)))
  have O4 := hide ((Own.lit1 w2 (.cells #[.int .i64 2, .int .i64 (scnEnd zs).ct, .int .i64 (scnEnd zs).vl, .slice A2 m2 c2] 30) hsz #[.int .i64 0, .int .i64 1] [0, 1] rfl (by intro z hz; simp at hz; omega) 2 rfl (by omega)))
  go_wp2_with fail
  go_ret2
  exact ⟨some ⟨w2.heap.size + 1, 0, none⟩, 2, 2, rfl, O4.out, B4.out, by omega⟩

set_option maxHeartbeats 1600000 in
theorem iMissing_p3 (A : Option Addr) (n c : Nat) (zs : List Int) (w : World) (h : Rd w A n c zs) (hn : n ≤ 8192) (hb : allB 0 1 zs = true) (hz : bitsB zs = true) (h0 : ¬ 0 ≤ fwR zs) (hp : (scnEnd zs).ph = 3)  :
    Calls Try.prog 42 #[.slice A n c] w fun e w' => ∃ A' m c', e = .returned (.tuple #[.slice A' m c', .int .i64 0]) ∧ Own w' w.heap.size A' m c' (List.replicate 9 0 ++ [0, 1]) ∧ Below w.heap.size w w' ∧ m ≤ 1048576 := by
  have t0 : decide (fwR zs ≥ 0) = false := by simpa using h0
  have hmk : ∀ W : World, (Instr.makeSlice 25 (.int .i64 9) (.int .i64 9)).run Try.prog W = .ok (.slice (some ⟨W.heap.size, 0, none⟩) 9 9) (W.alloc (.cells (madeCells #[.int .i64 0] 9) 2)) := mk_lit 9 (by omega)
  clear h0
  go_enter Try.func42, Try.ntmps42
  go_wp2_with (go_at_call 83; refine (iIsBits_any _ _ _ _ _ h).mono ?_; rintro e w' ⟨rfl, rfl⟩)
  refine (firstWrong_any A n c zs _ h hn hb).mono ?_
  rintro e w2 ⟨A2, m2, c2, rfl, own2, b2, hm2⟩
  have b3 := below_trans b2 ((Below.refl _ _).alloc (Nat.le_refl _) (.cells #[.int .i64 3, .int .i64 (scnEnd zs).ct, .int .i64 (scnEnd zs).vl, .slice A2 m2 c2] 30))
  have B3 := hide b3
  have hsz := b2.size
  clear b2 b3 own2
  have O4 := hide (Own.made1 w2 (.cells #[.int .i64 3, .int .i64 (scnEnd zs).ct, .int .i64 (scnEnd zs).vl, .slice A2 m2 c2] 30) (n := 9) (by omega) hsz)
  have B4 := hide (below_trans B3.out ((Below.refl _ _).alloc (Nat.le_refl _) (.cells (madeCells #[.int .i64 0] 9) 2)))
  go_wp2_with (at_builtin; go_must (refine append_newL rfl _ _ rfl w.heap.size rfl O4.out _ [0, 1] 2 _ rfl (by intro z hz; simp at hz; omega) rfl rfl (by simp) (by omega) B4.out.size ?_); intro A5 c5 w5 own5 gr5)
  go_ret2
  exact ⟨A5, 9 + 2, c5, rfl, own5, below_own B4.out B4.out.size O4.out (Nat.le_refl _) gr5, by omega⟩

set_option maxHeartbeats 1600000 in
theorem iMissing_p40 (A : Option Addr) (n c : Nat) (zs : List Int) (w : World) (h : Rd w A n c zs) (hn : n ≤ 8192) (hb : allB 0 1 zs = true) (hz : bitsB zs = true) (h0 : ¬ 0 ≤ fwR zs) (hp : (scnEnd zs).ph = 4)  (hc : (scnEnd zs).ct = 0) :
    Calls Try.prog 42 #[.slice A n c] w fun e w' => ∃ A' m c', e = .returned (.tuple #[.slice A' m c', .int .i64 0]) ∧ Own w' w.heap.size A' m c' (List.replicate 8 0 ++ [0, 1]) ∧ Below w.heap.size w w' ∧ m ≤ 1048576 := by
  have t0 : decide (fwR zs ≥ 0) = false := by simpa using h0
  have hmk : ∀ W : World, (Instr.makeSlice 25 (.int .i64 8) (.int .i64 8)).run Try.prog W = .ok (.slice (some ⟨W.heap.size, 0, none⟩) 8 8) (W.alloc (.cells (madeCells #[.int .i64 0] 8) 2)) := mk_lit 8 (by omega)
  clear h0
  go_enter Try.func42, Try.ntmps42
  go_wp2_with (go_at_call 83; refine (iIsBits_any _ _ _ _ _ h).mono ?_; rintro e w' ⟨rfl, rfl⟩)
  refine (firstWrong_any A n c zs _ h hn hb).mono ?_
  rintro e w2 ⟨A2, m2, c2, rfl, own2, b2, hm2⟩
  have b3 := below_trans b2 ((Below.refl _ _).alloc (Nat.le_refl _) (.cells #[.int .i64 4, .int .i64 0, .int .i64 (scnEnd zs).vl, .slice A2 m2 c2] 30))
  have B3 := hide b3
  have hsz := b2.size
  clear b2 b3 own2
  have O4 := hide (Own.made1 w2 (.cells #[.int .i64 4, .int .i64 0, .int .i64 (scnEnd zs).vl, .slice A2 m2 c2] 30) (n := 8) (by omega) hsz)
  have B4 := hide (below_trans B3.out ((Below.refl _ _).alloc (Nat.le_refl _) (.cells (madeCells #[.int .i64 0] 8) 2)))
  go_wp2_with (at_builtin; go_must (refine append_newL rfl _ _ rfl w.heap.size rfl O4.out _ [0, 1] 2 _ rfl (by intro z hz; simp at hz; omega) rfl rfl (by simp) (by omega) B4.out.size ?_); intro A5 c5 w5 own5 gr5)
  go_ret2
  exact ⟨A5, 8 + 2, c5, rfl, own5, below_own B4.out B4.out.size O4.out (Nat.le_refl _) gr5, by omega⟩

set_option maxHeartbeats 1600000 in
theorem iMissing_p41 (A : Option Addr) (n c : Nat) (zs : List Int) (w : World) (h : Rd w A n c zs) (hn : n ≤ 8192) (hb : allB 0 1 zs = true) (hz : bitsB zs = true) (h0 : ¬ 0 ≤ fwR zs) (hp : (scnEnd zs).ph = 4)  (hc : (scnEnd zs).ct = 1) :
    Calls Try.prog 42 #[.slice A n c] w fun e w' => ∃ A' m c', e = .returned (.tuple #[.slice A' m c', .int .i64 0]) ∧ Own w' w.heap.size A' m c' (List.replicate 7 0 ++ [0, 1]) ∧ Below w.heap.size w w' ∧ m ≤ 1048576 := by
  have t0 : decide (fwR zs ≥ 0) = false := by simpa using h0
  have hmk : ∀ W : World, (Instr.makeSlice 25 (.int .i64 7) (.int .i64 7)).run Try.prog W = .ok (.slice (some ⟨W.heap.size, 0, none⟩) 7 7) (W.alloc (.cells (madeCells #[.int .i64 0] 7) 2)) := mk_lit 7 (by omega)
  clear h0
  go_enter Try.func42, Try.ntmps42
  go_wp2_with (go_at_call 83; refine (iIsBits_any _ _ _ _ _ h).mono ?_; rintro e w' ⟨rfl, rfl⟩)
  refine (firstWrong_any A n c zs _ h hn hb).mono ?_
  rintro e w2 ⟨A2, m2, c2, rfl, own2, b2, hm2⟩
  have b3 := below_trans b2 ((Below.refl _ _).alloc (Nat.le_refl _) (.cells #[.int .i64 4, .int .i64 1, .int .i64 (scnEnd zs).vl, .slice A2 m2 c2] 30))
  have B3 := hide b3
  have hsz := b2.size
  clear b2 b3 own2
  have O4 := hide (Own.made1 w2 (.cells #[.int .i64 4, .int .i64 1, .int .i64 (scnEnd zs).vl, .slice A2 m2 c2] 30) (n := 7) (by omega) hsz)
  have B4 := hide (below_trans B3.out ((Below.refl _ _).alloc (Nat.le_refl _) (.cells (madeCells #[.int .i64 0] 7) 2)))
  go_wp2_with (at_builtin; go_must (refine append_newL rfl _ _ rfl w.heap.size rfl O4.out _ [0, 1] 2 _ rfl (by intro z hz; simp at hz; omega) rfl rfl (by simp) (by omega) B4.out.size ?_); intro A5 c5 w5 own5 gr5)
  go_ret2
  exact ⟨A5, 7 + 2, c5, rfl, own5, below_own B4.out B4.out.size O4.out (Nat.le_refl _) gr5, by omega⟩

set_option maxHeartbeats 1600000 in
theorem iMissing_p42 (A : Option Addr) (n c : Nat) (zs : List Int) (w : World) (h : Rd w A n c zs) (hn : n ≤ 8192) (hb : allB 0 1 zs = true) (hz : bitsB zs = true) (h0 : ¬ 0 ≤ fwR zs) (hp : (scnEnd zs).ph = 4)  (hc : (scnEnd zs).ct = 2) :
    Calls Try.prog 42 #[.slice A n c] w fun e w' => ∃ A' m c', e = .returned (.tuple #[.slice A' m c', .int .i64 0]) ∧ Own w' w.heap.size A' m c' (List.replicate 6 0 ++ [0, 1]) ∧ Below w.heap.size w w' ∧ m ≤ 1048576 := by
  have t0 : decide (fwR zs ≥ 0) = false := by simpa using h0
  have hmk : ∀ W : World, (Instr.makeSlice 25 (.int .i64 6) (.int .i64 6)).run Try.prog W = .ok (.slice (some ⟨W.heap.size, 0, none⟩) 6 6) (W.alloc (.cells (madeCells #[.int .i64 0] 6) 2)) := mk_lit 6 (by omega)
  clear h0
  go_enter Try.func42, Try.ntmps42
  go_wp2_with (go_at_call 83; refine (iIsBits_any _ _ _ _ _ h).mono ?_; rintro e w' ⟨rfl, rfl⟩)
  refine (firstWrong_any A n c zs _ h hn hb).mono ?_
  rintro e w2 ⟨A2, m2, c2, rfl, own2, b2, hm2⟩
  have b3 := below_trans b2 ((Below.refl _ _).alloc (Nat.le_refl _) (.cells #[.int .i64 4, .int .i64 2, .int .i64 (scnEnd zs).vl, .slice A2 m2 c2] 30))
  have B3 := hide b3
  have hsz := b2.size
  clear b2 b3 own2
  have O4 := hide (Own.made1 w2 (.cells #[.int .i64 4, .int .i64 2, .int .i64 (scnEnd zs).vl, .slice A2 m2 c2] 30) (n := 6) (by omega) hsz)
  have B4 := hide (below_trans B3.out ((Below.refl _ _).alloc (Nat.le_refl _) (.cells (madeCells #[.int .i64 0] 6) 2)))
  go_wp2_with (at_builtin; go_must (refine append_newL rfl _ _ rfl w.heap.size rfl O4.out _ [0, 1] 2 _ rfl (by intro z hz; simp at hz; omega) rfl rfl (by simp) (by omega) B4.out.size ?_); intro A5 c5 w5 own5 gr5)
  go_ret2
  exact ⟨A5, 6 + 2, c5, rfl, own5, below_own B4.out B4.out.size O4.out (Nat.le_refl _) gr5, by omega⟩

set_option maxHeartbeats 1600000 in
theorem iMissing_p43 (A : Option Addr) (n c : Nat) (zs : List Int) (w : World) (h : Rd w A n c zs) (hn : n ≤ 8192) (hb : allB 0 1 zs = true) (hz : bitsB zs = true) (h0 : ¬ 0 ≤ fwR zs) (hp : (scnEnd zs).ph = 4)  (hc : (scnEnd zs).ct = 3) :
    Calls Try.prog 42 #[.slice A n c] w fun e w' => ∃ A' m c', e = .returned (.tuple #[.slice A' m c', .int .i64 0]) ∧ Own w' w.heap.size A' m c' (List.replicate 5 0 ++ [0, 1]) ∧ Below w.heap.size w w' ∧ m ≤ 1048576 := by
  have t0 : decide (fwR zs ≥ 0) = false := by simpa using h0
  have hmk : ∀ W : World, (Instr.makeSlice 25 (.int .i64 5) (.int .i64 5)).run Try.prog W = .ok (.slice (some ⟨W.heap.size, 0, none⟩) 5 5) (W.alloc (.cells (madeCells #[.int .i64 0] 5) 2)) := mk_lit 5 (by omega)
  clear h0
  go_enter Try.func42, Try.ntmps42
  go_wp2_with (go_at_call 83; refine (iIsBits_any _ _ _ _ _ h).mono ?_; rintro e w' ⟨rfl, rfl⟩)
  refine (firstWrong_any A n c zs _ h hn hb).mono ?_
  rintro e w2 ⟨A2, m2, c2, rfl, own2, b2, hm2⟩
  have b3 := below_trans b2 ((Below.refl _ _).alloc (Nat.le_refl _) (.cells #[.int .i64 4, .int .i64 3, .int .i64 (scnEnd zs).vl, .slice A2 m2 c2] 30))
  have B3 := hide b3
  have hsz := b2.size
  clear b2 b3 own2
  have O4 := hide (Own.made1 w2 (.cells #[.int .i64 4, .int .i64 3, .int .i64 (scnEnd zs).vl, .slice A2 m2 c2] 30) (n := 5) (by omega) hsz)
  have B4 := hide (below_trans B3.out ((Below.refl _ _).alloc (Nat.le_refl _) (.cells (madeCells #[.int .i64 0] 5) 2)))
  go_wp2_with (at_builtin; go_must (refine append_newL rfl _ _ rfl w.heap.size rfl O4.out _ [0, 1] 2 _ rfl (by intro z hz; simp at hz; omega) rfl rfl (by simp) (by omega) B4.out.size ?_); intro A5 c5 w5 own5 gr5)
  go_ret2
  exact ⟨A5, 5 + 2, c5, rfl, own5, below_own B4.out B4.out.size O4.out (Nat.le_refl _) gr5, by omega⟩

set_option maxHeartbeats 1600000 in
theorem iMissing_p44 (A : Option Addr) (n c : Nat) (zs : List Int) (w : World) (h : Rd w A n c zs) (hn : n ≤ 8192) (hb : allB 0 1 zs = true) (hz : bitsB zs = true) (h0 : ¬ 0 ≤ fwR zs) (hp : (scnEnd zs).ph = 4)  (hc : (scnEnd zs).ct = 4) :
    Calls Try.prog 42 #[.slice A n c] w fun e w' => ∃ A' m c', e = .returned (.tuple #[.slice A' m c', .int .i64 0]) ∧ Own w' w.heap.size A' m c' (List.replicate 4 0 ++ [0, 1]) ∧ Below w.heap.size w w' ∧ m ≤ 1048576 := by
  have t0 : decide (fwR zs ≥ 0) = false := by simpa using h0
  have hmk : ∀ W : World, (Instr.makeSlice 25 (.int .i64 4) (.int .i64 4)).run Try.prog W = .ok (.slice (some ⟨W.heap.size, 0, none⟩) 4 4) (W.alloc (.cells (madeCells #[.int .i64 0] 4) 2)) := mk_lit 4 (by omega)
  clear h0
  go_enter Try.func42, Try.ntmps42
  go_wp2_with (go_at_call 83; refine (iIsBits_any _ _ _ _ _ h).mono ?_; rintro e w' ⟨rfl, rfl⟩)
  refine (firstWrong_any A n c zs _ h hn hb).mono ?_
  rintro e w2 ⟨A2, m2, c2, rfl, own2, b2, hm2⟩
  have b3 := below_trans b2 ((Below.refl _ _).alloc (Nat.le_refl _) (.cells #[.int .i64 4, .int .i64 4, .int .i64 (scnEnd zs).vl, .slice A2 m2 c2] 30))
  have B3 := hide b3
  have hsz := b2.size
  clear b2 b3 own2
  have O4 := hide (Own.made1 w2 (.cells #[.int .i64 4, .int .i64 4, .int .i64 (scnEnd zs).vl, .slice A2 m2 c2] 30) (n := 4) (by omega) hsz)
  have B4 := hide (below_trans B3.out ((Below.refl _ _).alloc (Nat.le_refl _) (.cells (madeCells #[.int .i64 0] 4) 2)))
  go_wp2_with (at_builtin; go_must (refine append_newL rfl _ _ rfl w.heap.size rfl O4.out _ [0, 1] 2 _ rfl (by intro z hz; simp at hz; omega) rfl rfl (by simp) (by omega) B4.out.size ?_); intro A5 c5 w5 own5 gr5)
  go_ret2
  exact ⟨A5, 4 + 2, c5, rfl, own5, below_own B4.out B4.out.size O4.out (Nat.le_refl _) gr5, by omega⟩

set_option maxHeartbeats 1600000 in
theorem iMissing_p45 (A : Option Addr) (n c : Nat) (zs : List Int) (w : World) (h : Rd w A n c zs) (hn : n ≤ 8192) (hb : allB 0 1 zs = true) (hz : bitsB zs = true) (h0 : ¬ 0 ≤ fwR zs) (hp : (scnEnd zs).ph = 4)  (hc : (scnEnd zs).ct = 5) :
    Calls Try.prog 42 #[.slice A n c] w fun e w' => ∃ A' m c', e = .returned (.tuple #[.slice A' m c', .int .i64 0]) ∧ Own w' w.heap.size A' m c' (List.replicate 3 0 ++ [0, 1]) ∧ Below w.heap.size w w' ∧ m ≤ 1048576 := by
  have t0 : decide (fwR zs ≥ 0) = false := by simpa using h0
  have hmk : ∀ W : World, (Instr.makeSlice 25 (.int .i64 3) (.int .i64 3)).run Try.prog W = .ok (.slice (some ⟨W.heap.size, 0, none⟩) 3 3) (W.alloc (.cells (madeCells #[.int .i64 0] 3) 2)) := mk_lit 3 (by omega)
  clear h0
  go_enter Try.func42, Try.ntmps42
  go_wp2_with (go_at_call 83; refine (iIsBits_any _ _ _ _ _ h).mono ?_; rintro e w' ⟨rfl, rfl⟩)
  refine (firstWrong_any A n c zs _ h hn hb).mono ?_
  rintro e w2 ⟨A2, m2, c2, rfl, own2, b2, hm2⟩
  have b3 := below_trans b2 ((Below.refl _ _).alloc (Nat.le_refl _) (.cells #[.int .i64 4, .int .i64 5, .int .i64 (scnEnd zs).vl, .slice A2 m2 c2] 30))
  have B3 := hide b3
  have hsz := b2.size
  clear b2 b3 own2
  have O4 := hide (Own.made1 w2 (.cells #[.int .i64 4, .int .i64 5, .int .i64 (scnEnd zs).vl, .slice A2 m2 c2] 30) (n := 3) (by omega) hsz)
  have B4 := hide (below_trans B3.out ((Below.refl _ _).alloc (Nat.le_refl _) (.cells (madeCells #[.int .i64 0] 3) 2)))
  go_wp2_with (at_builtin; go_must (refine append_newL rfl _ _ rfl w.heap.size rfl O4.out _ [0, 1] 2 _ rfl (by intro z hz; simp at hz; omega) rfl rfl (by simp) (by omega) B4.out.size ?_); intro A5 c5 w5 own5 gr5)
  go_ret2
  exact ⟨A5, 3 + 2, c5, rfl, own5, below_own B4.out B4.out.size O4.out (Nat.le_refl _) gr5, by omega⟩

set_option maxHeartbeats 1600000 in
theorem iMissing_p46 (A : Option Addr) (n c : Nat) (zs : List Int) (w : World) (h : Rd w A n c zs) (hn : n ≤ 8192) (hb : allB 0 1 zs = true) (hz : bitsB zs = true) (h0 : ¬ 0 ≤ fwR zs) (hp : (scnEnd zs).ph = 4)  (hc : (scnEnd zs).ct = 6) :
    Calls Try.prog 42 #[.slice A n c] w fun e w' => ∃ A' m c', e = .returned (.tuple #[.slice A' m c', .int .i64 0]) ∧ Own w' w.heap.size A' m c' (List.replicate 2 0 ++ [0, 1]) ∧ Below w.heap.size w w' ∧ m ≤ 1048576 := by
  have t0 : decide (fwR zs ≥ 0) = false := by simpa using h0
  have hmk : ∀ W : World, (Instr.makeSlice 25 (.int .i64 2) (.int .i64 2)).run Try.prog W = .ok (.slice (some ⟨W.heap.size, 0, none⟩) 2 2) (W.alloc (.cells (madeCells #[.int .i64 0] 2) 2)) := mk_lit 2 (by omega)
  clear h0
  go_enter Try.func42, Try.ntmps42
  go_wp2_with (go_at_call 83; refine (iIsBits_any _ _ _ _ _ h).mono ?_; rintro e w' ⟨rfl, rfl⟩)
  refine (firstWrong_any A n c zs _ h hn hb).mono ?_
  rintro e w2 ⟨A2, m2, c2, rfl, own2, b2, hm2⟩
  have b3 := below_trans b2 ((Below.refl _ _).alloc (Nat.le_refl _) (.cells #[.int .i64 4, .int .i64 6, .int .i64 (scnEnd zs).vl, .slice A2 m2 c2] 30))
  have B3 := hide b3
  have hsz := b2.size
  clear b2 b3 own2
  have O4 := hide (Own.made1 w2 (.cells #[.int .i64 4, .int .i64 6, .int .i64 (scnEnd zs).vl, .slice A2 m2 c2] 30) (n := 2) (by omega) hsz)
  have B4 := hide (below_trans B3.out ((Below.refl _ _).alloc (Nat.le_refl _) (.cells (madeCells #[.int .i64 0] 2) 2)))
  go_wp2_with (at_builtin; go_must (refine append_newL rfl _ _ rfl w.heap.size rfl O4.out _ [0, 1] 2 _ rfl (by intro z hz; simp at hz; omega) rfl rfl (by simp) (by omega) B4.out.size ?_); intro A5 c5 w5 own5 gr5)
  go_ret2
  exact ⟨A5, 2 + 2, c5, rfl, own5, below_own B4.out B4.out.size O4.out (Nat.le_refl _) gr5, by omega⟩

set_option maxHeartbeats 1600000 in
theorem iMissing_p47 (A : Option Addr) (n c : Nat) (zs : List Int) (w : World) (h : Rd w A n c zs) (hn : n ≤ 8192) (hb : allB 0 1 zs = true) (hz : bitsB zs = true) (h0 : ¬ 0 ≤ fwR zs) (hp : (scnEnd zs).ph = 4)  (hc : (scnEnd zs).ct = 7) :
    Calls Try.prog 42 #[.slice A n c] w fun e w' => ∃ A' m c', e = .returned (.tuple #[.slice A' m c', .int .i64 0]) ∧ Own w' w.heap.size A' m c' (List.replicate 1 0 ++ [0, 1]) ∧ Below w.heap.size w w' ∧ m ≤ 1048576 := by
  have t0 : decide (fwR zs ≥ 0) = false := by simpa using h0
  have hmk : ∀ W : World, (Instr.makeSlice 25 (.int .i64 1) (.int .i64 1)).run Try.prog W = .ok (.slice (some ⟨W.heap.size, 0, none⟩) 1 1) (W.alloc (.cells (madeCells #[.int .i64 0] 1) 2)) := mk_lit 1 (by omega)
  clear h0
  go_enter Try.func42, Try.ntmps42
  go_wp2_with (go_at_call 83; refine (iIsBits_any _ _ _ _ _ h).mono ?_; rintro e w' ⟨rfl, rfl⟩)
  refine (firstWrong_any A n c zs _ h hn hb).mono ?_
  rintro e w2 ⟨A2, m2, c2, rfl, own2, b2, hm2⟩
  have b3 := below_trans b2 ((Below.refl _ _).alloc (Nat.le_refl _) (.cells #[.int .i64 4, .int .i64 7, .int .i64 (scnEnd zs).vl, .slice A2 m2 c2] 30))
  have B3 := hide b3
  have hsz := b2.size
  clear b2 b3 own2
  have O4 := hide (Own.made1 w2 (.cells #[.int .i64 4, .int .i64 7, .int .i64 (scnEnd zs).vl, .slice A2 m2 c2] 30) (n := 1) (by omega) hsz)
  have B4 := hide (below_trans B3.out ((Below.refl _ _).alloc (Nat.le_refl _) (.cells (madeCells #[.int .i64 0] 1) 2)))
  go_wp2_with (at_builtin; go_must (refine append_newL rfl _ _ rfl w.heap.size rfl O4.out _ [0, 1] 2 _ rfl (by intro z hz; simp at hz; omega) rfl rfl (by simp) (by omega) B4.out.size ?_); intro A5 c5 w5 own5 gr5)
  go_ret2
  exact ⟨A5, 1 + 2, c5, rfl, own5, below_own B4.out B4.out.size O4.out (Nat.le_refl _) gr5, by omega⟩

set_option maxHeartbeats 1600000 in
theorem iMissing_p5 (A : Option Addr) (n c : Nat) (zs : List Int) (w : World) (h : Rd w A n c zs) (hn : n ≤ 8192) (hb : allB 0 1 zs = true) (hz : bitsB zs = true) (h0 : ¬ 0 ≤ fwR zs) (hp : (scnEnd zs).ph = 5)  :
    Calls Try.prog 42 #[.slice A n c] w fun e w' => ∃ A' m c', e = .returned (.tuple #[.slice A' m c', .int .i64 0]) ∧ Own w' w.heap.size A' m c' [1] ∧ Below w.heap.size w w' ∧ m ≤ 1048576 := by
  have t0 : decide (fwR zs ≥ 0) = false := by simpa using h0
  clear h0
  go_enter Try.func42, Try.ntmps42
  go_wp2_with (go_at_call 83; refine (iIsBits_any _ _ _ _ _ h).mono ?_; rintro e w' ⟨rfl, rfl⟩)
  refine (firstWrong_any A n c zs _ h hn hb).mono ?_
  rintro e w2 ⟨A2, m2, c2, rfl, own2, b2, hm2⟩
  have b3 := below_trans b2 ((Below.refl _ _).alloc (Nat.le_refl _) (.cells #[.int .i64 5, .int .i64 (scnEnd zs).ct, .int .i64 (scnEnd zs).vl, .slice A2 m2 c2] 30))
  have B3 := hide b3
  have hsz := b2.size
  clear b2 b3 own2
  have B4 := hide (below_trans B3.out ((Below.refl _ _).alloc (Nat.le_refl _) (.cells #[.int .i64 1] 2)))
  have O4 := hide ((Own.lit1 w2 (.cells #[.int .i64 5, .int .i64 (scnEnd zs).ct, .int .i64 (scnEnd zs).vl, .slice A2 m2 c2] 30) hsz #[.int .i64 1] [1] rfl (by intro z hz; simp at hz; omega) 1 rfl (by omega)))
  go_wp2_with fail
  go_ret2
  exact ⟨some ⟨w2.heap.size + 1, 0, none⟩, 1, 1, rfl, O4.out, B4.out, by omega⟩

set_option maxHeartbeats 1600000 in
theorem iMissing_p6 (A : Option Addr) (n c : Nat) (zs : List Int) (w : World) (h : Rd w A n c zs) (hn : n ≤ 8192) (hb : allB 0 1 zs = true) (hz : bitsB zs = true) (h0 : ¬ 0 ≤ fwR zs) (hp : (scnEnd zs).ph = 6)  :
    Calls Try.prog 42 #[.slice A n c] w fun e w' => ∃ A' m c', e = .returned (.tuple #[.slice A' m c', .int .i64 0]) ∧ Own w' w.heap.size A' m c' [] ∧ Below w.heap.size w w' ∧ m ≤ 1048576 := by
  have t0 : decide (fwR zs ≥ 0) = false := by simpa using h0
  clear h0
  go_enter Try.func42, Try.ntmps42
  go_wp2_with (go_at_call 83; refine (iIsBits_any _ _ _ _ _ h).mono ?_; rintro e w' ⟨rfl, rfl⟩)
  refine (firstWrong_any A n c zs _ h hn hb).mono ?_
  rintro e w2 ⟨A2, m2, c2, rfl, own2, b2, hm2⟩
  have b3 := below_trans b2 ((Below.refl _ _).alloc (Nat.le_refl _) (.cells #[.int .i64 6, .int .i64 (scnEnd zs).ct, .int .i64 (scnEnd zs).vl, .slice A2 m2 c2] 30))
  have B3 := hide b3
  have hsz := b2.size
  clear b2 b3 own2
  go_wp2_with fail
  go_ret2
  exact ⟨none, 0, 0, rfl, Own.nil _ _, B3.out, by omega⟩

theorem missing_at {s : Scn} : (s.ph = 0 → s.ct = 0 → missing s = List.replicate 3 0 ++ [1, 0, 1]) ∧ (s.ph = 1 → s.ct = 1 → missing s = List.replicate 2 0 ++ [1, 0, 1]) ∧ (s.ph = 1 → s.ct = 2 → missing s = List.replicate 1 0 ++ [1, 0, 1]) ∧ (s.ph = 1 → 3 ≤ s.ct → missing s = List.replicate 0 0 ++ [1, 0, 1]) ∧ (s.ph = 2 → missing s = [0, 1]) ∧ (s.ph = 3 → missing s = List.replicate 9 0 ++ [0, 1]) ∧ (∀ q : Nat, q ≤ 7 → s.ph = 4 → s.ct = q → missing s = List.replicate (8 - q) 0 ++ [0, 1]) ∧ (s.ph = 5 → missing s = [1]) ∧ (s.ph = 6 → missing s = []) := by
  refine ⟨fun h g => by simp [missing, h, g], fun h g => by simp [missing, h, g], fun h g => by simp [missing, h, g], fun h g => ?_, fun h => by simp [missing, h], fun h => by simp [missing, h], fun q hq h g => ?_, fun h => by simp [missing, h], fun h => by simp [missing, h]⟩
  · have e : (3 - s.ct).toNat = 0 := by omega
    simp [missing, h, e]
  · have e : (8 - s.ct).toNat = 8 - q := by omega
    simp [missing, h, e]
theorem iCellsMissing_c (A : Option Addr) (n c : Nat) (zs : List Int) (w : World) (h : Rd w A n c zs) (hn : n ≤ 1048576) :
    Calls Try.prog 42 #[.slice A n c] w fun e w' => ∃ A' m c', e = .returned (.tuple #[.slice A' m c', .int .i64 (msC zs)]) ∧ Own w' w.heap.size A' m c' (msR zs) ∧ Below w.heap.size w w' ∧ m ≤ 1048576 := by
  have hlen := h.le
  by_cases hz : bitsB zs = true
  · obtain ⟨h1, h2⟩ := bitsB_get hz
    by_cases h0 : 0 ≤ fwR zs
    · have t0 : decide (fwR zs ≥ 0) = true := by simpa using h0
      have E := hide (ms_wrong hz h0)
      clear h0
      go_enter Try.func42, Try.ntmps42
      go_wp2_with (go_at_call 83; refine (iIsBits_any _ _ _ _ _ h).mono ?_; rintro e w' ⟨rfl, rfl⟩)
      refine (firstWrong_any A n c zs _ h (by omega) h2).mono ?_
      rintro e w2 ⟨A2, m2, c2, rfl, own2, b2, hm2⟩
      go_wp2_with fail
      go_ret2
      exact ⟨none, 0, 0, ret_sc E.out.1.symm, by rw [E.out.2]; exact Own.nil _ _, below_trans b2 ((Below.refl _ _).alloc (Nat.le_refl _) _), by omega⟩
    · obtain ⟨e1, e2⟩ := ms_yes hz h0
      obtain ⟨m0, m1, m2, m3, m4, m5, m6, m7, m8⟩ := @missing_at (scnEnd zs)
      rw [e1, e2]
      have hf := (Inv.scan h2 zs.length (Nat.le_refl _)).facts
      rcases scnEnd_can h2 h0 with ⟨hp, hc⟩ | ⟨hp, hc⟩ | hp | hp | ⟨hp, hc, hc'⟩ | hp | hp
      · rw [m0 hp hc]; exact iMissing_p00 A n c zs w h (by omega) h2 hz h0 hp hc
      · by_cases c1 : (scnEnd zs).ct = 1
        · rw [m1 hp c1]; exact iMissing_p11 A n c zs w h (by omega) h2 hz h0 hp c1
        · by_cases c2 : (scnEnd zs).ct = 2
          · rw [m2 hp c2]; exact iMissing_p12 A n c zs w h (by omega) h2 hz h0 hp c2
          · rw [m3 hp (by omega)]; exact iMissing_p13 A n c zs w h (by omega) h2 hz h0 hp (by omega) hf.2.1.2
      · rw [m4 hp]; exact iMissing_p2 A n c zs w h (by omega) h2 hz h0 hp
      · rw [m5 hp]; exact iMissing_p3 A n c zs w h (by omega) h2 hz h0 hp
      · have hq : (scnEnd zs).ct = 0 ∨ (scnEnd zs).ct = 1 ∨ (scnEnd zs).ct = 2 ∨ (scnEnd zs).ct = 3 ∨ (scnEnd zs).ct = 4 ∨ (scnEnd zs).ct = 5 ∨ (scnEnd zs).ct = 6 ∨ (scnEnd zs).ct = 7 := by omega
        rcases hq with q | q | q | q | q | q | q | q
        · rw [m6 0 (by omega) hp q]; exact iMissing_p40 A n c zs w h (by omega) h2 hz h0 hp q
        · rw [m6 1 (by omega) hp q]; exact iMissing_p41 A n c zs w h (by omega) h2 hz h0 hp q
        · rw [m6 2 (by omega) hp q]; exact iMissing_p42 A n c zs w h (by omega) h2 hz h0 hp q
        · rw [m6 3 (by omega) hp q]; exact iMissing_p43 A n c zs w h (by omega) h2 hz h0 hp q
        · rw [m6 4 (by omega) hp q]; exact iMissing_p44 A n c zs w h (by omega) h2 hz h0 hp q
        · rw [m6 5 (by omega) hp q]; exact iMissing_p45 A n c zs w h (by omega) h2 hz h0 hp q
        · rw [m6 6 (by omega) hp q]; exact iMissing_p46 A n c zs w h (by omega) h2 hz h0 hp q
        · rw [m6 7 (by omega) hp q]; exact iMissing_p47 A n c zs w h (by omega) h2 hz h0 hp q
      · rw [m7 hp]; exact iMissing_p5 A n c zs w h (by omega) h2 hz h0 hp
      · rw [m8 hp]; exact iMissing_p6 A n c zs w h (by omega) h2 hz h0 hp
  · rw [Bool.not_eq_true] at hz
    have E := hide (ms_bad hz)
    go_enter Try.func42, Try.ntmps42
    go_wp2_with (go_at_call 83; refine (iIsBits_any _ _ _ _ _ h).mono ?_; rintro e w' ⟨rfl, rfl⟩)
    go_ret2
    exact ⟨none, 0, 0, ret_sc E.out.1.symm, by rw [E.out.2]; exact Own.nil _ _, Below.refl _ _, by omega⟩
end Go.Proofs.Ytdodhjahihfaiaa
