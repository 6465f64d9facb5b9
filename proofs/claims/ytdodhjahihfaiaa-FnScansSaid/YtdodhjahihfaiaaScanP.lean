/- Contracts: the code of a cell, an own scan, the cells of a list read, by the program. Written by gen_scanp.py. -/
import Derived.Test.YtdodhjahihfaiaaScanN
import Derived.Test.YtdodhjahihfaiaaScanI
import Derived.Test.YtdodhjahihfaiaaClone
import Derived.Deep.QuietTactic
import Derived.BigQuiet
namespace Go.Proofs.Ytdodhjahihfaiaa
open Go.RowKit
set_option linter.unusedVariables false
set_option linter.unusedSimpArgs false

theorem neqF {a b : Int} (h : a = b) : (a != b) = false := by simp [h]
theorem neqT {a b : Int} (h : ¬ a = b) : (a != b) = true := by simp [h]
/-- the scan and the code of some cells -/
def scR (s : Scn) (cs : List Int) : Scn × Int := if scnB s then scanR s cs else (zeroS, 1)
def stR (s : Scn) (x : Int) : Scn × Int := scR s [x]
theorem scR_yes {s : Scn} {cs : List Int} (h : scnB s = true) : scR s cs = scanR s cs := by simp [scR, h]
theorem scR_no {s : Scn} {cs : List Int} (h : scnB s = false) : scR s cs = (zeroS, 1) := by simp [scR, h]
/-- what comes out: a scan and a code -/
def ScOut (p : Scn × Int) (w : World) (e : Ending) (w' : World) : Prop :=
  ∃ (A' : Option Addr) (m c' : Nat), e = .returned (.tuple #[.agg #[.int .i64 p.1.ph, .int .i64 p.1.ct, .int .i64 p.1.vl, .slice A' m c'], .int .i64 p.2]) ∧ Own w' w.heap.size A' m c' p.1.bs ∧ Below w.heap.size w w' ∧ m ≤ 1048577
theorem within_q (x lo hi : Int) (w : World) : Calls Try.prog 74 #[.int .i64 x, .int .i64 lo, .int .i64 hi] w fun e w' => e = .returned (.bool (inB lo hi x)) ∧ w' = w :=
  (within_any x lo hi w).mono fun _ _ ⟨a, b⟩ => ⟨a, b.symm⟩
set_option maxHeartbeats 1600000 in
theorem stepCode_c0 (s : Scn) (x : Int) (A : Option Addr) (n c : Nat) (w : World) (e1 : inB 0 1 x = false) :
    Calls Try.prog 93 #[.agg #[.int .i64 s.ph, .int .i64 s.ct, .int .i64 s.vl, .slice A n c], .int .i64 x] w fun e w' => e = .returned (.int .i64 2) ∧ Below w.heap.size w w' := by
  have B0 := hide ((Below.refl w.heap.size w).alloc (Nat.le_refl _) (.cells #[.int .i64 s.ph, .int .i64 s.ct, .int .i64 s.vl, .slice A n c] 30))
  go_enter Try.func93, Try.ntmps93
  go_wp2_with fail
  go_quiet ((go_at_call 74; exact Calls.quiet_of_same (within_q _ _ _ _)))
  go_wp2_with fail
  go_ret
  refine ⟨rfl, ?_⟩
  repeat (first | exact (Below.refl _ _).alloc (Nat.le_refl _) _ | refine below_drewN ?_ _)
set_option maxHeartbeats 1600000 in
theorem stepCode_c1 (s : Scn) (x : Int) (A : Option Addr) (n c : Nat) (w : World) (e1 : inB 0 1 x = true) (hp : (s.ph == 4) = false) :
    Calls Try.prog 93 #[.agg #[.int .i64 s.ph, .int .i64 s.ct, .int .i64 s.vl, .slice A n c], .int .i64 x] w fun e w' => e = .returned (.int .i64 0) ∧ Below w.heap.size w w' := by
  have B0 := hide ((Below.refl w.heap.size w).alloc (Nat.le_refl _) (.cells #[.int .i64 s.ph, .int .i64 s.ct, .int .i64 s.vl, .slice A n c] 30))
  go_enter Try.func93, Try.ntmps93
  go_wp2_with fail
  go_quiet ((go_at_call 74; exact Calls.quiet_of_same (within_q _ _ _ _)))
  go_wp2_with fail
  go_ret
  refine ⟨rfl, ?_⟩
  repeat (first | exact (Below.refl _ _).alloc (Nat.le_refl _) _ | refine below_drewN ?_ _)
set_option maxHeartbeats 1600000 in
theorem stepCode_c2 (s : Scn) (x : Int) (A : Option Addr) (n c : Nat) (w : World) (e1 : inB 0 1 x = true) (hp : s.ph = 4) (h7 : 7 < s.ct) :
    Calls Try.prog 93 #[.agg #[.int .i64 s.ph, .int .i64 s.ct, .int .i64 s.vl, .slice A n c], .int .i64 x] w fun e w' => e = .returned (.int .i64 2) ∧ Below w.heap.size w w' := by
  have B0 := hide ((Below.refl w.heap.size w).alloc (Nat.le_refl _) (.cells #[.int .i64 s.ph, .int .i64 s.ct, .int .i64 s.vl, .slice A n c] 30))
  have t7 : decide (s.ct > 7) = true := decide_eq_true h7
  go_enter Try.func93, Try.ntmps93
  go_wp2_with fail
  go_quiet ((go_at_call 74; exact Calls.quiet_of_same (within_q _ _ _ _)))
  go_wp2_with fail
  go_ret
  refine ⟨rfl, ?_⟩
  repeat (first | exact (Below.refl _ _).alloc (Nat.le_refl _) _ | refine below_drewN ?_ _)
set_option maxHeartbeats 1600000 in
theorem stepCode_r0 (s : Scn) (x : Int) (A : Option Addr) (n c : Nat) (w : World) (e1 : inB 0 1 x = true) (hp : s.ph = 4) (hc : s.ct = 0) (hv : 1 ≤ s.vl) :
    Calls Try.prog 93 #[.agg #[.int .i64 s.ph, .int .i64 s.ct, .int .i64 s.vl, .slice A n c], .int .i64 x] w fun e w' => e = .returned (.int .i64 2) ∧ Below w.heap.size w w' := by
  have B0 := hide ((Below.refl w.heap.size w).alloc (Nat.le_refl _) (.cells #[.int .i64 s.ph, .int .i64 s.ct, .int .i64 s.vl, .slice A n c] 30))
  have tv : decide (s.vl ≥ 1) = true := decide_eq_true hv
  go_enter Try.func93, Try.ntmps93
  go_wp2_with fail
  go_quiet ((go_at_call 74; exact Calls.quiet_of_same (within_q _ _ _ _)))
  go_wp2_with fail
  go_ret
  refine ⟨rfl, ?_⟩
  repeat (first | exact (Below.refl _ _).alloc (Nat.le_refl _) _ | refine below_drewN ?_ _)
set_option maxHeartbeats 1600000 in
theorem stepCode_n0 (s : Scn) (x : Int) (A : Option Addr) (n c : Nat) (w : World) (e1 : inB 0 1 x = true) (hp : s.ph = 4) (hc : s.ct = 0) (hv : ¬ 1 ≤ s.vl) :
    Calls Try.prog 93 #[.agg #[.int .i64 s.ph, .int .i64 s.ct, .int .i64 s.vl, .slice A n c], .int .i64 x] w fun e w' => e = .returned (.int .i64 0) ∧ Below w.heap.size w w' := by
  have B0 := hide ((Below.refl w.heap.size w).alloc (Nat.le_refl _) (.cells #[.int .i64 s.ph, .int .i64 s.ct, .int .i64 s.vl, .slice A n c] 30))
  have tv : decide (s.vl ≥ 1) = false := decide_eq_false hv
  go_enter Try.func93, Try.ntmps93
  go_wp2_with fail
  go_quiet ((go_at_call 74; exact Calls.quiet_of_same (within_q _ _ _ _)))
  go_wp2_with fail
  go_ret
  refine ⟨rfl, ?_⟩
  repeat (first | exact (Below.refl _ _).alloc (Nat.le_refl _) _ | refine below_drewN ?_ _)
set_option maxHeartbeats 1600000 in
theorem stepCode_r1 (s : Scn) (x : Int) (A : Option Addr) (n c : Nat) (w : World) (e1 : inB 0 1 x = true) (hp : s.ph = 4) (hc : s.ct = 1) (hv : 2 ≤ s.vl) :
    Calls Try.prog 93 #[.agg #[.int .i64 s.ph, .int .i64 s.ct, .int .i64 s.vl, .slice A n c], .int .i64 x] w fun e w' => e = .returned (.int .i64 2) ∧ Below w.heap.size w w' := by
  have B0 := hide ((Below.refl w.heap.size w).alloc (Nat.le_refl _) (.cells #[.int .i64 s.ph, .int .i64 s.ct, .int .i64 s.vl, .slice A n c] 30))
  have tv : decide (s.vl ≥ 2) = true := decide_eq_true hv
  go_enter Try.func93, Try.ntmps93
  go_wp2_with fail
  go_quiet ((go_at_call 74; exact Calls.quiet_of_same (within_q _ _ _ _)))
  go_wp2_with fail
  go_ret
  refine ⟨rfl, ?_⟩
  repeat (first | exact (Below.refl _ _).alloc (Nat.le_refl _) _ | refine below_drewN ?_ _)
set_option maxHeartbeats 1600000 in
theorem stepCode_n1 (s : Scn) (x : Int) (A : Option Addr) (n c : Nat) (w : World) (e1 : inB 0 1 x = true) (hp : s.ph = 4) (hc : s.ct = 1) (hv : ¬ 2 ≤ s.vl) :
    Calls Try.prog 93 #[.agg #[.int .i64 s.ph, .int .i64 s.ct, .int .i64 s.vl, .slice A n c], .int .i64 x] w fun e w' => e = .returned (.int .i64 0) ∧ Below w.heap.size w w' := by
  have B0 := hide ((Below.refl w.heap.size w).alloc (Nat.le_refl _) (.cells #[.int .i64 s.ph, .int .i64 s.ct, .int .i64 s.vl, .slice A n c] 30))
  have tv : decide (s.vl ≥ 2) = false := decide_eq_false hv
  go_enter Try.func93, Try.ntmps93
  go_wp2_with fail
  go_quiet ((go_at_call 74; exact Calls.quiet_of_same (within_q _ _ _ _)))
  go_wp2_with fail
  go_ret
  refine ⟨rfl, ?_⟩
  repeat (first | exact (Below.refl _ _).alloc (Nat.le_refl _) _ | refine below_drewN ?_ _)
set_option maxHeartbeats 1600000 in
theorem stepCode_r2 (s : Scn) (x : Int) (A : Option Addr) (n c : Nat) (w : World) (e1 : inB 0 1 x = true) (hp : s.ph = 4) (hc : s.ct = 2) (hv : 4 ≤ s.vl) :
    Calls Try.prog 93 #[.agg #[.int .i64 s.ph, .int .i64 s.ct, .int .i64 s.vl, .slice A n c], .int .i64 x] w fun e w' => e = .returned (.int .i64 2) ∧ Below w.heap.size w w' := by
  have B0 := hide ((Below.refl w.heap.size w).alloc (Nat.le_refl _) (.cells #[.int .i64 s.ph, .int .i64 s.ct, .int .i64 s.vl, .slice A n c] 30))
  have tv : decide (s.vl ≥ 4) = true := decide_eq_true hv
  go_enter Try.func93, Try.ntmps93
  go_wp2_with fail
  go_quiet ((go_at_call 74; exact Calls.quiet_of_same (within_q _ _ _ _)))
  go_wp2_with fail
  go_ret
  refine ⟨rfl, ?_⟩
  repeat (first | exact (Below.refl _ _).alloc (Nat.le_refl _) _ | refine below_drewN ?_ _)
set_option maxHeartbeats 1600000 in
theorem stepCode_n2 (s : Scn) (x : Int) (A : Option Addr) (n c : Nat) (w : World) (e1 : inB 0 1 x = true) (hp : s.ph = 4) (hc : s.ct = 2) (hv : ¬ 4 ≤ s.vl) :
    Calls Try.prog 93 #[.agg #[.int .i64 s.ph, .int .i64 s.ct, .int .i64 s.vl, .slice A n c], .int .i64 x] w fun e w' => e = .returned (.int .i64 0) ∧ Below w.heap.size w w' := by
  have B0 := hide ((Below.refl w.heap.size w).alloc (Nat.le_refl _) (.cells #[.int .i64 s.ph, .int .i64 s.ct, .int .i64 s.vl, .slice A n c] 30))
  have tv : decide (s.vl ≥ 4) = false := decide_eq_false hv
  go_enter Try.func93, Try.ntmps93
  go_wp2_with fail
  go_quiet ((go_at_call 74; exact Calls.quiet_of_same (within_q _ _ _ _)))
  go_wp2_with fail
  go_ret
  refine ⟨rfl, ?_⟩
  repeat (first | exact (Below.refl _ _).alloc (Nat.le_refl _) _ | refine below_drewN ?_ _)
set_option maxHeartbeats 1600000 in
theorem stepCode_r3 (s : Scn) (x : Int) (A : Option Addr) (n c : Nat) (w : World) (e1 : inB 0 1 x = true) (hp : s.ph = 4) (hc : s.ct = 3) (hv : 8 ≤ s.vl) :
    Calls Try.prog 93 #[.agg #[.int .i64 s.ph, .int .i64 s.ct, .int .i64 s.vl, .slice A n c], .int .i64 x] w fun e w' => e = .returned (.int .i64 2) ∧ Below w.heap.size w w' := by
  have B0 := hide ((Below.refl w.heap.size w).alloc (Nat.le_refl _) (.cells #[.int .i64 s.ph, .int .i64 s.ct, .int .i64 s.vl, .slice A n c] 30))
  have tv : decide (s.vl ≥ 8) = true := decide_eq_true hv
  go_enter Try.func93, Try.ntmps93
  go_wp2_with fail
  go_quiet ((go_at_call 74; exact Calls.quiet_of_same (within_q _ _ _ _)))
  go_wp2_with fail
  go_ret
  refine ⟨rfl, ?_⟩
  repeat (first | exact (Below.refl _ _).alloc (Nat.le_refl _) _ | refine below_drewN ?_ _)
set_option maxHeartbeats 1600000 in
theorem stepCode_n3 (s : Scn) (x : Int) (A : Option Addr) (n c : Nat) (w : World) (e1 : inB 0 1 x = true) (hp : s.ph = 4) (hc : s.ct = 3) (hv : ¬ 8 ≤ s.vl) :
    Calls Try.prog 93 #[.agg #[.int .i64 s.ph, .int .i64 s.ct, .int .i64 s.vl, .slice A n c], .int .i64 x] w fun e w' => e = .returned (.int .i64 0) ∧ Below w.heap.size w w' := by
  have B0 := hide ((Below.refl w.heap.size w).alloc (Nat.le_refl _) (.cells #[.int .i64 s.ph, .int .i64 s.ct, .int .i64 s.vl, .slice A n c] 30))
  have tv : decide (s.vl ≥ 8) = false := decide_eq_false hv
  go_enter Try.func93, Try.ntmps93
  go_wp2_with fail
  go_quiet ((go_at_call 74; exact Calls.quiet_of_same (within_q _ _ _ _)))
  go_wp2_with fail
  go_ret
  refine ⟨rfl, ?_⟩
  repeat (first | exact (Below.refl _ _).alloc (Nat.le_refl _) _ | refine below_drewN ?_ _)
set_option maxHeartbeats 1600000 in
theorem stepCode_r4 (s : Scn) (x : Int) (A : Option Addr) (n c : Nat) (w : World) (e1 : inB 0 1 x = true) (hp : s.ph = 4) (hc : s.ct = 4) (hv : 16 ≤ s.vl) :
    Calls Try.prog 93 #[.agg #[.int .i64 s.ph, .int .i64 s.ct, .int .i64 s.vl, .slice A n c], .int .i64 x] w fun e w' => e = .returned (.int .i64 2) ∧ Below w.heap.size w w' := by
  have B0 := hide ((Below.refl w.heap.size w).alloc (Nat.le_refl _) (.cells #[.int .i64 s.ph, .int .i64 s.ct, .int .i64 s.vl, .slice A n c] 30))
  have tv : decide (s.vl ≥ 16) = true := decide_eq_true hv
  go_enter Try.func93, Try.ntmps93
  go_wp2_with fail
  go_quiet ((go_at_call 74; exact Calls.quiet_of_same (within_q _ _ _ _)))
  go_wp2_with fail
  go_ret
  refine ⟨rfl, ?_⟩
  repeat (first | exact (Below.refl _ _).alloc (Nat.le_refl _) _ | refine below_drewN ?_ _)
set_option maxHeartbeats 1600000 in
theorem stepCode_n4 (s : Scn) (x : Int) (A : Option Addr) (n c : Nat) (w : World) (e1 : inB 0 1 x = true) (hp : s.ph = 4) (hc : s.ct = 4) (hv : ¬ 16 ≤ s.vl) :
    Calls Try.prog 93 #[.agg #[.int .i64 s.ph, .int .i64 s.ct, .int .i64 s.vl, .slice A n c], .int .i64 x] w fun e w' => e = .returned (.int .i64 0) ∧ Below w.heap.size w w' := by
  have B0 := hide ((Below.refl w.heap.size w).alloc (Nat.le_refl _) (.cells #[.int .i64 s.ph, .int .i64 s.ct, .int .i64 s.vl, .slice A n c] 30))
  have tv : decide (s.vl ≥ 16) = false := decide_eq_false hv
  go_enter Try.func93, Try.ntmps93
  go_wp2_with fail
  go_quiet ((go_at_call 74; exact Calls.quiet_of_same (within_q _ _ _ _)))
  go_wp2_with fail
  go_ret
  refine ⟨rfl, ?_⟩
  repeat (first | exact (Below.refl _ _).alloc (Nat.le_refl _) _ | refine below_drewN ?_ _)
set_option maxHeartbeats 1600000 in
theorem stepCode_r5 (s : Scn) (x : Int) (A : Option Addr) (n c : Nat) (w : World) (e1 : inB 0 1 x = true) (hp : s.ph = 4) (hc : s.ct = 5) (hv : 32 ≤ s.vl) :
    Calls Try.prog 93 #[.agg #[.int .i64 s.ph, .int .i64 s.ct, .int .i64 s.vl, .slice A n c], .int .i64 x] w fun e w' => e = .returned (.int .i64 2) ∧ Below w.heap.size w w' := by
  have B0 := hide ((Below.refl w.heap.size w).alloc (Nat.le_refl _) (.cells #[.int .i64 s.ph, .int .i64 s.ct, .int .i64 s.vl, .slice A n c] 30))
  have tv : decide (s.vl ≥ 32) = true := decide_eq_true hv
  go_enter Try.func93, Try.ntmps93
  go_wp2_with fail
  go_quiet ((go_at_call 74; exact Calls.quiet_of_same (within_q _ _ _ _)))
  go_wp2_with fail
  go_ret
  refine ⟨rfl, ?_⟩
  repeat (first | exact (Below.refl _ _).alloc (Nat.le_refl _) _ | refine below_drewN ?_ _)
set_option maxHeartbeats 1600000 in
theorem stepCode_n5 (s : Scn) (x : Int) (A : Option Addr) (n c : Nat) (w : World) (e1 : inB 0 1 x = true) (hp : s.ph = 4) (hc : s.ct = 5) (hv : ¬ 32 ≤ s.vl) :
    Calls Try.prog 93 #[.agg #[.int .i64 s.ph, .int .i64 s.ct, .int .i64 s.vl, .slice A n c], .int .i64 x] w fun e w' => e = .returned (.int .i64 0) ∧ Below w.heap.size w w' := by
  have B0 := hide ((Below.refl w.heap.size w).alloc (Nat.le_refl _) (.cells #[.int .i64 s.ph, .int .i64 s.ct, .int .i64 s.vl, .slice A n c] 30))
  have tv : decide (s.vl ≥ 32) = false := decide_eq_false hv
  go_enter Try.func93, Try.ntmps93
  go_wp2_with fail
  go_quiet ((go_at_call 74; exact Calls.quiet_of_same (within_q _ _ _ _)))
  go_wp2_with fail
  go_ret
  refine ⟨rfl, ?_⟩
  repeat (first | exact (Below.refl _ _).alloc (Nat.le_refl _) _ | refine below_drewN ?_ _)
set_option maxHeartbeats 1600000 in
theorem stepCode_r6 (s : Scn) (x : Int) (A : Option Addr) (n c : Nat) (w : World) (e1 : inB 0 1 x = true) (hp : s.ph = 4) (hc : s.ct = 6) (hv : 64 ≤ s.vl) :
    Calls Try.prog 93 #[.agg #[.int .i64 s.ph, .int .i64 s.ct, .int .i64 s.vl, .slice A n c], .int .i64 x] w fun e w' => e = .returned (.int .i64 2) ∧ Below w.heap.size w w' := by
  have B0 := hide ((Below.refl w.heap.size w).alloc (Nat.le_refl _) (.cells #[.int .i64 s.ph, .int .i64 s.ct, .int .i64 s.vl, .slice A n c] 30))
  have tv : decide (s.vl ≥ 64) = true := decide_eq_true hv
  go_enter Try.func93, Try.ntmps93
  go_wp2_with fail
  go_quiet ((go_at_call 74; exact Calls.quiet_of_same (within_q _ _ _ _)))
  go_wp2_with fail
  go_ret
  refine ⟨rfl, ?_⟩
  repeat (first | exact (Below.refl _ _).alloc (Nat.le_refl _) _ | refine below_drewN ?_ _)
set_option maxHeartbeats 1600000 in
theorem stepCode_n6 (s : Scn) (x : Int) (A : Option Addr) (n c : Nat) (w : World) (e1 : inB 0 1 x = true) (hp : s.ph = 4) (hc : s.ct = 6) (hv : ¬ 64 ≤ s.vl) :
    Calls Try.prog 93 #[.agg #[.int .i64 s.ph, .int .i64 s.ct, .int .i64 s.vl, .slice A n c], .int .i64 x] w fun e w' => e = .returned (.int .i64 0) ∧ Below w.heap.size w w' := by
  have B0 := hide ((Below.refl w.heap.size w).alloc (Nat.le_refl _) (.cells #[.int .i64 s.ph, .int .i64 s.ct, .int .i64 s.vl, .slice A n c] 30))
  have tv : decide (s.vl ≥ 64) = false := decide_eq_false hv
  go_enter Try.func93, Try.ntmps93
  go_wp2_with fail
  go_quiet ((go_at_call 74; exact Calls.quiet_of_same (within_q _ _ _ _)))
  go_wp2_with fail
  go_ret
  refine ⟨rfl, ?_⟩
  repeat (first | exact (Below.refl _ _).alloc (Nat.le_refl _) _ | refine below_drewN ?_ _)
set_option maxHeartbeats 1600000 in
theorem stepCode_r7 (s : Scn) (x : Int) (A : Option Addr) (n c : Nat) (w : World) (e1 : inB 0 1 x = true) (hp : s.ph = 4) (hc : s.ct = 7) (hv : 128 ≤ s.vl) :
    Calls Try.prog 93 #[.agg #[.int .i64 s.ph, .int .i64 s.ct, .int .i64 s.vl, .slice A n c], .int .i64 x] w fun e w' => e = .returned (.int .i64 2) ∧ Below w.heap.size w w' := by
  have B0 := hide ((Below.refl w.heap.size w).alloc (Nat.le_refl _) (.cells #[.int .i64 s.ph, .int .i64 s.ct, .int .i64 s.vl, .slice A n c] 30))
  have tv : decide (s.vl ≥ 128) = true := decide_eq_true hv
  go_enter Try.func93, Try.ntmps93
  go_wp2_with fail
  go_quiet ((go_at_call 74; exact Calls.quiet_of_same (within_q _ _ _ _)))
  go_wp2_with fail
  go_ret
  refine ⟨rfl, ?_⟩
  repeat (first | exact (Below.refl _ _).alloc (Nat.le_refl _) _ | refine below_drewN ?_ _)
set_option maxHeartbeats 1600000 in
theorem stepCode_n7y (s : Scn) (x : Int) (A : Option Addr) (n c : Nat) (w : World) (e1 : inB 0 1 x = true) (hp : s.ph = 4) (hc : s.ct = 7) (hv : ¬ 128 ≤ s.vl) (hn : n = 1024) :
    Calls Try.prog 93 #[.agg #[.int .i64 s.ph, .int .i64 s.ct, .int .i64 s.vl, .slice A n c], .int .i64 x] w fun e w' => e = .returned (.int .i64 3) ∧ Below w.heap.size w w' := by
  have B0 := hide ((Below.refl w.heap.size w).alloc (Nat.le_refl _) (.cells #[.int .i64 s.ph, .int .i64 s.ct, .int .i64 s.vl, .slice A n c] 30))
  have tv : decide (s.vl ≥ 128) = false := decide_eq_false hv
  have tn : ((n : Int) == 1024) = true := by simp; omega
  clear hn
  go_enter Try.func93, Try.ntmps93
  go_wp2_with fail
  go_quiet ((go_at_call 74; exact Calls.quiet_of_same (within_q _ _ _ _)))
  go_wp2_with fail
  go_ret
  refine ⟨rfl, ?_⟩
  repeat (first | exact (Below.refl _ _).alloc (Nat.le_refl _) _ | refine below_drewN ?_ _)
set_option maxHeartbeats 1600000 in
theorem stepCode_n7n (s : Scn) (x : Int) (A : Option Addr) (n c : Nat) (w : World) (e1 : inB 0 1 x = true) (hp : s.ph = 4) (hc : s.ct = 7) (hv : ¬ 128 ≤ s.vl) (hn : ¬ n = 1024) :
    Calls Try.prog 93 #[.agg #[.int .i64 s.ph, .int .i64 s.ct, .int .i64 s.vl, .slice A n c], .int .i64 x] w fun e w' => e = .returned (.int .i64 0) ∧ Below w.heap.size w w' := by
  have B0 := hide ((Below.refl w.heap.size w).alloc (Nat.le_refl _) (.cells #[.int .i64 s.ph, .int .i64 s.ct, .int .i64 s.vl, .slice A n c] 30))
  have tv : decide (s.vl ≥ 128) = false := decide_eq_false hv
  have tn : ((n : Int) == 1024) = false := by simp; omega
  go_enter Try.func93, Try.ntmps93
  go_wp2_with fail
  go_quiet ((go_at_call 74; exact Calls.quiet_of_same (within_q _ _ _ _)))
  go_wp2_with fail
  go_ret
  refine ⟨rfl, ?_⟩
  repeat (first | exact (Below.refl _ _).alloc (Nat.le_refl _) _ | refine below_drewN ?_ _)
theorem stepCode_any (s : Scn) (x : Int) (A : Option Addr) (n c : Nat) (w : World) (h : Rd w A n c s.bs) (hs : scnB s = true) :
    Calls Try.prog 93 #[.agg #[.int .i64 s.ph, .int .i64 s.ct, .int .i64 s.vl, .slice A n c], .int .i64 x] w fun e w' => e = .returned (.int .i64 (stepC s x)) ∧ Below w.heap.size w w' := by
  have hl := h.len
  obtain ⟨p, b, k, v⟩ := scnB_get hs
  cases e1 : inB 0 1 x
  · rw [show stepC s x = 2 by simp [stepC, stepR, e1]]; exact stepCode_c0 s x A n c w e1
  by_cases hp : s.ph = 4
  · by_cases h7 : 7 < s.ct
    · rw [show stepC s x = 2 by simp [stepC, stepR, e1, hp, h7]]; exact stepCode_c2 s x A n c w e1 hp h7
    · have hq : s.ct = 0 ∨ s.ct = 1 ∨ s.ct = 2 ∨ s.ct = 3 ∨ s.ct = 4 ∨ s.ct = 5 ∨ s.ct = 6 ∨ s.ct = 7 := by omega
      rcases hq with hc | hc | hc | hc | hc | hc | hc | hc
      · by_cases hv : 1 ≤ s.vl
        · rw [show stepC s x = 2 by simp [stepC, stepR, e1, hp, hc, hv]]; exact stepCode_r0 s x A n c w e1 hp hc hv
        · rw [show stepC s x = 0 by simp [stepC, stepR, stepL, e1, hp, hc, hv]; try omega]; exact stepCode_n0 s x A n c w e1 hp hc hv
      · by_cases hv : 2 ≤ s.vl
        · rw [show stepC s x = 2 by simp [stepC, stepR, e1, hp, hc, hv]]; exact stepCode_r1 s x A n c w e1 hp hc hv
        · rw [show stepC s x = 0 by simp [stepC, stepR, stepL, e1, hp, hc, hv]; try omega]; exact stepCode_n1 s x A n c w e1 hp hc hv
      · by_cases hv : 4 ≤ s.vl
        · rw [show stepC s x = 2 by simp [stepC, stepR, e1, hp, hc, hv]]; exact stepCode_r2 s x A n c w e1 hp hc hv
        · rw [show stepC s x = 0 by simp [stepC, stepR, stepL, e1, hp, hc, hv]; try omega]; exact stepCode_n2 s x A n c w e1 hp hc hv
      · by_cases hv : 8 ≤ s.vl
        · rw [show stepC s x = 2 by simp [stepC, stepR, e1, hp, hc, hv]]; exact stepCode_r3 s x A n c w e1 hp hc hv
        · rw [show stepC s x = 0 by simp [stepC, stepR, stepL, e1, hp, hc, hv]; try omega]; exact stepCode_n3 s x A n c w e1 hp hc hv
      · by_cases hv : 16 ≤ s.vl
        · rw [show stepC s x = 2 by simp [stepC, stepR, e1, hp, hc, hv]]; exact stepCode_r4 s x A n c w e1 hp hc hv
        · rw [show stepC s x = 0 by simp [stepC, stepR, stepL, e1, hp, hc, hv]; try omega]; exact stepCode_n4 s x A n c w e1 hp hc hv
      · by_cases hv : 32 ≤ s.vl
        · rw [show stepC s x = 2 by simp [stepC, stepR, e1, hp, hc, hv]]; exact stepCode_r5 s x A n c w e1 hp hc hv
        · rw [show stepC s x = 0 by simp [stepC, stepR, stepL, e1, hp, hc, hv]; try omega]; exact stepCode_n5 s x A n c w e1 hp hc hv
      · by_cases hv : 64 ≤ s.vl
        · rw [show stepC s x = 2 by simp [stepC, stepR, e1, hp, hc, hv]]; exact stepCode_r6 s x A n c w e1 hp hc hv
        · rw [show stepC s x = 0 by simp [stepC, stepR, stepL, e1, hp, hc, hv]; try omega]; exact stepCode_n6 s x A n c w e1 hp hc hv
      · by_cases hv : 128 ≤ s.vl
        · rw [show stepC s x = 2 by simp [stepC, stepR, e1, hp, hc, hv]]; exact stepCode_r7 s x A n c w e1 hp hc hv
        · by_cases hn : n = 1024
          · rw [show stepC s x = 3 by simp [stepC, stepR, stepL, e1, hp, hc, hv, hl, hn]; try omega]; exact stepCode_n7y s x A n c w e1 hp hc hv hn
          · rw [show stepC s x = 0 by simp [stepC, stepR, stepL, e1, hp, hc, hv, hl, hn]; try omega]; exact stepCode_n7n s x A n c w e1 hp hc hv hn
  · rw [show stepC s x = 0 by simp [stepC, stepR, stepL, e1, hp]]; exact stepCode_c1 s x A n c w e1 (by simpa using hp)
set_option maxHeartbeats 1600000 in
theorem own_any (a b d : Int) (A : Option Addr) (n c : Nat) (zs : List Int) (w : World) (h : Rd w A n c zs) (hn : n ≤ 1048576) :
    Calls Try.prog 92 #[.agg #[.int .i64 a, .int .i64 b, .int .i64 d, .slice A n c]] w fun e w' => ∃ A' c', e = .returned (.agg #[.int .i64 a, .int .i64 b, .int .i64 d, .slice A' n c']) ∧ Own w' w.heap.size A' n c' zs ∧ Below w.heap.size w w' := by
  have W0 := hide (show Below w.heap.size w ((w.alloc (.cells #[.int .i64 a, .int .i64 b, .int .i64 d, .slice A n c] 30)).alloc (.cells #[.int .i64 0, .int .i64 0, .int .i64 0, .slice none 0 0] 30)) by (repeat (first | exact Below.refl _ _ | (refine Below.alloc ?_ (by simp <;> omega) _) | (refine Below.setCell ?_ (by simp <;> omega) _))))
  have S0 := hide ((ScnAt.fresh w #[.int .i64 a, .int .i64 b, .int .i64 d, .slice A n c]).below ((Below.refl _ _).alloc (Nat.le_refl _) (.cells #[.int .i64 0, .int .i64 0, .int .i64 0, .slice none 0 0] 30)))
  have R0 := hide (ScnAt.fresh1 w (.cells #[.int .i64 a, .int .i64 b, .int .i64 d, .slice A n c] 30) #[.int .i64 0, .int .i64 0, .int .i64 0, .slice none 0 0])
  have H0 := hide (h.below W0.out)
  go_enter Try.func92, Try.ntmps92
  go_wp2_with fail
  refine (clone_any A n c zs _ H0.out hn).mono ?_
  rintro e w2 ⟨A2, c2, rfl, own2, b2⟩
  have HR := hide (R0.out.below b2)
  have HS := hide (S0.out.below b2)
  have B2 := hide (below_trans W0.out b2)
  have O2 := hide (own2.mono (B' := w.heap.size) W0.out.size)
  have r0 : w2.cell? ⟨w.heap.size + 1, 0, none⟩ = some (.int .i64 0) := HR.out.cell 0
  have r1 : w2.cell? ⟨w.heap.size + 1, 1, none⟩ = some (.int .i64 0) := HR.out.cell 1
  have r2 : w2.cell? ⟨w.heap.size + 1, 2, none⟩ = some (.int .i64 0) := HR.out.cell 2
  have r3 : w2.cell? ⟨w.heap.size + 1, 3, none⟩ = some (.slice none 0 0) := HR.out.cell 3
  have q0 := HR.out.frozen 0
  have q1 := HR.out.frozen 1
  have q2 := HR.out.frozen 2
  have q3 := HR.out.frozen 3
  have y0 : w2.cell? ⟨w.heap.size, 0, none⟩ = some (.int .i64 a) := HS.out.cell 0
  have y1 : w2.cell? ⟨w.heap.size, 1, none⟩ = some (.int .i64 b) := HS.out.cell 1
  have y2 : w2.cell? ⟨w.heap.size, 2, none⟩ = some (.int .i64 d) := HS.out.cell 2
  have y3 : w2.cell? ⟨w.heap.size, 3, none⟩ = some (.slice A n c) := HS.out.cell 3
  have f3 := HS.out.frozen 3
  clear b2 own2
  go_wp2_with fail
  have hr1 := HR.out.other (g' := w.heap.size) (by omega) 3 (.slice A2 n c2)
  have fin := hr1.put4 (.int .i64 a) (.int .i64 b) (.int .i64 d) (.slice A2 n c2)
  have hO := (O2.out.setScn (g := w.heap.size) ⟨_, HS.out⟩ 3 (.slice A2 n c2)).set4 (g := w.heap.size + 1) ⟨_, hr1⟩ (.int .i64 a) (.int .i64 b) (.int .i64 d) (.slice A2 n c2)
  have hB := below_set4 (B2.out.setCell (p := ⟨w.heap.size, 3, none⟩) (Nat.le_refl _) (.slice A2 n c2)) (g := w.heap.size + 1) (by omega) (.int .i64 a) (.int .i64 b) (.int .i64 d) (.slice A2 n c2)
  have hres := fun (tmps : Array Value) (hp : tmps.getD 2 undef = .pointer (some ⟨w.heap.size + 1, 0, none⟩)) => results_scn (tmps := tmps) Try.results92 hp fin
  refine bodyPost_ret (hres _ rfl) rfl ?_
  exact ⟨A2, c2, rfl, hO, hB⟩
end Go.Proofs.Ytdodhjahihfaiaa
