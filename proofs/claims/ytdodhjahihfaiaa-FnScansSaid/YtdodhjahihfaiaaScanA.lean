/- Contracts: a scan by value: its next cell, by the program. -/
import Derived.Test.YtdodhjahihfaiaaCells
import Derived.Test.YtdodhjahihfaiaaScanMath
import Derived.Test.YtdodhjahihfaiaaCopy
import Derived.Test.YtdodhjahihfaiaaRepeat
import Derived.Test.YtdodhjahihfaiaaDraw
namespace Go.Proofs.Ytdodhjahihfaiaa
open Go.RowKit
set_option linter.unusedVariables false
set_option linter.unusedSimpArgs false


/-- what comes out of a step -/
def StepOut (B : Nat) (s' : Scn) (A : Option Addr) (n c : Nat) (w : World) (e : Ending) (w' : World) : Prop :=
  ∃ (A' : Option Addr) (m c' : Nat), e = .returned (.agg #[.int .i64 s'.ph, .int .i64 s'.ct, .int .i64 s'.vl, .slice A' m c']) ∧ Own w' B A' m c' s'.bs ∧ w.grownBy w' (Value.slice A n c).ownBlock ∧ m ≤ n + 1

set_option maxHeartbeats 1600000 in
theorem step00 (B : Nat) (ct vl : Int) (bs : List Int) (A : Option Addr) (n c : Nat) (w : World) (hown : Own w B A n c bs) (hB : B ≤ w.heap.size) (hct : 0 ≤ ct ∧ ct ≤ 15) (hvl : 0 ≤ vl ∧ vl ≤ 255) (hn : n ≤ 1048576) :
    Calls Try.prog 94 #[.agg #[.int .i64 0, .int .i64 ct, .int .i64 vl, .slice A n c], .int .i64 0] w (StepOut B ⟨1, 1, vl, bs⟩ A n c w) := by
  go_enter Try.func94, Try.ntmps94
  go_wp2
  refine bodyPost_ret (v := .agg #[.int .i64 (1), .int .i64 (1), .int .i64 (vl), .slice A n c]) (by simp [results, Try.results94, go_sem]) rfl ?_
  refine ⟨A, n, c, rfl, hown.below ?_, grown_of_below ?_ _, by omega⟩
  all_goals (repeat (first | exact Below.refl _ _ | (refine Below.alloc ?_ (by simp <;> omega) _) | (refine Below.setCell ?_ (by simp <;> omega) _)))

set_option maxHeartbeats 1600000 in
theorem step01 (B : Nat) (ct vl : Int) (bs : List Int) (A : Option Addr) (n c : Nat) (w : World) (hown : Own w B A n c bs) (hB : B ≤ w.heap.size) (hct : 0 ≤ ct ∧ ct ≤ 15) (hvl : 0 ≤ vl ∧ vl ≤ 255) (hn : n ≤ 1048576) :
    Calls Try.prog 94 #[.agg #[.int .i64 0, .int .i64 ct, .int .i64 vl, .slice A n c], .int .i64 1] w (StepOut B ⟨0, ct, vl, bs⟩ A n c w) := by
  go_enter Try.func94, Try.ntmps94
  go_wp2
  refine bodyPost_ret (v := .agg #[.int .i64 (0), .int .i64 (ct), .int .i64 (vl), .slice A n c]) (by simp [results, Try.results94, go_sem]) rfl ?_
  refine ⟨A, n, c, rfl, hown.below ?_, grown_of_below ?_ _, by omega⟩
  all_goals (repeat (first | exact Below.refl _ _ | (refine Below.alloc ?_ (by simp <;> omega) _) | (refine Below.setCell ?_ (by simp <;> omega) _)))

set_option maxHeartbeats 1600000 in
theorem step11y (B : Nat) (ct vl : Int) (bs : List Int) (A : Option Addr) (n c : Nat) (w : World) (hown : Own w B A n c bs) (hB : B ≤ w.heap.size) (hct : 0 ≤ ct ∧ ct ≤ 15) (hvl : 0 ≤ vl ∧ vl ≤ 255) (hn : n ≤ 1048576) (h : 3 ≤ ct) :
    Calls Try.prog 94 #[.agg #[.int .i64 1, .int .i64 ct, .int .i64 vl, .slice A n c], .int .i64 1] w (StepOut B ⟨2, 0, vl, bs⟩ A n c w) := by
  have t : decide (ct ≥ 3) = true := decide_eq_true h
  go_enter Try.func94, Try.ntmps94
  go_wp2
  refine bodyPost_ret (v := .agg #[.int .i64 (2), .int .i64 (0), .int .i64 (vl), .slice A n c]) (by simp [results, Try.results94, go_sem]) rfl ?_
  refine ⟨A, n, c, rfl, hown.below ?_, grown_of_below ?_ _, by omega⟩
  all_goals (repeat (first | exact Below.refl _ _ | (refine Below.alloc ?_ (by simp <;> omega) _) | (refine Below.setCell ?_ (by simp <;> omega) _)))

set_option maxHeartbeats 1600000 in
theorem step11n (B : Nat) (ct vl : Int) (bs : List Int) (A : Option Addr) (n c : Nat) (w : World) (hown : Own w B A n c bs) (hB : B ≤ w.heap.size) (hct : 0 ≤ ct ∧ ct ≤ 15) (hvl : 0 ≤ vl ∧ vl ≤ 255) (hn : n ≤ 1048576) (h : ¬ 3 ≤ ct) :
    Calls Try.prog 94 #[.agg #[.int .i64 1, .int .i64 ct, .int .i64 vl, .slice A n c], .int .i64 1] w (StepOut B ⟨7, ct, vl, bs⟩ A n c w) := by
  have t : decide (ct ≥ 3) = false := decide_eq_false h
  go_enter Try.func94, Try.ntmps94
  go_wp2
  refine bodyPost_ret (v := .agg #[.int .i64 (7), .int .i64 (ct), .int .i64 (vl), .slice A n c]) (by simp [results, Try.results94, go_sem]) rfl ?_
  refine ⟨A, n, c, rfl, hown.below ?_, grown_of_below ?_ _, by omega⟩
  all_goals (repeat (first | exact Below.refl _ _ | (refine Below.alloc ?_ (by simp <;> omega) _) | (refine Below.setCell ?_ (by simp <;> omega) _)))

set_option maxHeartbeats 1600000 in
theorem step10y (B : Nat) (ct vl : Int) (bs : List Int) (A : Option Addr) (n c : Nat) (w : World) (hown : Own w B A n c bs) (hB : B ≤ w.heap.size) (hct : 0 ≤ ct ∧ ct ≤ 15) (hvl : 0 ≤ vl ∧ vl ≤ 255) (hn : n ≤ 1048576) (h : ct < 15) :
    Calls Try.prog 94 #[.agg #[.int .i64 1, .int .i64 ct, .int .i64 vl, .slice A n c], .int .i64 0] w (StepOut B ⟨1, ct + 1, vl, bs⟩ A n c w) := by
  have t : decide (ct < 15) = true := decide_eq_true h
  go_enter Try.func94, Try.ntmps94
  go_wp2
  refine bodyPost_ret (v := .agg #[.int .i64 (1), .int .i64 (ct + 1), .int .i64 (vl), .slice A n c]) (by simp [results, Try.results94, go_sem]) rfl ?_
  refine ⟨A, n, c, rfl, hown.below ?_, grown_of_below ?_ _, by omega⟩
  all_goals (repeat (first | exact Below.refl _ _ | (refine Below.alloc ?_ (by simp <;> omega) _) | (refine Below.setCell ?_ (by simp <;> omega) _)))

set_option maxHeartbeats 1600000 in
theorem step10n (B : Nat) (ct vl : Int) (bs : List Int) (A : Option Addr) (n c : Nat) (w : World) (hown : Own w B A n c bs) (hB : B ≤ w.heap.size) (hct : 0 ≤ ct ∧ ct ≤ 15) (hvl : 0 ≤ vl ∧ vl ≤ 255) (hn : n ≤ 1048576) (h : ¬ ct < 15) :
    Calls Try.prog 94 #[.agg #[.int .i64 1, .int .i64 ct, .int .i64 vl, .slice A n c], .int .i64 0] w (StepOut B ⟨7, ct, vl, bs⟩ A n c w) := by
  have t : decide (ct < 15) = false := decide_eq_false h
  go_enter Try.func94, Try.ntmps94
  go_wp2
  refine bodyPost_ret (v := .agg #[.int .i64 (7), .int .i64 (ct), .int .i64 (vl), .slice A n c]) (by simp [results, Try.results94, go_sem]) rfl ?_
  refine ⟨A, n, c, rfl, hown.below ?_, grown_of_below ?_ _, by omega⟩
  all_goals (repeat (first | exact Below.refl _ _ | (refine Below.alloc ?_ (by simp <;> omega) _) | (refine Below.setCell ?_ (by simp <;> omega) _)))

set_option maxHeartbeats 1600000 in
theorem step21 (B : Nat) (ct vl : Int) (bs : List Int) (A : Option Addr) (n c : Nat) (w : World) (hown : Own w B A n c bs) (hB : B ≤ w.heap.size) (hct : 0 ≤ ct ∧ ct ≤ 15) (hvl : 0 ≤ vl ∧ vl ≤ 255) (hn : n ≤ 1048576) :
    Calls Try.prog 94 #[.agg #[.int .i64 2, .int .i64 ct, .int .i64 vl, .slice A n c], .int .i64 1] w (StepOut B ⟨3, ct, vl, bs⟩ A n c w) := by
  go_enter Try.func94, Try.ntmps94
  go_wp2
  refine bodyPost_ret (v := .agg #[.int .i64 (3), .int .i64 (ct), .int .i64 (vl), .slice A n c]) (by simp [results, Try.results94, go_sem]) rfl ?_
  refine ⟨A, n, c, rfl, hown.below ?_, grown_of_below ?_ _, by omega⟩
  all_goals (repeat (first | exact Below.refl _ _ | (refine Below.alloc ?_ (by simp <;> omega) _) | (refine Below.setCell ?_ (by simp <;> omega) _)))

set_option maxHeartbeats 1600000 in
theorem step20 (B : Nat) (ct vl : Int) (bs : List Int) (A : Option Addr) (n c : Nat) (w : World) (hown : Own w B A n c bs) (hB : B ≤ w.heap.size) (hct : 0 ≤ ct ∧ ct ≤ 15) (hvl : 0 ≤ vl ∧ vl ≤ 255) (hn : n ≤ 1048576) :
    Calls Try.prog 94 #[.agg #[.int .i64 2, .int .i64 ct, .int .i64 vl, .slice A n c], .int .i64 0] w (StepOut B ⟨5, ct, vl, bs⟩ A n c w) := by
  go_enter Try.func94, Try.ntmps94
  go_wp2
  refine bodyPost_ret (v := .agg #[.int .i64 (5), .int .i64 (ct), .int .i64 (vl), .slice A n c]) (by simp [results, Try.results94, go_sem]) rfl ?_
  refine ⟨A, n, c, rfl, hown.below ?_, grown_of_below ?_ _, by omega⟩
  all_goals (repeat (first | exact Below.refl _ _ | (refine Below.alloc ?_ (by simp <;> omega) _) | (refine Below.setCell ?_ (by simp <;> omega) _)))

set_option maxHeartbeats 1600000 in
theorem step31 (B : Nat) (ct vl : Int) (bs : List Int) (A : Option Addr) (n c : Nat) (w : World) (hown : Own w B A n c bs) (hB : B ≤ w.heap.size) (hct : 0 ≤ ct ∧ ct ≤ 15) (hvl : 0 ≤ vl ∧ vl ≤ 255) (hn : n ≤ 1048576) :
    Calls Try.prog 94 #[.agg #[.int .i64 3, .int .i64 ct, .int .i64 vl, .slice A n c], .int .i64 1] w (StepOut B ⟨7, ct, vl, bs⟩ A n c w) := by
  go_enter Try.func94, Try.ntmps94
  go_wp2
  refine bodyPost_ret (v := .agg #[.int .i64 (7), .int .i64 (ct), .int .i64 (vl), .slice A n c]) (by simp [results, Try.results94, go_sem]) rfl ?_
  refine ⟨A, n, c, rfl, hown.below ?_, grown_of_below ?_ _, by omega⟩
  all_goals (repeat (first | exact Below.refl _ _ | (refine Below.alloc ?_ (by simp <;> omega) _) | (refine Below.setCell ?_ (by simp <;> omega) _)))

set_option maxHeartbeats 1600000 in
theorem step30 (B : Nat) (ct vl : Int) (bs : List Int) (A : Option Addr) (n c : Nat) (w : World) (hown : Own w B A n c bs) (hB : B ≤ w.heap.size) (hct : 0 ≤ ct ∧ ct ≤ 15) (hvl : 0 ≤ vl ∧ vl ≤ 255) (hn : n ≤ 1048576) :
    Calls Try.prog 94 #[.agg #[.int .i64 3, .int .i64 ct, .int .i64 vl, .slice A n c], .int .i64 0] w (StepOut B ⟨4, 0, 0, bs⟩ A n c w) := by
  go_enter Try.func94, Try.ntmps94
  go_wp2
  refine bodyPost_ret (v := .agg #[.int .i64 (4), .int .i64 (0), .int .i64 (0), .slice A n c]) (by simp [results, Try.results94, go_sem]) rfl ?_
  refine ⟨A, n, c, rfl, hown.below ?_, grown_of_below ?_ _, by omega⟩
  all_goals (repeat (first | exact Below.refl _ _ | (refine Below.alloc ?_ (by simp <;> omega) _) | (refine Below.setCell ?_ (by simp <;> omega) _)))

set_option maxHeartbeats 1600000 in
theorem step4y (B : Nat) (ct vl : Int) (bs : List Int) (x : Int) (A : Option Addr) (n c : Nat) (w : World) (hown : Own w B A n c bs) (hB : B ≤ w.heap.size) (hct : 0 ≤ ct ∧ ct ≤ 15) (hvl : 0 ≤ vl ∧ vl ≤ 255) (hn : n ≤ 1048576) (hx : x = 0 ∨ x = 1) (h : ct < 7) :
    Calls Try.prog 94 #[.agg #[.int .i64 4, .int .i64 ct, .int .i64 vl, .slice A n c], .int .i64 x] w (StepOut B ⟨4, ct + 1, 2 * vl + x, bs⟩ A n c w) := by
  have hx1 : 0 ≤ x ∧ x ≤ 1 := by omega
  have t : (ct + 1 == 8) = false := by simp; omega
  go_enter Try.func94, Try.ntmps94
  go_wp2
  refine bodyPost_ret (v := .agg #[.int .i64 (4), .int .i64 (ct + 1), .int .i64 (2 * vl + x), .slice A n c]) (by simp [results, Try.results94, go_sem]) rfl ?_
  refine ⟨A, n, c, rfl, hown.below ?_, grown_of_below ?_ _, by omega⟩
  all_goals (repeat (first | exact Below.refl _ _ | (refine Below.alloc ?_ (by simp <;> omega) _) | (refine Below.setCell ?_ (by simp <;> omega) _)))

set_option maxHeartbeats 1600000 in
theorem step51 (B : Nat) (ct vl : Int) (bs : List Int) (A : Option Addr) (n c : Nat) (w : World) (hown : Own w B A n c bs) (hB : B ≤ w.heap.size) (hct : 0 ≤ ct ∧ ct ≤ 15) (hvl : 0 ≤ vl ∧ vl ≤ 255) (hn : n ≤ 1048576) :
    Calls Try.prog 94 #[.agg #[.int .i64 5, .int .i64 ct, .int .i64 vl, .slice A n c], .int .i64 1] w (StepOut B ⟨6, ct, vl, bs⟩ A n c w) := by
  go_enter Try.func94, Try.ntmps94
  go_wp2
  refine bodyPost_ret (v := .agg #[.int .i64 (6), .int .i64 (ct), .int .i64 (vl), .slice A n c]) (by simp [results, Try.results94, go_sem]) rfl ?_
  refine ⟨A, n, c, rfl, hown.below ?_, grown_of_below ?_ _, by omega⟩
  all_goals (repeat (first | exact Below.refl _ _ | (refine Below.alloc ?_ (by simp <;> omega) _) | (refine Below.setCell ?_ (by simp <;> omega) _)))

set_option maxHeartbeats 1600000 in
theorem step50 (B : Nat) (ct vl : Int) (bs : List Int) (A : Option Addr) (n c : Nat) (w : World) (hown : Own w B A n c bs) (hB : B ≤ w.heap.size) (hct : 0 ≤ ct ∧ ct ≤ 15) (hvl : 0 ≤ vl ∧ vl ≤ 255) (hn : n ≤ 1048576) :
    Calls Try.prog 94 #[.agg #[.int .i64 5, .int .i64 ct, .int .i64 vl, .slice A n c], .int .i64 0] w (StepOut B ⟨7, ct, vl, bs⟩ A n c w) := by
  go_enter Try.func94, Try.ntmps94
  go_wp2
  refine bodyPost_ret (v := .agg #[.int .i64 (7), .int .i64 (ct), .int .i64 (vl), .slice A n c]) (by simp [results, Try.results94, go_sem]) rfl ?_
  refine ⟨A, n, c, rfl, hown.below ?_, grown_of_below ?_ _, by omega⟩
  all_goals (repeat (first | exact Below.refl _ _ | (refine Below.alloc ?_ (by simp <;> omega) _) | (refine Below.setCell ?_ (by simp <;> omega) _)))

set_option maxHeartbeats 1600000 in
theorem step61 (B : Nat) (ct vl : Int) (bs : List Int) (A : Option Addr) (n c : Nat) (w : World) (hown : Own w B A n c bs) (hB : B ≤ w.heap.size) (hct : 0 ≤ ct ∧ ct ≤ 15) (hvl : 0 ≤ vl ∧ vl ≤ 255) (hn : n ≤ 1048576) :
    Calls Try.prog 94 #[.agg #[.int .i64 6, .int .i64 ct, .int .i64 vl, .slice A n c], .int .i64 1] w (StepOut B ⟨6, ct, vl, bs⟩ A n c w) := by
  go_enter Try.func94, Try.ntmps94
  go_wp2
  refine bodyPost_ret (v := .agg #[.int .i64 (6), .int .i64 (ct), .int .i64 (vl), .slice A n c]) (by simp [results, Try.results94, go_sem]) rfl ?_
  refine ⟨A, n, c, rfl, hown.below ?_, grown_of_below ?_ _, by omega⟩
  all_goals (repeat (first | exact Below.refl _ _ | (refine Below.alloc ?_ (by simp <;> omega) _) | (refine Below.setCell ?_ (by simp <;> omega) _)))

set_option maxHeartbeats 1600000 in
theorem step60 (B : Nat) (ct vl : Int) (bs : List Int) (A : Option Addr) (n c : Nat) (w : World) (hown : Own w B A n c bs) (hB : B ≤ w.heap.size) (hct : 0 ≤ ct ∧ ct ≤ 15) (hvl : 0 ≤ vl ∧ vl ≤ 255) (hn : n ≤ 1048576) :
    Calls Try.prog 94 #[.agg #[.int .i64 6, .int .i64 ct, .int .i64 vl, .slice A n c], .int .i64 0] w (StepOut B ⟨7, ct, vl, bs⟩ A n c w) := by
  go_enter Try.func94, Try.ntmps94
  go_wp2
  refine bodyPost_ret (v := .agg #[.int .i64 (7), .int .i64 (ct), .int .i64 (vl), .slice A n c]) (by simp [results, Try.results94, go_sem]) rfl ?_
  refine ⟨A, n, c, rfl, hown.below ?_, grown_of_below ?_ _, by omega⟩
  all_goals (repeat (first | exact Below.refl _ _ | (refine Below.alloc ?_ (by simp <;> omega) _) | (refine Below.setCell ?_ (by simp <;> omega) _)))

set_option maxHeartbeats 1600000 in
theorem step7 (B : Nat) (ct vl : Int) (bs : List Int) (x : Int) (A : Option Addr) (n c : Nat) (w : World) (hown : Own w B A n c bs) (hB : B ≤ w.heap.size) (hct : 0 ≤ ct ∧ ct ≤ 15) (hvl : 0 ≤ vl ∧ vl ≤ 255) (hn : n ≤ 1048576) (hx : x = 0 ∨ x = 1) :
    Calls Try.prog 94 #[.agg #[.int .i64 7, .int .i64 ct, .int .i64 vl, .slice A n c], .int .i64 x] w (StepOut B ⟨7, ct, vl, bs⟩ A n c w) := by
  have hx1 : 0 ≤ x ∧ x ≤ 1 := by omega
  go_enter Try.func94, Try.ntmps94
  go_wp2
  refine bodyPost_ret (v := .agg #[.int .i64 (7), .int .i64 (ct), .int .i64 (vl), .slice A n c]) (by simp [results, Try.results94, go_sem]) rfl ?_
  refine ⟨A, n, c, rfl, hown.below ?_, grown_of_below ?_ _, by omega⟩
  all_goals (repeat (first | exact Below.refl _ _ | (refine Below.alloc ?_ (by simp <;> omega) _) | (refine Below.setCell ?_ (by simp <;> omega) _)))

end Go.Proofs.Ytdodhjahihfaiaa
