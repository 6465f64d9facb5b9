/- Contracts: the first wrong cell, by the program and by the reference. Written by gen_scank.py. -/
import Derived.Test.YtdodhjahihfaiaaScanJ
import Derived.Test.YtdodhjahihfaiaaShape
namespace Go.Proofs.Ytdodhjahihfaiaa
open Go.RowKit
set_option linter.unusedVariables false
set_option linter.unusedSimpArgs false

def fwV (zs : List Int) : Int := if bitsB zs then fwR zs else 0
def fwC (zs : List Int) : Int := if bitsB zs then 0 else 1
theorem fw_good {zs : List Int} (h : bitsB zs = true) : fwV zs = fwR zs ∧ fwC zs = 0 := by simp [fwV, fwC, h]
theorem fw_bad {zs : List Int} (h : bitsB zs = false) : fwV zs = 0 ∧ fwC zs = 1 := by simp [fwV, fwC, h]
theorem ret_ii {a b c d : Int} (h1 : a = c) (h2 : b = d) : Ending.returned (.tuple #[.int .i64 a, .int .i64 b]) = .returned (.tuple #[.int .i64 c, .int .i64 d]) := by rw [h1, h2]
set_option maxHeartbeats 800000 in
theorem iFirstWrongCell_c (A : Option Addr) (n c : Nat) (zs : List Int) (w : World) (h : Rd w A n c zs) (hn : n ≤ 1048576) :
    Calls Try.prog 40 #[.slice A n c] w fun e w' => e = .returned (.tuple #[.int .i64 (fwV zs), .int .i64 (fwC zs)]) ∧ Below w.heap.size w w' := by
  have hlen := h.le
  by_cases hz : bitsB zs = true
  · obtain ⟨h1, h2⟩ := bitsB_get hz
    have E := hide (fw_good hz)
    go_enter Try.func40, Try.ntmps40
    go_wp2_with (go_at_call 83; refine (iIsBits_any _ _ _ _ _ h).mono ?_; rintro e w' ⟨rfl, rfl⟩)
    refine (firstWrong_any A n c zs _ h (by omega) h2).mono ?_
    rintro e w2 ⟨A2, m2, c2, rfl, own2, b2, hm2⟩
    go_wp2_with fail
    go_ret2
    exact ⟨ret_ii E.out.1.symm E.out.2.symm, below_trans b2 ((Below.refl _ _).alloc (Nat.le_refl _) _)⟩
  · rw [Bool.not_eq_true] at hz
    have E := hide (fw_bad hz)
    go_enter Try.func40, Try.ntmps40
    go_wp2_with (go_at_call 83; refine (iIsBits_any _ _ _ _ _ h).mono ?_; rintro e w' ⟨rfl, rfl⟩)
    go_ret2
    exact ⟨ret_ii E.out.1.symm E.out.2.symm, Below.refl _ _⟩
set_option maxHeartbeats 800000 in
theorem sFirstWrongCell_c (A : Option Addr) (n c : Nat) (zs : List Int) (w : World) (h : Rd w A n c zs) (hn : n ≤ 1048576) :
    Calls Try.prog 39 #[.slice A n c] w fun e w' => e = .returned (.tuple #[.int .i64 (fwV zs), .int .i64 (fwC zs)]) ∧ Below w.heap.size w w' := by
  have hlen := h.le
  by_cases hz : bitsB zs = true
  · obtain ⟨h1, h2⟩ := bitsB_get hz
    have E := hide (fw_good hz)
    go_enter Try.func39, Try.ntmps39
    go_wp2_with (go_at_call 82; refine (sIsBits_any _ _ _ _ _ h).mono ?_; rintro e w' ⟨rfl, rfl⟩)
    refine (l19Run_any A n c zs _ h (by omega) h2).mono ?_
    rintro e w2 ⟨A2, m2, c2, rfl, own2, b2, hm2⟩
    go_wp2_with fail
    go_ret2
    exact ⟨ret_ii E.out.1.symm E.out.2.symm, below_trans b2 ((Below.refl _ _).alloc (Nat.le_refl _) _)⟩
  · rw [Bool.not_eq_true] at hz
    have E := hide (fw_bad hz)
    go_enter Try.func39, Try.ntmps39
    go_wp2_with (go_at_call 82; refine (sIsBits_any _ _ _ _ _ h).mono ?_; rintro e w' ⟨rfl, rfl⟩)
    go_ret2
    exact ⟨ret_ii E.out.1.symm E.out.2.symm, Below.refl _ _⟩
end Go.Proofs.Ytdodhjahihfaiaa
