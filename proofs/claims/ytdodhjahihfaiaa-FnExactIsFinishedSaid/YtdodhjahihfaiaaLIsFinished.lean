/- The walk of FnExactIsFinished: both functions come to the same result; the arguments stay. Written by genscan.py. -/
import Derived.Test.YtdodhjahihfaiaaScanX
import Derived.Test.YtdodhjahihfaiaaScanI
import Derived.Deep.RegionHeld3
namespace Go.Proofs.Ytdodhjahihfaiaa
open Go.RowKit
set_option linter.unusedVariables false
set_option linter.unusedSimpArgs false

set_option maxHeartbeats 6400000 in
set_option maxRecDepth 100000 in
theorem walkIsFinished (s : Scn) (A : Option Addr) (n c : Nat) (w : World) (h : Rd w A n c s.bs) :
    Calls Try.prog 5 #[.agg #[.int .i64 s.ph, .int .i64 s.ct, .int .i64 s.vl, .slice A n c]] w fun e w' => e = .returned (.bool true) ∧ Below w.heap.size w w' := by
  have hl := h.le
  have hc := h.cap
  by_cases hn : 1048576 < n
  · go_enter Try.func5, Try.ntmps5
    go_wp2_with fail
    refine (szScan_big _ _ _ A n c _ (by omega) hn).mono ?_
    rintro e w1 ⟨rfl, b1⟩
    go_wp2_with fail
    go_ret
    exact ⟨rfl, below_trans ((Below.refl _ _).alloc (Nat.le_refl _) _) b1⟩
  have t1 : ((scnB s && (s.ph == 6)) != (scnB s && (s.ph == 6))) = false := by simp
  go_enter Try.func5, Try.ntmps5
  go_wp2_with fail
  have bA0 : Below w.heap.size w (w.alloc (.cells #[.int .i64 s.ph, .int .i64 s.ct, .int .i64 s.vl, .slice A n c] 27)) := (Below.refl _ _).alloc (Nat.le_refl _) _
  refine (szScan_ok s.ph s.ct s.vl A n c _ (by omega)).mono ?_
  rintro e w1 ⟨rfl, b1⟩
  have bb1 : Below w.heap.size w w1 := below_trans bA0 b1
  have hz1 := bb1.size
  have F1a := hide ((LScnAt.fresh w #[.int .i64 s.ph, .int .i64 s.ct, .int .i64 s.vl, .slice A n c]).below b1)
  have B1 := hide (below_trans (Below.refl _ w) bb1)
  have a1_0 : w1.cell? ⟨w.heap.size, 0, none⟩ = some (.int .i64 s.ph) := F1a.out.cell 0
  have a1_1 : w1.cell? ⟨w.heap.size, 1, none⟩ = some (.int .i64 s.ct) := F1a.out.cell 1
  have a1_2 : w1.cell? ⟨w.heap.size, 2, none⟩ = some (.int .i64 s.vl) := F1a.out.cell 2
  have a1_3 : w1.cell? ⟨w.heap.size, 3, none⟩ = some (.slice A n c) := F1a.out.cell 3
  go_wp2_with fail
  refine (toScan_any s.ph s.ct s.vl A n c s.bs _ (h.below (B1.out)) (by omega)).mono ?_
  rintro e w2 ⟨gp, rfl, ownp, b2⟩
  have bb2 : Below w1.heap.size w1 w2 := b2
  have hz2 := bb2.size
  have F2a := hide (F1a.out.below bb2)
  have B2 := hide (below_trans (B1.out) bb2)
  have a2_0 : w2.cell? ⟨w.heap.size, 0, none⟩ = some (.int .i64 s.ph) := F2a.out.cell 0
  have a2_1 : w2.cell? ⟨w.heap.size, 1, none⟩ = some (.int .i64 s.ct) := F2a.out.cell 1
  have a2_2 : w2.cell? ⟨w.heap.size, 2, none⟩ = some (.int .i64 s.vl) := F2a.out.cell 2
  have a2_3 : w2.cell? ⟨w.heap.size, 3, none⟩ = some (.slice A n c) := F2a.out.cell 3
  have O2p := hide ownp
  have LTp : Hid (∀ g, (Value.slice (some ⟨gp, 0, none⟩) n n).ownBlock = some g → g < w2.heap.size) := fun g hg => (ownp.row.lt g hg).2
  clear ownp
  go_wp2_with fail
  refine (sIsFinished_c s _ n n _ O2p.out.rd).mono ?_
  rintro e w3 ⟨rfl, b3⟩
  have bb3 : Below w2.heap.size w2 w3 := b3
  have hz3 := bb3.size
  have F3a := hide (F2a.out.below bb3)
  have O3p := hide (O2p.out.below bb3)
  have B3 := hide (below_trans (B2.out) bb3)
  have a3_0 : w3.cell? ⟨w.heap.size, 0, none⟩ = some (.int .i64 s.ph) := F3a.out.cell 0
  have a3_1 : w3.cell? ⟨w.heap.size, 1, none⟩ = some (.int .i64 s.ct) := F3a.out.cell 1
  have a3_2 : w3.cell? ⟨w.heap.size, 2, none⟩ = some (.int .i64 s.vl) := F3a.out.cell 2
  have a3_3 : w3.cell? ⟨w.heap.size, 3, none⟩ = some (.slice A n c) := F3a.out.cell 3
  go_wp2_with fail
  refine (toScan_any s.ph s.ct s.vl A n c s.bs _ (h.below (B3.out)) (by omega)).mono ?_
  rintro e w4 ⟨gq, rfl, ownq, b4⟩
  have bb4 : Below w3.heap.size w3 w4 := b4
  have hz4 := bb4.size
  have F4a := hide (F3a.out.below bb4)
  have O4p := hide (O3p.out.below bb4)
  have B4 := hide (below_trans (B3.out) bb4)
  have a4_0 : w4.cell? ⟨w.heap.size, 0, none⟩ = some (.int .i64 s.ph) := F4a.out.cell 0
  have a4_1 : w4.cell? ⟨w.heap.size, 1, none⟩ = some (.int .i64 s.ct) := F4a.out.cell 1
  have a4_2 : w4.cell? ⟨w.heap.size, 2, none⟩ = some (.int .i64 s.vl) := F4a.out.cell 2
  have a4_3 : w4.cell? ⟨w.heap.size, 3, none⟩ = some (.slice A n c) := F4a.out.cell 3
  have O4q := hide ownq
  have LTq : Hid (∀ g, (Value.slice (some ⟨gq, 0, none⟩) n n).ownBlock = some g → g < w4.heap.size) := fun g hg => (ownq.row.lt g hg).2
  clear ownq
  go_wp2_with fail
  have bA4 : Below w4.heap.size w4 (w4.alloc (.cells #[.int .i64 s.ph, .int .i64 s.ct, .int .i64 s.vl, .slice (some ⟨gq, 0, none⟩) n n] 30)) := (Below.refl _ _).alloc (Nat.le_refl _) _
  refine (iIsFinished_c s _ n n _ (O4q.out.below bA4).rd).mono ?_
  rintro e w5 ⟨rfl, b5⟩
  have bb5 : Below w4.heap.size w4 w5 := below_trans bA4 b5
  have hz5 := bb5.size
  have F5a := hide (F4a.out.below bb5)
  have F5x := hide ((ScnAt.fresh w4 #[.int .i64 s.ph, .int .i64 s.ct, .int .i64 s.vl, .slice (some ⟨gq, 0, none⟩) n n]).below b5)
  have O5p := hide (O4p.out.below bb5)
  have O5q := hide (O4q.out.below bb5)
  have B5 := hide (below_trans (B4.out) bb5)
  have a5_0 : w5.cell? ⟨w.heap.size, 0, none⟩ = some (.int .i64 s.ph) := F5a.out.cell 0
  have a5_1 : w5.cell? ⟨w.heap.size, 1, none⟩ = some (.int .i64 s.ct) := F5a.out.cell 1
  have a5_2 : w5.cell? ⟨w.heap.size, 2, none⟩ = some (.int .i64 s.vl) := F5a.out.cell 2
  have a5_3 : w5.cell? ⟨w.heap.size, 3, none⟩ = some (.slice A n c) := F5a.out.cell 3
  have x5_0 : w5.cell? ⟨w4.heap.size, 0, none⟩ = some (.int .i64 s.ph) := F5x.out.cell 0
  have x5_1 : w5.cell? ⟨w4.heap.size, 1, none⟩ = some (.int .i64 s.ct) := F5x.out.cell 1
  have x5_2 : w5.cell? ⟨w4.heap.size, 2, none⟩ = some (.int .i64 s.vl) := F5x.out.cell 2
  have x5_3 : w5.cell? ⟨w4.heap.size, 3, none⟩ = some (.slice (some ⟨gq, 0, none⟩) n n) := F5x.out.cell 3
  go_wp2_with fail
  go_region_held3 (fun w' => w'.cell? ⟨w4.heap.size, 0, none⟩ = some (.int .i64 s.ph) ∧ w'.cell? ⟨w4.heap.size, 1, none⟩ = some (.int .i64 s.ct) ∧ w'.cell? ⟨w4.heap.size, 2, none⟩ = some (.int .i64 s.vl) ∧ w'.cell? ⟨w4.heap.size, 3, none⟩ = some (.slice (some ⟨gq, 0, none⟩) n n) ∧ w'.cell? ⟨w.heap.size, 0, none⟩ = some (.int .i64 s.ph) ∧ w'.cell? ⟨w.heap.size, 1, none⟩ = some (.int .i64 s.ct) ∧ w'.cell? ⟨w.heap.size, 2, none⟩ = some (.int .i64 s.vl) ∧ w'.cell? ⟨w.heap.size, 3, none⟩ = some (.slice A n c)) (go_keep) (first | (go_at_call 26; (with_reducible refine (toScan_any s.ph s.ct s.vl A n c s.bs _ (h.below (B5.out)).drew (by omega)).mono ?_); rintro e w6 ⟨gy, rfl, owny, b6⟩; have bb6 : Below w5.heap.size w5 w6 := (below_drewL b6); have hz6 := bb6.size; have F6a := hide (F5a.out.below bb6); have F6x := hide (F5x.out.below bb6); have O6p := hide (O5p.out.below bb6); have O6q := hide (O5q.out.below bb6); have B6 := hide (below_trans (B5.out) bb6); have a6_0 : w6.cell? ⟨w.heap.size, 0, none⟩ = some (.int .i64 s.ph) := F6a.out.cell 0; have a6_1 : w6.cell? ⟨w.heap.size, 1, none⟩ = some (.int .i64 s.ct) := F6a.out.cell 1; have a6_2 : w6.cell? ⟨w.heap.size, 2, none⟩ = some (.int .i64 s.vl) := F6a.out.cell 2; have a6_3 : w6.cell? ⟨w.heap.size, 3, none⟩ = some (.slice A n c) := F6a.out.cell 3; have x6_0 : w6.cell? ⟨w4.heap.size, 0, none⟩ = some (.int .i64 s.ph) := F6x.out.cell 0; have x6_1 : w6.cell? ⟨w4.heap.size, 1, none⟩ = some (.int .i64 s.ct) := F6x.out.cell 1; have x6_2 : w6.cell? ⟨w4.heap.size, 2, none⟩ = some (.int .i64 s.vl) := F6x.out.cell 2; have x6_3 : w6.cell? ⟨w4.heap.size, 3, none⟩ = some (.slice (some ⟨gq, 0, none⟩) n n) := F6x.out.cell 3; have O6y := hide (owny); have LTy : Hid (∀ g, (Value.slice (some ⟨gy, 0, none⟩) n n).ownBlock = some g → g < w6.heap.size) := fun g hg => ((owny).row.lt g hg).2; clear owny) | (go_at_call 28; (with_reducible refine (eqScan_eq s.ph s.ct s.vl _ _ _ _ _ _ s.bs _ O6q.out.rd O6y.out.rd).mono ?_); rintro e w7 ⟨rfl, b7⟩; have bb7 : Below w6.heap.size w6 w7 := b7; have hz7 := bb7.size; have F7a := hide (F6a.out.below bb7); have F7x := hide (F6x.out.below bb7); have O7p := hide (O6p.out.below bb7); have O7q := hide (O6q.out.below bb7); have O7y := hide (O6y.out.below bb7); have B7 := hide (below_trans (B6.out) bb7); have a7_0 : w7.cell? ⟨w.heap.size, 0, none⟩ = some (.int .i64 s.ph) := F7a.out.cell 0; have a7_1 : w7.cell? ⟨w.heap.size, 1, none⟩ = some (.int .i64 s.ct) := F7a.out.cell 1; have a7_2 : w7.cell? ⟨w.heap.size, 2, none⟩ = some (.int .i64 s.vl) := F7a.out.cell 2; have a7_3 : w7.cell? ⟨w.heap.size, 3, none⟩ = some (.slice A n c) := F7a.out.cell 3; have x7_0 : w7.cell? ⟨w4.heap.size, 0, none⟩ = some (.int .i64 s.ph) := F7x.out.cell 0; have x7_1 : w7.cell? ⟨w4.heap.size, 1, none⟩ = some (.int .i64 s.ct) := F7x.out.cell 1; have x7_2 : w7.cell? ⟨w4.heap.size, 2, none⟩ = some (.int .i64 s.vl) := F7x.out.cell 2; have x7_3 : w7.cell? ⟨w4.heap.size, 3, none⟩ = some (.slice (some ⟨gq, 0, none⟩) n n) := F7x.out.cell 3))
  go_wp2_with fail
  go_ret
  exact ⟨rfl, B7.out⟩
end Go.Proofs.Ytdodhjahihfaiaa
