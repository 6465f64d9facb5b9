/- The walk of FnExactStepCell: both functions come to the same result; the arguments stay. Written by genscan.py. -/
import Derived.Test.YtdodhjahihfaiaaScanX
import Derived.Test.YtdodhjahihfaiaaScanQ
import Derived.Deep.RegionHeld3
namespace Go.Proofs.Ytdodhjahihfaiaa
open Go.RowKit
set_option linter.unusedVariables false
set_option linter.unusedSimpArgs false

set_option maxHeartbeats 6400000 in
set_option maxRecDepth 100000 in
theorem walkStepCell (s : Scn) (A : Option Addr) (n c : Nat) (x : Int) (w : World) (h : Rd w A n c s.bs) (hx : -9223372036854775808 ≤ x ∧ x ≤ 9223372036854775807) :
    Calls Try.prog 13 #[.agg #[.int .i64 s.ph, .int .i64 s.ct, .int .i64 s.vl, .slice A n c], .int .i64 x] w fun e w' => e = .returned (.bool true) ∧ Below w.heap.size w w' := by
  have hl := h.le
  have hc := h.cap
  by_cases hn : 1048576 < n
  · go_enter Try.func13, Try.ntmps13
    go_wp2_with fail
    refine (szScan_big _ _ _ A n c _ (by omega) hn).mono ?_
    rintro e w1 ⟨rfl, b1⟩
    go_wp2_with fail
    go_ret
    exact ⟨rfl, below_trans ((Below.refl _ _).alloc (Nat.le_refl _) _) b1⟩
  have t1 : ((stR s x).2 != (stR s x).2) = false := by simp
  go_enter Try.func13, Try.ntmps13
  go_wp2_with fail
  have bA0 : Below w.heap.size w (w.alloc (.cells #[.int .i64 s.ph, .int .i64 s.ct, .int .i64 s.vl, .slice A n c] 27)) := (Below.refl _ _).alloc (Nat.le_refl _) _
  refine (szScan_ok s.ph s.ct s.vl A n c _ (by omega)).mono ?_
  rintro e w1 ⟨rfl, b1⟩
  have bb1 : Below w.heap.size w w1 := below_trans bA0 b1
  have hz1 := bb1.size
  have F1a := hide ((LScnAt.fresh w #[.int .i64 s.ph, .int .i64 s.ct, .int .i64 s.vl, .slice A n c]).below b1)
  have B1 := hide (below_trans (Below.refl _ w) bb1)
  have a1_l := F1a.out.lt
  have a1_0 : w1.cell? ⟨w.heap.size, 0, none⟩ = some (.int .i64 s.ph) := F1a.out.cell 0
  have a1_1 : w1.cell? ⟨w.heap.size, 1, none⟩ = some (.int .i64 s.ct) := F1a.out.cell 1
  have a1_2 : w1.cell? ⟨w.heap.size, 2, none⟩ = some (.int .i64 s.vl) := F1a.out.cell 2
  have a1_3 : w1.cell? ⟨w.heap.size, 3, none⟩ = some (.slice A n c) := F1a.out.cell 3
  go_wp2_with fail
  refine (toScan_any s.ph s.ct s.vl A n c s.bs _ (h.below (B1.out)) (by omega)).mono ?_
  rintro e w2 ⟨gp, rfl, ownp, b2⟩
  have bb2 : Below w1.heap.size w1 w2 := b2
  have hz2 := bb2.size
  have F2a := hide (F1a.out.below bb2)
  have B2 := hide (below_trans (B1.out) bb2)
  have a2_l := F2a.out.lt
  have a2_0 : w2.cell? ⟨w.heap.size, 0, none⟩ = some (.int .i64 s.ph) := F2a.out.cell 0
  have a2_1 : w2.cell? ⟨w.heap.size, 1, none⟩ = some (.int .i64 s.ct) := F2a.out.cell 1
  have a2_2 : w2.cell? ⟨w.heap.size, 2, none⟩ = some (.int .i64 s.vl) := F2a.out.cell 2
  have a2_3 : w2.cell? ⟨w.heap.size, 3, none⟩ = some (.slice A n c) := F2a.out.cell 3
  have O2p := hide ownp
  have LTp : Hid (∀ g, (Value.slice (some ⟨gp, 0, none⟩) n n).ownBlock = some g → g < w2.heap.size) := fun g hg => (ownp.row.lt g hg).2
  clear ownp
  go_wp2_with fail
  refine (sStepCell_c s x _ n n _ O2p.out.rd (by omega) hx).mono ?_
  rintro e w3 ⟨AW, mW, cW, rfl, ownW, b3, hmW⟩
  have bb3 : Below w2.heap.size w2 w3 := b3
  have hz3 := bb3.size
  have F3a := hide (F2a.out.below bb3)
  have O3p := hide (O2p.out.below bb3)
  have B3 := hide (below_trans (B2.out) bb3)
  have a3_l := F3a.out.lt
  have a3_0 : w3.cell? ⟨w.heap.size, 0, none⟩ = some (.int .i64 s.ph) := F3a.out.cell 0
  have a3_1 : w3.cell? ⟨w.heap.size, 1, none⟩ = some (.int .i64 s.ct) := F3a.out.cell 1
  have a3_2 : w3.cell? ⟨w.heap.size, 2, none⟩ = some (.int .i64 s.vl) := F3a.out.cell 2
  have a3_3 : w3.cell? ⟨w.heap.size, 3, none⟩ = some (.slice A n c) := F3a.out.cell 3
  have O3W := hide ownW
  have LTW : Hid (∀ g, (Value.slice AW mW cW).ownBlock = some g → g < w3.heap.size) := fun g hg => (ownW.row.lt g hg).2
  clear ownW
  go_wp2_with fail
  have bA3 : Below w3.heap.size w3 (w3.alloc (.cells #[.int .i64 ((stR s x).1).ph, .int .i64 ((stR s x).1).ct, .int .i64 ((stR s x).1).vl, .slice AW mW cW] 30)) := (Below.refl _ _).alloc (Nat.le_refl _) _
  refine (toScan_any s.ph s.ct s.vl A n c s.bs _ (h.below (below_trans (B3.out) bA3)) (by omega)).mono ?_
  rintro e w4 ⟨gq, rfl, ownq, b4⟩
  replace ownq := ownq.mono (B' := w3.heap.size) (bA3.size)
  have bb4 : Below w3.heap.size w3 w4 := below_trans bA3 b4
  have hz4 := bb4.size
  have F4a := hide (F3a.out.below bb4)
  have F4VW := hide ((ScnAt.fresh w3 #[.int .i64 ((stR s x).1).ph, .int .i64 ((stR s x).1).ct, .int .i64 ((stR s x).1).vl, .slice AW mW cW]).below b4)
  have O4p := hide (O3p.out.below bb4)
  have O4W := hide (O3W.out.below bb4)
  have B4 := hide (below_trans (B3.out) bb4)
  have a4_l := F4a.out.lt
  have a4_0 : w4.cell? ⟨w.heap.size, 0, none⟩ = some (.int .i64 s.ph) := F4a.out.cell 0
  have a4_1 : w4.cell? ⟨w.heap.size, 1, none⟩ = some (.int .i64 s.ct) := F4a.out.cell 1
  have a4_2 : w4.cell? ⟨w.heap.size, 2, none⟩ = some (.int .i64 s.vl) := F4a.out.cell 2
  have a4_3 : w4.cell? ⟨w.heap.size, 3, none⟩ = some (.slice A n c) := F4a.out.cell 3
  have VW4_l := F4VW.out.lt
  have VW4_0 : w4.cell? ⟨w3.heap.size, 0, none⟩ = some (.int .i64 ((stR s x).1).ph) := F4VW.out.cell 0
  have VW4_1 : w4.cell? ⟨w3.heap.size, 1, none⟩ = some (.int .i64 ((stR s x).1).ct) := F4VW.out.cell 1
  have VW4_2 : w4.cell? ⟨w3.heap.size, 2, none⟩ = some (.int .i64 ((stR s x).1).vl) := F4VW.out.cell 2
  have VW4_3 : w4.cell? ⟨w3.heap.size, 3, none⟩ = some (.slice AW mW cW) := F4VW.out.cell 3
  have O4q := hide ownq
  have LTq : Hid (∀ g, (Value.slice (some ⟨gq, 0, none⟩) n n).ownBlock = some g → g < w4.heap.size) := fun g hg => (ownq.row.lt g hg).2
  clear ownq
  go_wp2_with fail
  have bA4 : Below w4.heap.size w4 (w4.alloc (.cells #[.int .i64 s.ph, .int .i64 s.ct, .int .i64 s.vl, .slice (some ⟨gq, 0, none⟩) n n] 30)) := (Below.refl _ _).alloc (Nat.le_refl _) _
  refine (iStepCell_c s x _ n n _ (O4q.out.below bA4).rd (by omega) hx).mono ?_
  rintro e w5 ⟨AG, mG, cG, rfl, ownG, b5, hmG⟩
  replace ownG := ownG.mono (B' := w4.heap.size) (bA4.size)
  have bb5 : Below w4.heap.size w4 w5 := below_trans bA4 b5
  have hz5 := bb5.size
  have F5a := hide (F4a.out.below bb5)
  have F5VW := hide (F4VW.out.below bb5)
  have F5x := hide ((ScnAt.fresh w4 #[.int .i64 s.ph, .int .i64 s.ct, .int .i64 s.vl, .slice (some ⟨gq, 0, none⟩) n n]).below b5)
  have O5p := hide (O4p.out.below bb5)
  have O5W := hide (O4W.out.below bb5)
  have O5q := hide (O4q.out.below bb5)
  have B5 := hide (below_trans (B4.out) bb5)
  have a5_l := F5a.out.lt
  have a5_0 : w5.cell? ⟨w.heap.size, 0, none⟩ = some (.int .i64 s.ph) := F5a.out.cell 0
  have a5_1 : w5.cell? ⟨w.heap.size, 1, none⟩ = some (.int .i64 s.ct) := F5a.out.cell 1
  have a5_2 : w5.cell? ⟨w.heap.size, 2, none⟩ = some (.int .i64 s.vl) := F5a.out.cell 2
  have a5_3 : w5.cell? ⟨w.heap.size, 3, none⟩ = some (.slice A n c) := F5a.out.cell 3
  have VW5_l := F5VW.out.lt
  have VW5_0 : w5.cell? ⟨w3.heap.size, 0, none⟩ = some (.int .i64 ((stR s x).1).ph) := F5VW.out.cell 0
  have VW5_1 : w5.cell? ⟨w3.heap.size, 1, none⟩ = some (.int .i64 ((stR s x).1).ct) := F5VW.out.cell 1
  have VW5_2 : w5.cell? ⟨w3.heap.size, 2, none⟩ = some (.int .i64 ((stR s x).1).vl) := F5VW.out.cell 2
  have VW5_3 : w5.cell? ⟨w3.heap.size, 3, none⟩ = some (.slice AW mW cW) := F5VW.out.cell 3
  have x5_l := F5x.out.lt
  have x5_0 : w5.cell? ⟨w4.heap.size, 0, none⟩ = some (.int .i64 s.ph) := F5x.out.cell 0
  have x5_1 : w5.cell? ⟨w4.heap.size, 1, none⟩ = some (.int .i64 s.ct) := F5x.out.cell 1
  have x5_2 : w5.cell? ⟨w4.heap.size, 2, none⟩ = some (.int .i64 s.vl) := F5x.out.cell 2
  have x5_3 : w5.cell? ⟨w4.heap.size, 3, none⟩ = some (.slice (some ⟨gq, 0, none⟩) n n) := F5x.out.cell 3
  have O5G := hide ownG
  have LTG : Hid (∀ g, (Value.slice AG mG cG).ownBlock = some g → g < w5.heap.size) := fun g hg => (ownG.row.lt g hg).2
  clear ownG
  go_wp2_with fail
  have bA5 : Below w5.heap.size w5 (w5.alloc (.cells #[.int .i64 ((stR s x).1).ph, .int .i64 ((stR s x).1).ct, .int .i64 ((stR s x).1).vl, .slice AG mG cG] 30)) := (Below.refl _ _).alloc (Nat.le_refl _) _
  refine (eqScan_eq ((stR s x).1).ph ((stR s x).1).ct ((stR s x).1).vl _ _ _ _ _ _ ((stR s x).1).bs _ (O5G.out.below bA5).rd (O5W.out.below bA5).rd).mono ?_
  rintro e w6 ⟨rfl, b6⟩
  have bb6 : Below w5.heap.size w5 w6 := below_trans bA5 b6
  have hz6 := bb6.size
  have F6a := hide (F5a.out.below bb6)
  have F6VW := hide (F5VW.out.below bb6)
  have F6x := hide (F5x.out.below bb6)
  have F6VG := hide ((ScnAt.fresh w5 #[.int .i64 ((stR s x).1).ph, .int .i64 ((stR s x).1).ct, .int .i64 ((stR s x).1).vl, .slice AG mG cG]).below b6)
  have O6p := hide (O5p.out.below bb6)
  have O6W := hide (O5W.out.below bb6)
  have O6q := hide (O5q.out.below bb6)
  have O6G := hide (O5G.out.below bb6)
  have B6 := hide (below_trans (B5.out) bb6)
  have a6_l := F6a.out.lt
  have a6_0 : w6.cell? ⟨w.heap.size, 0, none⟩ = some (.int .i64 s.ph) := F6a.out.cell 0
  have a6_1 : w6.cell? ⟨w.heap.size, 1, none⟩ = some (.int .i64 s.ct) := F6a.out.cell 1
  have a6_2 : w6.cell? ⟨w.heap.size, 2, none⟩ = some (.int .i64 s.vl) := F6a.out.cell 2
  have a6_3 : w6.cell? ⟨w.heap.size, 3, none⟩ = some (.slice A n c) := F6a.out.cell 3
  have VW6_l := F6VW.out.lt
  have VW6_0 : w6.cell? ⟨w3.heap.size, 0, none⟩ = some (.int .i64 ((stR s x).1).ph) := F6VW.out.cell 0
  have VW6_1 : w6.cell? ⟨w3.heap.size, 1, none⟩ = some (.int .i64 ((stR s x).1).ct) := F6VW.out.cell 1
  have VW6_2 : w6.cell? ⟨w3.heap.size, 2, none⟩ = some (.int .i64 ((stR s x).1).vl) := F6VW.out.cell 2
  have VW6_3 : w6.cell? ⟨w3.heap.size, 3, none⟩ = some (.slice AW mW cW) := F6VW.out.cell 3
  have x6_l := F6x.out.lt
  have x6_0 : w6.cell? ⟨w4.heap.size, 0, none⟩ = some (.int .i64 s.ph) := F6x.out.cell 0
  have x6_1 : w6.cell? ⟨w4.heap.size, 1, none⟩ = some (.int .i64 s.ct) := F6x.out.cell 1
  have x6_2 : w6.cell? ⟨w4.heap.size, 2, none⟩ = some (.int .i64 s.vl) := F6x.out.cell 2
  have x6_3 : w6.cell? ⟨w4.heap.size, 3, none⟩ = some (.slice (some ⟨gq, 0, none⟩) n n) := F6x.out.cell 3
  have VG6_l := F6VG.out.lt
  have VG6_0 : w6.cell? ⟨w5.heap.size, 0, none⟩ = some (.int .i64 ((stR s x).1).ph) := F6VG.out.cell 0
  have VG6_1 : w6.cell? ⟨w5.heap.size, 1, none⟩ = some (.int .i64 ((stR s x).1).ct) := F6VG.out.cell 1
  have VG6_2 : w6.cell? ⟨w5.heap.size, 2, none⟩ = some (.int .i64 ((stR s x).1).vl) := F6VG.out.cell 2
  have VG6_3 : w6.cell? ⟨w5.heap.size, 3, none⟩ = some (.slice AG mG cG) := F6VG.out.cell 3
  go_wp2_with fail
  go_region_held3 (fun w' => w'.cell? ⟨w4.heap.size, 0, none⟩ = some (.int .i64 s.ph) ∧ w'.cell? ⟨w4.heap.size, 1, none⟩ = some (.int .i64 s.ct) ∧ w'.cell? ⟨w4.heap.size, 2, none⟩ = some (.int .i64 s.vl) ∧ w'.cell? ⟨w4.heap.size, 3, none⟩ = some (.slice (some ⟨gq, 0, none⟩) n n) ∧ w'.cell? ⟨w.heap.size, 0, none⟩ = some (.int .i64 s.ph) ∧ w'.cell? ⟨w.heap.size, 1, none⟩ = some (.int .i64 s.ct) ∧ w'.cell? ⟨w.heap.size, 2, none⟩ = some (.int .i64 s.vl) ∧ w'.cell? ⟨w.heap.size, 3, none⟩ = some (.slice A n c)) (go_keep) (first | (go_at_call 26; (with_reducible refine (toScan_any s.ph s.ct s.vl A n c s.bs _ (h.below (B6.out)).drew (by omega)).mono ?_); rintro e w7 ⟨gy, rfl, owny, b7⟩; replace owny := owny.mono (B' := w6.heap.size) (Nat.le_refl _); have bb7 : Below w6.heap.size w6 w7 := (below_drewL b7); have hz7 := bb7.size; have F7a := hide (F6a.out.below bb7); have F7VW := hide (F6VW.out.below bb7); have F7x := hide (F6x.out.below bb7); have F7VG := hide (F6VG.out.below bb7); have O7p := hide (O6p.out.below bb7); have O7W := hide (O6W.out.below bb7); have O7q := hide (O6q.out.below bb7); have O7G := hide (O6G.out.below bb7); have B7 := hide (below_trans (B6.out) bb7); have a7_l := F7a.out.lt; have a7_0 : w7.cell? ⟨w.heap.size, 0, none⟩ = some (.int .i64 s.ph) := F7a.out.cell 0; have a7_1 : w7.cell? ⟨w.heap.size, 1, none⟩ = some (.int .i64 s.ct) := F7a.out.cell 1; have a7_2 : w7.cell? ⟨w.heap.size, 2, none⟩ = some (.int .i64 s.vl) := F7a.out.cell 2; have a7_3 : w7.cell? ⟨w.heap.size, 3, none⟩ = some (.slice A n c) := F7a.out.cell 3; have VW7_l := F7VW.out.lt; have VW7_0 : w7.cell? ⟨w3.heap.size, 0, none⟩ = some (.int .i64 ((stR s x).1).ph) := F7VW.out.cell 0; have VW7_1 : w7.cell? ⟨w3.heap.size, 1, none⟩ = some (.int .i64 ((stR s x).1).ct) := F7VW.out.cell 1; have VW7_2 : w7.cell? ⟨w3.heap.size, 2, none⟩ = some (.int .i64 ((stR s x).1).vl) := F7VW.out.cell 2; have VW7_3 : w7.cell? ⟨w3.heap.size, 3, none⟩ = some (.slice AW mW cW) := F7VW.out.cell 3; have x7_l := F7x.out.lt; have x7_0 : w7.cell? ⟨w4.heap.size, 0, none⟩ = some (.int .i64 s.ph) := F7x.out.cell 0; have x7_1 : w7.cell? ⟨w4.heap.size, 1, none⟩ = some (.int .i64 s.ct) := F7x.out.cell 1; have x7_2 : w7.cell? ⟨w4.heap.size, 2, none⟩ = some (.int .i64 s.vl) := F7x.out.cell 2; have x7_3 : w7.cell? ⟨w4.heap.size, 3, none⟩ = some (.slice (some ⟨gq, 0, none⟩) n n) := F7x.out.cell 3; have VG7_l := F7VG.out.lt; have VG7_0 : w7.cell? ⟨w5.heap.size, 0, none⟩ = some (.int .i64 ((stR s x).1).ph) := F7VG.out.cell 0; have VG7_1 : w7.cell? ⟨w5.heap.size, 1, none⟩ = some (.int .i64 ((stR s x).1).ct) := F7VG.out.cell 1; have VG7_2 : w7.cell? ⟨w5.heap.size, 2, none⟩ = some (.int .i64 ((stR s x).1).vl) := F7VG.out.cell 2; have VG7_3 : w7.cell? ⟨w5.heap.size, 3, none⟩ = some (.slice AG mG cG) := F7VG.out.cell 3; have O7y := hide (owny); have LTy : Hid (∀ g, (Value.slice (some ⟨gy, 0, none⟩) n n).ownBlock = some g → g < w7.heap.size) := fun g hg => ((owny).row.lt g hg).2; clear owny) | (go_at_call 28; (with_reducible refine (eqScan_eq s.ph s.ct s.vl _ _ _ _ _ _ s.bs _ O7q.out.rd O7y.out.rd).mono ?_); rintro e w8 ⟨rfl, b8⟩; have bb8 : Below w7.heap.size w7 w8 := b8; have hz8 := bb8.size; have F8a := hide (F7a.out.below bb8); have F8VW := hide (F7VW.out.below bb8); have F8x := hide (F7x.out.below bb8); have F8VG := hide (F7VG.out.below bb8); have O8p := hide (O7p.out.below bb8); have O8W := hide (O7W.out.below bb8); have O8q := hide (O7q.out.below bb8); have O8G := hide (O7G.out.below bb8); have O8y := hide (O7y.out.below bb8); have B8 := hide (below_trans (B7.out) bb8); have a8_l := F8a.out.lt; have a8_0 : w8.cell? ⟨w.heap.size, 0, none⟩ = some (.int .i64 s.ph) := F8a.out.cell 0; have a8_1 : w8.cell? ⟨w.heap.size, 1, none⟩ = some (.int .i64 s.ct) := F8a.out.cell 1; have a8_2 : w8.cell? ⟨w.heap.size, 2, none⟩ = some (.int .i64 s.vl) := F8a.out.cell 2; have a8_3 : w8.cell? ⟨w.heap.size, 3, none⟩ = some (.slice A n c) := F8a.out.cell 3; have VW8_l := F8VW.out.lt; have VW8_0 : w8.cell? ⟨w3.heap.size, 0, none⟩ = some (.int .i64 ((stR s x).1).ph) := F8VW.out.cell 0; have VW8_1 : w8.cell? ⟨w3.heap.size, 1, none⟩ = some (.int .i64 ((stR s x).1).ct) := F8VW.out.cell 1; have VW8_2 : w8.cell? ⟨w3.heap.size, 2, none⟩ = some (.int .i64 ((stR s x).1).vl) := F8VW.out.cell 2; have VW8_3 : w8.cell? ⟨w3.heap.size, 3, none⟩ = some (.slice AW mW cW) := F8VW.out.cell 3; have x8_l := F8x.out.lt; have x8_0 : w8.cell? ⟨w4.heap.size, 0, none⟩ = some (.int .i64 s.ph) := F8x.out.cell 0; have x8_1 : w8.cell? ⟨w4.heap.size, 1, none⟩ = some (.int .i64 s.ct) := F8x.out.cell 1; have x8_2 : w8.cell? ⟨w4.heap.size, 2, none⟩ = some (.int .i64 s.vl) := F8x.out.cell 2; have x8_3 : w8.cell? ⟨w4.heap.size, 3, none⟩ = some (.slice (some ⟨gq, 0, none⟩) n n) := F8x.out.cell 3; have VG8_l := F8VG.out.lt; have VG8_0 : w8.cell? ⟨w5.heap.size, 0, none⟩ = some (.int .i64 ((stR s x).1).ph) := F8VG.out.cell 0; have VG8_1 : w8.cell? ⟨w5.heap.size, 1, none⟩ = some (.int .i64 ((stR s x).1).ct) := F8VG.out.cell 1; have VG8_2 : w8.cell? ⟨w5.heap.size, 2, none⟩ = some (.int .i64 ((stR s x).1).vl) := F8VG.out.cell 2; have VG8_3 : w8.cell? ⟨w5.heap.size, 3, none⟩ = some (.slice AG mG cG) := F8VG.out.cell 3))
  go_wp2_with fail
  refine (markScan_any s.ph s.ct s.vl _ _ _ _ _ _ O8q.out (by omega) (by omega)).mono ?_
  rintro e w9 ⟨rfl, ownq9, gr9⟩
  have hz9 := gr9.size
  have F9a := hide (F8a.out.keepOwn O8q.out gr9)
  have F9VW := hide (F8VW.out.keepOwn O8q.out gr9)
  have F9x := hide (F8x.out.keepOwn O8q.out gr9)
  have F9VG := hide (F8VG.out.keepOwn O8q.out gr9)
  have O9p := hide (O8p.out.keepLo gr9 O8q.out (fun g hg => by have := LTp.out g hg; omega))
  have O9W := hide (O8W.out.keepLo gr9 O8q.out (fun g hg => by have := LTW.out g hg; omega))
  have O9G := hide (O8G.out.keepHi gr9 (fun g hg => by have := LTq.out g hg; omega))
  have O9y := hide (O8y.out.keepHi gr9 (fun g hg => by have := LTq.out g hg; omega))
  have B9 := hide (below_mark (B8.out) O8q.out (by omega) gr9)
  have a9_l := F9a.out.lt
  have a9_0 : w9.cell? ⟨w.heap.size, 0, none⟩ = some (.int .i64 s.ph) := F9a.out.cell 0
  have a9_1 : w9.cell? ⟨w.heap.size, 1, none⟩ = some (.int .i64 s.ct) := F9a.out.cell 1
  have a9_2 : w9.cell? ⟨w.heap.size, 2, none⟩ = some (.int .i64 s.vl) := F9a.out.cell 2
  have a9_3 : w9.cell? ⟨w.heap.size, 3, none⟩ = some (.slice A n c) := F9a.out.cell 3
  have VW9_l := F9VW.out.lt
  have VW9_0 : w9.cell? ⟨w3.heap.size, 0, none⟩ = some (.int .i64 ((stR s x).1).ph) := F9VW.out.cell 0
  have VW9_1 : w9.cell? ⟨w3.heap.size, 1, none⟩ = some (.int .i64 ((stR s x).1).ct) := F9VW.out.cell 1
  have VW9_2 : w9.cell? ⟨w3.heap.size, 2, none⟩ = some (.int .i64 ((stR s x).1).vl) := F9VW.out.cell 2
  have VW9_3 : w9.cell? ⟨w3.heap.size, 3, none⟩ = some (.slice AW mW cW) := F9VW.out.cell 3
  have x9_l := F9x.out.lt
  have x9_0 : w9.cell? ⟨w4.heap.size, 0, none⟩ = some (.int .i64 s.ph) := F9x.out.cell 0
  have x9_1 : w9.cell? ⟨w4.heap.size, 1, none⟩ = some (.int .i64 s.ct) := F9x.out.cell 1
  have x9_2 : w9.cell? ⟨w4.heap.size, 2, none⟩ = some (.int .i64 s.vl) := F9x.out.cell 2
  have x9_3 : w9.cell? ⟨w4.heap.size, 3, none⟩ = some (.slice (some ⟨gq, 0, none⟩) n n) := F9x.out.cell 3
  have VG9_l := F9VG.out.lt
  have VG9_0 : w9.cell? ⟨w5.heap.size, 0, none⟩ = some (.int .i64 ((stR s x).1).ph) := F9VG.out.cell 0
  have VG9_1 : w9.cell? ⟨w5.heap.size, 1, none⟩ = some (.int .i64 ((stR s x).1).ct) := F9VG.out.cell 1
  have VG9_2 : w9.cell? ⟨w5.heap.size, 2, none⟩ = some (.int .i64 ((stR s x).1).vl) := F9VG.out.cell 2
  have VG9_3 : w9.cell? ⟨w5.heap.size, 3, none⟩ = some (.slice AG mG cG) := F9VG.out.cell 3
  have O9q := hide ownq9
  clear ownq9 gr9
  go_wp2_with fail
  refine (eqScan_eq ((stR s x).1).ph ((stR s x).1).ct ((stR s x).1).vl _ _ _ _ _ _ ((stR s x).1).bs _ O9G.out.rd O9W.out.rd).mono ?_
  rintro e w10 ⟨rfl, b10⟩
  have bb10 : Below w9.heap.size w9 w10 := b10
  have hz10 := bb10.size
  have F10a := hide (F9a.out.below bb10)
  have F10VW := hide (F9VW.out.below bb10)
  have F10x := hide (F9x.out.below bb10)
  have F10VG := hide (F9VG.out.below bb10)
  have O10p := hide (O9p.out.below bb10)
  have O10W := hide (O9W.out.below bb10)
  have O10q := hide (O9q.out.below bb10)
  have O10G := hide (O9G.out.below bb10)
  have O10y := hide (O9y.out.below bb10)
  have B10 := hide (below_trans (B9.out) bb10)
  have a10_l := F10a.out.lt
  have a10_0 : w10.cell? ⟨w.heap.size, 0, none⟩ = some (.int .i64 s.ph) := F10a.out.cell 0
  have a10_1 : w10.cell? ⟨w.heap.size, 1, none⟩ = some (.int .i64 s.ct) := F10a.out.cell 1
  have a10_2 : w10.cell? ⟨w.heap.size, 2, none⟩ = some (.int .i64 s.vl) := F10a.out.cell 2
  have a10_3 : w10.cell? ⟨w.heap.size, 3, none⟩ = some (.slice A n c) := F10a.out.cell 3
  have VW10_l := F10VW.out.lt
  have VW10_0 : w10.cell? ⟨w3.heap.size, 0, none⟩ = some (.int .i64 ((stR s x).1).ph) := F10VW.out.cell 0
  have VW10_1 : w10.cell? ⟨w3.heap.size, 1, none⟩ = some (.int .i64 ((stR s x).1).ct) := F10VW.out.cell 1
  have VW10_2 : w10.cell? ⟨w3.heap.size, 2, none⟩ = some (.int .i64 ((stR s x).1).vl) := F10VW.out.cell 2
  have VW10_3 : w10.cell? ⟨w3.heap.size, 3, none⟩ = some (.slice AW mW cW) := F10VW.out.cell 3
  have x10_l := F10x.out.lt
  have x10_0 : w10.cell? ⟨w4.heap.size, 0, none⟩ = some (.int .i64 s.ph) := F10x.out.cell 0
  have x10_1 : w10.cell? ⟨w4.heap.size, 1, none⟩ = some (.int .i64 s.ct) := F10x.out.cell 1
  have x10_2 : w10.cell? ⟨w4.heap.size, 2, none⟩ = some (.int .i64 s.vl) := F10x.out.cell 2
  have x10_3 : w10.cell? ⟨w4.heap.size, 3, none⟩ = some (.slice (some ⟨gq, 0, none⟩) n n) := F10x.out.cell 3
  have VG10_l := F10VG.out.lt
  have VG10_0 : w10.cell? ⟨w5.heap.size, 0, none⟩ = some (.int .i64 ((stR s x).1).ph) := F10VG.out.cell 0
  have VG10_1 : w10.cell? ⟨w5.heap.size, 1, none⟩ = some (.int .i64 ((stR s x).1).ct) := F10VG.out.cell 1
  have VG10_2 : w10.cell? ⟨w5.heap.size, 2, none⟩ = some (.int .i64 ((stR s x).1).vl) := F10VG.out.cell 2
  have VG10_3 : w10.cell? ⟨w5.heap.size, 3, none⟩ = some (.slice AG mG cG) := F10VG.out.cell 3
  go_wp2_with fail
  refine (markScan_any ((stR s x).1).ph ((stR s x).1).ct ((stR s x).1).vl _ _ _ _ _ _ O10G.out (by omega) (by omega)).mono ?_
  rintro e w11 ⟨rfl, ownG11, gr11⟩
  have hz11 := gr11.size
  have F11a := hide (F10a.out.keepOwn O10G.out gr11)
  have F11VW := hide (F10VW.out.keepOwn O10G.out gr11)
  have F11x := hide (F10x.out.keepOwn O10G.out gr11)
  have F11VG := hide (F10VG.out.keepOwn O10G.out gr11)
  have O11p := hide (O10p.out.keepLo gr11 O10G.out (fun g hg => by have := LTp.out g hg; omega))
  have O11W := hide (O10W.out.keepLo gr11 O10G.out (fun g hg => by have := LTW.out g hg; omega))
  have O11q := hide (O10q.out.keepLo gr11 O10G.out (fun g hg => by have := LTq.out g hg; omega))
  have O11y := hide (O10y.out.keepHi gr11 (fun g hg => by have := LTG.out g hg; omega))
  have B11 := hide (below_mark (B10.out) O10G.out (by omega) gr11)
  have a11_l := F11a.out.lt
  have a11_0 : w11.cell? ⟨w.heap.size, 0, none⟩ = some (.int .i64 s.ph) := F11a.out.cell 0
  have a11_1 : w11.cell? ⟨w.heap.size, 1, none⟩ = some (.int .i64 s.ct) := F11a.out.cell 1
  have a11_2 : w11.cell? ⟨w.heap.size, 2, none⟩ = some (.int .i64 s.vl) := F11a.out.cell 2
  have a11_3 : w11.cell? ⟨w.heap.size, 3, none⟩ = some (.slice A n c) := F11a.out.cell 3
  have VW11_l := F11VW.out.lt
  have VW11_0 : w11.cell? ⟨w3.heap.size, 0, none⟩ = some (.int .i64 ((stR s x).1).ph) := F11VW.out.cell 0
  have VW11_1 : w11.cell? ⟨w3.heap.size, 1, none⟩ = some (.int .i64 ((stR s x).1).ct) := F11VW.out.cell 1
  have VW11_2 : w11.cell? ⟨w3.heap.size, 2, none⟩ = some (.int .i64 ((stR s x).1).vl) := F11VW.out.cell 2
  have VW11_3 : w11.cell? ⟨w3.heap.size, 3, none⟩ = some (.slice AW mW cW) := F11VW.out.cell 3
  have x11_l := F11x.out.lt
  have x11_0 : w11.cell? ⟨w4.heap.size, 0, none⟩ = some (.int .i64 s.ph) := F11x.out.cell 0
  have x11_1 : w11.cell? ⟨w4.heap.size, 1, none⟩ = some (.int .i64 s.ct) := F11x.out.cell 1
  have x11_2 : w11.cell? ⟨w4.heap.size, 2, none⟩ = some (.int .i64 s.vl) := F11x.out.cell 2
  have x11_3 : w11.cell? ⟨w4.heap.size, 3, none⟩ = some (.slice (some ⟨gq, 0, none⟩) n n) := F11x.out.cell 3
  have VG11_l := F11VG.out.lt
  have VG11_0 : w11.cell? ⟨w5.heap.size, 0, none⟩ = some (.int .i64 ((stR s x).1).ph) := F11VG.out.cell 0
  have VG11_1 : w11.cell? ⟨w5.heap.size, 1, none⟩ = some (.int .i64 ((stR s x).1).ct) := F11VG.out.cell 1
  have VG11_2 : w11.cell? ⟨w5.heap.size, 2, none⟩ = some (.int .i64 ((stR s x).1).vl) := F11VG.out.cell 2
  have VG11_3 : w11.cell? ⟨w5.heap.size, 3, none⟩ = some (.slice AG mG cG) := F11VG.out.cell 3
  have O11G := hide ownG11
  clear ownG11 gr11
  go_wp2_with fail
  refine (heldScan_any ((stR s x).1).ph ((stR s x).1).ct ((stR s x).1).vl _ _ _ _ O11G.out.rd (by omega)).mono ?_
  rintro e w12 ⟨rfl, b12⟩
  have bb12 : Below w11.heap.size w11 w12 := b12
  have hz12 := bb12.size
  have F12a := hide (F11a.out.below bb12)
  have F12VW := hide (F11VW.out.below bb12)
  have F12x := hide (F11x.out.below bb12)
  have F12VG := hide (F11VG.out.below bb12)
  have O12p := hide (O11p.out.below bb12)
  have O12W := hide (O11W.out.below bb12)
  have O12q := hide (O11q.out.below bb12)
  have O12G := hide (O11G.out.below bb12)
  have O12y := hide (O11y.out.below bb12)
  have B12 := hide (below_trans (B11.out) bb12)
  have a12_l := F12a.out.lt
  have a12_0 : w12.cell? ⟨w.heap.size, 0, none⟩ = some (.int .i64 s.ph) := F12a.out.cell 0
  have a12_1 : w12.cell? ⟨w.heap.size, 1, none⟩ = some (.int .i64 s.ct) := F12a.out.cell 1
  have a12_2 : w12.cell? ⟨w.heap.size, 2, none⟩ = some (.int .i64 s.vl) := F12a.out.cell 2
  have a12_3 : w12.cell? ⟨w.heap.size, 3, none⟩ = some (.slice A n c) := F12a.out.cell 3
  have VW12_l := F12VW.out.lt
  have VW12_0 : w12.cell? ⟨w3.heap.size, 0, none⟩ = some (.int .i64 ((stR s x).1).ph) := F12VW.out.cell 0
  have VW12_1 : w12.cell? ⟨w3.heap.size, 1, none⟩ = some (.int .i64 ((stR s x).1).ct) := F12VW.out.cell 1
  have VW12_2 : w12.cell? ⟨w3.heap.size, 2, none⟩ = some (.int .i64 ((stR s x).1).vl) := F12VW.out.cell 2
  have VW12_3 : w12.cell? ⟨w3.heap.size, 3, none⟩ = some (.slice AW mW cW) := F12VW.out.cell 3
  have x12_l := F12x.out.lt
  have x12_0 : w12.cell? ⟨w4.heap.size, 0, none⟩ = some (.int .i64 s.ph) := F12x.out.cell 0
  have x12_1 : w12.cell? ⟨w4.heap.size, 1, none⟩ = some (.int .i64 s.ct) := F12x.out.cell 1
  have x12_2 : w12.cell? ⟨w4.heap.size, 2, none⟩ = some (.int .i64 s.vl) := F12x.out.cell 2
  have x12_3 : w12.cell? ⟨w4.heap.size, 3, none⟩ = some (.slice (some ⟨gq, 0, none⟩) n n) := F12x.out.cell 3
  have VG12_l := F12VG.out.lt
  have VG12_0 : w12.cell? ⟨w5.heap.size, 0, none⟩ = some (.int .i64 ((stR s x).1).ph) := F12VG.out.cell 0
  have VG12_1 : w12.cell? ⟨w5.heap.size, 1, none⟩ = some (.int .i64 ((stR s x).1).ct) := F12VG.out.cell 1
  have VG12_2 : w12.cell? ⟨w5.heap.size, 2, none⟩ = some (.int .i64 ((stR s x).1).vl) := F12VG.out.cell 2
  have VG12_3 : w12.cell? ⟨w5.heap.size, 3, none⟩ = some (.slice AG mG cG) := F12VG.out.cell 3
  go_wp2_with fail
  refine (toScan_any s.ph s.ct s.vl A n c s.bs _ (h.below (B12.out)) (by omega)).mono ?_
  rintro e w13 ⟨gr, rfl, ownr, b13⟩
  have bb13 : Below w12.heap.size w12 w13 := b13
  have hz13 := bb13.size
  have F13a := hide (F12a.out.below bb13)
  have F13VW := hide (F12VW.out.below bb13)
  have F13x := hide (F12x.out.below bb13)
  have F13VG := hide (F12VG.out.below bb13)
  have O13p := hide (O12p.out.below bb13)
  have O13W := hide (O12W.out.below bb13)
  have O13q := hide (O12q.out.below bb13)
  have O13G := hide (O12G.out.below bb13)
  have O13y := hide (O12y.out.below bb13)
  have B13 := hide (below_trans (B12.out) bb13)
  have a13_l := F13a.out.lt
  have a13_0 : w13.cell? ⟨w.heap.size, 0, none⟩ = some (.int .i64 s.ph) := F13a.out.cell 0
  have a13_1 : w13.cell? ⟨w.heap.size, 1, none⟩ = some (.int .i64 s.ct) := F13a.out.cell 1
  have a13_2 : w13.cell? ⟨w.heap.size, 2, none⟩ = some (.int .i64 s.vl) := F13a.out.cell 2
  have a13_3 : w13.cell? ⟨w.heap.size, 3, none⟩ = some (.slice A n c) := F13a.out.cell 3
  have VW13_l := F13VW.out.lt
  have VW13_0 : w13.cell? ⟨w3.heap.size, 0, none⟩ = some (.int .i64 ((stR s x).1).ph) := F13VW.out.cell 0
  have VW13_1 : w13.cell? ⟨w3.heap.size, 1, none⟩ = some (.int .i64 ((stR s x).1).ct) := F13VW.out.cell 1
  have VW13_2 : w13.cell? ⟨w3.heap.size, 2, none⟩ = some (.int .i64 ((stR s x).1).vl) := F13VW.out.cell 2
  have VW13_3 : w13.cell? ⟨w3.heap.size, 3, none⟩ = some (.slice AW mW cW) := F13VW.out.cell 3
  have x13_l := F13x.out.lt
  have x13_0 : w13.cell? ⟨w4.heap.size, 0, none⟩ = some (.int .i64 s.ph) := F13x.out.cell 0
  have x13_1 : w13.cell? ⟨w4.heap.size, 1, none⟩ = some (.int .i64 s.ct) := F13x.out.cell 1
  have x13_2 : w13.cell? ⟨w4.heap.size, 2, none⟩ = some (.int .i64 s.vl) := F13x.out.cell 2
  have x13_3 : w13.cell? ⟨w4.heap.size, 3, none⟩ = some (.slice (some ⟨gq, 0, none⟩) n n) := F13x.out.cell 3
  have VG13_l := F13VG.out.lt
  have VG13_0 : w13.cell? ⟨w5.heap.size, 0, none⟩ = some (.int .i64 ((stR s x).1).ph) := F13VG.out.cell 0
  have VG13_1 : w13.cell? ⟨w5.heap.size, 1, none⟩ = some (.int .i64 ((stR s x).1).ct) := F13VG.out.cell 1
  have VG13_2 : w13.cell? ⟨w5.heap.size, 2, none⟩ = some (.int .i64 ((stR s x).1).vl) := F13VG.out.cell 2
  have VG13_3 : w13.cell? ⟨w5.heap.size, 3, none⟩ = some (.slice AG mG cG) := F13VG.out.cell 3
  have O13r := hide ownr
  have LTr : Hid (∀ g, (Value.slice (some ⟨gr, 0, none⟩) n n).ownBlock = some g → g < w13.heap.size) := fun g hg => (ownr.row.lt g hg).2
  clear ownr
  go_wp2_with fail
  refine (iStepCell_c s x _ n n _ O13r.out.rd (by omega) hx).mono ?_
  rintro e w14 ⟨AH, mH, cH, rfl, ownH, b14, hmH⟩
  have bb14 : Below w13.heap.size w13 w14 := b14
  have hz14 := bb14.size
  have F14a := hide (F13a.out.below bb14)
  have F14VW := hide (F13VW.out.below bb14)
  have F14x := hide (F13x.out.below bb14)
  have F14VG := hide (F13VG.out.below bb14)
  have O14p := hide (O13p.out.below bb14)
  have O14W := hide (O13W.out.below bb14)
  have O14q := hide (O13q.out.below bb14)
  have O14G := hide (O13G.out.below bb14)
  have O14y := hide (O13y.out.below bb14)
  have O14r := hide (O13r.out.below bb14)
  have B14 := hide (below_trans (B13.out) bb14)
  have a14_l := F14a.out.lt
  have a14_0 : w14.cell? ⟨w.heap.size, 0, none⟩ = some (.int .i64 s.ph) := F14a.out.cell 0
  have a14_1 : w14.cell? ⟨w.heap.size, 1, none⟩ = some (.int .i64 s.ct) := F14a.out.cell 1
  have a14_2 : w14.cell? ⟨w.heap.size, 2, none⟩ = some (.int .i64 s.vl) := F14a.out.cell 2
  have a14_3 : w14.cell? ⟨w.heap.size, 3, none⟩ = some (.slice A n c) := F14a.out.cell 3
  have VW14_l := F14VW.out.lt
  have VW14_0 : w14.cell? ⟨w3.heap.size, 0, none⟩ = some (.int .i64 ((stR s x).1).ph) := F14VW.out.cell 0
  have VW14_1 : w14.cell? ⟨w3.heap.size, 1, none⟩ = some (.int .i64 ((stR s x).1).ct) := F14VW.out.cell 1
  have VW14_2 : w14.cell? ⟨w3.heap.size, 2, none⟩ = some (.int .i64 ((stR s x).1).vl) := F14VW.out.cell 2
  have VW14_3 : w14.cell? ⟨w3.heap.size, 3, none⟩ = some (.slice AW mW cW) := F14VW.out.cell 3
  have x14_l := F14x.out.lt
  have x14_0 : w14.cell? ⟨w4.heap.size, 0, none⟩ = some (.int .i64 s.ph) := F14x.out.cell 0
  have x14_1 : w14.cell? ⟨w4.heap.size, 1, none⟩ = some (.int .i64 s.ct) := F14x.out.cell 1
  have x14_2 : w14.cell? ⟨w4.heap.size, 2, none⟩ = some (.int .i64 s.vl) := F14x.out.cell 2
  have x14_3 : w14.cell? ⟨w4.heap.size, 3, none⟩ = some (.slice (some ⟨gq, 0, none⟩) n n) := F14x.out.cell 3
  have VG14_l := F14VG.out.lt
  have VG14_0 : w14.cell? ⟨w5.heap.size, 0, none⟩ = some (.int .i64 ((stR s x).1).ph) := F14VG.out.cell 0
  have VG14_1 : w14.cell? ⟨w5.heap.size, 1, none⟩ = some (.int .i64 ((stR s x).1).ct) := F14VG.out.cell 1
  have VG14_2 : w14.cell? ⟨w5.heap.size, 2, none⟩ = some (.int .i64 ((stR s x).1).vl) := F14VG.out.cell 2
  have VG14_3 : w14.cell? ⟨w5.heap.size, 3, none⟩ = some (.slice AG mG cG) := F14VG.out.cell 3
  have O14H := hide ownH
  have LTH : Hid (∀ g, (Value.slice AH mH cH).ownBlock = some g → g < w14.heap.size) := fun g hg => (ownH.row.lt g hg).2
  clear ownH
  go_wp2_with fail
  have bA14 : Below w14.heap.size w14 (w14.alloc (.cells #[.int .i64 ((stR s x).1).ph, .int .i64 ((stR s x).1).ct, .int .i64 ((stR s x).1).vl, .slice AH mH cH] 30)) := (Below.refl _ _).alloc (Nat.le_refl _) _
  refine (eqScan_eq ((stR s x).1).ph ((stR s x).1).ct ((stR s x).1).vl _ _ _ _ _ _ ((stR s x).1).bs _ (O14H.out.below bA14).rd (O14W.out.below bA14).rd).mono ?_
  rintro e w15 ⟨rfl, b15⟩
  have bb15 : Below w14.heap.size w14 w15 := below_trans bA14 b15
  have hz15 := bb15.size
  have F15a := hide (F14a.out.below bb15)
  have F15VW := hide (F14VW.out.below bb15)
  have F15x := hide (F14x.out.below bb15)
  have F15VG := hide (F14VG.out.below bb15)
  have F15VH := hide ((ScnAt.fresh w14 #[.int .i64 ((stR s x).1).ph, .int .i64 ((stR s x).1).ct, .int .i64 ((stR s x).1).vl, .slice AH mH cH]).below b15)
  have O15p := hide (O14p.out.below bb15)
  have O15W := hide (O14W.out.below bb15)
  have O15q := hide (O14q.out.below bb15)
  have O15G := hide (O14G.out.below bb15)
  have O15y := hide (O14y.out.below bb15)
  have O15r := hide (O14r.out.below bb15)
  have O15H := hide (O14H.out.below bb15)
  have B15 := hide (below_trans (B14.out) bb15)
  have a15_l := F15a.out.lt
  have a15_0 : w15.cell? ⟨w.heap.size, 0, none⟩ = some (.int .i64 s.ph) := F15a.out.cell 0
  have a15_1 : w15.cell? ⟨w.heap.size, 1, none⟩ = some (.int .i64 s.ct) := F15a.out.cell 1
  have a15_2 : w15.cell? ⟨w.heap.size, 2, none⟩ = some (.int .i64 s.vl) := F15a.out.cell 2
  have a15_3 : w15.cell? ⟨w.heap.size, 3, none⟩ = some (.slice A n c) := F15a.out.cell 3
  have VW15_l := F15VW.out.lt
  have VW15_0 : w15.cell? ⟨w3.heap.size, 0, none⟩ = some (.int .i64 ((stR s x).1).ph) := F15VW.out.cell 0
  have VW15_1 : w15.cell? ⟨w3.heap.size, 1, none⟩ = some (.int .i64 ((stR s x).1).ct) := F15VW.out.cell 1
  have VW15_2 : w15.cell? ⟨w3.heap.size, 2, none⟩ = some (.int .i64 ((stR s x).1).vl) := F15VW.out.cell 2
  have VW15_3 : w15.cell? ⟨w3.heap.size, 3, none⟩ = some (.slice AW mW cW) := F15VW.out.cell 3
  have x15_l := F15x.out.lt
  have x15_0 : w15.cell? ⟨w4.heap.size, 0, none⟩ = some (.int .i64 s.ph) := F15x.out.cell 0
  have x15_1 : w15.cell? ⟨w4.heap.size, 1, none⟩ = some (.int .i64 s.ct) := F15x.out.cell 1
  have x15_2 : w15.cell? ⟨w4.heap.size, 2, none⟩ = some (.int .i64 s.vl) := F15x.out.cell 2
  have x15_3 : w15.cell? ⟨w4.heap.size, 3, none⟩ = some (.slice (some ⟨gq, 0, none⟩) n n) := F15x.out.cell 3
  have VG15_l := F15VG.out.lt
  have VG15_0 : w15.cell? ⟨w5.heap.size, 0, none⟩ = some (.int .i64 ((stR s x).1).ph) := F15VG.out.cell 0
  have VG15_1 : w15.cell? ⟨w5.heap.size, 1, none⟩ = some (.int .i64 ((stR s x).1).ct) := F15VG.out.cell 1
  have VG15_2 : w15.cell? ⟨w5.heap.size, 2, none⟩ = some (.int .i64 ((stR s x).1).vl) := F15VG.out.cell 2
  have VG15_3 : w15.cell? ⟨w5.heap.size, 3, none⟩ = some (.slice AG mG cG) := F15VG.out.cell 3
  have VH15_l := F15VH.out.lt
  have VH15_0 : w15.cell? ⟨w14.heap.size, 0, none⟩ = some (.int .i64 ((stR s x).1).ph) := F15VH.out.cell 0
  have VH15_1 : w15.cell? ⟨w14.heap.size, 1, none⟩ = some (.int .i64 ((stR s x).1).ct) := F15VH.out.cell 1
  have VH15_2 : w15.cell? ⟨w14.heap.size, 2, none⟩ = some (.int .i64 ((stR s x).1).vl) := F15VH.out.cell 2
  have VH15_3 : w15.cell? ⟨w14.heap.size, 3, none⟩ = some (.slice AH mH cH) := F15VH.out.cell 3
  go_wp2_with fail
  refine (heldScan_any ((stR s x).1).ph ((stR s x).1).ct ((stR s x).1).vl _ _ _ _ O15G.out.rd (by omega)).mono ?_
  rintro e w16 ⟨rfl, b16⟩
  have bb16 : Below w15.heap.size w15 w16 := b16
  have hz16 := bb16.size
  have F16a := hide (F15a.out.below bb16)
  have F16VW := hide (F15VW.out.below bb16)
  have F16x := hide (F15x.out.below bb16)
  have F16VG := hide (F15VG.out.below bb16)
  have F16VH := hide (F15VH.out.below bb16)
  have O16p := hide (O15p.out.below bb16)
  have O16W := hide (O15W.out.below bb16)
  have O16q := hide (O15q.out.below bb16)
  have O16G := hide (O15G.out.below bb16)
  have O16y := hide (O15y.out.below bb16)
  have O16r := hide (O15r.out.below bb16)
  have O16H := hide (O15H.out.below bb16)
  have B16 := hide (below_trans (B15.out) bb16)
  have a16_l := F16a.out.lt
  have a16_0 : w16.cell? ⟨w.heap.size, 0, none⟩ = some (.int .i64 s.ph) := F16a.out.cell 0
  have a16_1 : w16.cell? ⟨w.heap.size, 1, none⟩ = some (.int .i64 s.ct) := F16a.out.cell 1
  have a16_2 : w16.cell? ⟨w.heap.size, 2, none⟩ = some (.int .i64 s.vl) := F16a.out.cell 2
  have a16_3 : w16.cell? ⟨w.heap.size, 3, none⟩ = some (.slice A n c) := F16a.out.cell 3
  have VW16_l := F16VW.out.lt
  have VW16_0 : w16.cell? ⟨w3.heap.size, 0, none⟩ = some (.int .i64 ((stR s x).1).ph) := F16VW.out.cell 0
  have VW16_1 : w16.cell? ⟨w3.heap.size, 1, none⟩ = some (.int .i64 ((stR s x).1).ct) := F16VW.out.cell 1
  have VW16_2 : w16.cell? ⟨w3.heap.size, 2, none⟩ = some (.int .i64 ((stR s x).1).vl) := F16VW.out.cell 2
  have VW16_3 : w16.cell? ⟨w3.heap.size, 3, none⟩ = some (.slice AW mW cW) := F16VW.out.cell 3
  have x16_l := F16x.out.lt
  have x16_0 : w16.cell? ⟨w4.heap.size, 0, none⟩ = some (.int .i64 s.ph) := F16x.out.cell 0
  have x16_1 : w16.cell? ⟨w4.heap.size, 1, none⟩ = some (.int .i64 s.ct) := F16x.out.cell 1
  have x16_2 : w16.cell? ⟨w4.heap.size, 2, none⟩ = some (.int .i64 s.vl) := F16x.out.cell 2
  have x16_3 : w16.cell? ⟨w4.heap.size, 3, none⟩ = some (.slice (some ⟨gq, 0, none⟩) n n) := F16x.out.cell 3
  have VG16_l := F16VG.out.lt
  have VG16_0 : w16.cell? ⟨w5.heap.size, 0, none⟩ = some (.int .i64 ((stR s x).1).ph) := F16VG.out.cell 0
  have VG16_1 : w16.cell? ⟨w5.heap.size, 1, none⟩ = some (.int .i64 ((stR s x).1).ct) := F16VG.out.cell 1
  have VG16_2 : w16.cell? ⟨w5.heap.size, 2, none⟩ = some (.int .i64 ((stR s x).1).vl) := F16VG.out.cell 2
  have VG16_3 : w16.cell? ⟨w5.heap.size, 3, none⟩ = some (.slice AG mG cG) := F16VG.out.cell 3
  have VH16_l := F16VH.out.lt
  have VH16_0 : w16.cell? ⟨w14.heap.size, 0, none⟩ = some (.int .i64 ((stR s x).1).ph) := F16VH.out.cell 0
  have VH16_1 : w16.cell? ⟨w14.heap.size, 1, none⟩ = some (.int .i64 ((stR s x).1).ct) := F16VH.out.cell 1
  have VH16_2 : w16.cell? ⟨w14.heap.size, 2, none⟩ = some (.int .i64 ((stR s x).1).vl) := F16VH.out.cell 2
  have VH16_3 : w16.cell? ⟨w14.heap.size, 3, none⟩ = some (.slice AH mH cH) := F16VH.out.cell 3
  go_wp2_with fail
  go_ret
  exact ⟨rfl, B16.out⟩
end Go.Proofs.Ytdodhjahihfaiaa
