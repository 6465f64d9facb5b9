/- The walk of FnExactScanCells: both functions come to the same result; the arguments stay. Written by genscan.py. -/
import Derived.Test.YtdodhjahihfaiaaScanX
import Derived.Test.YtdodhjahihfaiaaScanQ
import Derived.Deep.RegionHeld3
namespace Go.Proofs.Ytdodhjahihfaiaa
open Go.RowKit
set_option linter.unusedVariables false
set_option linter.unusedSimpArgs false

set_option maxHeartbeats 6400000 in
set_option maxRecDepth 100000 in
theorem walkScanCells (s : Scn) (A : Option Addr) (n c : Nat) (A1 : Option Addr) (n1 c1 : Nat) (zs : List Int) (w : World) (h : Rd w A n c s.bs) (h1 : Rd w A1 n1 c1 zs) :
    Calls Try.prog 15 #[.agg #[.int .i64 s.ph, .int .i64 s.ct, .int .i64 s.vl, .slice A n c], .slice A1 n1 c1] w fun e w' => e = .returned (.bool true) ∧ Below w.heap.size w w' := by
  have hl := h.le
  have hc := h.cap
  have hl1 := h1.le
  have hc1 := h1.cap
  by_cases hn1 : 1048576 < n1
  · go_enter Try.func15, Try.ntmps15
    go_wp2
    go_ret
    exact ⟨rfl, (Below.refl _ _).alloc (Nat.le_refl _) _⟩
  by_cases hn : 1048576 < n
  · go_enter Try.func15, Try.ntmps15
    go_wp2_with fail
    refine (szScan_big _ _ _ A n c _ (by omega) hn).mono ?_
    rintro e w1 ⟨rfl, b1⟩
    go_wp2_with fail
    go_ret
    exact ⟨rfl, below_trans ((Below.refl _ _).alloc (Nat.le_refl _) _) b1⟩
  have t1 : ((scR s zs).2 != (scR s zs).2) = false := by simp
  have ez := eqB_self zs
  go_enter Try.func15, Try.ntmps15
  go_wp2_with fail
  have bA0 : Below w.heap.size w (w.alloc (.cells #[.int .i64 s.ph, .int .i64 s.ct, .int .i64 s.vl, .slice A n c] 27)) := (Below.refl _ _).alloc (Nat.le_refl _) _
  refine (szScan_ok s.ph s.ct s.vl A n c _ (by omega)).mono ?_
  rintro e w1 ⟨rfl, b1⟩
  have bb1 : Below w.heap.size w w1 := below_trans bA0 b1
  have hz1 := bb1.size
  have F1a := hide ((LScnAt.fresh w #[.int .i64 s.ph, .int .i64 s.ct, .int .i64 s.vl, .slice A n c]).below b1)
  have B1 := hide (below_trans (Below.refl _ w) bb1)
  have a1_l := F1a.out.lt
  have a1_0 : w1.cell? ⟨w.heap.size, 0, none⟩ = some (.int .i64 s.ph) := F1a.out.cell 0
  have a1_1 : w1.cell? ⟨w.heap.size, 1, none⟩ = some (.int .i64 s.ct) := F1a.out.cell 1
  have a1_2 : w1.cell? ⟨w.heap.size, 2, none⟩ = some (.int .i64 s.vl) := F1a.out.cell 2
  have a1_3 : w1.cell? ⟨w.heap.size, 3, none⟩ = some (.slice A n c) := F1a.out.cell 3
  go_wp2_with fail
  refine (toScan_any s.ph s.ct s.vl A n c s.bs _ (h.below (B1.out)) (by omega)).mono ?_
  rintro e w2 ⟨gp, rfl, ownp, b2⟩
  have bb2 : Below w1.heap.size w1 w2 := b2
  have hz2 := bb2.size
  have F2a := hide (F1a.out.below bb2)
  have B2 := hide (below_trans (B1.out) bb2)
  have a2_l := F2a.out.lt
  have a2_0 : w2.cell? ⟨w.heap.size, 0, none⟩ = some (.int .i64 s.ph) := F2a.out.cell 0
  have a2_1 : w2.cell? ⟨w.heap.size, 1, none⟩ = some (.int .i64 s.ct) := F2a.out.cell 1
  have a2_2 : w2.cell? ⟨w.heap.size, 2, none⟩ = some (.int .i64 s.vl) := F2a.out.cell 2
  have a2_3 : w2.cell? ⟨w.heap.size, 3, none⟩ = some (.slice A n c) := F2a.out.cell 3
  have O2p := hide ownp
  have LTp : Hid (∀ g, (Value.slice (some ⟨gp, 0, none⟩) n n).ownBlock = some g → g < w2.heap.size) := fun g hg => (ownp.row.lt g hg).2
  clear ownp
  go_wp2_with fail
  refine (toInt64S_any A1 n1 c1 zs _ (h1.below (B2.out)) (by omega)).mono ?_
  rintro e w3 ⟨gpi, rfl, ownpi, b3⟩
  have bb3 : Below w2.heap.size w2 w3 := b3
  have hz3 := bb3.size
  have F3a := hide (F2a.out.below bb3)
  have O3p := hide (O2p.out.below bb3)
  have B3 := hide (below_trans (B2.out) bb3)
  have a3_l := F3a.out.lt
  have a3_0 : w3.cell? ⟨w.heap.size, 0, none⟩ = some (.int .i64 s.ph) := F3a.out.cell 0
  have a3_1 : w3.cell? ⟨w.heap.size, 1, none⟩ = some (.int .i64 s.ct) := F3a.out.cell 1
  have a3_2 : w3.cell? ⟨w.heap.size, 2, none⟩ = some (.int .i64 s.vl) := F3a.out.cell 2
  have a3_3 : w3.cell? ⟨w.heap.size, 3, none⟩ = some (.slice A n c) := F3a.out.cell 3
  have O3pi := hide ownpi
  have LTpi : Hid (∀ g, (Value.slice (some ⟨gpi, 0, none⟩) n1 n1).ownBlock = some g → g < w3.heap.size) := fun g hg => (ownpi.row.lt g hg).2
  clear ownpi
  go_wp2_with fail
  refine (sScanCells_c s _ n n _ n1 n1 zs _ O3p.out.rd O3pi.out.rd (by omega) (by omega)).mono ?_
  rintro e w4 ⟨AW, mW, cW, rfl, ownW, b4, hmW⟩
  have bb4 : Below w3.heap.size w3 w4 := b4
  have hz4 := bb4.size
  have F4a := hide (F3a.out.below bb4)
  have O4p := hide (O3p.out.below bb4)
  have O4pi := hide (O3pi.out.below bb4)
  have B4 := hide (below_trans (B3.out) bb4)
  have a4_l := F4a.out.lt
  have a4_0 : w4.cell? ⟨w.heap.size, 0, none⟩ = some (.int .i64 s.ph) := F4a.out.cell 0
  have a4_1 : w4.cell? ⟨w.heap.size, 1, none⟩ = some (.int .i64 s.ct) := F4a.out.cell 1
  have a4_2 : w4.cell? ⟨w.heap.size, 2, none⟩ = some (.int .i64 s.vl) := F4a.out.cell 2
  have a4_3 : w4.cell? ⟨w.heap.size, 3, none⟩ = some (.slice A n c) := F4a.out.cell 3
  have O4W := hide ownW
  have LTW : Hid (∀ g, (Value.slice AW mW cW).ownBlock = some g → g < w4.heap.size) := fun g hg => (ownW.row.lt g hg).2
  clear ownW
  go_wp2_with fail
  have bA4 : Below w4.heap.size w4 (w4.alloc (.cells #[.int .i64 ((scR s zs).1).ph, .int .i64 ((scR s zs).1).ct, .int .i64 ((scR s zs).1).vl, .slice AW mW cW] 30)) := (Below.refl _ _).alloc (Nat.le_refl _) _
  refine (toScan_any s.ph s.ct s.vl A n c s.bs _ (h.below (below_trans (B4.out) bA4)) (by omega)).mono ?_
  rintro e w5 ⟨gq, rfl, ownq, b5⟩
  replace ownq := ownq.mono (B' := w4.heap.size) (bA4.size)
  have bb5 : Below w4.heap.size w4 w5 := below_trans bA4 b5
  have hz5 := bb5.size
  have F5a := hide (F4a.out.below bb5)
  have F5VW := hide ((ScnAt.fresh w4 #[.int .i64 ((scR s zs).1).ph, .int .i64 ((scR s zs).1).ct, .int .i64 ((scR s zs).1).vl, .slice AW mW cW]).below b5)
  have O5p := hide (O4p.out.below bb5)
  have O5pi := hide (O4pi.out.below bb5)
  have O5W := hide (O4W.out.below bb5)
  have B5 := hide (below_trans (B4.out) bb5)
  have a5_l := F5a.out.lt
  have a5_0 : w5.cell? ⟨w.heap.size, 0, none⟩ = some (.int .i64 s.ph) := F5a.out.cell 0
  have a5_1 : w5.cell? ⟨w.heap.size, 1, none⟩ = some (.int .i64 s.ct) := F5a.out.cell 1
  have a5_2 : w5.cell? ⟨w.heap.size, 2, none⟩ = some (.int .i64 s.vl) := F5a.out.cell 2
  have a5_3 : w5.cell? ⟨w.heap.size, 3, none⟩ = some (.slice A n c) := F5a.out.cell 3
  have VW5_l := F5VW.out.lt
  have VW5_0 : w5.cell? ⟨w4.heap.size, 0, none⟩ = some (.int .i64 ((scR s zs).1).ph) := F5VW.out.cell 0
  have VW5_1 : w5.cell? ⟨w4.heap.size, 1, none⟩ = some (.int .i64 ((scR s zs).1).ct) := F5VW.out.cell 1
  have VW5_2 : w5.cell? ⟨w4.heap.size, 2, none⟩ = some (.int .i64 ((scR s zs).1).vl) := F5VW.out.cell 2
  have VW5_3 : w5.cell? ⟨w4.heap.size, 3, none⟩ = some (.slice AW mW cW) := F5VW.out.cell 3
  have O5q := hide ownq
  have LTq : Hid (∀ g, (Value.slice (some ⟨gq, 0, none⟩) n n).ownBlock = some g → g < w5.heap.size) := fun g hg => (ownq.row.lt g hg).2
  clear ownq
  go_wp2_with fail
  have bA5 : Below w5.heap.size w5 (w5.alloc (.cells #[.int .i64 s.ph, .int .i64 s.ct, .int .i64 s.vl, .slice (some ⟨gq, 0, none⟩) n n] 30)) := (Below.refl _ _).alloc (Nat.le_refl _) _
  refine (toInt64S_any A1 n1 c1 zs _ (h1.below (below_trans (B5.out) bA5)) (by omega)).mono ?_
  rintro e w6 ⟨gqi, rfl, ownqi, b6⟩
  replace ownqi := ownqi.mono (B' := w5.heap.size) (bA5.size)
  have bb6 : Below w5.heap.size w5 w6 := below_trans bA5 b6
  have hz6 := bb6.size
  have F6a := hide (F5a.out.below bb6)
  have F6VW := hide (F5VW.out.below bb6)
  have F6x := hide ((ScnAt.fresh w5 #[.int .i64 s.ph, .int .i64 s.ct, .int .i64 s.vl, .slice (some ⟨gq, 0, none⟩) n n]).below b6)
  have O6p := hide (O5p.out.below bb6)
  have O6pi := hide (O5pi.out.below bb6)
  have O6W := hide (O5W.out.below bb6)
  have O6q := hide (O5q.out.below bb6)
  have B6 := hide (below_trans (B5.out) bb6)
  have a6_l := F6a.out.lt
  have a6_0 : w6.cell? ⟨w.heap.size, 0, none⟩ = some (.int .i64 s.ph) := F6a.out.cell 0
  have a6_1 : w6.cell? ⟨w.heap.size, 1, none⟩ = some (.int .i64 s.ct) := F6a.out.cell 1
  have a6_2 : w6.cell? ⟨w.heap.size, 2, none⟩ = some (.int .i64 s.vl) := F6a.out.cell 2
  have a6_3 : w6.cell? ⟨w.heap.size, 3, none⟩ = some (.slice A n c) := F6a.out.cell 3
  have VW6_l := F6VW.out.lt
  have VW6_0 : w6.cell? ⟨w4.heap.size, 0, none⟩ = some (.int .i64 ((scR s zs).1).ph) := F6VW.out.cell 0
  have VW6_1 : w6.cell? ⟨w4.heap.size, 1, none⟩ = some (.int .i64 ((scR s zs).1).ct) := F6VW.out.cell 1
  have VW6_2 : w6.cell? ⟨w4.heap.size, 2, none⟩ = some (.int .i64 ((scR s zs).1).vl) := F6VW.out.cell 2
  have VW6_3 : w6.cell? ⟨w4.heap.size, 3, none⟩ = some (.slice AW mW cW) := F6VW.out.cell 3
  have x6_l := F6x.out.lt
  have x6_0 : w6.cell? ⟨w5.heap.size, 0, none⟩ = some (.int .i64 s.ph) := F6x.out.cell 0
  have x6_1 : w6.cell? ⟨w5.heap.size, 1, none⟩ = some (.int .i64 s.ct) := F6x.out.cell 1
  have x6_2 : w6.cell? ⟨w5.heap.size, 2, none⟩ = some (.int .i64 s.vl) := F6x.out.cell 2
  have x6_3 : w6.cell? ⟨w5.heap.size, 3, none⟩ = some (.slice (some ⟨gq, 0, none⟩) n n) := F6x.out.cell 3
  have O6qi := hide ownqi
  have LTqi : Hid (∀ g, (Value.slice (some ⟨gqi, 0, none⟩) n1 n1).ownBlock = some g → g < w6.heap.size) := fun g hg => (ownqi.row.lt g hg).2
  clear ownqi
  go_wp2_with fail
  refine (iScanCells_c s _ n n _ n1 n1 zs _ O6q.out.rd O6qi.out.rd (by omega) (by omega)).mono ?_
  rintro e w7 ⟨AG, mG, cG, rfl, ownG, b7, hmG⟩
  have bb7 : Below w6.heap.size w6 w7 := b7
  have hz7 := bb7.size
  have F7a := hide (F6a.out.below bb7)
  have F7VW := hide (F6VW.out.below bb7)
  have F7x := hide (F6x.out.below bb7)
  have O7p := hide (O6p.out.below bb7)
  have O7pi := hide (O6pi.out.below bb7)
  have O7W := hide (O6W.out.below bb7)
  have O7q := hide (O6q.out.below bb7)
  have O7qi := hide (O6qi.out.below bb7)
  have B7 := hide (below_trans (B6.out) bb7)
  have a7_l := F7a.out.lt
  have a7_0 : w7.cell? ⟨w.heap.size, 0, none⟩ = some (.int .i64 s.ph) := F7a.out.cell 0
  have a7_1 : w7.cell? ⟨w.heap.size, 1, none⟩ = some (.int .i64 s.ct) := F7a.out.cell 1
  have a7_2 : w7.cell? ⟨w.heap.size, 2, none⟩ = some (.int .i64 s.vl) := F7a.out.cell 2
  have a7_3 : w7.cell? ⟨w.heap.size, 3, none⟩ = some (.slice A n c) := F7a.out.cell 3
  have VW7_l := F7VW.out.lt
  have VW7_0 : w7.cell? ⟨w4.heap.size, 0, none⟩ = some (.int .i64 ((scR s zs).1).ph) := F7VW.out.cell 0
  have VW7_1 : w7.cell? ⟨w4.heap.size, 1, none⟩ = some (.int .i64 ((scR s zs).1).ct) := F7VW.out.cell 1
  have VW7_2 : w7.cell? ⟨w4.heap.size, 2, none⟩ = some (.int .i64 ((scR s zs).1).vl) := F7VW.out.cell 2
  have VW7_3 : w7.cell? ⟨w4.heap.size, 3, none⟩ = some (.slice AW mW cW) := F7VW.out.cell 3
  have x7_l := F7x.out.lt
  have x7_0 : w7.cell? ⟨w5.heap.size, 0, none⟩ = some (.int .i64 s.ph) := F7x.out.cell 0
  have x7_1 : w7.cell? ⟨w5.heap.size, 1, none⟩ = some (.int .i64 s.ct) := F7x.out.cell 1
  have x7_2 : w7.cell? ⟨w5.heap.size, 2, none⟩ = some (.int .i64 s.vl) := F7x.out.cell 2
  have x7_3 : w7.cell? ⟨w5.heap.size, 3, none⟩ = some (.slice (some ⟨gq, 0, none⟩) n n) := F7x.out.cell 3
  have O7G := hide ownG
  have LTG : Hid (∀ g, (Value.slice AG mG cG).ownBlock = some g → g < w7.heap.size) := fun g hg => (ownG.row.lt g hg).2
  clear ownG
  go_wp2_with fail
  have bA7 : Below w7.heap.size w7 (w7.alloc (.cells #[.int .i64 ((scR s zs).1).ph, .int .i64 ((scR s zs).1).ct, .int .i64 ((scR s zs).1).vl, .slice AG mG cG] 30)) := (Below.refl _ _).alloc (Nat.le_refl _) _
  refine (eqScan_eq ((scR s zs).1).ph ((scR s zs).1).ct ((scR s zs).1).vl _ _ _ _ _ _ ((scR s zs).1).bs _ (O7G.out.below bA7).rd (O7W.out.below bA7).rd).mono ?_
  rintro e w8 ⟨rfl, b8⟩
  have bb8 : Below w7.heap.size w7 w8 := below_trans bA7 b8
  have hz8 := bb8.size
  have F8a := hide (F7a.out.below bb8)
  have F8VW := hide (F7VW.out.below bb8)
  have F8x := hide (F7x.out.below bb8)
  have F8VG := hide ((ScnAt.fresh w7 #[.int .i64 ((scR s zs).1).ph, .int .i64 ((scR s zs).1).ct, .int .i64 ((scR s zs).1).vl, .slice AG mG cG]).below b8)
  have O8p := hide (O7p.out.below bb8)
  have O8pi := hide (O7pi.out.below bb8)
  have O8W := hide (O7W.out.below bb8)
  have O8q := hide (O7q.out.below bb8)
  have O8qi := hide (O7qi.out.below bb8)
  have O8G := hide (O7G.out.below bb8)
  have B8 := hide (below_trans (B7.out) bb8)
  have a8_l := F8a.out.lt
  have a8_0 : w8.cell? ⟨w.heap.size, 0, none⟩ = some (.int .i64 s.ph) := F8a.out.cell 0
  have a8_1 : w8.cell? ⟨w.heap.size, 1, none⟩ = some (.int .i64 s.ct) := F8a.out.cell 1
  have a8_2 : w8.cell? ⟨w.heap.size, 2, none⟩ = some (.int .i64 s.vl) := F8a.out.cell 2
  have a8_3 : w8.cell? ⟨w.heap.size, 3, none⟩ = some (.slice A n c) := F8a.out.cell 3
  have VW8_l := F8VW.out.lt
  have VW8_0 : w8.cell? ⟨w4.heap.size, 0, none⟩ = some (.int .i64 ((scR s zs).1).ph) := F8VW.out.cell 0
  have VW8_1 : w8.cell? ⟨w4.heap.size, 1, none⟩ = some (.int .i64 ((scR s zs).1).ct) := F8VW.out.cell 1
  have VW8_2 : w8.cell? ⟨w4.heap.size, 2, none⟩ = some (.int .i64 ((scR s zs).1).vl) := F8VW.out.cell 2
  have VW8_3 : w8.cell? ⟨w4.heap.size, 3, none⟩ = some (.slice AW mW cW) := F8VW.out.cell 3
  have x8_l := F8x.out.lt
  have x8_0 : w8.cell? ⟨w5.heap.size, 0, none⟩ = some (.int .i64 s.ph) := F8x.out.cell 0
  have x8_1 : w8.cell? ⟨w5.heap.size, 1, none⟩ = some (.int .i64 s.ct) := F8x.out.cell 1
  have x8_2 : w8.cell? ⟨w5.heap.size, 2, none⟩ = some (.int .i64 s.vl) := F8x.out.cell 2
  have x8_3 : w8.cell? ⟨w5.heap.size, 3, none⟩ = some (.slice (some ⟨gq, 0, none⟩) n n) := F8x.out.cell 3
  have VG8_l := F8VG.out.lt
  have VG8_0 : w8.cell? ⟨w7.heap.size, 0, none⟩ = some (.int .i64 ((scR s zs).1).ph) := F8VG.out.cell 0
  have VG8_1 : w8.cell? ⟨w7.heap.size, 1, none⟩ = some (.int .i64 ((scR s zs).1).ct) := F8VG.out.cell 1
  have VG8_2 : w8.cell? ⟨w7.heap.size, 2, none⟩ = some (.int .i64 ((scR s zs).1).vl) := F8VG.out.cell 2
  have VG8_3 : w8.cell? ⟨w7.heap.size, 3, none⟩ = some (.slice AG mG cG) := F8VG.out.cell 3
  go_wp2_with fail
  go_region_held3 (fun w' => w'.cell? ⟨w5.heap.size, 0, none⟩ = some (.int .i64 s.ph) ∧ w'.cell? ⟨w5.heap.size, 1, none⟩ = some (.int .i64 s.ct) ∧ w'.cell? ⟨w5.heap.size, 2, none⟩ = some (.int .i64 s.vl) ∧ w'.cell? ⟨w5.heap.size, 3, none⟩ = some (.slice (some ⟨gq, 0, none⟩) n n) ∧ w'.cell? ⟨w.heap.size, 0, none⟩ = some (.int .i64 s.ph) ∧ w'.cell? ⟨w.heap.size, 1, none⟩ = some (.int .i64 s.ct) ∧ w'.cell? ⟨w.heap.size, 2, none⟩ = some (.int .i64 s.vl) ∧ w'.cell? ⟨w.heap.size, 3, none⟩ = some (.slice A n c)) (go_keep) (first | (go_at_call 26; (with_reducible refine (toScan_any s.ph s.ct s.vl A n c s.bs _ (h.below (B8.out)).drew (by omega)).mono ?_); rintro e w9 ⟨gy, rfl, owny, b9⟩; replace owny := owny.mono (B' := w8.heap.size) (Nat.le_refl _); have bb9 : Below w8.heap.size w8 w9 := (below_drewL b9); have hz9 := bb9.size; have F9a := hide (F8a.out.below bb9); have F9VW := hide (F8VW.out.below bb9); have F9x := hide (F8x.out.below bb9); have F9VG := hide (F8VG.out.below bb9); have O9p := hide (O8p.out.below bb9); have O9pi := hide (O8pi.out.below bb9); have O9W := hide (O8W.out.below bb9); have O9q := hide (O8q.out.below bb9); have O9qi := hide (O8qi.out.below bb9); have O9G := hide (O8G.out.below bb9); have B9 := hide (below_trans (B8.out) bb9); have a9_l := F9a.out.lt; have a9_0 : w9.cell? ⟨w.heap.size, 0, none⟩ = some (.int .i64 s.ph) := F9a.out.cell 0; have a9_1 : w9.cell? ⟨w.heap.size, 1, none⟩ = some (.int .i64 s.ct) := F9a.out.cell 1; have a9_2 : w9.cell? ⟨w.heap.size, 2, none⟩ = some (.int .i64 s.vl) := F9a.out.cell 2; have a9_3 : w9.cell? ⟨w.heap.size, 3, none⟩ = some (.slice A n c) := F9a.out.cell 3; have VW9_l := F9VW.out.lt; have VW9_0 : w9.cell? ⟨w4.heap.size, 0, none⟩ = some (.int .i64 ((scR s zs).1).ph) := F9VW.out.cell 0; have VW9_1 : w9.cell? ⟨w4.heap.size, 1, none⟩ = some (.int .i64 ((scR s zs).1).ct) := F9VW.out.cell 1; have VW9_2 : w9.cell? ⟨w4.heap.size, 2, none⟩ = some (.int .i64 ((scR s zs).1).vl) := F9VW.out.cell 2; have VW9_3 : w9.cell? ⟨w4.heap.size, 3, none⟩ = some (.slice AW mW cW) := F9VW.out.cell 3; have x9_l := F9x.out.lt; have x9_0 : w9.cell? ⟨w5.heap.size, 0, none⟩ = some (.int .i64 s.ph) := F9x.out.cell 0; have x9_1 : w9.cell? ⟨w5.heap.size, 1, none⟩ = some (.int .i64 s.ct) := F9x.out.cell 1; have x9_2 : w9.cell? ⟨w5.heap.size, 2, none⟩ = some (.int .i64 s.vl) := F9x.out.cell 2; have x9_3 : w9.cell? ⟨w5.heap.size, 3, none⟩ = some (.slice (some ⟨gq, 0, none⟩) n n) := F9x.out.cell 3; have VG9_l := F9VG.out.lt; have VG9_0 : w9.cell? ⟨w7.heap.size, 0, none⟩ = some (.int .i64 ((scR s zs).1).ph) := F9VG.out.cell 0; have VG9_1 : w9.cell? ⟨w7.heap.size, 1, none⟩ = some (.int .i64 ((scR s zs).1).ct) := F9VG.out.cell 1; have VG9_2 : w9.cell? ⟨w7.heap.size, 2, none⟩ = some (.int .i64 ((scR s zs).1).vl) := F9VG.out.cell 2; have VG9_3 : w9.cell? ⟨w7.heap.size, 3, none⟩ = some (.slice AG mG cG) := F9VG.out.cell 3; have O9y := hide (owny); have LTy : Hid (∀ g, (Value.slice (some ⟨gy, 0, none⟩) n n).ownBlock = some g → g < w9.heap.size) := fun g hg => ((owny).row.lt g hg).2; clear owny) | (go_at_call 28; (with_reducible refine (eqScan_eq s.ph s.ct s.vl _ _ _ _ _ _ s.bs _ O9q.out.rd O9y.out.rd).mono ?_); rintro e w10 ⟨rfl, b10⟩; have bb10 : Below w9.heap.size w9 w10 := b10; have hz10 := bb10.size; have F10a := hide (F9a.out.below bb10); have F10VW := hide (F9VW.out.below bb10); have F10x := hide (F9x.out.below bb10); have F10VG := hide (F9VG.out.below bb10); have O10p := hide (O9p.out.below bb10); have O10pi := hide (O9pi.out.below bb10); have O10W := hide (O9W.out.below bb10); have O10q := hide (O9q.out.below bb10); have O10qi := hide (O9qi.out.below bb10); have O10G := hide (O9G.out.below bb10); have O10y := hide (O9y.out.below bb10); have B10 := hide (below_trans (B9.out) bb10); have a10_l := F10a.out.lt; have a10_0 : w10.cell? ⟨w.heap.size, 0, none⟩ = some (.int .i64 s.ph) := F10a.out.cell 0; have a10_1 : w10.cell? ⟨w.heap.size, 1, none⟩ = some (.int .i64 s.ct) := F10a.out.cell 1; have a10_2 : w10.cell? ⟨w.heap.size, 2, none⟩ = some (.int .i64 s.vl) := F10a.out.cell 2; have a10_3 : w10.cell? ⟨w.heap.size, 3, none⟩ = some (.slice A n c) := F10a.out.cell 3; have VW10_l := F10VW.out.lt; have VW10_0 : w10.cell? ⟨w4.heap.size, 0, none⟩ = some (.int .i64 ((scR s zs).1).ph) := F10VW.out.cell 0; have VW10_1 : w10.cell? ⟨w4.heap.size, 1, none⟩ = some (.int .i64 ((scR s zs).1).ct) := F10VW.out.cell 1; have VW10_2 : w10.cell? ⟨w4.heap.size, 2, none⟩ = some (.int .i64 ((scR s zs).1).vl) := F10VW.out.cell 2; have VW10_3 : w10.cell? ⟨w4.heap.size, 3, none⟩ = some (.slice AW mW cW) := F10VW.out.cell 3; have x10_l := F10x.out.lt; have x10_0 : w10.cell? ⟨w5.heap.size, 0, none⟩ = some (.int .i64 s.ph) := F10x.out.cell 0; have x10_1 : w10.cell? ⟨w5.heap.size, 1, none⟩ = some (.int .i64 s.ct) := F10x.out.cell 1; have x10_2 : w10.cell? ⟨w5.heap.size, 2, none⟩ = some (.int .i64 s.vl) := F10x.out.cell 2; have x10_3 : w10.cell? ⟨w5.heap.size, 3, none⟩ = some (.slice (some ⟨gq, 0, none⟩) n n) := F10x.out.cell 3; have VG10_l := F10VG.out.lt; have VG10_0 : w10.cell? ⟨w7.heap.size, 0, none⟩ = some (.int .i64 ((scR s zs).1).ph) := F10VG.out.cell 0; have VG10_1 : w10.cell? ⟨w7.heap.size, 1, none⟩ = some (.int .i64 ((scR s zs).1).ct) := F10VG.out.cell 1; have VG10_2 : w10.cell? ⟨w7.heap.size, 2, none⟩ = some (.int .i64 ((scR s zs).1).vl) := F10VG.out.cell 2; have VG10_3 : w10.cell? ⟨w7.heap.size, 3, none⟩ = some (.slice AG mG cG) := F10VG.out.cell 3))
  go_wp2_with fail
  refine (toInt64S_any A1 n1 c1 zs _ (h1.below (B10.out)) (by omega)).mono ?_
  rintro e w11 ⟨gyi, rfl, ownyi, b11⟩
  have bb11 : Below w10.heap.size w10 w11 := b11
  have hz11 := bb11.size
  have F11a := hide (F10a.out.below bb11)
  have F11VW := hide (F10VW.out.below bb11)
  have F11x := hide (F10x.out.below bb11)
  have F11VG := hide (F10VG.out.below bb11)
  have O11p := hide (O10p.out.below bb11)
  have O11pi := hide (O10pi.out.below bb11)
  have O11W := hide (O10W.out.below bb11)
  have O11q := hide (O10q.out.below bb11)
  have O11qi := hide (O10qi.out.below bb11)
  have O11G := hide (O10G.out.below bb11)
  have O11y := hide (O10y.out.below bb11)
  have B11 := hide (below_trans (B10.out) bb11)
  have a11_l := F11a.out.lt
  have a11_0 : w11.cell? ⟨w.heap.size, 0, none⟩ = some (.int .i64 s.ph) := F11a.out.cell 0
  have a11_1 : w11.cell? ⟨w.heap.size, 1, none⟩ = some (.int .i64 s.ct) := F11a.out.cell 1
  have a11_2 : w11.cell? ⟨w.heap.size, 2, none⟩ = some (.int .i64 s.vl) := F11a.out.cell 2
  have a11_3 : w11.cell? ⟨w.heap.size, 3, none⟩ = some (.slice A n c) := F11a.out.cell 3
  have VW11_l := F11VW.out.lt
  have VW11_0 : w11.cell? ⟨w4.heap.size, 0, none⟩ = some (.int .i64 ((scR s zs).1).ph) := F11VW.out.cell 0
  have VW11_1 : w11.cell? ⟨w4.heap.size, 1, none⟩ = some (.int .i64 ((scR s zs).1).ct) := F11VW.out.cell 1
  have VW11_2 : w11.cell? ⟨w4.heap.size, 2, none⟩ = some (.int .i64 ((scR s zs).1).vl) := F11VW.out.cell 2
  have VW11_3 : w11.cell? ⟨w4.heap.size, 3, none⟩ = some (.slice AW mW cW) := F11VW.out.cell 3
  have x11_l := F11x.out.lt
  have x11_0 : w11.cell? ⟨w5.heap.size, 0, none⟩ = some (.int .i64 s.ph) := F11x.out.cell 0
  have x11_1 : w11.cell? ⟨w5.heap.size, 1, none⟩ = some (.int .i64 s.ct) := F11x.out.cell 1
  have x11_2 : w11.cell? ⟨w5.heap.size, 2, none⟩ = some (.int .i64 s.vl) := F11x.out.cell 2
  have x11_3 : w11.cell? ⟨w5.heap.size, 3, none⟩ = some (.slice (some ⟨gq, 0, none⟩) n n) := F11x.out.cell 3
  have VG11_l := F11VG.out.lt
  have VG11_0 : w11.cell? ⟨w7.heap.size, 0, none⟩ = some (.int .i64 ((scR s zs).1).ph) := F11VG.out.cell 0
  have VG11_1 : w11.cell? ⟨w7.heap.size, 1, none⟩ = some (.int .i64 ((scR s zs).1).ct) := F11VG.out.cell 1
  have VG11_2 : w11.cell? ⟨w7.heap.size, 2, none⟩ = some (.int .i64 ((scR s zs).1).vl) := F11VG.out.cell 2
  have VG11_3 : w11.cell? ⟨w7.heap.size, 3, none⟩ = some (.slice AG mG cG) := F11VG.out.cell 3
  have O11yi := hide ownyi
  have LTyi : Hid (∀ g, (Value.slice (some ⟨gyi, 0, none⟩) n1 n1).ownBlock = some g → g < w11.heap.size) := fun g hg => (ownyi.row.lt g hg).2
  clear ownyi
  go_wp2_with fail
  refine (eqInt64S_b _ _ _ _ _ _ zs zs _ O11qi.out.rd O11yi.out.rd).mono ?_
  rintro e w12 ⟨rfl, b12⟩
  have bb12 : Below w11.heap.size w11 w12 := b12
  have hz12 := bb12.size
  have F12a := hide (F11a.out.below bb12)
  have F12VW := hide (F11VW.out.below bb12)
  have F12x := hide (F11x.out.below bb12)
  have F12VG := hide (F11VG.out.below bb12)
  have O12p := hide (O11p.out.below bb12)
  have O12pi := hide (O11pi.out.below bb12)
  have O12W := hide (O11W.out.below bb12)
  have O12q := hide (O11q.out.below bb12)
  have O12qi := hide (O11qi.out.below bb12)
  have O12G := hide (O11G.out.below bb12)
  have O12y := hide (O11y.out.below bb12)
  have O12yi := hide (O11yi.out.below bb12)
  have B12 := hide (below_trans (B11.out) bb12)
  have a12_l := F12a.out.lt
  have a12_0 : w12.cell? ⟨w.heap.size, 0, none⟩ = some (.int .i64 s.ph) := F12a.out.cell 0
  have a12_1 : w12.cell? ⟨w.heap.size, 1, none⟩ = some (.int .i64 s.ct) := F12a.out.cell 1
  have a12_2 : w12.cell? ⟨w.heap.size, 2, none⟩ = some (.int .i64 s.vl) := F12a.out.cell 2
  have a12_3 : w12.cell? ⟨w.heap.size, 3, none⟩ = some (.slice A n c) := F12a.out.cell 3
  have VW12_l := F12VW.out.lt
  have VW12_0 : w12.cell? ⟨w4.heap.size, 0, none⟩ = some (.int .i64 ((scR s zs).1).ph) := F12VW.out.cell 0
  have VW12_1 : w12.cell? ⟨w4.heap.size, 1, none⟩ = some (.int .i64 ((scR s zs).1).ct) := F12VW.out.cell 1
  have VW12_2 : w12.cell? ⟨w4.heap.size, 2, none⟩ = some (.int .i64 ((scR s zs).1).vl) := F12VW.out.cell 2
  have VW12_3 : w12.cell? ⟨w4.heap.size, 3, none⟩ = some (.slice AW mW cW) := F12VW.out.cell 3
  have x12_l := F12x.out.lt
  have x12_0 : w12.cell? ⟨w5.heap.size, 0, none⟩ = some (.int .i64 s.ph) := F12x.out.cell 0
  have x12_1 : w12.cell? ⟨w5.heap.size, 1, none⟩ = some (.int .i64 s.ct) := F12x.out.cell 1
  have x12_2 : w12.cell? ⟨w5.heap.size, 2, none⟩ = some (.int .i64 s.vl) := F12x.out.cell 2
  have x12_3 : w12.cell? ⟨w5.heap.size, 3, none⟩ = some (.slice (some ⟨gq, 0, none⟩) n n) := F12x.out.cell 3
  have VG12_l := F12VG.out.lt
  have VG12_0 : w12.cell? ⟨w7.heap.size, 0, none⟩ = some (.int .i64 ((scR s zs).1).ph) := F12VG.out.cell 0
  have VG12_1 : w12.cell? ⟨w7.heap.size, 1, none⟩ = some (.int .i64 ((scR s zs).1).ct) := F12VG.out.cell 1
  have VG12_2 : w12.cell? ⟨w7.heap.size, 2, none⟩ = some (.int .i64 ((scR s zs).1).vl) := F12VG.out.cell 2
  have VG12_3 : w12.cell? ⟨w7.heap.size, 3, none⟩ = some (.slice AG mG cG) := F12VG.out.cell 3
  go_wp2_with fail
  refine (markScan_any s.ph s.ct s.vl _ _ _ _ _ _ O12q.out (by omega) (by omega)).mono ?_
  rintro e w13 ⟨rfl, ownq13, gr13⟩
  have hz13 := gr13.size
  have F13a := hide (F12a.out.keepOwn O12q.out gr13)
  have F13VW := hide (F12VW.out.keepOwn O12q.out gr13)
  have F13x := hide (F12x.out.keepOwn O12q.out gr13)
  have F13VG := hide (F12VG.out.keepOwn O12q.out gr13)
  have O13p := hide (O12p.out.keepLo gr13 O12q.out (fun g hg => by have := LTp.out g hg; omega))
  have O13pi := hide (O12pi.out.keepLo gr13 O12q.out (fun g hg => by have := LTpi.out g hg; omega))
  have O13W := hide (O12W.out.keepLo gr13 O12q.out (fun g hg => by have := LTW.out g hg; omega))
  have O13qi := hide (O12qi.out.keepHi gr13 (fun g hg => by have := LTq.out g hg; omega))
  have O13G := hide (O12G.out.keepHi gr13 (fun g hg => by have := LTq.out g hg; omega))
  have O13y := hide (O12y.out.keepHi gr13 (fun g hg => by have := LTq.out g hg; omega))
  have O13yi := hide (O12yi.out.keepHi gr13 (fun g hg => by have := LTq.out g hg; omega))
  have B13 := hide (below_mark (B12.out) O12q.out (by omega) gr13)
  have a13_l := F13a.out.lt
  have a13_0 : w13.cell? ⟨w.heap.size, 0, none⟩ = some (.int .i64 s.ph) := F13a.out.cell 0
  have a13_1 : w13.cell? ⟨w.heap.size, 1, none⟩ = some (.int .i64 s.ct) := F13a.out.cell 1
  have a13_2 : w13.cell? ⟨w.heap.size, 2, none⟩ = some (.int .i64 s.vl) := F13a.out.cell 2
  have a13_3 : w13.cell? ⟨w.heap.size, 3, none⟩ = some (.slice A n c) := F13a.out.cell 3
  have VW13_l := F13VW.out.lt
  have VW13_0 : w13.cell? ⟨w4.heap.size, 0, none⟩ = some (.int .i64 ((scR s zs).1).ph) := F13VW.out.cell 0
  have VW13_1 : w13.cell? ⟨w4.heap.size, 1, none⟩ = some (.int .i64 ((scR s zs).1).ct) := F13VW.out.cell 1
  have VW13_2 : w13.cell? ⟨w4.heap.size, 2, none⟩ = some (.int .i64 ((scR s zs).1).vl) := F13VW.out.cell 2
  have VW13_3 : w13.cell? ⟨w4.heap.size, 3, none⟩ = some (.slice AW mW cW) := F13VW.out.cell 3
  have x13_l := F13x.out.lt
  have x13_0 : w13.cell? ⟨w5.heap.size, 0, none⟩ = some (.int .i64 s.ph) := F13x.out.cell 0
  have x13_1 : w13.cell? ⟨w5.heap.size, 1, none⟩ = some (.int .i64 s.ct) := F13x.out.cell 1
  have x13_2 : w13.cell? ⟨w5.heap.size, 2, none⟩ = some (.int .i64 s.vl) := F13x.out.cell 2
  have x13_3 : w13.cell? ⟨w5.heap.size, 3, none⟩ = some (.slice (some ⟨gq, 0, none⟩) n n) := F13x.out.cell 3
  have VG13_l := F13VG.out.lt
  have VG13_0 : w13.cell? ⟨w7.heap.size, 0, none⟩ = some (.int .i64 ((scR s zs).1).ph) := F13VG.out.cell 0
  have VG13_1 : w13.cell? ⟨w7.heap.size, 1, none⟩ = some (.int .i64 ((scR s zs).1).ct) := F13VG.out.cell 1
  have VG13_2 : w13.cell? ⟨w7.heap.size, 2, none⟩ = some (.int .i64 ((scR s zs).1).vl) := F13VG.out.cell 2
  have VG13_3 : w13.cell? ⟨w7.heap.size, 3, none⟩ = some (.slice AG mG cG) := F13VG.out.cell 3
  have O13q := hide ownq13
  clear ownq13 gr13
  go_wp2_with fail
  refine (markInt64S_any _ _ _ _ _ _ _ O13qi.out (by omega) (by omega) (by omega)).mono ?_
  rintro e w14 ⟨rfl, ownqi14, gr14⟩
  have hz14 := gr14.size
  have F14a := hide (F13a.out.keepOwn O13qi.out gr14)
  have F14VW := hide (F13VW.out.keepOwn O13qi.out gr14)
  have F14x := hide (F13x.out.keepOwn O13qi.out gr14)
  have F14VG := hide (F13VG.out.keepOwn O13qi.out gr14)
  have O14p := hide (O13p.out.keepLo gr14 O13qi.out (fun g hg => by have := LTp.out g hg; omega))
  have O14pi := hide (O13pi.out.keepLo gr14 O13qi.out (fun g hg => by have := LTpi.out g hg; omega))
  have O14W := hide (O13W.out.keepLo gr14 O13qi.out (fun g hg => by have := LTW.out g hg; omega))
  have O14q := hide (O13q.out.keepLo gr14 O13qi.out (fun g hg => by have := LTq.out g hg; omega))
  have O14G := hide (O13G.out.keepHi gr14 (fun g hg => by have := LTqi.out g hg; omega))
  have O14y := hide (O13y.out.keepHi gr14 (fun g hg => by have := LTqi.out g hg; omega))
  have O14yi := hide (O13yi.out.keepHi gr14 (fun g hg => by have := LTqi.out g hg; omega))
  have B14 := hide (below_mark (B13.out) O13qi.out (by omega) gr14)
  have a14_l := F14a.out.lt
  have a14_0 : w14.cell? ⟨w.heap.size, 0, none⟩ = some (.int .i64 s.ph) := F14a.out.cell 0
  have a14_1 : w14.cell? ⟨w.heap.size, 1, none⟩ = some (.int .i64 s.ct) := F14a.out.cell 1
  have a14_2 : w14.cell? ⟨w.heap.size, 2, none⟩ = some (.int .i64 s.vl) := F14a.out.cell 2
  have a14_3 : w14.cell? ⟨w.heap.size, 3, none⟩ = some (.slice A n c) := F14a.out.cell 3
  have VW14_l := F14VW.out.lt
  have VW14_0 : w14.cell? ⟨w4.heap.size, 0, none⟩ = some (.int .i64 ((scR s zs).1).ph) := F14VW.out.cell 0
  have VW14_1 : w14.cell? ⟨w4.heap.size, 1, none⟩ = some (.int .i64 ((scR s zs).1).ct) := F14VW.out.cell 1
  have VW14_2 : w14.cell? ⟨w4.heap.size, 2, none⟩ = some (.int .i64 ((scR s zs).1).vl) := F14VW.out.cell 2
  have VW14_3 : w14.cell? ⟨w4.heap.size, 3, none⟩ = some (.slice AW mW cW) := F14VW.out.cell 3
  have x14_l := F14x.out.lt
  have x14_0 : w14.cell? ⟨w5.heap.size, 0, none⟩ = some (.int .i64 s.ph) := F14x.out.cell 0
  have x14_1 : w14.cell? ⟨w5.heap.size, 1, none⟩ = some (.int .i64 s.ct) := F14x.out.cell 1
  have x14_2 : w14.cell? ⟨w5.heap.size, 2, none⟩ = some (.int .i64 s.vl) := F14x.out.cell 2
  have x14_3 : w14.cell? ⟨w5.heap.size, 3, none⟩ = some (.slice (some ⟨gq, 0, none⟩) n n) := F14x.out.cell 3
  have VG14_l := F14VG.out.lt
  have VG14_0 : w14.cell? ⟨w7.heap.size, 0, none⟩ = some (.int .i64 ((scR s zs).1).ph) := F14VG.out.cell 0
  have VG14_1 : w14.cell? ⟨w7.heap.size, 1, none⟩ = some (.int .i64 ((scR s zs).1).ct) := F14VG.out.cell 1
  have VG14_2 : w14.cell? ⟨w7.heap.size, 2, none⟩ = some (.int .i64 ((scR s zs).1).vl) := F14VG.out.cell 2
  have VG14_3 : w14.cell? ⟨w7.heap.size, 3, none⟩ = some (.slice AG mG cG) := F14VG.out.cell 3
  have O14qi := hide ownqi14
  clear ownqi14 gr14
  go_wp2_with fail
  refine (eqScan_eq ((scR s zs).1).ph ((scR s zs).1).ct ((scR s zs).1).vl _ _ _ _ _ _ ((scR s zs).1).bs _ O14G.out.rd O14W.out.rd).mono ?_
  rintro e w15 ⟨rfl, b15⟩
  have bb15 : Below w14.heap.size w14 w15 := b15
  have hz15 := bb15.size
  have F15a := hide (F14a.out.below bb15)
  have F15VW := hide (F14VW.out.below bb15)
  have F15x := hide (F14x.out.below bb15)
  have F15VG := hide (F14VG.out.below bb15)
  have O15p := hide (O14p.out.below bb15)
  have O15pi := hide (O14pi.out.below bb15)
  have O15W := hide (O14W.out.below bb15)
  have O15q := hide (O14q.out.below bb15)
  have O15qi := hide (O14qi.out.below bb15)
  have O15G := hide (O14G.out.below bb15)
  have O15y := hide (O14y.out.below bb15)
  have O15yi := hide (O14yi.out.below bb15)
  have B15 := hide (below_trans (B14.out) bb15)
  have a15_l := F15a.out.lt
  have a15_0 : w15.cell? ⟨w.heap.size, 0, none⟩ = some (.int .i64 s.ph) := F15a.out.cell 0
  have a15_1 : w15.cell? ⟨w.heap.size, 1, none⟩ = some (.int .i64 s.ct) := F15a.out.cell 1
  have a15_2 : w15.cell? ⟨w.heap.size, 2, none⟩ = some (.int .i64 s.vl) := F15a.out.cell 2
  have a15_3 : w15.cell? ⟨w.heap.size, 3, none⟩ = some (.slice A n c) := F15a.out.cell 3
  have VW15_l := F15VW.out.lt
  have VW15_0 : w15.cell? ⟨w4.heap.size, 0, none⟩ = some (.int .i64 ((scR s zs).1).ph) := F15VW.out.cell 0
  have VW15_1 : w15.cell? ⟨w4.heap.size, 1, none⟩ = some (.int .i64 ((scR s zs).1).ct) := F15VW.out.cell 1
  have VW15_2 : w15.cell? ⟨w4.heap.size, 2, none⟩ = some (.int .i64 ((scR s zs).1).vl) := F15VW.out.cell 2
  have VW15_3 : w15.cell? ⟨w4.heap.size, 3, none⟩ = some (.slice AW mW cW) := F15VW.out.cell 3
  have x15_l := F15x.out.lt
  have x15_0 : w15.cell? ⟨w5.heap.size, 0, none⟩ = some (.int .i64 s.ph) := F15x.out.cell 0
  have x15_1 : w15.cell? ⟨w5.heap.size, 1, none⟩ = some (.int .i64 s.ct) := F15x.out.cell 1
  have x15_2 : w15.cell? ⟨w5.heap.size, 2, none⟩ = some (.int .i64 s.vl) := F15x.out.cell 2
  have x15_3 : w15.cell? ⟨w5.heap.size, 3, none⟩ = some (.slice (some ⟨gq, 0, none⟩) n n) := F15x.out.cell 3
  have VG15_l := F15VG.out.lt
  have VG15_0 : w15.cell? ⟨w7.heap.size, 0, none⟩ = some (.int .i64 ((scR s zs).1).ph) := F15VG.out.cell 0
  have VG15_1 : w15.cell? ⟨w7.heap.size, 1, none⟩ = some (.int .i64 ((scR s zs).1).ct) := F15VG.out.cell 1
  have VG15_2 : w15.cell? ⟨w7.heap.size, 2, none⟩ = some (.int .i64 ((scR s zs).1).vl) := F15VG.out.cell 2
  have VG15_3 : w15.cell? ⟨w7.heap.size, 3, none⟩ = some (.slice AG mG cG) := F15VG.out.cell 3
  go_wp2_with fail
  refine (markScan_any ((scR s zs).1).ph ((scR s zs).1).ct ((scR s zs).1).vl _ _ _ _ _ _ O15G.out (by omega) (by omega)).mono ?_
  rintro e w16 ⟨rfl, ownG16, gr16⟩
  have hz16 := gr16.size
  have F16a := hide (F15a.out.keepOwn O15G.out gr16)
  have F16VW := hide (F15VW.out.keepOwn O15G.out gr16)
  have F16x := hide (F15x.out.keepOwn O15G.out gr16)
  have F16VG := hide (F15VG.out.keepOwn O15G.out gr16)
  have O16p := hide (O15p.out.keepLo gr16 O15G.out (fun g hg => by have := LTp.out g hg; omega))
  have O16pi := hide (O15pi.out.keepLo gr16 O15G.out (fun g hg => by have := LTpi.out g hg; omega))
  have O16W := hide (O15W.out.keepLo gr16 O15G.out (fun g hg => by have := LTW.out g hg; omega))
  have O16q := hide (O15q.out.keepLo gr16 O15G.out (fun g hg => by have := LTq.out g hg; omega))
  have O16qi := hide (O15qi.out.keepLo gr16 O15G.out (fun g hg => by have := LTqi.out g hg; omega))
  have O16y := hide (O15y.out.keepHi gr16 (fun g hg => by have := LTG.out g hg; omega))
  have O16yi := hide (O15yi.out.keepHi gr16 (fun g hg => by have := LTG.out g hg; omega))
  have B16 := hide (below_mark (B15.out) O15G.out (by omega) gr16)
  have a16_l := F16a.out.lt
  have a16_0 : w16.cell? ⟨w.heap.size, 0, none⟩ = some (.int .i64 s.ph) := F16a.out.cell 0
  have a16_1 : w16.cell? ⟨w.heap.size, 1, none⟩ = some (.int .i64 s.ct) := F16a.out.cell 1
  have a16_2 : w16.cell? ⟨w.heap.size, 2, none⟩ = some (.int .i64 s.vl) := F16a.out.cell 2
  have a16_3 : w16.cell? ⟨w.heap.size, 3, none⟩ = some (.slice A n c) := F16a.out.cell 3
  have VW16_l := F16VW.out.lt
  have VW16_0 : w16.cell? ⟨w4.heap.size, 0, none⟩ = some (.int .i64 ((scR s zs).1).ph) := F16VW.out.cell 0
  have VW16_1 : w16.cell? ⟨w4.heap.size, 1, none⟩ = some (.int .i64 ((scR s zs).1).ct) := F16VW.out.cell 1
  have VW16_2 : w16.cell? ⟨w4.heap.size, 2, none⟩ = some (.int .i64 ((scR s zs).1).vl) := F16VW.out.cell 2
  have VW16_3 : w16.cell? ⟨w4.heap.size, 3, none⟩ = some (.slice AW mW cW) := F16VW.out.cell 3
  have x16_l := F16x.out.lt
  have x16_0 : w16.cell? ⟨w5.heap.size, 0, none⟩ = some (.int .i64 s.ph) := F16x.out.cell 0
  have x16_1 : w16.cell? ⟨w5.heap.size, 1, none⟩ = some (.int .i64 s.ct) := F16x.out.cell 1
  have x16_2 : w16.cell? ⟨w5.heap.size, 2, none⟩ = some (.int .i64 s.vl) := F16x.out.cell 2
  have x16_3 : w16.cell? ⟨w5.heap.size, 3, none⟩ = some (.slice (some ⟨gq, 0, none⟩) n n) := F16x.out.cell 3
  have VG16_l := F16VG.out.lt
  have VG16_0 : w16.cell? ⟨w7.heap.size, 0, none⟩ = some (.int .i64 ((scR s zs).1).ph) := F16VG.out.cell 0
  have VG16_1 : w16.cell? ⟨w7.heap.size, 1, none⟩ = some (.int .i64 ((scR s zs).1).ct) := F16VG.out.cell 1
  have VG16_2 : w16.cell? ⟨w7.heap.size, 2, none⟩ = some (.int .i64 ((scR s zs).1).vl) := F16VG.out.cell 2
  have VG16_3 : w16.cell? ⟨w7.heap.size, 3, none⟩ = some (.slice AG mG cG) := F16VG.out.cell 3
  have O16G := hide ownG16
  clear ownG16 gr16
  go_wp2_with fail
  refine (heldScan_any ((scR s zs).1).ph ((scR s zs).1).ct ((scR s zs).1).vl _ _ _ _ O16G.out.rd (by omega)).mono ?_
  rintro e w17 ⟨rfl, b17⟩
  have bb17 : Below w16.heap.size w16 w17 := b17
  have hz17 := bb17.size
  have F17a := hide (F16a.out.below bb17)
  have F17VW := hide (F16VW.out.below bb17)
  have F17x := hide (F16x.out.below bb17)
  have F17VG := hide (F16VG.out.below bb17)
  have O17p := hide (O16p.out.below bb17)
  have O17pi := hide (O16pi.out.below bb17)
  have O17W := hide (O16W.out.below bb17)
  have O17q := hide (O16q.out.below bb17)
  have O17qi := hide (O16qi.out.below bb17)
  have O17G := hide (O16G.out.below bb17)
  have O17y := hide (O16y.out.below bb17)
  have O17yi := hide (O16yi.out.below bb17)
  have B17 := hide (below_trans (B16.out) bb17)
  have a17_l := F17a.out.lt
  have a17_0 : w17.cell? ⟨w.heap.size, 0, none⟩ = some (.int .i64 s.ph) := F17a.out.cell 0
  have a17_1 : w17.cell? ⟨w.heap.size, 1, none⟩ = some (.int .i64 s.ct) := F17a.out.cell 1
  have a17_2 : w17.cell? ⟨w.heap.size, 2, none⟩ = some (.int .i64 s.vl) := F17a.out.cell 2
  have a17_3 : w17.cell? ⟨w.heap.size, 3, none⟩ = some (.slice A n c) := F17a.out.cell 3
  have VW17_l := F17VW.out.lt
  have VW17_0 : w17.cell? ⟨w4.heap.size, 0, none⟩ = some (.int .i64 ((scR s zs).1).ph) := F17VW.out.cell 0
  have VW17_1 : w17.cell? ⟨w4.heap.size, 1, none⟩ = some (.int .i64 ((scR s zs).1).ct) := F17VW.out.cell 1
  have VW17_2 : w17.cell? ⟨w4.heap.size, 2, none⟩ = some (.int .i64 ((scR s zs).1).vl) := F17VW.out.cell 2
  have VW17_3 : w17.cell? ⟨w4.heap.size, 3, none⟩ = some (.slice AW mW cW) := F17VW.out.cell 3
  have x17_l := F17x.out.lt
  have x17_0 : w17.cell? ⟨w5.heap.size, 0, none⟩ = some (.int .i64 s.ph) := F17x.out.cell 0
  have x17_1 : w17.cell? ⟨w5.heap.size, 1, none⟩ = some (.int .i64 s.ct) := F17x.out.cell 1
  have x17_2 : w17.cell? ⟨w5.heap.size, 2, none⟩ = some (.int .i64 s.vl) := F17x.out.cell 2
  have x17_3 : w17.cell? ⟨w5.heap.size, 3, none⟩ = some (.slice (some ⟨gq, 0, none⟩) n n) := F17x.out.cell 3
  have VG17_l := F17VG.out.lt
  have VG17_0 : w17.cell? ⟨w7.heap.size, 0, none⟩ = some (.int .i64 ((scR s zs).1).ph) := F17VG.out.cell 0
  have VG17_1 : w17.cell? ⟨w7.heap.size, 1, none⟩ = some (.int .i64 ((scR s zs).1).ct) := F17VG.out.cell 1
  have VG17_2 : w17.cell? ⟨w7.heap.size, 2, none⟩ = some (.int .i64 ((scR s zs).1).vl) := F17VG.out.cell 2
  have VG17_3 : w17.cell? ⟨w7.heap.size, 3, none⟩ = some (.slice AG mG cG) := F17VG.out.cell 3
  go_wp2_with fail
  refine (toScan_any s.ph s.ct s.vl A n c s.bs _ (h.below (B17.out)) (by omega)).mono ?_
  rintro e w18 ⟨gr, rfl, ownr, b18⟩
  have bb18 : Below w17.heap.size w17 w18 := b18
  have hz18 := bb18.size
  have F18a := hide (F17a.out.below bb18)
  have F18VW := hide (F17VW.out.below bb18)
  have F18x := hide (F17x.out.below bb18)
  have F18VG := hide (F17VG.out.below bb18)
  have O18p := hide (O17p.out.below bb18)
  have O18pi := hide (O17pi.out.below bb18)
  have O18W := hide (O17W.out.below bb18)
  have O18q := hide (O17q.out.below bb18)
  have O18qi := hide (O17qi.out.below bb18)
  have O18G := hide (O17G.out.below bb18)
  have O18y := hide (O17y.out.below bb18)
  have O18yi := hide (O17yi.out.below bb18)
  have B18 := hide (below_trans (B17.out) bb18)
  have a18_l := F18a.out.lt
  have a18_0 : w18.cell? ⟨w.heap.size, 0, none⟩ = some (.int .i64 s.ph) := F18a.out.cell 0
  have a18_1 : w18.cell? ⟨w.heap.size, 1, none⟩ = some (.int .i64 s.ct) := F18a.out.cell 1
  have a18_2 : w18.cell? ⟨w.heap.size, 2, none⟩ = some (.int .i64 s.vl) := F18a.out.cell 2
  have a18_3 : w18.cell? ⟨w.heap.size, 3, none⟩ = some (.slice A n c) := F18a.out.cell 3
  have VW18_l := F18VW.out.lt
  have VW18_0 : w18.cell? ⟨w4.heap.size, 0, none⟩ = some (.int .i64 ((scR s zs).1).ph) := F18VW.out.cell 0
  have VW18_1 : w18.cell? ⟨w4.heap.size, 1, none⟩ = some (.int .i64 ((scR s zs).1).ct) := F18VW.out.cell 1
  have VW18_2 : w18.cell? ⟨w4.heap.size, 2, none⟩ = some (.int .i64 ((scR s zs).1).vl) := F18VW.out.cell 2
  have VW18_3 : w18.cell? ⟨w4.heap.size, 3, none⟩ = some (.slice AW mW cW) := F18VW.out.cell 3
  have x18_l := F18x.out.lt
  have x18_0 : w18.cell? ⟨w5.heap.size, 0, none⟩ = some (.int .i64 s.ph) := F18x.out.cell 0
  have x18_1 : w18.cell? ⟨w5.heap.size, 1, none⟩ = some (.int .i64 s.ct) := F18x.out.cell 1
  have x18_2 : w18.cell? ⟨w5.heap.size, 2, none⟩ = some (.int .i64 s.vl) := F18x.out.cell 2
  have x18_3 : w18.cell? ⟨w5.heap.size, 3, none⟩ = some (.slice (some ⟨gq, 0, none⟩) n n) := F18x.out.cell 3
  have VG18_l := F18VG.out.lt
  have VG18_0 : w18.cell? ⟨w7.heap.size, 0, none⟩ = some (.int .i64 ((scR s zs).1).ph) := F18VG.out.cell 0
  have VG18_1 : w18.cell? ⟨w7.heap.size, 1, none⟩ = some (.int .i64 ((scR s zs).1).ct) := F18VG.out.cell 1
  have VG18_2 : w18.cell? ⟨w7.heap.size, 2, none⟩ = some (.int .i64 ((scR s zs).1).vl) := F18VG.out.cell 2
  have VG18_3 : w18.cell? ⟨w7.heap.size, 3, none⟩ = some (.slice AG mG cG) := F18VG.out.cell 3
  have O18r := hide ownr
  have LTr : Hid (∀ g, (Value.slice (some ⟨gr, 0, none⟩) n n).ownBlock = some g → g < w18.heap.size) := fun g hg => (ownr.row.lt g hg).2
  clear ownr
  go_wp2_with fail
  refine (toInt64S_any A1 n1 c1 zs _ (h1.below (B18.out)) (by omega)).mono ?_
  rintro e w19 ⟨gri, rfl, ownri, b19⟩
  have bb19 : Below w18.heap.size w18 w19 := b19
  have hz19 := bb19.size
  have F19a := hide (F18a.out.below bb19)
  have F19VW := hide (F18VW.out.below bb19)
  have F19x := hide (F18x.out.below bb19)
  have F19VG := hide (F18VG.out.below bb19)
  have O19p := hide (O18p.out.below bb19)
  have O19pi := hide (O18pi.out.below bb19)
  have O19W := hide (O18W.out.below bb19)
  have O19q := hide (O18q.out.below bb19)
  have O19qi := hide (O18qi.out.below bb19)
  have O19G := hide (O18G.out.below bb19)
  have O19y := hide (O18y.out.below bb19)
  have O19yi := hide (O18yi.out.below bb19)
  have O19r := hide (O18r.out.below bb19)
  have B19 := hide (below_trans (B18.out) bb19)
  have a19_l := F19a.out.lt
  have a19_0 : w19.cell? ⟨w.heap.size, 0, none⟩ = some (.int .i64 s.ph) := F19a.out.cell 0
  have a19_1 : w19.cell? ⟨w.heap.size, 1, none⟩ = some (.int .i64 s.ct) := F19a.out.cell 1
  have a19_2 : w19.cell? ⟨w.heap.size, 2, none⟩ = some (.int .i64 s.vl) := F19a.out.cell 2
  have a19_3 : w19.cell? ⟨w.heap.size, 3, none⟩ = some (.slice A n c) := F19a.out.cell 3
  have VW19_l := F19VW.out.lt
  have VW19_0 : w19.cell? ⟨w4.heap.size, 0, none⟩ = some (.int .i64 ((scR s zs).1).ph) := F19VW.out.cell 0
  have VW19_1 : w19.cell? ⟨w4.heap.size, 1, none⟩ = some (.int .i64 ((scR s zs).1).ct) := F19VW.out.cell 1
  have VW19_2 : w19.cell? ⟨w4.heap.size, 2, none⟩ = some (.int .i64 ((scR s zs).1).vl) := F19VW.out.cell 2
  have VW19_3 : w19.cell? ⟨w4.heap.size, 3, none⟩ = some (.slice AW mW cW) := F19VW.out.cell 3
  have x19_l := F19x.out.lt
  have x19_0 : w19.cell? ⟨w5.heap.size, 0, none⟩ = some (.int .i64 s.ph) := F19x.out.cell 0
  have x19_1 : w19.cell? ⟨w5.heap.size, 1, none⟩ = some (.int .i64 s.ct) := F19x.out.cell 1
  have x19_2 : w19.cell? ⟨w5.heap.size, 2, none⟩ = some (.int .i64 s.vl) := F19x.out.cell 2
  have x19_3 : w19.cell? ⟨w5.heap.size, 3, none⟩ = some (.slice (some ⟨gq, 0, none⟩) n n) := F19x.out.cell 3
  have VG19_l := F19VG.out.lt
  have VG19_0 : w19.cell? ⟨w7.heap.size, 0, none⟩ = some (.int .i64 ((scR s zs).1).ph) := F19VG.out.cell 0
  have VG19_1 : w19.cell? ⟨w7.heap.size, 1, none⟩ = some (.int .i64 ((scR s zs).1).ct) := F19VG.out.cell 1
  have VG19_2 : w19.cell? ⟨w7.heap.size, 2, none⟩ = some (.int .i64 ((scR s zs).1).vl) := F19VG.out.cell 2
  have VG19_3 : w19.cell? ⟨w7.heap.size, 3, none⟩ = some (.slice AG mG cG) := F19VG.out.cell 3
  have O19ri := hide ownri
  have LTri : Hid (∀ g, (Value.slice (some ⟨gri, 0, none⟩) n1 n1).ownBlock = some g → g < w19.heap.size) := fun g hg => (ownri.row.lt g hg).2
  clear ownri
  go_wp2_with fail
  refine (iScanCells_c s _ n n _ n1 n1 zs _ O19r.out.rd O19ri.out.rd (by omega) (by omega)).mono ?_
  rintro e w20 ⟨AH, mH, cH, rfl, ownH, b20, hmH⟩
  have bb20 : Below w19.heap.size w19 w20 := b20
  have hz20 := bb20.size
  have F20a := hide (F19a.out.below bb20)
  have F20VW := hide (F19VW.out.below bb20)
  have F20x := hide (F19x.out.below bb20)
  have F20VG := hide (F19VG.out.below bb20)
  have O20p := hide (O19p.out.below bb20)
  have O20pi := hide (O19pi.out.below bb20)
  have O20W := hide (O19W.out.below bb20)
  have O20q := hide (O19q.out.below bb20)
  have O20qi := hide (O19qi.out.below bb20)
  have O20G := hide (O19G.out.below bb20)
  have O20y := hide (O19y.out.below bb20)
  have O20yi := hide (O19yi.out.below bb20)
  have O20r := hide (O19r.out.below bb20)
  have O20ri := hide (O19ri.out.below bb20)
  have B20 := hide (below_trans (B19.out) bb20)
  have a20_l := F20a.out.lt
  have a20_0 : w20.cell? ⟨w.heap.size, 0, none⟩ = some (.int .i64 s.ph) := F20a.out.cell 0
  have a20_1 : w20.cell? ⟨w.heap.size, 1, none⟩ = some (.int .i64 s.ct) := F20a.out.cell 1
  have a20_2 : w20.cell? ⟨w.heap.size, 2, none⟩ = some (.int .i64 s.vl) := F20a.out.cell 2
  have a20_3 : w20.cell? ⟨w.heap.size, 3, none⟩ = some (.slice A n c) := F20a.out.cell 3
  have VW20_l := F20VW.out.lt
  have VW20_0 : w20.cell? ⟨w4.heap.size, 0, none⟩ = some (.int .i64 ((scR s zs).1).ph) := F20VW.out.cell 0
  have VW20_1 : w20.cell? ⟨w4.heap.size, 1, none⟩ = some (.int .i64 ((scR s zs).1).ct) := F20VW.out.cell 1
  have VW20_2 : w20.cell? ⟨w4.heap.size, 2, none⟩ = some (.int .i64 ((scR s zs).1).vl) := F20VW.out.cell 2
  have VW20_3 : w20.cell? ⟨w4.heap.size, 3, none⟩ = some (.slice AW mW cW) := F20VW.out.cell 3
  have x20_l := F20x.out.lt
  have x20_0 : w20.cell? ⟨w5.heap.size, 0, none⟩ = some (.int .i64 s.ph) := F20x.out.cell 0
  have x20_1 : w20.cell? ⟨w5.heap.size, 1, none⟩ = some (.int .i64 s.ct) := F20x.out.cell 1
  have x20_2 : w20.cell? ⟨w5.heap.size, 2, none⟩ = some (.int .i64 s.vl) := F20x.out.cell 2
  have x20_3 : w20.cell? ⟨w5.heap.size, 3, none⟩ = some (.slice (some ⟨gq, 0, none⟩) n n) := F20x.out.cell 3
  have VG20_l := F20VG.out.lt
  have VG20_0 : w20.cell? ⟨w7.heap.size, 0, none⟩ = some (.int .i64 ((scR s zs).1).ph) := F20VG.out.cell 0
  have VG20_1 : w20.cell? ⟨w7.heap.size, 1, none⟩ = some (.int .i64 ((scR s zs).1).ct) := F20VG.out.cell 1
  have VG20_2 : w20.cell? ⟨w7.heap.size, 2, none⟩ = some (.int .i64 ((scR s zs).1).vl) := F20VG.out.cell 2
  have VG20_3 : w20.cell? ⟨w7.heap.size, 3, none⟩ = some (.slice AG mG cG) := F20VG.out.cell 3
  have O20H := hide ownH
  have LTH : Hid (∀ g, (Value.slice AH mH cH).ownBlock = some g → g < w20.heap.size) := fun g hg => (ownH.row.lt g hg).2
  clear ownH
  go_wp2_with fail
  have bA20 : Below w20.heap.size w20 (w20.alloc (.cells #[.int .i64 ((scR s zs).1).ph, .int .i64 ((scR s zs).1).ct, .int .i64 ((scR s zs).1).vl, .slice AH mH cH] 30)) := (Below.refl _ _).alloc (Nat.le_refl _) _
  refine (eqScan_eq ((scR s zs).1).ph ((scR s zs).1).ct ((scR s zs).1).vl _ _ _ _ _ _ ((scR s zs).1).bs _ (O20H.out.below bA20).rd (O20W.out.below bA20).rd).mono ?_
  rintro e w21 ⟨rfl, b21⟩
  have bb21 : Below w20.heap.size w20 w21 := below_trans bA20 b21
  have hz21 := bb21.size
  have F21a := hide (F20a.out.below bb21)
  have F21VW := hide (F20VW.out.below bb21)
  have F21x := hide (F20x.out.below bb21)
  have F21VG := hide (F20VG.out.below bb21)
  have F21VH := hide ((ScnAt.fresh w20 #[.int .i64 ((scR s zs).1).ph, .int .i64 ((scR s zs).1).ct, .int .i64 ((scR s zs).1).vl, .slice AH mH cH]).below b21)
  have O21p := hide (O20p.out.below bb21)
  have O21pi := hide (O20pi.out.below bb21)
  have O21W := hide (O20W.out.below bb21)
  have O21q := hide (O20q.out.below bb21)
  have O21qi := hide (O20qi.out.below bb21)
  have O21G := hide (O20G.out.below bb21)
  have O21y := hide (O20y.out.below bb21)
  have O21yi := hide (O20yi.out.below bb21)
  have O21r := hide (O20r.out.below bb21)
  have O21ri := hide (O20ri.out.below bb21)
  have O21H := hide (O20H.out.below bb21)
  have B21 := hide (below_trans (B20.out) bb21)
  have a21_l := F21a.out.lt
  have a21_0 : w21.cell? ⟨w.heap.size, 0, none⟩ = some (.int .i64 s.ph) := F21a.out.cell 0
  have a21_1 : w21.cell? ⟨w.heap.size, 1, none⟩ = some (.int .i64 s.ct) := F21a.out.cell 1
  have a21_2 : w21.cell? ⟨w.heap.size, 2, none⟩ = some (.int .i64 s.vl) := F21a.out.cell 2
  have a21_3 : w21.cell? ⟨w.heap.size, 3, none⟩ = some (.slice A n c) := F21a.out.cell 3
  have VW21_l := F21VW.out.lt
  have VW21_0 : w21.cell? ⟨w4.heap.size, 0, none⟩ = some (.int .i64 ((scR s zs).1).ph) := F21VW.out.cell 0
  have VW21_1 : w21.cell? ⟨w4.heap.size, 1, none⟩ = some (.int .i64 ((scR s zs).1).ct) := F21VW.out.cell 1
  have VW21_2 : w21.cell? ⟨w4.heap.size, 2, none⟩ = some (.int .i64 ((scR s zs).1).vl) := F21VW.out.cell 2
  have VW21_3 : w21.cell? ⟨w4.heap.size, 3, none⟩ = some (.slice AW mW cW) := F21VW.out.cell 3
  have x21_l := F21x.out.lt
  have x21_0 : w21.cell? ⟨w5.heap.size, 0, none⟩ = some (.int .i64 s.ph) := F21x.out.cell 0
  have x21_1 : w21.cell? ⟨w5.heap.size, 1, none⟩ = some (.int .i64 s.ct) := F21x.out.cell 1
  have x21_2 : w21.cell? ⟨w5.heap.size, 2, none⟩ = some (.int .i64 s.vl) := F21x.out.cell 2
  have x21_3 : w21.cell? ⟨w5.heap.size, 3, none⟩ = some (.slice (some ⟨gq, 0, none⟩) n n) := F21x.out.cell 3
  have VG21_l := F21VG.out.lt
  have VG21_0 : w21.cell? ⟨w7.heap.size, 0, none⟩ = some (.int .i64 ((scR s zs).1).ph) := F21VG.out.cell 0
  have VG21_1 : w21.cell? ⟨w7.heap.size, 1, none⟩ = some (.int .i64 ((scR s zs).1).ct) := F21VG.out.cell 1
  have VG21_2 : w21.cell? ⟨w7.heap.size, 2, none⟩ = some (.int .i64 ((scR s zs).1).vl) := F21VG.out.cell 2
  have VG21_3 : w21.cell? ⟨w7.heap.size, 3, none⟩ = some (.slice AG mG cG) := F21VG.out.cell 3
  have VH21_l := F21VH.out.lt
  have VH21_0 : w21.cell? ⟨w20.heap.size, 0, none⟩ = some (.int .i64 ((scR s zs).1).ph) := F21VH.out.cell 0
  have VH21_1 : w21.cell? ⟨w20.heap.size, 1, none⟩ = some (.int .i64 ((scR s zs).1).ct) := F21VH.out.cell 1
  have VH21_2 : w21.cell? ⟨w20.heap.size, 2, none⟩ = some (.int .i64 ((scR s zs).1).vl) := F21VH.out.cell 2
  have VH21_3 : w21.cell? ⟨w20.heap.size, 3, none⟩ = some (.slice AH mH cH) := F21VH.out.cell 3
  go_wp2_with fail
  refine (heldScan_any ((scR s zs).1).ph ((scR s zs).1).ct ((scR s zs).1).vl _ _ _ _ O21G.out.rd (by omega)).mono ?_
  rintro e w22 ⟨rfl, b22⟩
  have bb22 : Below w21.heap.size w21 w22 := b22
  have hz22 := bb22.size
  have F22a := hide (F21a.out.below bb22)
  have F22VW := hide (F21VW.out.below bb22)
  have F22x := hide (F21x.out.below bb22)
  have F22VG := hide (F21VG.out.below bb22)
  have F22VH := hide (F21VH.out.below bb22)
  have O22p := hide (O21p.out.below bb22)
  have O22pi := hide (O21pi.out.below bb22)
  have O22W := hide (O21W.out.below bb22)
  have O22q := hide (O21q.out.below bb22)
  have O22qi := hide (O21qi.out.below bb22)
  have O22G := hide (O21G.out.below bb22)
  have O22y := hide (O21y.out.below bb22)
  have O22yi := hide (O21yi.out.below bb22)
  have O22r := hide (O21r.out.below bb22)
  have O22ri := hide (O21ri.out.below bb22)
  have O22H := hide (O21H.out.below bb22)
  have B22 := hide (below_trans (B21.out) bb22)
  have a22_l := F22a.out.lt
  have a22_0 : w22.cell? ⟨w.heap.size, 0, none⟩ = some (.int .i64 s.ph) := F22a.out.cell 0
  have a22_1 : w22.cell? ⟨w.heap.size, 1, none⟩ = some (.int .i64 s.ct) := F22a.out.cell 1
  have a22_2 : w22.cell? ⟨w.heap.size, 2, none⟩ = some (.int .i64 s.vl) := F22a.out.cell 2
  have a22_3 : w22.cell? ⟨w.heap.size, 3, none⟩ = some (.slice A n c) := F22a.out.cell 3
  have VW22_l := F22VW.out.lt
  have VW22_0 : w22.cell? ⟨w4.heap.size, 0, none⟩ = some (.int .i64 ((scR s zs).1).ph) := F22VW.out.cell 0
  have VW22_1 : w22.cell? ⟨w4.heap.size, 1, none⟩ = some (.int .i64 ((scR s zs).1).ct) := F22VW.out.cell 1
  have VW22_2 : w22.cell? ⟨w4.heap.size, 2, none⟩ = some (.int .i64 ((scR s zs).1).vl) := F22VW.out.cell 2
  have VW22_3 : w22.cell? ⟨w4.heap.size, 3, none⟩ = some (.slice AW mW cW) := F22VW.out.cell 3
  have x22_l := F22x.out.lt
  have x22_0 : w22.cell? ⟨w5.heap.size, 0, none⟩ = some (.int .i64 s.ph) := F22x.out.cell 0
  have x22_1 : w22.cell? ⟨w5.heap.size, 1, none⟩ = some (.int .i64 s.ct) := F22x.out.cell 1
  have x22_2 : w22.cell? ⟨w5.heap.size, 2, none⟩ = some (.int .i64 s.vl) := F22x.out.cell 2
  have x22_3 : w22.cell? ⟨w5.heap.size, 3, none⟩ = some (.slice (some ⟨gq, 0, none⟩) n n) := F22x.out.cell 3
  have VG22_l := F22VG.out.lt
  have VG22_0 : w22.cell? ⟨w7.heap.size, 0, none⟩ = some (.int .i64 ((scR s zs).1).ph) := F22VG.out.cell 0
  have VG22_1 : w22.cell? ⟨w7.heap.size, 1, none⟩ = some (.int .i64 ((scR s zs).1).ct) := F22VG.out.cell 1
  have VG22_2 : w22.cell? ⟨w7.heap.size, 2, none⟩ = some (.int .i64 ((scR s zs).1).vl) := F22VG.out.cell 2
  have VG22_3 : w22.cell? ⟨w7.heap.size, 3, none⟩ = some (.slice AG mG cG) := F22VG.out.cell 3
  have VH22_l := F22VH.out.lt
  have VH22_0 : w22.cell? ⟨w20.heap.size, 0, none⟩ = some (.int .i64 ((scR s zs).1).ph) := F22VH.out.cell 0
  have VH22_1 : w22.cell? ⟨w20.heap.size, 1, none⟩ = some (.int .i64 ((scR s zs).1).ct) := F22VH.out.cell 1
  have VH22_2 : w22.cell? ⟨w20.heap.size, 2, none⟩ = some (.int .i64 ((scR s zs).1).vl) := F22VH.out.cell 2
  have VH22_3 : w22.cell? ⟨w20.heap.size, 3, none⟩ = some (.slice AH mH cH) := F22VH.out.cell 3
  go_wp2_with fail
  go_ret
  exact ⟨rfl, B22.out⟩
end Go.Proofs.Ytdodhjahihfaiaa
