/- The walk of FnScans: the recogniser's code answers as the reference at drawn scans, and cells may be read in two parts. Written by gen_fnscans.py. -/
import Derived.Test.YtdodhjahihfaiaaDrawT
import Derived.Test.YtdodhjahihfaiaaScanQ
import Derived.Test.YtdodhjahihfaiaaDice
import Derived.Test.YtdodhjahihfaiaaLMissingCells
import Derived.Deep.RegionHeld3
import Derived.Deep.RegionWith
namespace Go.Proofs.Ytdodhjahihfaiaa
open Go.RowKit
set_option linter.unusedVariables false
set_option linter.unusedSimpArgs false

theorem scR_split {s : Scn} {cs : List Int} (k : Nat) (h : (scR s cs).2 = 0) : (scR s (cs.take k)).2 = 0 ∧ scR (scR s (cs.take k)).1 (cs.drop k) = scR s cs ∧ scnB (scR s cs).1 = true := by
  cases hs : scnB s
  · rw [scR_no hs] at h; cases h
  · rw [scR_yes hs] at h ⊢
    rw [scR_yes hs]
    have h' : (scanR s (cs.take k ++ cs.drop k)).2 = 0 := by rw [List.take_append_drop]; exact h
    obtain ⟨e1, e2⟩ := scanR_append h'
    rw [List.take_append_drop] at e2
    exact ⟨e1, by rw [scR_yes (scanR_valid hs e1)]; exact e2, scanR_valid hs h⟩
theorem beqT (x : Int) : (x == x) = true := by simp
theorem neqS (x : Int) : (x != x) = false := by simp
theorem neqb (x : Bool) : (x != x) = false := by simp
theorem below_drewS {B : Nat} {a w : World} (h : Below B a.drew w) : Below B a w := ⟨h.os, h.tape, h.output, h.size, h.block⟩
theorem iScan_rest (s : Scn) (A : Option Addr) (n c : Nat) (A1 : Option Addr) (n1 c1 : Nat) (zs : List Int) (k : Nat) (w : World) (h : Rd w A n c (scR s (zs.take k)).1.bs) (h1 : Rd w A1 n1 c1 (zs.drop k)) (hn : n ≤ 1048576) (hn1 : n1 ≤ 1048576) (h0 : (scR s zs).2 = 0) :
    Calls Try.prog 56 #[.agg #[.int .i64 (scR s (zs.take k)).1.ph, .int .i64 (scR s (zs.take k)).1.ct, .int .i64 (scR s (zs.take k)).1.vl, .slice A n c], .slice A1 n1 c1] w (ScOut (scR s zs) w) := by
  have := iScanCells_c (scR s (zs.take k)).1 A n c A1 n1 c1 (zs.drop k) w h h1 hn hn1
  rwa [(scR_split k h0).2.1] at this
theorem rd_end {w : World} {A : Option Addr} {n c : Nat} {zs : List Int} (h : Rd w A n c zs) {b k : Nat} (hk : zs.length ≤ k) : Rd w (some ⟨b, 0, none⟩) 0 0 (zs.drop k) := by
  rw [List.drop_eq_nil_of_le hk]
  exact Rd.empty0 w _ 0 (by simp [maxLen]) (fun e => by cases e)
theorem rd_from {w : World} {b n c : Nat} {zs : List Int} (h : Rd w (some ⟨b, 0, none⟩) n c zs) (k : Nat) (hk : k ≤ n) : Rd w (some ⟨b, k, none⟩) (n - k) (c - k) (zs.drop k) := by
  have := h.from k hk
  rwa [Nat.zero_add] at this
theorem iScan_rest0 (s : Scn) (A : Option Addr) (n c : Nat) (A1 : Option Addr) (n1 c1 : Nat) (w : World) (h : Rd w A n c (scR s []).1.bs) (h1 : Rd w A1 n1 c1 []) (hn : n ≤ 1048576) (hn1 : n1 ≤ 1048576) (h0 : (scR s []).2 = 0) :
    Calls Try.prog 56 #[.agg #[.int .i64 (scR s []).1.ph, .int .i64 (scR s []).1.ct, .int .i64 (scR s []).1.vl, .slice A n c], .slice A1 n1 c1] w (ScOut (scR s []) w) :=
  iScan_rest s A n c A1 n1 c1 [] 0 w h h1 hn hn1 h0
set_option maxHeartbeats 12800000 in
set_option maxRecDepth 100000 in
theorem walkScans (A : Option Addr) (n c : Nat) (bs : List Int) (w : World) (h : Rd8 w A n c bs) :
    Calls Try.prog 18 #[.slice A n c] w fun e w' => e = .returned (.bool true) ∧ Below w.heap.size w w' := by
  by_cases hn : 4096 < n
  · have t : decide (4096 < n) = true := by simpa using hn
    go_enter Try.func18, Try.ntmps18
    go_wp2_with (go_at_call 57; refine (big_any _ _ _ _ _ h).mono ?_; rintro e w' ⟨rfl, rfl⟩)
    go_ret
    exact ⟨rfl, Below.refl _ _⟩
  have t : decide (4096 < n) = false := by simpa using hn
  go_enter Try.func18, Try.ntmps18
  go_wp2_with (go_at_call 57; refine (big_any _ _ _ _ _ h).mono ?_; rintro e w' ⟨rfl, rfl⟩)
  refine (DrawScanCells_d _ _ _ _ _ h (by omega)).mono ?_
  rintro e w1 ⟨s, A1, m1, c1, A2, m2, c2, zs, rfl, hm1, hm2, oa, oz, b1⟩
  have Oa := hide oa
  have Oz := hide oz
  have BB := hide b1
  have hz := b1.size
  clear oa oz b1
  go_wp2_with fail
  have bA : Below w1.heap.size w1 (w1.alloc (.cells #[.int .i64 s.ph, .int .i64 s.ct, .int .i64 s.vl, .slice A1 m1 c1] 30)) := (Below.refl _ _).alloc (Nat.le_refl _) _
  (with_reducible refine (iScanCells_c s A1 m1 c1 A2 m2 c2 zs _ (Oa.out.below bA).rd (Oz.out.below bA).rd (by omega) (by omega)).mono ?_)
  rintro e w2 ⟨A3, m3, c3, rfl, own, bn, hm3⟩
  replace own := own.mono (B' := w.heap.size) (by have := BB.out.size; simp; omega)
  have bb := below_trans bA bn
  replace Oa := hide (Oa.out.below bb)
  replace Oz := hide (Oz.out.below bb)
  replace BB := hide (below_trans BB.out bb)
  replace hz := BB.out.size
  have Fa := hide ((ScnAt.fresh w1 #[.int .i64 s.ph, .int .i64 s.ct, .int .i64 s.vl, .slice A1 m1 c1]).below bn)
  replace la := Fa.out.lt
  replace a0 : w2.cell? ⟨w1.heap.size, 0, none⟩ = some (.int .i64 s.ph) := Fa.out.cell 0
  replace a1 : w2.cell? ⟨w1.heap.size, 1, none⟩ = some (.int .i64 s.ct) := Fa.out.cell 1
  replace a2 : w2.cell? ⟨w1.heap.size, 2, none⟩ = some (.int .i64 s.vl) := Fa.out.cell 2
  replace a3 : w2.cell? ⟨w1.heap.size, 3, none⟩ = some (.slice A1 m1 c1) := Fa.out.cell 3
  have Ox := hide own
  clear bb bn own bA
  go_wp2_with fail
  have bA : Below w2.heap.size w2 (w2.alloc (.cells #[.int .i64 (scR s zs).1.ph, .int .i64 (scR s zs).1.ct, .int .i64 (scR s zs).1.vl, .slice A3 m3 c3] 30)) := (Below.refl _ _).alloc (Nat.le_refl _) _
  (with_reducible refine (sScanCells_c s A1 m1 c1 A2 m2 c2 zs _ (Oa.out.below bA).rd (Oz.out.below bA).rd (by omega) (by omega)).mono ?_)
  rintro e w3 ⟨A4, m4, c4, rfl, own, bn, hm4⟩
  replace own := own.mono (B' := w.heap.size) (by have := BB.out.size; simp; omega)
  have bb := below_trans bA bn
  replace Fa := hide (Fa.out.below bb)
  replace Oa := hide (Oa.out.below bb)
  replace Oz := hide (Oz.out.below bb)
  replace Ox := hide (Ox.out.below bb)
  replace BB := hide (below_trans BB.out bb)
  replace hz := BB.out.size
  have Fx := hide ((ScnAt.fresh w2 #[.int .i64 (scR s zs).1.ph, .int .i64 (scR s zs).1.ct, .int .i64 (scR s zs).1.vl, .slice A3 m3 c3]).below bn)
  replace la := Fa.out.lt
  replace a0 : w3.cell? ⟨w1.heap.size, 0, none⟩ = some (.int .i64 s.ph) := Fa.out.cell 0
  replace a1 : w3.cell? ⟨w1.heap.size, 1, none⟩ = some (.int .i64 s.ct) := Fa.out.cell 1
  replace a2 : w3.cell? ⟨w1.heap.size, 2, none⟩ = some (.int .i64 s.vl) := Fa.out.cell 2
  replace a3 : w3.cell? ⟨w1.heap.size, 3, none⟩ = some (.slice A1 m1 c1) := Fa.out.cell 3
  replace lx := Fx.out.lt
  replace x0 : w3.cell? ⟨w2.heap.size, 0, none⟩ = some (.int .i64 (scR s zs).1.ph) := Fx.out.cell 0
  replace x1 : w3.cell? ⟨w2.heap.size, 1, none⟩ = some (.int .i64 (scR s zs).1.ct) := Fx.out.cell 1
  replace x2 : w3.cell? ⟨w2.heap.size, 2, none⟩ = some (.int .i64 (scR s zs).1.vl) := Fx.out.cell 2
  replace x3 : w3.cell? ⟨w2.heap.size, 3, none⟩ = some (.slice A3 m3 c3) := Fx.out.cell 3
  have Oy := hide own
  clear bb bn own bA
  go_wp2_with fail
  have bA : Below w3.heap.size w3 (w3.alloc (.cells #[.int .i64 (scR s zs).1.ph, .int .i64 (scR s zs).1.ct, .int .i64 (scR s zs).1.vl, .slice A4 m4 c4] 30)) := (Below.refl _ _).alloc (Nat.le_refl _) _
  (with_reducible refine (DrawStepCell_d _ _ _ _ _ (h.below (below_trans BB.out bA)) (by omega)).mono ?_)
  rintro e w4 ⟨s2, A5, m5, c5, x, rfl, hm5, hx, own, bn⟩
  replace own := own.mono (B' := w.heap.size) (by have := BB.out.size; simp; omega)
  have bb := below_trans bA bn
  replace Fa := hide (Fa.out.below bb)
  replace Fx := hide (Fx.out.below bb)
  replace Oa := hide (Oa.out.below bb)
  replace Oz := hide (Oz.out.below bb)
  replace Ox := hide (Ox.out.below bb)
  replace Oy := hide (Oy.out.below bb)
  replace BB := hide (below_trans BB.out bb)
  replace hz := BB.out.size
  have Fy := hide ((ScnAt.fresh w3 #[.int .i64 (scR s zs).1.ph, .int .i64 (scR s zs).1.ct, .int .i64 (scR s zs).1.vl, .slice A4 m4 c4]).below bn)
  replace la := Fa.out.lt
  replace a0 : w4.cell? ⟨w1.heap.size, 0, none⟩ = some (.int .i64 s.ph) := Fa.out.cell 0
  replace a1 : w4.cell? ⟨w1.heap.size, 1, none⟩ = some (.int .i64 s.ct) := Fa.out.cell 1
  replace a2 : w4.cell? ⟨w1.heap.size, 2, none⟩ = some (.int .i64 s.vl) := Fa.out.cell 2
  replace a3 : w4.cell? ⟨w1.heap.size, 3, none⟩ = some (.slice A1 m1 c1) := Fa.out.cell 3
  replace lx := Fx.out.lt
  replace x0 : w4.cell? ⟨w2.heap.size, 0, none⟩ = some (.int .i64 (scR s zs).1.ph) := Fx.out.cell 0
  replace x1 : w4.cell? ⟨w2.heap.size, 1, none⟩ = some (.int .i64 (scR s zs).1.ct) := Fx.out.cell 1
  replace x2 : w4.cell? ⟨w2.heap.size, 2, none⟩ = some (.int .i64 (scR s zs).1.vl) := Fx.out.cell 2
  replace x3 : w4.cell? ⟨w2.heap.size, 3, none⟩ = some (.slice A3 m3 c3) := Fx.out.cell 3
  replace ly := Fy.out.lt
  replace y0 : w4.cell? ⟨w3.heap.size, 0, none⟩ = some (.int .i64 (scR s zs).1.ph) := Fy.out.cell 0
  replace y1 : w4.cell? ⟨w3.heap.size, 1, none⟩ = some (.int .i64 (scR s zs).1.ct) := Fy.out.cell 1
  replace y2 : w4.cell? ⟨w3.heap.size, 2, none⟩ = some (.int .i64 (scR s zs).1.vl) := Fy.out.cell 2
  replace y3 : w4.cell? ⟨w3.heap.size, 3, none⟩ = some (.slice A4 m4 c4) := Fy.out.cell 3
  have Od := hide own
  clear bb bn own bA
  go_wp2_with fail
  have bA : Below w4.heap.size w4 (w4.alloc (.cells #[.int .i64 s2.ph, .int .i64 s2.ct, .int .i64 s2.vl, .slice A5 m5 c5] 30)) := (Below.refl _ _).alloc (Nat.le_refl _) _
  (with_reducible refine (iStepCell_c s2 x A5 m5 c5 _ (Od.out.below bA).rd (by omega) hx).mono ?_)
  rintro e w5 ⟨A6, m6, c6, rfl, own, bn, hm6⟩
  replace own := own.mono (B' := w.heap.size) (by have := BB.out.size; simp; omega)
  have bb := below_trans bA bn
  replace Fa := hide (Fa.out.below bb)
  replace Fx := hide (Fx.out.below bb)
  replace Fy := hide (Fy.out.below bb)
  replace Oa := hide (Oa.out.below bb)
  replace Oz := hide (Oz.out.below bb)
  replace Ox := hide (Ox.out.below bb)
  replace Oy := hide (Oy.out.below bb)
  replace Od := hide (Od.out.below bb)
  replace BB := hide (below_trans BB.out bb)
  replace hz := BB.out.size
  have Fd := hide ((ScnAt.fresh w4 #[.int .i64 s2.ph, .int .i64 s2.ct, .int .i64 s2.vl, .slice A5 m5 c5]).below bn)
  replace la := Fa.out.lt
  replace a0 : w5.cell? ⟨w1.heap.size, 0, none⟩ = some (.int .i64 s.ph) := Fa.out.cell 0
  replace a1 : w5.cell? ⟨w1.heap.size, 1, none⟩ = some (.int .i64 s.ct) := Fa.out.cell 1
  replace a2 : w5.cell? ⟨w1.heap.size, 2, none⟩ = some (.int .i64 s.vl) := Fa.out.cell 2
  replace a3 : w5.cell? ⟨w1.heap.size, 3, none⟩ = some (.slice A1 m1 c1) := Fa.out.cell 3
  replace lx := Fx.out.lt
  replace x0 : w5.cell? ⟨w2.heap.size, 0, none⟩ = some (.int .i64 (scR s zs).1.ph) := Fx.out.cell 0
  replace x1 : w5.cell? ⟨w2.heap.size, 1, none⟩ = some (.int .i64 (scR s zs).1.ct) := Fx.out.cell 1
  replace x2 : w5.cell? ⟨w2.heap.size, 2, none⟩ = some (.int .i64 (scR s zs).1.vl) := Fx.out.cell 2
  replace x3 : w5.cell? ⟨w2.heap.size, 3, none⟩ = some (.slice A3 m3 c3) := Fx.out.cell 3
  replace ly := Fy.out.lt
  replace y0 : w5.cell? ⟨w3.heap.size, 0, none⟩ = some (.int .i64 (scR s zs).1.ph) := Fy.out.cell 0
  replace y1 : w5.cell? ⟨w3.heap.size, 1, none⟩ = some (.int .i64 (scR s zs).1.ct) := Fy.out.cell 1
  replace y2 : w5.cell? ⟨w3.heap.size, 2, none⟩ = some (.int .i64 (scR s zs).1.vl) := Fy.out.cell 2
  replace y3 : w5.cell? ⟨w3.heap.size, 3, none⟩ = some (.slice A4 m4 c4) := Fy.out.cell 3
  replace ld := Fd.out.lt
  replace d0 : w5.cell? ⟨w4.heap.size, 0, none⟩ = some (.int .i64 s2.ph) := Fd.out.cell 0
  replace d1 : w5.cell? ⟨w4.heap.size, 1, none⟩ = some (.int .i64 s2.ct) := Fd.out.cell 1
  replace d2 : w5.cell? ⟨w4.heap.size, 2, none⟩ = some (.int .i64 s2.vl) := Fd.out.cell 2
  replace d3 : w5.cell? ⟨w4.heap.size, 3, none⟩ = some (.slice A5 m5 c5) := Fd.out.cell 3
  have Op := hide own
  clear bb bn own bA
  go_wp2_with fail
  have bA : Below w5.heap.size w5 (w5.alloc (.cells #[.int .i64 (stR s2 x).1.ph, .int .i64 (stR s2 x).1.ct, .int .i64 (stR s2 x).1.vl, .slice A6 m6 c6] 30)) := (Below.refl _ _).alloc (Nat.le_refl _) _
  (with_reducible refine (sStepCell_c s2 x A5 m5 c5 _ (Od.out.below bA).rd (by omega) hx).mono ?_)
  rintro e w6 ⟨A7, m7, c7, rfl, own, bn, hm7⟩
  replace own := own.mono (B' := w.heap.size) (by have := BB.out.size; simp; omega)
  have bb := below_trans bA bn
  replace Fa := hide (Fa.out.below bb)
  replace Fx := hide (Fx.out.below bb)
  replace Fy := hide (Fy.out.below bb)
  replace Fd := hide (Fd.out.below bb)
  replace Oa := hide (Oa.out.below bb)
  replace Oz := hide (Oz.out.below bb)
  replace Ox := hide (Ox.out.below bb)
  replace Oy := hide (Oy.out.below bb)
  replace Od := hide (Od.out.below bb)
  replace Op := hide (Op.out.below bb)
  replace BB := hide (below_trans BB.out bb)
  replace hz := BB.out.size
  have Fp := hide ((ScnAt.fresh w5 #[.int .i64 (stR s2 x).1.ph, .int .i64 (stR s2 x).1.ct, .int .i64 (stR s2 x).1.vl, .slice A6 m6 c6]).below bn)
  replace la := Fa.out.lt
  replace a0 : w6.cell? ⟨w1.heap.size, 0, none⟩ = some (.int .i64 s.ph) := Fa.out.cell 0
  replace a1 : w6.cell? ⟨w1.heap.size, 1, none⟩ = some (.int .i64 s.ct) := Fa.out.cell 1
  replace a2 : w6.cell? ⟨w1.heap.size, 2, none⟩ = some (.int .i64 s.vl) := Fa.out.cell 2
  replace a3 : w6.cell? ⟨w1.heap.size, 3, none⟩ = some (.slice A1 m1 c1) := Fa.out.cell 3
  replace lx := Fx.out.lt
  replace x0 : w6.cell? ⟨w2.heap.size, 0, none⟩ = some (.int .i64 (scR s zs).1.ph) := Fx.out.cell 0
  replace x1 : w6.cell? ⟨w2.heap.size, 1, none⟩ = some (.int .i64 (scR s zs).1.ct) := Fx.out.cell 1
  replace x2 : w6.cell? ⟨w2.heap.size, 2, none⟩ = some (.int .i64 (scR s zs).1.vl) := Fx.out.cell 2
  replace x3 : w6.cell? ⟨w2.heap.size, 3, none⟩ = some (.slice A3 m3 c3) := Fx.out.cell 3
  replace ly := Fy.out.lt
  replace y0 : w6.cell? ⟨w3.heap.size, 0, none⟩ = some (.int .i64 (scR s zs).1.ph) := Fy.out.cell 0
  replace y1 : w6.cell? ⟨w3.heap.size, 1, none⟩ = some (.int .i64 (scR s zs).1.ct) := Fy.out.cell 1
  replace y2 : w6.cell? ⟨w3.heap.size, 2, none⟩ = some (.int .i64 (scR s zs).1.vl) := Fy.out.cell 2
  replace y3 : w6.cell? ⟨w3.heap.size, 3, none⟩ = some (.slice A4 m4 c4) := Fy.out.cell 3
  replace ld := Fd.out.lt
  replace d0 : w6.cell? ⟨w4.heap.size, 0, none⟩ = some (.int .i64 s2.ph) := Fd.out.cell 0
  replace d1 : w6.cell? ⟨w4.heap.size, 1, none⟩ = some (.int .i64 s2.ct) := Fd.out.cell 1
  replace d2 : w6.cell? ⟨w4.heap.size, 2, none⟩ = some (.int .i64 s2.vl) := Fd.out.cell 2
  replace d3 : w6.cell? ⟨w4.heap.size, 3, none⟩ = some (.slice A5 m5 c5) := Fd.out.cell 3
  replace lp := Fp.out.lt
  replace p0 : w6.cell? ⟨w5.heap.size, 0, none⟩ = some (.int .i64 (stR s2 x).1.ph) := Fp.out.cell 0
  replace p1 : w6.cell? ⟨w5.heap.size, 1, none⟩ = some (.int .i64 (stR s2 x).1.ct) := Fp.out.cell 1
  replace p2 : w6.cell? ⟨w5.heap.size, 2, none⟩ = some (.int .i64 (stR s2 x).1.vl) := Fp.out.cell 2
  replace p3 : w6.cell? ⟨w5.heap.size, 3, none⟩ = some (.slice A6 m6 c6) := Fp.out.cell 3
  have Oq := hide own
  clear bb bn own bA
  have u0 := neqS (scR s zs).2
  have u1 := neqS (scR s zs).1.ph
  have u2 := neqS (scR s zs).1.ct
  have u3 := neqS (scR s zs).1.vl
  have u4 := neqS (stR s2 x).2
  have u5 := neqS (stR s2 x).1.ph
  have u6 := neqS (stR s2 x).1.ct
  have u7 := neqS (stR s2 x).1.vl
  have ux := eqB_self (scR s zs).1.bs
  have up := eqB_self (stR s2 x).1.bs
  have us := neqb (scnB s)
  have uf := neqb (scnB s && (s.ph == 6))
  go_wp2_with fail
  have bA : Below w6.heap.size w6 (w6.alloc (.cells #[.int .i64 (stR s2 x).1.ph, .int .i64 (stR s2 x).1.ct, .int .i64 (stR s2 x).1.vl, .slice A7 m7 c7] 30)) := (Below.refl _ _).alloc (Nat.le_refl _) _
  (with_reducible refine (likeInts_b _ _ _ _ _ _ _ _ _ (Ox.out.below bA).rd (Oy.out.below bA).rd).mono ?_)
  rintro e w7 ⟨rfl, bn⟩
  have bb := below_trans bA bn
  replace Fa := hide (Fa.out.below bb)
  replace Fx := hide (Fx.out.below bb)
  replace Fy := hide (Fy.out.below bb)
  replace Fd := hide (Fd.out.below bb)
  replace Fp := hide (Fp.out.below bb)
  replace Oa := hide (Oa.out.below bb)
  replace Oz := hide (Oz.out.below bb)
  replace Ox := hide (Ox.out.below bb)
  replace Oy := hide (Oy.out.below bb)
  replace Od := hide (Od.out.below bb)
  replace Op := hide (Op.out.below bb)
  replace Oq := hide (Oq.out.below bb)
  replace BB := hide (below_trans BB.out bb)
  replace hz := BB.out.size
  have Fq := hide ((ScnAt.fresh w6 #[.int .i64 (stR s2 x).1.ph, .int .i64 (stR s2 x).1.ct, .int .i64 (stR s2 x).1.vl, .slice A7 m7 c7]).below bn)
  replace la := Fa.out.lt
  replace a0 : w7.cell? ⟨w1.heap.size, 0, none⟩ = some (.int .i64 s.ph) := Fa.out.cell 0
  replace a1 : w7.cell? ⟨w1.heap.size, 1, none⟩ = some (.int .i64 s.ct) := Fa.out.cell 1
  replace a2 : w7.cell? ⟨w1.heap.size, 2, none⟩ = some (.int .i64 s.vl) := Fa.out.cell 2
  replace a3 : w7.cell? ⟨w1.heap.size, 3, none⟩ = some (.slice A1 m1 c1) := Fa.out.cell 3
  replace lx := Fx.out.lt
  replace x0 : w7.cell? ⟨w2.heap.size, 0, none⟩ = some (.int .i64 (scR s zs).1.ph) := Fx.out.cell 0
  replace x1 : w7.cell? ⟨w2.heap.size, 1, none⟩ = some (.int .i64 (scR s zs).1.ct) := Fx.out.cell 1
  replace x2 : w7.cell? ⟨w2.heap.size, 2, none⟩ = some (.int .i64 (scR s zs).1.vl) := Fx.out.cell 2
  replace x3 : w7.cell? ⟨w2.heap.size, 3, none⟩ = some (.slice A3 m3 c3) := Fx.out.cell 3
  replace ly := Fy.out.lt
  replace y0 : w7.cell? ⟨w3.heap.size, 0, none⟩ = some (.int .i64 (scR s zs).1.ph) := Fy.out.cell 0
  replace y1 : w7.cell? ⟨w3.heap.size, 1, none⟩ = some (.int .i64 (scR s zs).1.ct) := Fy.out.cell 1
  replace y2 : w7.cell? ⟨w3.heap.size, 2, none⟩ = some (.int .i64 (scR s zs).1.vl) := Fy.out.cell 2
  replace y3 : w7.cell? ⟨w3.heap.size, 3, none⟩ = some (.slice A4 m4 c4) := Fy.out.cell 3
  replace ld := Fd.out.lt
  replace d0 : w7.cell? ⟨w4.heap.size, 0, none⟩ = some (.int .i64 s2.ph) := Fd.out.cell 0
  replace d1 : w7.cell? ⟨w4.heap.size, 1, none⟩ = some (.int .i64 s2.ct) := Fd.out.cell 1
  replace d2 : w7.cell? ⟨w4.heap.size, 2, none⟩ = some (.int .i64 s2.vl) := Fd.out.cell 2
  replace d3 : w7.cell? ⟨w4.heap.size, 3, none⟩ = some (.slice A5 m5 c5) := Fd.out.cell 3
  replace lp := Fp.out.lt
  replace p0 : w7.cell? ⟨w5.heap.size, 0, none⟩ = some (.int .i64 (stR s2 x).1.ph) := Fp.out.cell 0
  replace p1 : w7.cell? ⟨w5.heap.size, 1, none⟩ = some (.int .i64 (stR s2 x).1.ct) := Fp.out.cell 1
  replace p2 : w7.cell? ⟨w5.heap.size, 2, none⟩ = some (.int .i64 (stR s2 x).1.vl) := Fp.out.cell 2
  replace p3 : w7.cell? ⟨w5.heap.size, 3, none⟩ = some (.slice A6 m6 c6) := Fp.out.cell 3
  replace lq := Fq.out.lt
  replace q0 : w7.cell? ⟨w6.heap.size, 0, none⟩ = some (.int .i64 (stR s2 x).1.ph) := Fq.out.cell 0
  replace q1 : w7.cell? ⟨w6.heap.size, 1, none⟩ = some (.int .i64 (stR s2 x).1.ct) := Fq.out.cell 1
  replace q2 : w7.cell? ⟨w6.heap.size, 2, none⟩ = some (.int .i64 (stR s2 x).1.vl) := Fq.out.cell 2
  replace q3 : w7.cell? ⟨w6.heap.size, 3, none⟩ = some (.slice A7 m7 c7) := Fq.out.cell 3
  clear bb bn bA
  go_wp2_with fail
  go_region_held3 (fun w' => w'.cell? ⟨w5.heap.size, 0, none⟩ = some (.int .i64 (stR s2 x).1.ph) ∧ w'.cell? ⟨w5.heap.size, 1, none⟩ = some (.int .i64 (stR s2 x).1.ct) ∧ w'.cell? ⟨w5.heap.size, 2, none⟩ = some (.int .i64 (stR s2 x).1.vl) ∧ w'.cell? ⟨w5.heap.size, 3, none⟩ = some (.slice A6 m6 c6) ∧ w'.cell? ⟨w6.heap.size, 0, none⟩ = some (.int .i64 (stR s2 x).1.ph) ∧ w'.cell? ⟨w6.heap.size, 1, none⟩ = some (.int .i64 (stR s2 x).1.ct) ∧ w'.cell? ⟨w6.heap.size, 2, none⟩ = some (.int .i64 (stR s2 x).1.vl) ∧ w'.cell? ⟨w6.heap.size, 3, none⟩ = some (.slice A7 m7 c7) ∧ w'.cell? ⟨w1.heap.size, 0, none⟩ = some (.int .i64 s.ph) ∧ w'.cell? ⟨w1.heap.size, 1, none⟩ = some (.int .i64 s.ct) ∧ w'.cell? ⟨w1.heap.size, 2, none⟩ = some (.int .i64 s.vl) ∧ w'.cell? ⟨w1.heap.size, 3, none⟩ = some (.slice A1 m1 c1)) (go_keep) (first | (go_at_call 60; (with_reducible refine (likeInts_b _ _ _ _ _ _ _ _ _ Op.out.rd.drew Oq.out.rd.drew).mono ?_); rintro e w8 ⟨rfl, bn⟩; have bb := below_drewS bn; replace Fa := hide (Fa.out.below bb); replace Fx := hide (Fx.out.below bb); replace Fy := hide (Fy.out.below bb); replace Fd := hide (Fd.out.below bb); replace Fp := hide (Fp.out.below bb); replace Fq := hide (Fq.out.below bb); replace Oa := hide (Oa.out.below bb); replace Oz := hide (Oz.out.below bb); replace Ox := hide (Ox.out.below bb); replace Oy := hide (Oy.out.below bb); replace Od := hide (Od.out.below bb); replace Op := hide (Op.out.below bb); replace Oq := hide (Oq.out.below bb); replace BB := hide (below_trans BB.out bb); replace hz := BB.out.size; replace la := Fa.out.lt; replace a0 : w8.cell? ⟨w1.heap.size, 0, none⟩ = some (.int .i64 s.ph) := Fa.out.cell 0; replace a1 : w8.cell? ⟨w1.heap.size, 1, none⟩ = some (.int .i64 s.ct) := Fa.out.cell 1; replace a2 : w8.cell? ⟨w1.heap.size, 2, none⟩ = some (.int .i64 s.vl) := Fa.out.cell 2; replace a3 : w8.cell? ⟨w1.heap.size, 3, none⟩ = some (.slice A1 m1 c1) := Fa.out.cell 3; replace lx := Fx.out.lt; replace x0 : w8.cell? ⟨w2.heap.size, 0, none⟩ = some (.int .i64 (scR s zs).1.ph) := Fx.out.cell 0; replace x1 : w8.cell? ⟨w2.heap.size, 1, none⟩ = some (.int .i64 (scR s zs).1.ct) := Fx.out.cell 1; replace x2 : w8.cell? ⟨w2.heap.size, 2, none⟩ = some (.int .i64 (scR s zs).1.vl) := Fx.out.cell 2; replace x3 : w8.cell? ⟨w2.heap.size, 3, none⟩ = some (.slice A3 m3 c3) := Fx.out.cell 3; replace ly := Fy.out.lt; replace y0 : w8.cell? ⟨w3.heap.size, 0, none⟩ = some (.int .i64 (scR s zs).1.ph) := Fy.out.cell 0; replace y1 : w8.cell? ⟨w3.heap.size, 1, none⟩ = some (.int .i64 (scR s zs).1.ct) := Fy.out.cell 1; replace y2 : w8.cell? ⟨w3.heap.size, 2, none⟩ = some (.int .i64 (scR s zs).1.vl) := Fy.out.cell 2; replace y3 : w8.cell? ⟨w3.heap.size, 3, none⟩ = some (.slice A4 m4 c4) := Fy.out.cell 3; replace ld := Fd.out.lt; replace d0 : w8.cell? ⟨w4.heap.size, 0, none⟩ = some (.int .i64 s2.ph) := Fd.out.cell 0; replace d1 : w8.cell? ⟨w4.heap.size, 1, none⟩ = some (.int .i64 s2.ct) := Fd.out.cell 1; replace d2 : w8.cell? ⟨w4.heap.size, 2, none⟩ = some (.int .i64 s2.vl) := Fd.out.cell 2; replace d3 : w8.cell? ⟨w4.heap.size, 3, none⟩ = some (.slice A5 m5 c5) := Fd.out.cell 3; replace lp := Fp.out.lt; replace p0 : w8.cell? ⟨w5.heap.size, 0, none⟩ = some (.int .i64 (stR s2 x).1.ph) := Fp.out.cell 0; replace p1 : w8.cell? ⟨w5.heap.size, 1, none⟩ = some (.int .i64 (stR s2 x).1.ct) := Fp.out.cell 1; replace p2 : w8.cell? ⟨w5.heap.size, 2, none⟩ = some (.int .i64 (stR s2 x).1.vl) := Fp.out.cell 2; replace p3 : w8.cell? ⟨w5.heap.size, 3, none⟩ = some (.slice A6 m6 c6) := Fp.out.cell 3; replace lq := Fq.out.lt; replace q0 : w8.cell? ⟨w6.heap.size, 0, none⟩ = some (.int .i64 (stR s2 x).1.ph) := Fq.out.cell 0; replace q1 : w8.cell? ⟨w6.heap.size, 1, none⟩ = some (.int .i64 (stR s2 x).1.ct) := Fq.out.cell 1; replace q2 : w8.cell? ⟨w6.heap.size, 2, none⟩ = some (.int .i64 (stR s2 x).1.vl) := Fq.out.cell 2; replace q3 : w8.cell? ⟨w6.heap.size, 3, none⟩ = some (.slice A7 m7 c7) := Fq.out.cell 3; clear bb bn) | (go_at_call 27; (with_reducible refine (iIsScan_c s A1 m1 c1 _ Oa.out.rd).mono ?_); rintro e w9 ⟨rfl, bn⟩; have bb := bn; replace Fa := hide (Fa.out.below bb); replace Fx := hide (Fx.out.below bb); replace Fy := hide (Fy.out.below bb); replace Fd := hide (Fd.out.below bb); replace Fp := hide (Fp.out.below bb); replace Fq := hide (Fq.out.below bb); replace Oa := hide (Oa.out.below bb); replace Oz := hide (Oz.out.below bb); replace Ox := hide (Ox.out.below bb); replace Oy := hide (Oy.out.below bb); replace Od := hide (Od.out.below bb); replace Op := hide (Op.out.below bb); replace Oq := hide (Oq.out.below bb); replace BB := hide (below_trans BB.out bb); replace hz := BB.out.size; replace la := Fa.out.lt; replace a0 : w9.cell? ⟨w1.heap.size, 0, none⟩ = some (.int .i64 s.ph) := Fa.out.cell 0; replace a1 : w9.cell? ⟨w1.heap.size, 1, none⟩ = some (.int .i64 s.ct) := Fa.out.cell 1; replace a2 : w9.cell? ⟨w1.heap.size, 2, none⟩ = some (.int .i64 s.vl) := Fa.out.cell 2; replace a3 : w9.cell? ⟨w1.heap.size, 3, none⟩ = some (.slice A1 m1 c1) := Fa.out.cell 3; replace lx := Fx.out.lt; replace x0 : w9.cell? ⟨w2.heap.size, 0, none⟩ = some (.int .i64 (scR s zs).1.ph) := Fx.out.cell 0; replace x1 : w9.cell? ⟨w2.heap.size, 1, none⟩ = some (.int .i64 (scR s zs).1.ct) := Fx.out.cell 1; replace x2 : w9.cell? ⟨w2.heap.size, 2, none⟩ = some (.int .i64 (scR s zs).1.vl) := Fx.out.cell 2; replace x3 : w9.cell? ⟨w2.heap.size, 3, none⟩ = some (.slice A3 m3 c3) := Fx.out.cell 3; replace ly := Fy.out.lt; replace y0 : w9.cell? ⟨w3.heap.size, 0, none⟩ = some (.int .i64 (scR s zs).1.ph) := Fy.out.cell 0; replace y1 : w9.cell? ⟨w3.heap.size, 1, none⟩ = some (.int .i64 (scR s zs).1.ct) := Fy.out.cell 1; replace y2 : w9.cell? ⟨w3.heap.size, 2, none⟩ = some (.int .i64 (scR s zs).1.vl) := Fy.out.cell 2; replace y3 : w9.cell? ⟨w3.heap.size, 3, none⟩ = some (.slice A4 m4 c4) := Fy.out.cell 3; replace ld := Fd.out.lt; replace d0 : w9.cell? ⟨w4.heap.size, 0, none⟩ = some (.int .i64 s2.ph) := Fd.out.cell 0; replace d1 : w9.cell? ⟨w4.heap.size, 1, none⟩ = some (.int .i64 s2.ct) := Fd.out.cell 1; replace d2 : w9.cell? ⟨w4.heap.size, 2, none⟩ = some (.int .i64 s2.vl) := Fd.out.cell 2; replace d3 : w9.cell? ⟨w4.heap.size, 3, none⟩ = some (.slice A5 m5 c5) := Fd.out.cell 3; replace lp := Fp.out.lt; replace p0 : w9.cell? ⟨w5.heap.size, 0, none⟩ = some (.int .i64 (stR s2 x).1.ph) := Fp.out.cell 0; replace p1 : w9.cell? ⟨w5.heap.size, 1, none⟩ = some (.int .i64 (stR s2 x).1.ct) := Fp.out.cell 1; replace p2 : w9.cell? ⟨w5.heap.size, 2, none⟩ = some (.int .i64 (stR s2 x).1.vl) := Fp.out.cell 2; replace p3 : w9.cell? ⟨w5.heap.size, 3, none⟩ = some (.slice A6 m6 c6) := Fp.out.cell 3; replace lq := Fq.out.lt; replace q0 : w9.cell? ⟨w6.heap.size, 0, none⟩ = some (.int .i64 (stR s2 x).1.ph) := Fq.out.cell 0; replace q1 : w9.cell? ⟨w6.heap.size, 1, none⟩ = some (.int .i64 (stR s2 x).1.ct) := Fq.out.cell 1; replace q2 : w9.cell? ⟨w6.heap.size, 2, none⟩ = some (.int .i64 (stR s2 x).1.vl) := Fq.out.cell 2; replace q3 : w9.cell? ⟨w6.heap.size, 3, none⟩ = some (.slice A7 m7 c7) := Fq.out.cell 3; clear bb bn) | (go_at_call 25; (with_reducible refine (sIsScan_c s A1 m1 c1 _ Oa.out.rd).mono ?_); rintro e w10 ⟨rfl, bn⟩; have bb := bn; replace Fa := hide (Fa.out.below bb); replace Fx := hide (Fx.out.below bb); replace Fy := hide (Fy.out.below bb); replace Fd := hide (Fd.out.below bb); replace Fp := hide (Fp.out.below bb); replace Fq := hide (Fq.out.below bb); replace Oa := hide (Oa.out.below bb); replace Oz := hide (Oz.out.below bb); replace Ox := hide (Ox.out.below bb); replace Oy := hide (Oy.out.below bb); replace Od := hide (Od.out.below bb); replace Op := hide (Op.out.below bb); replace Oq := hide (Oq.out.below bb); replace BB := hide (below_trans BB.out bb); replace hz := BB.out.size; replace la := Fa.out.lt; replace a0 : w10.cell? ⟨w1.heap.size, 0, none⟩ = some (.int .i64 s.ph) := Fa.out.cell 0; replace a1 : w10.cell? ⟨w1.heap.size, 1, none⟩ = some (.int .i64 s.ct) := Fa.out.cell 1; replace a2 : w10.cell? ⟨w1.heap.size, 2, none⟩ = some (.int .i64 s.vl) := Fa.out.cell 2; replace a3 : w10.cell? ⟨w1.heap.size, 3, none⟩ = some (.slice A1 m1 c1) := Fa.out.cell 3; replace lx := Fx.out.lt; replace x0 : w10.cell? ⟨w2.heap.size, 0, none⟩ = some (.int .i64 (scR s zs).1.ph) := Fx.out.cell 0; replace x1 : w10.cell? ⟨w2.heap.size, 1, none⟩ = some (.int .i64 (scR s zs).1.ct) := Fx.out.cell 1; replace x2 : w10.cell? ⟨w2.heap.size, 2, none⟩ = some (.int .i64 (scR s zs).1.vl) := Fx.out.cell 2; replace x3 : w10.cell? ⟨w2.heap.size, 3, none⟩ = some (.slice A3 m3 c3) := Fx.out.cell 3; replace ly := Fy.out.lt; replace y0 : w10.cell? ⟨w3.heap.size, 0, none⟩ = some (.int .i64 (scR s zs).1.ph) := Fy.out.cell 0; replace y1 : w10.cell? ⟨w3.heap.size, 1, none⟩ = some (.int .i64 (scR s zs).1.ct) := Fy.out.cell 1; replace y2 : w10.cell? ⟨w3.heap.size, 2, none⟩ = some (.int .i64 (scR s zs).1.vl) := Fy.out.cell 2; replace y3 : w10.cell? ⟨w3.heap.size, 3, none⟩ = some (.slice A4 m4 c4) := Fy.out.cell 3; replace ld := Fd.out.lt; replace d0 : w10.cell? ⟨w4.heap.size, 0, none⟩ = some (.int .i64 s2.ph) := Fd.out.cell 0; replace d1 : w10.cell? ⟨w4.heap.size, 1, none⟩ = some (.int .i64 s2.ct) := Fd.out.cell 1; replace d2 : w10.cell? ⟨w4.heap.size, 2, none⟩ = some (.int .i64 s2.vl) := Fd.out.cell 2; replace d3 : w10.cell? ⟨w4.heap.size, 3, none⟩ = some (.slice A5 m5 c5) := Fd.out.cell 3; replace lp := Fp.out.lt; replace p0 : w10.cell? ⟨w5.heap.size, 0, none⟩ = some (.int .i64 (stR s2 x).1.ph) := Fp.out.cell 0; replace p1 : w10.cell? ⟨w5.heap.size, 1, none⟩ = some (.int .i64 (stR s2 x).1.ct) := Fp.out.cell 1; replace p2 : w10.cell? ⟨w5.heap.size, 2, none⟩ = some (.int .i64 (stR s2 x).1.vl) := Fp.out.cell 2; replace p3 : w10.cell? ⟨w5.heap.size, 3, none⟩ = some (.slice A6 m6 c6) := Fp.out.cell 3; replace lq := Fq.out.lt; replace q0 : w10.cell? ⟨w6.heap.size, 0, none⟩ = some (.int .i64 (stR s2 x).1.ph) := Fq.out.cell 0; replace q1 : w10.cell? ⟨w6.heap.size, 1, none⟩ = some (.int .i64 (stR s2 x).1.ct) := Fq.out.cell 1; replace q2 : w10.cell? ⟨w6.heap.size, 2, none⟩ = some (.int .i64 (stR s2 x).1.vl) := Fq.out.cell 2; replace q3 : w10.cell? ⟨w6.heap.size, 3, none⟩ = some (.slice A7 m7 c7) := Fq.out.cell 3; clear bb bn) | (go_at_call 30; (with_reducible refine (iIsFinished_c s A1 m1 c1 _ Oa.out.rd).mono ?_); rintro e w11 ⟨rfl, bn⟩; have bb := bn; replace Fa := hide (Fa.out.below bb); replace Fx := hide (Fx.out.below bb); replace Fy := hide (Fy.out.below bb); replace Fd := hide (Fd.out.below bb); replace Fp := hide (Fp.out.below bb); replace Fq := hide (Fq.out.below bb); replace Oa := hide (Oa.out.below bb); replace Oz := hide (Oz.out.below bb); replace Ox := hide (Ox.out.below bb); replace Oy := hide (Oy.out.below bb); replace Od := hide (Od.out.below bb); replace Op := hide (Op.out.below bb); replace Oq := hide (Oq.out.below bb); replace BB := hide (below_trans BB.out bb); replace hz := BB.out.size; replace la := Fa.out.lt; replace a0 : w11.cell? ⟨w1.heap.size, 0, none⟩ = some (.int .i64 s.ph) := Fa.out.cell 0; replace a1 : w11.cell? ⟨w1.heap.size, 1, none⟩ = some (.int .i64 s.ct) := Fa.out.cell 1; replace a2 : w11.cell? ⟨w1.heap.size, 2, none⟩ = some (.int .i64 s.vl) := Fa.out.cell 2; replace a3 : w11.cell? ⟨w1.heap.size, 3, none⟩ = some (.slice A1 m1 c1) := Fa.out.cell 3; replace lx := Fx.out.lt; replace x0 : w11.cell? ⟨w2.heap.size, 0, none⟩ = some (.int .i64 (scR s zs).1.ph) := Fx.out.cell 0; replace x1 : w11.cell? ⟨w2.heap.size, 1, none⟩ = some (.int .i64 (scR s zs).1.ct) := Fx.out.cell 1; replace x2 : w11.cell? ⟨w2.heap.size, 2, none⟩ = some (.int .i64 (scR s zs).1.vl) := Fx.out.cell 2; replace x3 : w11.cell? ⟨w2.heap.size, 3, none⟩ = some (.slice A3 m3 c3) := Fx.out.cell 3; replace ly := Fy.out.lt; replace y0 : w11.cell? ⟨w3.heap.size, 0, none⟩ = some (.int .i64 (scR s zs).1.ph) := Fy.out.cell 0; replace y1 : w11.cell? ⟨w3.heap.size, 1, none⟩ = some (.int .i64 (scR s zs).1.ct) := Fy.out.cell 1; replace y2 : w11.cell? ⟨w3.heap.size, 2, none⟩ = some (.int .i64 (scR s zs).1.vl) := Fy.out.cell 2; replace y3 : w11.cell? ⟨w3.heap.size, 3, none⟩ = some (.slice A4 m4 c4) := Fy.out.cell 3; replace ld := Fd.out.lt; replace d0 : w11.cell? ⟨w4.heap.size, 0, none⟩ = some (.int .i64 s2.ph) := Fd.out.cell 0; replace d1 : w11.cell? ⟨w4.heap.size, 1, none⟩ = some (.int .i64 s2.ct) := Fd.out.cell 1; replace d2 : w11.cell? ⟨w4.heap.size, 2, none⟩ = some (.int .i64 s2.vl) := Fd.out.cell 2; replace d3 : w11.cell? ⟨w4.heap.size, 3, none⟩ = some (.slice A5 m5 c5) := Fd.out.cell 3; replace lp := Fp.out.lt; replace p0 : w11.cell? ⟨w5.heap.size, 0, none⟩ = some (.int .i64 (stR s2 x).1.ph) := Fp.out.cell 0; replace p1 : w11.cell? ⟨w5.heap.size, 1, none⟩ = some (.int .i64 (stR s2 x).1.ct) := Fp.out.cell 1; replace p2 : w11.cell? ⟨w5.heap.size, 2, none⟩ = some (.int .i64 (stR s2 x).1.vl) := Fp.out.cell 2; replace p3 : w11.cell? ⟨w5.heap.size, 3, none⟩ = some (.slice A6 m6 c6) := Fp.out.cell 3; replace lq := Fq.out.lt; replace q0 : w11.cell? ⟨w6.heap.size, 0, none⟩ = some (.int .i64 (stR s2 x).1.ph) := Fq.out.cell 0; replace q1 : w11.cell? ⟨w6.heap.size, 1, none⟩ = some (.int .i64 (stR s2 x).1.ct) := Fq.out.cell 1; replace q2 : w11.cell? ⟨w6.heap.size, 2, none⟩ = some (.int .i64 (stR s2 x).1.vl) := Fq.out.cell 2; replace q3 : w11.cell? ⟨w6.heap.size, 3, none⟩ = some (.slice A7 m7 c7) := Fq.out.cell 3; clear bb bn) | (go_at_call 29; (with_reducible refine (sIsFinished_c s A1 m1 c1 _ Oa.out.rd).mono ?_); rintro e w12 ⟨rfl, bn⟩; have bb := bn; replace Fa := hide (Fa.out.below bb); replace Fx := hide (Fx.out.below bb); replace Fy := hide (Fy.out.below bb); replace Fd := hide (Fd.out.below bb); replace Fp := hide (Fp.out.below bb); replace Fq := hide (Fq.out.below bb); replace Oa := hide (Oa.out.below bb); replace Oz := hide (Oz.out.below bb); replace Ox := hide (Ox.out.below bb); replace Oy := hide (Oy.out.below bb); replace Od := hide (Od.out.below bb); replace Op := hide (Op.out.below bb); replace Oq := hide (Oq.out.below bb); replace BB := hide (below_trans BB.out bb); replace hz := BB.out.size; replace la := Fa.out.lt; replace a0 : w12.cell? ⟨w1.heap.size, 0, none⟩ = some (.int .i64 s.ph) := Fa.out.cell 0; replace a1 : w12.cell? ⟨w1.heap.size, 1, none⟩ = some (.int .i64 s.ct) := Fa.out.cell 1; replace a2 : w12.cell? ⟨w1.heap.size, 2, none⟩ = some (.int .i64 s.vl) := Fa.out.cell 2; replace a3 : w12.cell? ⟨w1.heap.size, 3, none⟩ = some (.slice A1 m1 c1) := Fa.out.cell 3; replace lx := Fx.out.lt; replace x0 : w12.cell? ⟨w2.heap.size, 0, none⟩ = some (.int .i64 (scR s zs).1.ph) := Fx.out.cell 0; replace x1 : w12.cell? ⟨w2.heap.size, 1, none⟩ = some (.int .i64 (scR s zs).1.ct) := Fx.out.cell 1; replace x2 : w12.cell? ⟨w2.heap.size, 2, none⟩ = some (.int .i64 (scR s zs).1.vl) := Fx.out.cell 2; replace x3 : w12.cell? ⟨w2.heap.size, 3, none⟩ = some (.slice A3 m3 c3) := Fx.out.cell 3; replace ly := Fy.out.lt; replace y0 : w12.cell? ⟨w3.heap.size, 0, none⟩ = some (.int .i64 (scR s zs).1.ph) := Fy.out.cell 0; replace y1 : w12.cell? ⟨w3.heap.size, 1, none⟩ = some (.int .i64 (scR s zs).1.ct) := Fy.out.cell 1; replace y2 : w12.cell? ⟨w3.heap.size, 2, none⟩ = some (.int .i64 (scR s zs).1.vl) := Fy.out.cell 2; replace y3 : w12.cell? ⟨w3.heap.size, 3, none⟩ = some (.slice A4 m4 c4) := Fy.out.cell 3; replace ld := Fd.out.lt; replace d0 : w12.cell? ⟨w4.heap.size, 0, none⟩ = some (.int .i64 s2.ph) := Fd.out.cell 0; replace d1 : w12.cell? ⟨w4.heap.size, 1, none⟩ = some (.int .i64 s2.ct) := Fd.out.cell 1; replace d2 : w12.cell? ⟨w4.heap.size, 2, none⟩ = some (.int .i64 s2.vl) := Fd.out.cell 2; replace d3 : w12.cell? ⟨w4.heap.size, 3, none⟩ = some (.slice A5 m5 c5) := Fd.out.cell 3; replace lp := Fp.out.lt; replace p0 : w12.cell? ⟨w5.heap.size, 0, none⟩ = some (.int .i64 (stR s2 x).1.ph) := Fp.out.cell 0; replace p1 : w12.cell? ⟨w5.heap.size, 1, none⟩ = some (.int .i64 (stR s2 x).1.ct) := Fp.out.cell 1; replace p2 : w12.cell? ⟨w5.heap.size, 2, none⟩ = some (.int .i64 (stR s2 x).1.vl) := Fp.out.cell 2; replace p3 : w12.cell? ⟨w5.heap.size, 3, none⟩ = some (.slice A6 m6 c6) := Fp.out.cell 3; replace lq := Fq.out.lt; replace q0 : w12.cell? ⟨w6.heap.size, 0, none⟩ = some (.int .i64 (stR s2 x).1.ph) := Fq.out.cell 0; replace q1 : w12.cell? ⟨w6.heap.size, 1, none⟩ = some (.int .i64 (stR s2 x).1.ct) := Fq.out.cell 1; replace q2 : w12.cell? ⟨w6.heap.size, 2, none⟩ = some (.int .i64 (stR s2 x).1.vl) := Fq.out.cell 2; replace q3 : w12.cell? ⟨w6.heap.size, 3, none⟩ = some (.slice A7 m7 c7) := Fq.out.cell 3; clear bb bn))
  clear y0 y1 y2 y3 ly Fy
  clear d0 d1 d2 d3 ld Fd
  clear p0 p1 p2 p3 lp Fp
  clear q0 q1 q2 q3 lq Fq
  clear Oy Od Op Oq
  by_cases hC : (scR s zs).2 = 0
  · skip
    have t2 : ((scR s zs).2 != 0) = false := by rw [hC]; rfl
    have t3 := beqT (scR s zs).1.ph
    have t4 := beqT (scR s zs).1.ct
    have t5 := beqT (scR s zs).1.vl
    have t6 : ((scR s zs).2 == 0) = true := by rw [hC]; rfl
    have HC := hide hC
    clear hC u0 u1 u2 u3 u4 u5 u6 u7 up us uf hx hm4 hm5 hm6 hm7
    go_wp2_with fail
    have HLa := hide la
    have HLx := hide lx
    have HZ := hide hz
    (with_reducible refine (roll_any _ _ _ _ _ 1901 (h.below BB.out) (by omega) (by omega)).mono ?_)
    rintro e w13 ⟨g, rfl, hg, hd, bn⟩
    have bb := bn
    replace Fa := hide (Fa.out.below bb)
    replace Fx := hide (Fx.out.below bb)
    replace Oa := hide (Oa.out.below bb)
    replace Oz := hide (Oz.out.below bb)
    replace Ox := hide (Ox.out.below bb)
    replace BB := hide (below_trans BB.out bb)
    replace hz := BB.out.size
    replace la := Fa.out.lt
    replace a0 : w13.cell? ⟨w1.heap.size, 0, none⟩ = some (.int .i64 s.ph) := Fa.out.cell 0
    replace a1 : w13.cell? ⟨w1.heap.size, 1, none⟩ = some (.int .i64 s.ct) := Fa.out.cell 1
    replace a2 : w13.cell? ⟨w1.heap.size, 2, none⟩ = some (.int .i64 s.vl) := Fa.out.cell 2
    replace a3 : w13.cell? ⟨w1.heap.size, 3, none⟩ = some (.slice A1 m1 c1) := Fa.out.cell 3
    replace lx := Fx.out.lt
    replace x0 : w13.cell? ⟨w2.heap.size, 0, none⟩ = some (.int .i64 (scR s zs).1.ph) := Fx.out.cell 0
    replace x1 : w13.cell? ⟨w2.heap.size, 1, none⟩ = some (.int .i64 (scR s zs).1.ct) := Fx.out.cell 1
    replace x2 : w13.cell? ⟨w2.heap.size, 2, none⟩ = some (.int .i64 (scR s zs).1.vl) := Fx.out.cell 2
    replace x3 : w13.cell? ⟨w2.heap.size, 3, none⟩ = some (.slice A3 m3 c3) := Fx.out.cell 3
    clear bb bn
    go_wp2_with fail
    (with_reducible refine (below_d g _ _ _ _ _ ((m2 : Int) + 1) hd (by omega) (by omega) (by omega)).mono ?_)
    rintro e w14 ⟨kk, rfl, k0, k1, hd2, g14⟩
    obtain ⟨j, rfl⟩ : ∃ j : Nat, kk = (j : Int) := ⟨kk.toNat, by omega⟩
    replace Fa := hide (Fa.out.keepNe g14 (by have := HLa.out; omega))
    replace Fx := hide (Fx.out.keepNe g14 (by have := HLx.out; omega))
    replace Oa := hide (Oa.out.keepDice hd g14)
    replace Oz := hide (Oz.out.keepDice hd g14)
    replace Ox := hide (Ox.out.keepDice hd g14)
    replace BB := hide (below_src BB.out g14 (by have := HZ.out; omega))
    replace la := Fa.out.lt
    replace a0 : w14.cell? ⟨w1.heap.size, 0, none⟩ = some (.int .i64 s.ph) := Fa.out.cell 0
    replace a1 : w14.cell? ⟨w1.heap.size, 1, none⟩ = some (.int .i64 s.ct) := Fa.out.cell 1
    replace a2 : w14.cell? ⟨w1.heap.size, 2, none⟩ = some (.int .i64 s.vl) := Fa.out.cell 2
    replace a3 : w14.cell? ⟨w1.heap.size, 3, none⟩ = some (.slice A1 m1 c1) := Fa.out.cell 3
    replace lx := Fx.out.lt
    replace x0 : w14.cell? ⟨w2.heap.size, 0, none⟩ = some (.int .i64 (scR s zs).1.ph) := Fx.out.cell 0
    replace x1 : w14.cell? ⟨w2.heap.size, 1, none⟩ = some (.int .i64 (scR s zs).1.ct) := Fx.out.cell 1
    replace x2 : w14.cell? ⟨w2.heap.size, 2, none⟩ = some (.int .i64 (scR s zs).1.vl) := Fx.out.cell 2
    replace x3 : w14.cell? ⟨w2.heap.size, 3, none⟩ = some (.slice A3 m3 c3) := Fx.out.cell 3
    replace hz := BB.out.size
    clear hd hd2 g14 hg
    obtain ⟨q1, q2, q3⟩ := scR_split j HC.out
    have Q1 : ((scR s (zs.take j)).2 == 0) = true := by rw [q1]; rfl
    have Q3 := hide q3
    have Q4 := hide (scR_split (cs := zs.take j) 0 q1).2.2
    clear q1 q2 q3
    have HZ14 := hide hz
    rcases Oz.out.form with ⟨rfl, rfl, rfl, rfl⟩ | ⟨gb, rfl, hgb, hgl⟩
    · obtain rfl : j = 0 := by omega
      rw [List.take_zero] at Q1 Q4
      go_wp2_with fail
      have MLa := hide la
      have MLx := hide lx
      have N0 := World.new_ne w14 ⟨w1.heap.size, 0, none⟩ a0
      go_region_held3 (fun w' => w'.cell? ⟨w1.heap.size, 0, none⟩ = some (.int .i64 s.ph) ∧ w'.cell? ⟨w1.heap.size, 1, none⟩ = some (.int .i64 s.ct) ∧ w'.cell? ⟨w1.heap.size, 2, none⟩ = some (.int .i64 s.vl) ∧ w'.cell? ⟨w1.heap.size, 3, none⟩ = some (.slice A1 m1 c1)) (go_keep) (first | (go_at_call 56; (with_reducible refine (iScanCells_c s A1 m1 c1 none 0 0 [] _ Oa.out.rd.drew Oz.out.rd.drew (by omega) (by omega)).mono ?_); rintro e w15 ⟨A8, m8, c8, rfl, own, bn, hm8⟩; replace own := own.mono (B' := w.heap.size) BB.out.size; have bb := below_drewS bn; replace Fa := hide (Fa.out.below bb); replace Fx := hide (Fx.out.below bb); replace Oa := hide (Oa.out.below bb); replace Oz := hide (Oz.out.below bb); replace Ox := hide (Ox.out.below bb); replace BB := hide (below_trans BB.out bb); replace hz := BB.out.size; replace la := Fa.out.lt; replace a0 : w15.cell? ⟨w1.heap.size, 0, none⟩ = some (.int .i64 s.ph) := Fa.out.cell 0; replace a1 : w15.cell? ⟨w1.heap.size, 1, none⟩ = some (.int .i64 s.ct) := Fa.out.cell 1; replace a2 : w15.cell? ⟨w1.heap.size, 2, none⟩ = some (.int .i64 s.vl) := Fa.out.cell 2; replace a3 : w15.cell? ⟨w1.heap.size, 3, none⟩ = some (.slice A1 m1 c1) := Fa.out.cell 3; replace lx := Fx.out.lt; replace x0 : w15.cell? ⟨w2.heap.size, 0, none⟩ = some (.int .i64 (scR s []).1.ph) := Fx.out.cell 0; replace x1 : w15.cell? ⟨w2.heap.size, 1, none⟩ = some (.int .i64 (scR s []).1.ct) := Fx.out.cell 1; replace x2 : w15.cell? ⟨w2.heap.size, 2, none⟩ = some (.int .i64 (scR s []).1.vl) := Fx.out.cell 2; replace x3 : w15.cell? ⟨w2.heap.size, 3, none⟩ = some (.slice A3 m3 c3) := Fx.out.cell 3; have Ob := hide own; clear bb bn own) | (go_at_call 56; have bA : Below w14.heap.size w14 (w14.alloc (.cells #[.int .i64 0, .int .i64 0, .int .i64 0, .slice none 0 0] 30)) := (Below.refl _ _).alloc (Nat.le_refl _) _; (with_reducible refine (iScanCells_c s A1 m1 c1 none 0 0 [] _ (Oa.out.below bA).rd.drew (Oz.out.below bA).rd.drew (by omega) (by omega)).mono ?_); rintro e w15 ⟨A8, m8, c8, rfl, own, bn, hm8⟩; have bm := below_drewS bn; have bb := below_trans bA bm; replace own := own.mono (B' := w.heap.size) (by simp; omega); replace Fa := hide (Fa.out.below bb); replace Fx := hide (Fx.out.below bb); replace Oa := hide (Oa.out.below bb); replace Oz := hide (Oz.out.below bb); replace Ox := hide (Ox.out.below bb); replace BB := hide (below_trans BB.out bb); replace hz := BB.out.size; have Fb := hide ((ScnAt.fresh w14 #[.int .i64 0, .int .i64 0, .int .i64 0, .slice none 0 0]).below bm); replace la := Fa.out.lt; replace a0 : w15.cell? ⟨w1.heap.size, 0, none⟩ = some (.int .i64 s.ph) := Fa.out.cell 0; replace a1 : w15.cell? ⟨w1.heap.size, 1, none⟩ = some (.int .i64 s.ct) := Fa.out.cell 1; replace a2 : w15.cell? ⟨w1.heap.size, 2, none⟩ = some (.int .i64 s.vl) := Fa.out.cell 2; replace a3 : w15.cell? ⟨w1.heap.size, 3, none⟩ = some (.slice A1 m1 c1) := Fa.out.cell 3; replace lx := Fx.out.lt; replace x0 : w15.cell? ⟨w2.heap.size, 0, none⟩ = some (.int .i64 (scR s []).1.ph) := Fx.out.cell 0; replace x1 : w15.cell? ⟨w2.heap.size, 1, none⟩ = some (.int .i64 (scR s []).1.ct) := Fx.out.cell 1; replace x2 : w15.cell? ⟨w2.heap.size, 2, none⟩ = some (.int .i64 (scR s []).1.vl) := Fx.out.cell 2; replace x3 : w15.cell? ⟨w2.heap.size, 3, none⟩ = some (.slice A3 m3 c3) := Fx.out.cell 3; replace lb := Fb.out.lt; replace b0 : w15.cell? ⟨w14.heap.size, 0, none⟩ = some (.int .i64 0) := Fb.out.cell 0; replace b1 : w15.cell? ⟨w14.heap.size, 1, none⟩ = some (.int .i64 0) := Fb.out.cell 1; replace b2 : w15.cell? ⟨w14.heap.size, 2, none⟩ = some (.int .i64 0) := Fb.out.cell 2; replace b3 : w15.cell? ⟨w14.heap.size, 3, none⟩ = some (.slice none 0 0) := Fb.out.cell 3; have jb0 := Fb.out.frozen 0; have jb1 := Fb.out.frozen 1; have jb2 := Fb.out.frozen 2; have jb3 := Fb.out.frozen 3; have Ob := hide own; clear bb bn bm own bA))
      · clear N0
        go_wp2_with fail
        have bA : Below w15.heap.size w15 (w15.alloc (.cells #[.int .i64 (scR s []).1.ph, .int .i64 (scR s []).1.ct, .int .i64 (scR s []).1.vl, .slice A8 m8 c8] 30)) := (Below.refl _ _).alloc (Nat.le_refl _) _
        replace Fa := hide (Fa.out.below bA)
        replace Fx := hide (Fx.out.below bA)
        replace Oa := hide (Oa.out.below bA)
        replace Oz := hide (Oz.out.below bA)
        replace Ox := hide (Ox.out.below bA)
        replace Ob := hide (Ob.out.below bA)
        replace BB := hide (below_trans BB.out bA)
        replace hz := BB.out.size
        have Fb := hide (ScnAt.fresh w15 #[.int .i64 (scR s []).1.ph, .int .i64 (scR s []).1.ct, .int .i64 (scR s []).1.vl, .slice A8 m8 c8])
        clear bA
        clear a0 a1 a2 a3
        clear x0 x1 x2 x3
        clear la lx
        generalize hW : (w15.alloc (.cells #[.int .i64 (scR s []).1.ph, .int .i64 (scR s []).1.ct, .int .i64 (scR s []).1.vl, .slice A8 m8 c8] 30)) = W at Fa Fx Fb Oa Oz Ox Ob BB hz ⊢
        clear hW
        replace la := Fa.out.lt
        replace a0 : W.cell? ⟨w1.heap.size, 0, none⟩ = some (.int .i64 s.ph) := Fa.out.cell 0
        replace a1 : W.cell? ⟨w1.heap.size, 1, none⟩ = some (.int .i64 s.ct) := Fa.out.cell 1
        replace a2 : W.cell? ⟨w1.heap.size, 2, none⟩ = some (.int .i64 s.vl) := Fa.out.cell 2
        replace a3 : W.cell? ⟨w1.heap.size, 3, none⟩ = some (.slice A1 m1 c1) := Fa.out.cell 3
        replace lx := Fx.out.lt
        replace x0 : W.cell? ⟨w2.heap.size, 0, none⟩ = some (.int .i64 (scR s []).1.ph) := Fx.out.cell 0
        replace x1 : W.cell? ⟨w2.heap.size, 1, none⟩ = some (.int .i64 (scR s []).1.ct) := Fx.out.cell 1
        replace x2 : W.cell? ⟨w2.heap.size, 2, none⟩ = some (.int .i64 (scR s []).1.vl) := Fx.out.cell 2
        replace x3 : W.cell? ⟨w2.heap.size, 3, none⟩ = some (.slice A3 m3 c3) := Fx.out.cell 3
        replace lb := Fb.out.lt
        replace b0 : W.cell? ⟨w15.heap.size, 0, none⟩ = some (.int .i64 (scR s []).1.ph) := Fb.out.cell 0
        replace b1 : W.cell? ⟨w15.heap.size, 1, none⟩ = some (.int .i64 (scR s []).1.ct) := Fb.out.cell 1
        replace b2 : W.cell? ⟨w15.heap.size, 2, none⟩ = some (.int .i64 (scR s []).1.vl) := Fb.out.cell 2
        replace b3 : W.cell? ⟨w15.heap.size, 3, none⟩ = some (.slice A8 m8 c8) := Fb.out.cell 3
        have HW := hide hz
        have NLx := hide lx
        have hm8s : m8 ≤ 1024 := by have := (scnB_get Q4.out).2.1.1; have := Ob.out.len; omega
        have N0 := World.new_ne W ⟨w15.heap.size, 0, none⟩ b0
        go_region_held3 (fun w' => w'.cell? ⟨w15.heap.size, 0, none⟩ = some (.int .i64 (scR s []).1.ph) ∧ w'.cell? ⟨w15.heap.size, 1, none⟩ = some (.int .i64 (scR s []).1.ct) ∧ w'.cell? ⟨w15.heap.size, 2, none⟩ = some (.int .i64 (scR s []).1.vl) ∧ w'.cell? ⟨w15.heap.size, 3, none⟩ = some (.slice A8 m8 c8)) (go_keep) (first | (go_at_call 56; (with_reducible refine (iScan_rest0 s A8 m8 c8 none 0 0 _ Ob.out.rd.drew Oz.out.rd.drew (by omega) (by omega) HC.out).mono ?_); rintro e w16 ⟨A9, m9, c9, rfl, own, bn, hm9⟩; replace own := own.mono (B' := w.heap.size) BB.out.size; have bb := below_drewS bn; replace Fa := hide (Fa.out.below bb); replace Fx := hide (Fx.out.below bb); replace Fb := hide (Fb.out.below bb); replace Oa := hide (Oa.out.below bb); replace Oz := hide (Oz.out.below bb); replace Ox := hide (Ox.out.below bb); replace Ob := hide (Ob.out.below bb); replace BB := hide (below_trans BB.out bb); replace hz := BB.out.size; replace la := Fa.out.lt; replace a0 : w16.cell? ⟨w1.heap.size, 0, none⟩ = some (.int .i64 s.ph) := Fa.out.cell 0; replace a1 : w16.cell? ⟨w1.heap.size, 1, none⟩ = some (.int .i64 s.ct) := Fa.out.cell 1; replace a2 : w16.cell? ⟨w1.heap.size, 2, none⟩ = some (.int .i64 s.vl) := Fa.out.cell 2; replace a3 : w16.cell? ⟨w1.heap.size, 3, none⟩ = some (.slice A1 m1 c1) := Fa.out.cell 3; replace lx := Fx.out.lt; replace x0 : w16.cell? ⟨w2.heap.size, 0, none⟩ = some (.int .i64 (scR s []).1.ph) := Fx.out.cell 0; replace x1 : w16.cell? ⟨w2.heap.size, 1, none⟩ = some (.int .i64 (scR s []).1.ct) := Fx.out.cell 1; replace x2 : w16.cell? ⟨w2.heap.size, 2, none⟩ = some (.int .i64 (scR s []).1.vl) := Fx.out.cell 2; replace x3 : w16.cell? ⟨w2.heap.size, 3, none⟩ = some (.slice A3 m3 c3) := Fx.out.cell 3; replace lb := Fb.out.lt; replace b0 : w16.cell? ⟨w15.heap.size, 0, none⟩ = some (.int .i64 (scR s []).1.ph) := Fb.out.cell 0; replace b1 : w16.cell? ⟨w15.heap.size, 1, none⟩ = some (.int .i64 (scR s []).1.ct) := Fb.out.cell 1; replace b2 : w16.cell? ⟨w15.heap.size, 2, none⟩ = some (.int .i64 (scR s []).1.vl) := Fb.out.cell 2; replace b3 : w16.cell? ⟨w15.heap.size, 3, none⟩ = some (.slice A8 m8 c8) := Fb.out.cell 3; have Or := hide own; clear bb bn own) | (go_at_call 56; have bA : Below W.heap.size W (W.alloc (.cells #[.int .i64 0, .int .i64 0, .int .i64 0, .slice none 0 0] 30)) := (Below.refl _ _).alloc (Nat.le_refl _) _; (with_reducible refine (iScan_rest0 s A8 m8 c8 none 0 0 _ (Ob.out.below bA).rd.drew (Oz.out.below bA).rd.drew (by omega) (by omega) HC.out).mono ?_); rintro e w16 ⟨A9, m9, c9, rfl, own, bn, hm9⟩; have bm := below_drewS bn; have bb := below_trans bA bm; replace own := own.mono (B' := w.heap.size) (by simp; omega); replace Fa := hide (Fa.out.below bb); replace Fx := hide (Fx.out.below bb); replace Fb := hide (Fb.out.below bb); replace Oa := hide (Oa.out.below bb); replace Oz := hide (Oz.out.below bb); replace Ox := hide (Ox.out.below bb); replace Ob := hide (Ob.out.below bb); replace BB := hide (below_trans BB.out bb); replace hz := BB.out.size; have Fr := hide ((ScnAt.fresh W #[.int .i64 0, .int .i64 0, .int .i64 0, .slice none 0 0]).below bm); replace la := Fa.out.lt; replace a0 : w16.cell? ⟨w1.heap.size, 0, none⟩ = some (.int .i64 s.ph) := Fa.out.cell 0; replace a1 : w16.cell? ⟨w1.heap.size, 1, none⟩ = some (.int .i64 s.ct) := Fa.out.cell 1; replace a2 : w16.cell? ⟨w1.heap.size, 2, none⟩ = some (.int .i64 s.vl) := Fa.out.cell 2; replace a3 : w16.cell? ⟨w1.heap.size, 3, none⟩ = some (.slice A1 m1 c1) := Fa.out.cell 3; replace lx := Fx.out.lt; replace x0 : w16.cell? ⟨w2.heap.size, 0, none⟩ = some (.int .i64 (scR s []).1.ph) := Fx.out.cell 0; replace x1 : w16.cell? ⟨w2.heap.size, 1, none⟩ = some (.int .i64 (scR s []).1.ct) := Fx.out.cell 1; replace x2 : w16.cell? ⟨w2.heap.size, 2, none⟩ = some (.int .i64 (scR s []).1.vl) := Fx.out.cell 2; replace x3 : w16.cell? ⟨w2.heap.size, 3, none⟩ = some (.slice A3 m3 c3) := Fx.out.cell 3; replace lb := Fb.out.lt; replace b0 : w16.cell? ⟨w15.heap.size, 0, none⟩ = some (.int .i64 (scR s []).1.ph) := Fb.out.cell 0; replace b1 : w16.cell? ⟨w15.heap.size, 1, none⟩ = some (.int .i64 (scR s []).1.ct) := Fb.out.cell 1; replace b2 : w16.cell? ⟨w15.heap.size, 2, none⟩ = some (.int .i64 (scR s []).1.vl) := Fb.out.cell 2; replace b3 : w16.cell? ⟨w15.heap.size, 3, none⟩ = some (.slice A8 m8 c8) := Fb.out.cell 3; replace lr := Fr.out.lt; replace r0 : w16.cell? ⟨W.heap.size, 0, none⟩ = some (.int .i64 0) := Fr.out.cell 0; replace r1 : w16.cell? ⟨W.heap.size, 1, none⟩ = some (.int .i64 0) := Fr.out.cell 1; replace r2 : w16.cell? ⟨W.heap.size, 2, none⟩ = some (.int .i64 0) := Fr.out.cell 2; replace r3 : w16.cell? ⟨W.heap.size, 3, none⟩ = some (.slice none 0 0) := Fr.out.cell 3; have jr0 := Fr.out.frozen 0; have jr1 := Fr.out.frozen 1; have jr2 := Fr.out.frozen 2; have jr3 := Fr.out.frozen 3; have Or := hide own; clear bb bn bm own bA))
        · clear N0
          go_wp2_with fail
          have bA : Below w16.heap.size w16 (w16.alloc (.cells #[.int .i64 (scR s []).1.ph, .int .i64 (scR s []).1.ct, .int .i64 (scR s []).1.vl, .slice A9 m9 c9] 30)) := (Below.refl _ _).alloc (Nat.le_refl _) _
          (with_reducible refine (likeInts_b _ _ _ _ _ _ _ _ _ (Or.out.below bA).rd (Ox.out.below bA).rd).mono ?_)
          rintro e w17 ⟨rfl, bn⟩
          have bb := below_trans bA bn
          replace Fa := hide (Fa.out.below bb)
          replace Fx := hide (Fx.out.below bb)
          replace Fb := hide (Fb.out.below bb)
          replace Oa := hide (Oa.out.below bb)
          replace Oz := hide (Oz.out.below bb)
          replace Ox := hide (Ox.out.below bb)
          replace Ob := hide (Ob.out.below bb)
          replace Or := hide (Or.out.below bb)
          replace BB := hide (below_trans BB.out bb)
          replace hz := BB.out.size
          have Fr := hide ((ScnAt.fresh w16 #[.int .i64 (scR s []).1.ph, .int .i64 (scR s []).1.ct, .int .i64 (scR s []).1.vl, .slice A9 m9 c9]).below bn)
          replace la := Fa.out.lt
          replace a0 : w17.cell? ⟨w1.heap.size, 0, none⟩ = some (.int .i64 s.ph) := Fa.out.cell 0
          replace a1 : w17.cell? ⟨w1.heap.size, 1, none⟩ = some (.int .i64 s.ct) := Fa.out.cell 1
          replace a2 : w17.cell? ⟨w1.heap.size, 2, none⟩ = some (.int .i64 s.vl) := Fa.out.cell 2
          replace a3 : w17.cell? ⟨w1.heap.size, 3, none⟩ = some (.slice A1 m1 c1) := Fa.out.cell 3
          replace lx := Fx.out.lt
          replace x0 : w17.cell? ⟨w2.heap.size, 0, none⟩ = some (.int .i64 (scR s []).1.ph) := Fx.out.cell 0
          replace x1 : w17.cell? ⟨w2.heap.size, 1, none⟩ = some (.int .i64 (scR s []).1.ct) := Fx.out.cell 1
          replace x2 : w17.cell? ⟨w2.heap.size, 2, none⟩ = some (.int .i64 (scR s []).1.vl) := Fx.out.cell 2
          replace x3 : w17.cell? ⟨w2.heap.size, 3, none⟩ = some (.slice A3 m3 c3) := Fx.out.cell 3
          replace lb := Fb.out.lt
          replace b0 : w17.cell? ⟨w15.heap.size, 0, none⟩ = some (.int .i64 (scR s []).1.ph) := Fb.out.cell 0
          replace b1 : w17.cell? ⟨w15.heap.size, 1, none⟩ = some (.int .i64 (scR s []).1.ct) := Fb.out.cell 1
          replace b2 : w17.cell? ⟨w15.heap.size, 2, none⟩ = some (.int .i64 (scR s []).1.vl) := Fb.out.cell 2
          replace b3 : w17.cell? ⟨w15.heap.size, 3, none⟩ = some (.slice A8 m8 c8) := Fb.out.cell 3
          replace lr := Fr.out.lt
          replace r0 : w17.cell? ⟨w16.heap.size, 0, none⟩ = some (.int .i64 (scR s []).1.ph) := Fr.out.cell 0
          replace r1 : w17.cell? ⟨w16.heap.size, 1, none⟩ = some (.int .i64 (scR s []).1.ct) := Fr.out.cell 1
          replace r2 : w17.cell? ⟨w16.heap.size, 2, none⟩ = some (.int .i64 (scR s []).1.vl) := Fr.out.cell 2
          replace r3 : w17.cell? ⟨w16.heap.size, 3, none⟩ = some (.slice A9 m9 c9) := Fr.out.cell 3
          clear bb bn bA
          go_wp2_with fail
          (with_reducible refine (iIsScan_c (scR s []).1 A3 m3 c3 _ Ox.out.rd).mono ?_)
          rintro e w18 ⟨rfl, bn⟩
          rw [Q3.out]
          replace BB := hide (below_trans BB.out bn)
          clear bn
          go_wp2_with fail
          go_ret
          exact ⟨rfl, BB.out⟩
        · clear N0
          have NE := Nat.ne_of_gt NLx.out
          have NE' := Nat.ne_of_lt NLx.out
          go_wp2_with fail
          replace Oa := hide (Oa.out.set4 (g := W.heap.size) ⟨_, Fr.out⟩ (.int .i64 (scR s []).1.ph) (.int .i64 (scR s []).1.ct) (.int .i64 (scR s []).1.vl) (.slice A9 m9 c9))
          replace Oz := hide (Oz.out.set4 (g := W.heap.size) ⟨_, Fr.out⟩ (.int .i64 (scR s []).1.ph) (.int .i64 (scR s []).1.ct) (.int .i64 (scR s []).1.vl) (.slice A9 m9 c9))
          replace Ox := hide (Ox.out.set4 (g := W.heap.size) ⟨_, Fr.out⟩ (.int .i64 (scR s []).1.ph) (.int .i64 (scR s []).1.ct) (.int .i64 (scR s []).1.vl) (.slice A9 m9 c9))
          replace Ob := hide (Ob.out.set4 (g := W.heap.size) ⟨_, Fr.out⟩ (.int .i64 (scR s []).1.ph) (.int .i64 (scR s []).1.ct) (.int .i64 (scR s []).1.vl) (.slice A9 m9 c9))
          replace Or := hide (Or.out.set4 (g := W.heap.size) ⟨_, Fr.out⟩ (.int .i64 (scR s []).1.ph) (.int .i64 (scR s []).1.ct) (.int .i64 (scR s []).1.vl) (.slice A9 m9 c9))
          replace Fx := hide (Fx.out.other4 (g := W.heap.size) (by have := NLx.out; omega) (.int .i64 (scR s []).1.ph) (.int .i64 (scR s []).1.ct) (.int .i64 (scR s []).1.vl) (.slice A9 m9 c9))
          replace BB := hide (below_set4 BB.out (g := W.heap.size) (by have := HW.out; omega) (.int .i64 (scR s []).1.ph) (.int .i64 (scR s []).1.ct) (.int .i64 (scR s []).1.vl) (.slice A9 m9 c9))
          (with_reducible refine (likeInts_b _ _ _ _ _ _ _ _ _ Or.out.rd Ox.out.rd).mono ?_)
          rintro e w17 ⟨rfl, bn⟩
          replace Fx := hide (Fx.out.below bn)
          replace Oa := hide (Oa.out.below bn)
          replace Oz := hide (Oz.out.below bn)
          replace Ox := hide (Ox.out.below bn)
          replace Ob := hide (Ob.out.below bn)
          replace Or := hide (Or.out.below bn)
          replace BB := hide (below_trans BB.out bn)
          replace hz := BB.out.size
          replace lx := Fx.out.lt
          replace x0 : w17.cell? ⟨w2.heap.size, 0, none⟩ = some (.int .i64 (scR s []).1.ph) := Fx.out.cell 0
          replace x1 : w17.cell? ⟨w2.heap.size, 1, none⟩ = some (.int .i64 (scR s []).1.ct) := Fx.out.cell 1
          replace x2 : w17.cell? ⟨w2.heap.size, 2, none⟩ = some (.int .i64 (scR s []).1.vl) := Fx.out.cell 2
          replace x3 : w17.cell? ⟨w2.heap.size, 3, none⟩ = some (.slice A3 m3 c3) := Fx.out.cell 3
          clear bn
          go_wp2_with fail
          (with_reducible refine (iIsScan_c (scR s []).1 A3 m3 c3 _ Ox.out.rd).mono ?_)
          rintro e w18 ⟨rfl, bn⟩
          rw [Q3.out]
          replace BB := hide (below_trans BB.out bn)
          clear bn
          go_wp2_with fail
          go_ret
          exact ⟨rfl, BB.out⟩
      · clear N0
        go_wp2_with fail
        replace Fa := hide (Fa.out.other4 (g := w14.heap.size) (by have := MLa.out; omega) (.int .i64 (scR s []).1.ph) (.int .i64 (scR s []).1.ct) (.int .i64 (scR s []).1.vl) (.slice A8 m8 c8))
        replace Fx := hide (Fx.out.other4 (g := w14.heap.size) (by have := MLx.out; omega) (.int .i64 (scR s []).1.ph) (.int .i64 (scR s []).1.ct) (.int .i64 (scR s []).1.vl) (.slice A8 m8 c8))
        replace Oa := hide (Oa.out.set4 (g := w14.heap.size) ⟨_, Fb.out⟩ (.int .i64 (scR s []).1.ph) (.int .i64 (scR s []).1.ct) (.int .i64 (scR s []).1.vl) (.slice A8 m8 c8))
        replace Oz := hide (Oz.out.set4 (g := w14.heap.size) ⟨_, Fb.out⟩ (.int .i64 (scR s []).1.ph) (.int .i64 (scR s []).1.ct) (.int .i64 (scR s []).1.vl) (.slice A8 m8 c8))
        replace Ox := hide (Ox.out.set4 (g := w14.heap.size) ⟨_, Fb.out⟩ (.int .i64 (scR s []).1.ph) (.int .i64 (scR s []).1.ct) (.int .i64 (scR s []).1.vl) (.slice A8 m8 c8))
        replace Ob := hide (Ob.out.set4 (g := w14.heap.size) ⟨_, Fb.out⟩ (.int .i64 (scR s []).1.ph) (.int .i64 (scR s []).1.ct) (.int .i64 (scR s []).1.vl) (.slice A8 m8 c8))
        replace BB := hide (below_set4 BB.out (g := w14.heap.size) (by have := HZ14.out; omega) (.int .i64 (scR s []).1.ph) (.int .i64 (scR s []).1.ct) (.int .i64 (scR s []).1.vl) (.slice A8 m8 c8))
        replace Fb := hide (Fb.out.put4 (.int .i64 (scR s []).1.ph) (.int .i64 (scR s []).1.ct) (.int .i64 (scR s []).1.vl) (.slice A8 m8 c8))
        replace hz := BB.out.size
        clear jb0 jb1 jb2 jb3
        clear a0 a1 a2 a3
        clear x0 x1 x2 x3
        clear b0 b1 b2 b3
        clear la lx lb
        generalize hW : ((((w15.setCell ⟨w14.heap.size, 0, none⟩ (.int .i64 (scR s []).1.ph)).setCell ⟨w14.heap.size, 1, none⟩ (.int .i64 (scR s []).1.ct)).setCell ⟨w14.heap.size, 2, none⟩ (.int .i64 (scR s []).1.vl)).setCell ⟨w14.heap.size, 3, none⟩ (.slice A8 m8 c8)) = W at Fa Fx Fb Oa Oz Ox Ob BB hz ⊢
        clear hW
        replace la := Fa.out.lt
        replace a0 : W.cell? ⟨w1.heap.size, 0, none⟩ = some (.int .i64 s.ph) := Fa.out.cell 0
        replace a1 : W.cell? ⟨w1.heap.size, 1, none⟩ = some (.int .i64 s.ct) := Fa.out.cell 1
        replace a2 : W.cell? ⟨w1.heap.size, 2, none⟩ = some (.int .i64 s.vl) := Fa.out.cell 2
        replace a3 : W.cell? ⟨w1.heap.size, 3, none⟩ = some (.slice A1 m1 c1) := Fa.out.cell 3
        replace lx := Fx.out.lt
        replace x0 : W.cell? ⟨w2.heap.size, 0, none⟩ = some (.int .i64 (scR s []).1.ph) := Fx.out.cell 0
        replace x1 : W.cell? ⟨w2.heap.size, 1, none⟩ = some (.int .i64 (scR s []).1.ct) := Fx.out.cell 1
        replace x2 : W.cell? ⟨w2.heap.size, 2, none⟩ = some (.int .i64 (scR s []).1.vl) := Fx.out.cell 2
        replace x3 : W.cell? ⟨w2.heap.size, 3, none⟩ = some (.slice A3 m3 c3) := Fx.out.cell 3
        replace lb := Fb.out.lt
        replace b0 : W.cell? ⟨w14.heap.size, 0, none⟩ = some (.int .i64 (scR s []).1.ph) := Fb.out.cell 0
        replace b1 : W.cell? ⟨w14.heap.size, 1, none⟩ = some (.int .i64 (scR s []).1.ct) := Fb.out.cell 1
        replace b2 : W.cell? ⟨w14.heap.size, 2, none⟩ = some (.int .i64 (scR s []).1.vl) := Fb.out.cell 2
        replace b3 : W.cell? ⟨w14.heap.size, 3, none⟩ = some (.slice A8 m8 c8) := Fb.out.cell 3
        have HW := hide hz
        have NLx := hide lx
        have hm8s : m8 ≤ 1024 := by have := (scnB_get Q4.out).2.1.1; have := Ob.out.len; omega
        have N0 := World.new_ne W ⟨w14.heap.size, 0, none⟩ b0
        go_region_held3 (fun w' => w'.cell? ⟨w14.heap.size, 0, none⟩ = some (.int .i64 (scR s []).1.ph) ∧ w'.cell? ⟨w14.heap.size, 1, none⟩ = some (.int .i64 (scR s []).1.ct) ∧ w'.cell? ⟨w14.heap.size, 2, none⟩ = some (.int .i64 (scR s []).1.vl) ∧ w'.cell? ⟨w14.heap.size, 3, none⟩ = some (.slice A8 m8 c8)) (go_keep) (first | (go_at_call 56; (with_reducible refine (iScan_rest0 s A8 m8 c8 none 0 0 _ Ob.out.rd.drew Oz.out.rd.drew (by omega) (by omega) HC.out).mono ?_); rintro e w16 ⟨A9, m9, c9, rfl, own, bn, hm9⟩; replace own := own.mono (B' := w.heap.size) BB.out.size; have bb := below_drewS bn; replace Fa := hide (Fa.out.below bb); replace Fx := hide (Fx.out.below bb); replace Fb := hide (Fb.out.below bb); replace Oa := hide (Oa.out.below bb); replace Oz := hide (Oz.out.below bb); replace Ox := hide (Ox.out.below bb); replace Ob := hide (Ob.out.below bb); replace BB := hide (below_trans BB.out bb); replace hz := BB.out.size; replace la := Fa.out.lt; replace a0 : w16.cell? ⟨w1.heap.size, 0, none⟩ = some (.int .i64 s.ph) := Fa.out.cell 0; replace a1 : w16.cell? ⟨w1.heap.size, 1, none⟩ = some (.int .i64 s.ct) := Fa.out.cell 1; replace a2 : w16.cell? ⟨w1.heap.size, 2, none⟩ = some (.int .i64 s.vl) := Fa.out.cell 2; replace a3 : w16.cell? ⟨w1.heap.size, 3, none⟩ = some (.slice A1 m1 c1) := Fa.out.cell 3; replace lx := Fx.out.lt; replace x0 : w16.cell? ⟨w2.heap.size, 0, none⟩ = some (.int .i64 (scR s []).1.ph) := Fx.out.cell 0; replace x1 : w16.cell? ⟨w2.heap.size, 1, none⟩ = some (.int .i64 (scR s []).1.ct) := Fx.out.cell 1; replace x2 : w16.cell? ⟨w2.heap.size, 2, none⟩ = some (.int .i64 (scR s []).1.vl) := Fx.out.cell 2; replace x3 : w16.cell? ⟨w2.heap.size, 3, none⟩ = some (.slice A3 m3 c3) := Fx.out.cell 3; replace lb := Fb.out.lt; replace b0 : w16.cell? ⟨w14.heap.size, 0, none⟩ = some (.int .i64 (scR s []).1.ph) := Fb.out.cell 0; replace b1 : w16.cell? ⟨w14.heap.size, 1, none⟩ = some (.int .i64 (scR s []).1.ct) := Fb.out.cell 1; replace b2 : w16.cell? ⟨w14.heap.size, 2, none⟩ = some (.int .i64 (scR s []).1.vl) := Fb.out.cell 2; replace b3 : w16.cell? ⟨w14.heap.size, 3, none⟩ = some (.slice A8 m8 c8) := Fb.out.cell 3; have Or := hide own; clear bb bn own) | (go_at_call 56; have bA : Below W.heap.size W (W.alloc (.cells #[.int .i64 0, .int .i64 0, .int .i64 0, .slice none 0 0] 30)) := (Below.refl _ _).alloc (Nat.le_refl _) _; (with_reducible refine (iScan_rest0 s A8 m8 c8 none 0 0 _ (Ob.out.below bA).rd.drew (Oz.out.below bA).rd.drew (by omega) (by omega) HC.out).mono ?_); rintro e w16 ⟨A9, m9, c9, rfl, own, bn, hm9⟩; have bm := below_drewS bn; have bb := below_trans bA bm; replace own := own.mono (B' := w.heap.size) (by simp; omega); replace Fa := hide (Fa.out.below bb); replace Fx := hide (Fx.out.below bb); replace Fb := hide (Fb.out.below bb); replace Oa := hide (Oa.out.below bb); replace Oz := hide (Oz.out.below bb); replace Ox := hide (Ox.out.below bb); replace Ob := hide (Ob.out.below bb); replace BB := hide (below_trans BB.out bb); replace hz := BB.out.size; have Fr := hide ((ScnAt.fresh W #[.int .i64 0, .int .i64 0, .int .i64 0, .slice none 0 0]).below bm); replace la := Fa.out.lt; replace a0 : w16.cell? ⟨w1.heap.size, 0, none⟩ = some (.int .i64 s.ph) := Fa.out.cell 0; replace a1 : w16.cell? ⟨w1.heap.size, 1, none⟩ = some (.int .i64 s.ct) := Fa.out.cell 1; replace a2 : w16.cell? ⟨w1.heap.size, 2, none⟩ = some (.int .i64 s.vl) := Fa.out.cell 2; replace a3 : w16.cell? ⟨w1.heap.size, 3, none⟩ = some (.slice A1 m1 c1) := Fa.out.cell 3; replace lx := Fx.out.lt; replace x0 : w16.cell? ⟨w2.heap.size, 0, none⟩ = some (.int .i64 (scR s []).1.ph) := Fx.out.cell 0; replace x1 : w16.cell? ⟨w2.heap.size, 1, none⟩ = some (.int .i64 (scR s []).1.ct) := Fx.out.cell 1; replace x2 : w16.cell? ⟨w2.heap.size, 2, none⟩ = some (.int .i64 (scR s []).1.vl) := Fx.out.cell 2; replace x3 : w16.cell? ⟨w2.heap.size, 3, none⟩ = some (.slice A3 m3 c3) := Fx.out.cell 3; replace lb := Fb.out.lt; replace b0 : w16.cell? ⟨w14.heap.size, 0, none⟩ = some (.int .i64 (scR s []).1.ph) := Fb.out.cell 0; replace b1 : w16.cell? ⟨w14.heap.size, 1, none⟩ = some (.int .i64 (scR s []).1.ct) := Fb.out.cell 1; replace b2 : w16.cell? ⟨w14.heap.size, 2, none⟩ = some (.int .i64 (scR s []).1.vl) := Fb.out.cell 2; replace b3 : w16.cell? ⟨w14.heap.size, 3, none⟩ = some (.slice A8 m8 c8) := Fb.out.cell 3; replace lr := Fr.out.lt; replace r0 : w16.cell? ⟨W.heap.size, 0, none⟩ = some (.int .i64 0) := Fr.out.cell 0; replace r1 : w16.cell? ⟨W.heap.size, 1, none⟩ = some (.int .i64 0) := Fr.out.cell 1; replace r2 : w16.cell? ⟨W.heap.size, 2, none⟩ = some (.int .i64 0) := Fr.out.cell 2; replace r3 : w16.cell? ⟨W.heap.size, 3, none⟩ = some (.slice none 0 0) := Fr.out.cell 3; have jr0 := Fr.out.frozen 0; have jr1 := Fr.out.frozen 1; have jr2 := Fr.out.frozen 2; have jr3 := Fr.out.frozen 3; have Or := hide own; clear bb bn bm own bA))
        · clear N0
          go_wp2_with fail
          have bA : Below w16.heap.size w16 (w16.alloc (.cells #[.int .i64 (scR s []).1.ph, .int .i64 (scR s []).1.ct, .int .i64 (scR s []).1.vl, .slice A9 m9 c9] 30)) := (Below.refl _ _).alloc (Nat.le_refl _) _
          (with_reducible refine (likeInts_b _ _ _ _ _ _ _ _ _ (Or.out.below bA).rd (Ox.out.below bA).rd).mono ?_)
          rintro e w17 ⟨rfl, bn⟩
          have bb := below_trans bA bn
          replace Fa := hide (Fa.out.below bb)
          replace Fx := hide (Fx.out.below bb)
          replace Fb := hide (Fb.out.below bb)
          replace Oa := hide (Oa.out.below bb)
          replace Oz := hide (Oz.out.below bb)
          replace Ox := hide (Ox.out.below bb)
          replace Ob := hide (Ob.out.below bb)
          replace Or := hide (Or.out.below bb)
          replace BB := hide (below_trans BB.out bb)
          replace hz := BB.out.size
          have Fr := hide ((ScnAt.fresh w16 #[.int .i64 (scR s []).1.ph, .int .i64 (scR s []).1.ct, .int .i64 (scR s []).1.vl, .slice A9 m9 c9]).below bn)
          replace la := Fa.out.lt
          replace a0 : w17.cell? ⟨w1.heap.size, 0, none⟩ = some (.int .i64 s.ph) := Fa.out.cell 0
          replace a1 : w17.cell? ⟨w1.heap.size, 1, none⟩ = some (.int .i64 s.ct) := Fa.out.cell 1
          replace a2 : w17.cell? ⟨w1.heap.size, 2, none⟩ = some (.int .i64 s.vl) := Fa.out.cell 2
          replace a3 : w17.cell? ⟨w1.heap.size, 3, none⟩ = some (.slice A1 m1 c1) := Fa.out.cell 3
          replace lx := Fx.out.lt
          replace x0 : w17.cell? ⟨w2.heap.size, 0, none⟩ = some (.int .i64 (scR s []).1.ph) := Fx.out.cell 0
          replace x1 : w17.cell? ⟨w2.heap.size, 1, none⟩ = some (.int .i64 (scR s []).1.ct) := Fx.out.cell 1
          replace x2 : w17.cell? ⟨w2.heap.size, 2, none⟩ = some (.int .i64 (scR s []).1.vl) := Fx.out.cell 2
          replace x3 : w17.cell? ⟨w2.heap.size, 3, none⟩ = some (.slice A3 m3 c3) := Fx.out.cell 3
          replace lb := Fb.out.lt
          replace b0 : w17.cell? ⟨w14.heap.size, 0, none⟩ = some (.int .i64 (scR s []).1.ph) := Fb.out.cell 0
          replace b1 : w17.cell? ⟨w14.heap.size, 1, none⟩ = some (.int .i64 (scR s []).1.ct) := Fb.out.cell 1
          replace b2 : w17.cell? ⟨w14.heap.size, 2, none⟩ = some (.int .i64 (scR s []).1.vl) := Fb.out.cell 2
          replace b3 : w17.cell? ⟨w14.heap.size, 3, none⟩ = some (.slice A8 m8 c8) := Fb.out.cell 3
          replace lr := Fr.out.lt
          replace r0 : w17.cell? ⟨w16.heap.size, 0, none⟩ = some (.int .i64 (scR s []).1.ph) := Fr.out.cell 0
          replace r1 : w17.cell? ⟨w16.heap.size, 1, none⟩ = some (.int .i64 (scR s []).1.ct) := Fr.out.cell 1
          replace r2 : w17.cell? ⟨w16.heap.size, 2, none⟩ = some (.int .i64 (scR s []).1.vl) := Fr.out.cell 2
          replace r3 : w17.cell? ⟨w16.heap.size, 3, none⟩ = some (.slice A9 m9 c9) := Fr.out.cell 3
          clear bb bn bA
          go_wp2_with fail
          (with_reducible refine (iIsScan_c (scR s []).1 A3 m3 c3 _ Ox.out.rd).mono ?_)
          rintro e w18 ⟨rfl, bn⟩
          rw [Q3.out]
          replace BB := hide (below_trans BB.out bn)
          clear bn
          go_wp2_with fail
          go_ret
          exact ⟨rfl, BB.out⟩
        · clear N0
          have NE := Nat.ne_of_gt NLx.out
          have NE' := Nat.ne_of_lt NLx.out
          go_wp2_with fail
          replace Oa := hide (Oa.out.set4 (g := W.heap.size) ⟨_, Fr.out⟩ (.int .i64 (scR s []).1.ph) (.int .i64 (scR s []).1.ct) (.int .i64 (scR s []).1.vl) (.slice A9 m9 c9))
          replace Oz := hide (Oz.out.set4 (g := W.heap.size) ⟨_, Fr.out⟩ (.int .i64 (scR s []).1.ph) (.int .i64 (scR s []).1.ct) (.int .i64 (scR s []).1.vl) (.slice A9 m9 c9))
          replace Ox := hide (Ox.out.set4 (g := W.heap.size) ⟨_, Fr.out⟩ (.int .i64 (scR s []).1.ph) (.int .i64 (scR s []).1.ct) (.int .i64 (scR s []).1.vl) (.slice A9 m9 c9))
          replace Ob := hide (Ob.out.set4 (g := W.heap.size) ⟨_, Fr.out⟩ (.int .i64 (scR s []).1.ph) (.int .i64 (scR s []).1.ct) (.int .i64 (scR s []).1.vl) (.slice A9 m9 c9))
          replace Or := hide (Or.out.set4 (g := W.heap.size) ⟨_, Fr.out⟩ (.int .i64 (scR s []).1.ph) (.int .i64 (scR s []).1.ct) (.int .i64 (scR s []).1.vl) (.slice A9 m9 c9))
          replace Fx := hide (Fx.out.other4 (g := W.heap.size) (by have := NLx.out; omega) (.int .i64 (scR s []).1.ph) (.int .i64 (scR s []).1.ct) (.int .i64 (scR s []).1.vl) (.slice A9 m9 c9))
          replace BB := hide (below_set4 BB.out (g := W.heap.size) (by have := HW.out; omega) (.int .i64 (scR s []).1.ph) (.int .i64 (scR s []).1.ct) (.int .i64 (scR s []).1.vl) (.slice A9 m9 c9))
          (with_reducible refine (likeInts_b _ _ _ _ _ _ _ _ _ Or.out.rd Ox.out.rd).mono ?_)
          rintro e w17 ⟨rfl, bn⟩
          replace Fx := hide (Fx.out.below bn)
          replace Oa := hide (Oa.out.below bn)
          replace Oz := hide (Oz.out.below bn)
          replace Ox := hide (Ox.out.below bn)
          replace Ob := hide (Ob.out.below bn)
          replace Or := hide (Or.out.below bn)
          replace BB := hide (below_trans BB.out bn)
          replace hz := BB.out.size
          replace lx := Fx.out.lt
          replace x0 : w17.cell? ⟨w2.heap.size, 0, none⟩ = some (.int .i64 (scR s []).1.ph) := Fx.out.cell 0
          replace x1 : w17.cell? ⟨w2.heap.size, 1, none⟩ = some (.int .i64 (scR s []).1.ct) := Fx.out.cell 1
          replace x2 : w17.cell? ⟨w2.heap.size, 2, none⟩ = some (.int .i64 (scR s []).1.vl) := Fx.out.cell 2
          replace x3 : w17.cell? ⟨w2.heap.size, 3, none⟩ = some (.slice A3 m3 c3) := Fx.out.cell 3
          clear bn
          go_wp2_with fail
          (with_reducible refine (iIsScan_c (scR s []).1 A3 m3 c3 _ Ox.out.rd).mono ?_)
          rintro e w18 ⟨rfl, bn⟩
          rw [Q3.out]
          replace BB := hide (below_trans BB.out bn)
          clear bn
          go_wp2_with fail
          go_ret
          exact ⟨rfl, BB.out⟩
    · by_cases hcj : c2 = j
      · have hcc := Oz.out.cap
        obtain rfl : m2 = j := by omega
        subst hcj
        have z1 : (0 : Int) ≤ (c2 : Int) := by omega
        go_wp2_with fail
        have MLa := hide la
        have MLx := hide lx
        have N0 := World.new_ne w14 ⟨w1.heap.size, 0, none⟩ a0
        go_region_held3 (fun w' => w'.cell? ⟨w1.heap.size, 0, none⟩ = some (.int .i64 s.ph) ∧ w'.cell? ⟨w1.heap.size, 1, none⟩ = some (.int .i64 s.ct) ∧ w'.cell? ⟨w1.heap.size, 2, none⟩ = some (.int .i64 s.vl) ∧ w'.cell? ⟨w1.heap.size, 3, none⟩ = some (.slice A1 m1 c1)) (go_keep) (first | (go_at_call 56; (with_reducible refine (iScanCells_c s A1 m1 c1 (some ⟨gb, 0, none⟩) c2 c2 (zs.take c2) _ Oa.out.rd.drew (Oz.out.rd.drew.take (by omega)) (by omega) (by omega)).mono ?_); rintro e w15 ⟨A8, m8, c8, rfl, own, bn, hm8⟩; replace own := own.mono (B' := w.heap.size) BB.out.size; have bb := below_drewS bn; replace Fa := hide (Fa.out.below bb); replace Fx := hide (Fx.out.below bb); replace Oa := hide (Oa.out.below bb); replace Oz := hide (Oz.out.below bb); replace Ox := hide (Ox.out.below bb); replace BB := hide (below_trans BB.out bb); replace hz := BB.out.size; replace la := Fa.out.lt; replace a0 : w15.cell? ⟨w1.heap.size, 0, none⟩ = some (.int .i64 s.ph) := Fa.out.cell 0; replace a1 : w15.cell? ⟨w1.heap.size, 1, none⟩ = some (.int .i64 s.ct) := Fa.out.cell 1; replace a2 : w15.cell? ⟨w1.heap.size, 2, none⟩ = some (.int .i64 s.vl) := Fa.out.cell 2; replace a3 : w15.cell? ⟨w1.heap.size, 3, none⟩ = some (.slice A1 m1 c1) := Fa.out.cell 3; replace lx := Fx.out.lt; replace x0 : w15.cell? ⟨w2.heap.size, 0, none⟩ = some (.int .i64 (scR s zs).1.ph) := Fx.out.cell 0; replace x1 : w15.cell? ⟨w2.heap.size, 1, none⟩ = some (.int .i64 (scR s zs).1.ct) := Fx.out.cell 1; replace x2 : w15.cell? ⟨w2.heap.size, 2, none⟩ = some (.int .i64 (scR s zs).1.vl) := Fx.out.cell 2; replace x3 : w15.cell? ⟨w2.heap.size, 3, none⟩ = some (.slice A3 m3 c3) := Fx.out.cell 3; have Ob := hide own; clear bb bn own) | (go_at_call 56; have bA : Below w14.heap.size w14 (w14.alloc (.cells #[.int .i64 0, .int .i64 0, .int .i64 0, .slice none 0 0] 30)) := (Below.refl _ _).alloc (Nat.le_refl _) _; (with_reducible refine (iScanCells_c s A1 m1 c1 (some ⟨gb, 0, none⟩) c2 c2 (zs.take c2) _ (Oa.out.below bA).rd.drew ((Oz.out.below bA).rd.drew.take (by omega)) (by omega) (by omega)).mono ?_); rintro e w15 ⟨A8, m8, c8, rfl, own, bn, hm8⟩; have bm := below_drewS bn; have bb := below_trans bA bm; replace own := own.mono (B' := w.heap.size) (by simp; omega); replace Fa := hide (Fa.out.below bb); replace Fx := hide (Fx.out.below bb); replace Oa := hide (Oa.out.below bb); replace Oz := hide (Oz.out.below bb); replace Ox := hide (Ox.out.below bb); replace BB := hide (below_trans BB.out bb); replace hz := BB.out.size; have Fb := hide ((ScnAt.fresh w14 #[.int .i64 0, .int .i64 0, .int .i64 0, .slice none 0 0]).below bm); replace la := Fa.out.lt; replace a0 : w15.cell? ⟨w1.heap.size, 0, none⟩ = some (.int .i64 s.ph) := Fa.out.cell 0; replace a1 : w15.cell? ⟨w1.heap.size, 1, none⟩ = some (.int .i64 s.ct) := Fa.out.cell 1; replace a2 : w15.cell? ⟨w1.heap.size, 2, none⟩ = some (.int .i64 s.vl) := Fa.out.cell 2; replace a3 : w15.cell? ⟨w1.heap.size, 3, none⟩ = some (.slice A1 m1 c1) := Fa.out.cell 3; replace lx := Fx.out.lt; replace x0 : w15.cell? ⟨w2.heap.size, 0, none⟩ = some (.int .i64 (scR s zs).1.ph) := Fx.out.cell 0; replace x1 : w15.cell? ⟨w2.heap.size, 1, none⟩ = some (.int .i64 (scR s zs).1.ct) := Fx.out.cell 1; replace x2 : w15.cell? ⟨w2.heap.size, 2, none⟩ = some (.int .i64 (scR s zs).1.vl) := Fx.out.cell 2; replace x3 : w15.cell? ⟨w2.heap.size, 3, none⟩ = some (.slice A3 m3 c3) := Fx.out.cell 3; replace lb := Fb.out.lt; replace b0 : w15.cell? ⟨w14.heap.size, 0, none⟩ = some (.int .i64 0) := Fb.out.cell 0; replace b1 : w15.cell? ⟨w14.heap.size, 1, none⟩ = some (.int .i64 0) := Fb.out.cell 1; replace b2 : w15.cell? ⟨w14.heap.size, 2, none⟩ = some (.int .i64 0) := Fb.out.cell 2; replace b3 : w15.cell? ⟨w14.heap.size, 3, none⟩ = some (.slice none 0 0) := Fb.out.cell 3; have jb0 := Fb.out.frozen 0; have jb1 := Fb.out.frozen 1; have jb2 := Fb.out.frozen 2; have jb3 := Fb.out.frozen 3; have Ob := hide own; clear bb bn bm own bA))
        · clear N0
          go_wp2_with fail
          have bA : Below w15.heap.size w15 (w15.alloc (.cells #[.int .i64 (scR s (zs.take c2)).1.ph, .int .i64 (scR s (zs.take c2)).1.ct, .int .i64 (scR s (zs.take c2)).1.vl, .slice A8 m8 c8] 30)) := (Below.refl _ _).alloc (Nat.le_refl _) _
          replace Fa := hide (Fa.out.below bA)
          replace Fx := hide (Fx.out.below bA)
          replace Oa := hide (Oa.out.below bA)
          replace Oz := hide (Oz.out.below bA)
          replace Ox := hide (Ox.out.below bA)
          replace Ob := hide (Ob.out.below bA)
          replace BB := hide (below_trans BB.out bA)
          replace hz := BB.out.size
          have Fb := hide (ScnAt.fresh w15 #[.int .i64 (scR s (zs.take c2)).1.ph, .int .i64 (scR s (zs.take c2)).1.ct, .int .i64 (scR s (zs.take c2)).1.vl, .slice A8 m8 c8])
          clear bA
          clear a0 a1 a2 a3
          clear x0 x1 x2 x3
          clear la lx
          generalize hW : (w15.alloc (.cells #[.int .i64 (scR s (zs.take c2)).1.ph, .int .i64 (scR s (zs.take c2)).1.ct, .int .i64 (scR s (zs.take c2)).1.vl, .slice A8 m8 c8] 30)) = W at Fa Fx Fb Oa Oz Ox Ob BB hz ⊢
          clear hW
          replace la := Fa.out.lt
          replace a0 : W.cell? ⟨w1.heap.size, 0, none⟩ = some (.int .i64 s.ph) := Fa.out.cell 0
          replace a1 : W.cell? ⟨w1.heap.size, 1, none⟩ = some (.int .i64 s.ct) := Fa.out.cell 1
          replace a2 : W.cell? ⟨w1.heap.size, 2, none⟩ = some (.int .i64 s.vl) := Fa.out.cell 2
          replace a3 : W.cell? ⟨w1.heap.size, 3, none⟩ = some (.slice A1 m1 c1) := Fa.out.cell 3
          replace lx := Fx.out.lt
          replace x0 : W.cell? ⟨w2.heap.size, 0, none⟩ = some (.int .i64 (scR s zs).1.ph) := Fx.out.cell 0
          replace x1 : W.cell? ⟨w2.heap.size, 1, none⟩ = some (.int .i64 (scR s zs).1.ct) := Fx.out.cell 1
          replace x2 : W.cell? ⟨w2.heap.size, 2, none⟩ = some (.int .i64 (scR s zs).1.vl) := Fx.out.cell 2
          replace x3 : W.cell? ⟨w2.heap.size, 3, none⟩ = some (.slice A3 m3 c3) := Fx.out.cell 3
          replace lb := Fb.out.lt
          replace b0 : W.cell? ⟨w15.heap.size, 0, none⟩ = some (.int .i64 (scR s (zs.take c2)).1.ph) := Fb.out.cell 0
          replace b1 : W.cell? ⟨w15.heap.size, 1, none⟩ = some (.int .i64 (scR s (zs.take c2)).1.ct) := Fb.out.cell 1
          replace b2 : W.cell? ⟨w15.heap.size, 2, none⟩ = some (.int .i64 (scR s (zs.take c2)).1.vl) := Fb.out.cell 2
          replace b3 : W.cell? ⟨w15.heap.size, 3, none⟩ = some (.slice A8 m8 c8) := Fb.out.cell 3
          have HW := hide hz
          have NLx := hide lx
          have hm8s : m8 ≤ 1024 := by have := (scnB_get Q4.out).2.1.1; have := Ob.out.len; omega
          have N0 := World.new_ne W ⟨w15.heap.size, 0, none⟩ b0
          go_region_held3 (fun w' => w'.cell? ⟨w15.heap.size, 0, none⟩ = some (.int .i64 (scR s (zs.take c2)).1.ph) ∧ w'.cell? ⟨w15.heap.size, 1, none⟩ = some (.int .i64 (scR s (zs.take c2)).1.ct) ∧ w'.cell? ⟨w15.heap.size, 2, none⟩ = some (.int .i64 (scR s (zs.take c2)).1.vl) ∧ w'.cell? ⟨w15.heap.size, 3, none⟩ = some (.slice A8 m8 c8)) (go_keep) (first | (go_at_call 56; (with_reducible refine (iScan_rest s A8 m8 c8 (some ⟨gb, 0, none⟩) 0 0 zs c2 _ Ob.out.rd.drew (rd_end Oz.out.rd.drew (by have := Oz.out.len; omega)) (by omega) (by omega) HC.out).mono ?_); rintro e w16 ⟨A9, m9, c9, rfl, own, bn, hm9⟩; replace own := own.mono (B' := w.heap.size) BB.out.size; have bb := below_drewS bn; replace Fa := hide (Fa.out.below bb); replace Fx := hide (Fx.out.below bb); replace Fb := hide (Fb.out.below bb); replace Oa := hide (Oa.out.below bb); replace Oz := hide (Oz.out.below bb); replace Ox := hide (Ox.out.below bb); replace Ob := hide (Ob.out.below bb); replace BB := hide (below_trans BB.out bb); replace hz := BB.out.size; replace la := Fa.out.lt; replace a0 : w16.cell? ⟨w1.heap.size, 0, none⟩ = some (.int .i64 s.ph) := Fa.out.cell 0; replace a1 : w16.cell? ⟨w1.heap.size, 1, none⟩ = some (.int .i64 s.ct) := Fa.out.cell 1; replace a2 : w16.cell? ⟨w1.heap.size, 2, none⟩ = some (.int .i64 s.vl) := Fa.out.cell 2; replace a3 : w16.cell? ⟨w1.heap.size, 3, none⟩ = some (.slice A1 m1 c1) := Fa.out.cell 3; replace lx := Fx.out.lt; replace x0 : w16.cell? ⟨w2.heap.size, 0, none⟩ = some (.int .i64 (scR s zs).1.ph) := Fx.out.cell 0; replace x1 : w16.cell? ⟨w2.heap.size, 1, none⟩ = some (.int .i64 (scR s zs).1.ct) := Fx.out.cell 1; replace x2 : w16.cell? ⟨w2.heap.size, 2, none⟩ = some (.int .i64 (scR s zs).1.vl) := Fx.out.cell 2; replace x3 : w16.cell? ⟨w2.heap.size, 3, none⟩ = some (.slice A3 m3 c3) := Fx.out.cell 3; replace lb := Fb.out.lt; replace b0 : w16.cell? ⟨w15.heap.size, 0, none⟩ = some (.int .i64 (scR s (zs.take c2)).1.ph) := Fb.out.cell 0; replace b1 : w16.cell? ⟨w15.heap.size, 1, none⟩ = some (.int .i64 (scR s (zs.take c2)).1.ct) := Fb.out.cell 1; replace b2 : w16.cell? ⟨w15.heap.size, 2, none⟩ = some (.int .i64 (scR s (zs.take c2)).1.vl) := Fb.out.cell 2; replace b3 : w16.cell? ⟨w15.heap.size, 3, none⟩ = some (.slice A8 m8 c8) := Fb.out.cell 3; have Or := hide own; clear bb bn own) | (go_at_call 56; have bA : Below W.heap.size W (W.alloc (.cells #[.int .i64 0, .int .i64 0, .int .i64 0, .slice none 0 0] 30)) := (Below.refl _ _).alloc (Nat.le_refl _) _; (with_reducible refine (iScan_rest s A8 m8 c8 (some ⟨gb, 0, none⟩) 0 0 zs c2 _ (Ob.out.below bA).rd.drew (rd_end (Oz.out.below bA).rd.drew (by have := Oz.out.len; omega)) (by omega) (by omega) HC.out).mono ?_); rintro e w16 ⟨A9, m9, c9, rfl, own, bn, hm9⟩; have bm := below_drewS bn; have bb := below_trans bA bm; replace own := own.mono (B' := w.heap.size) (by simp; omega); replace Fa := hide (Fa.out.below bb); replace Fx := hide (Fx.out.below bb); replace Fb := hide (Fb.out.below bb); replace Oa := hide (Oa.out.below bb); replace Oz := hide (Oz.out.below bb); replace Ox := hide (Ox.out.below bb); replace Ob := hide (Ob.out.below bb); replace BB := hide (below_trans BB.out bb); replace hz := BB.out.size; have Fr := hide ((ScnAt.fresh W #[.int .i64 0, .int .i64 0, .int .i64 0, .slice none 0 0]).below bm); replace la := Fa.out.lt; replace a0 : w16.cell? ⟨w1.heap.size, 0, none⟩ = some (.int .i64 s.ph) := Fa.out.cell 0; replace a1 : w16.cell? ⟨w1.heap.size, 1, none⟩ = some (.int .i64 s.ct) := Fa.out.cell 1; replace a2 : w16.cell? ⟨w1.heap.size, 2, none⟩ = some (.int .i64 s.vl) := Fa.out.cell 2; replace a3 : w16.cell? ⟨w1.heap.size, 3, none⟩ = some (.slice A1 m1 c1) := Fa.out.cell 3; replace lx := Fx.out.lt; replace x0 : w16.cell? ⟨w2.heap.size, 0, none⟩ = some (.int .i64 (scR s zs).1.ph) := Fx.out.cell 0; replace x1 : w16.cell? ⟨w2.heap.size, 1, none⟩ = some (.int .i64 (scR s zs).1.ct) := Fx.out.cell 1; replace x2 : w16.cell? ⟨w2.heap.size, 2, none⟩ = some (.int .i64 (scR s zs).1.vl) := Fx.out.cell 2; replace x3 : w16.cell? ⟨w2.heap.size, 3, none⟩ = some (.slice A3 m3 c3) := Fx.out.cell 3; replace lb := Fb.out.lt; replace b0 : w16.cell? ⟨w15.heap.size, 0, none⟩ = some (.int .i64 (scR s (zs.take c2)).1.ph) := Fb.out.cell 0; replace b1 : w16.cell? ⟨w15.heap.size, 1, none⟩ = some (.int .i64 (scR s (zs.take c2)).1.ct) := Fb.out.cell 1; replace b2 : w16.cell? ⟨w15.heap.size, 2, none⟩ = some (.int .i64 (scR s (zs.take c2)).1.vl) := Fb.out.cell 2; replace b3 : w16.cell? ⟨w15.heap.size, 3, none⟩ = some (.slice A8 m8 c8) := Fb.out.cell 3; replace lr := Fr.out.lt; replace r0 : w16.cell? ⟨W.heap.size, 0, none⟩ = some (.int .i64 0) := Fr.out.cell 0; replace r1 : w16.cell? ⟨W.heap.size, 1, none⟩ = some (.int .i64 0) := Fr.out.cell 1; replace r2 : w16.cell? ⟨W.heap.size, 2, none⟩ = some (.int .i64 0) := Fr.out.cell 2; replace r3 : w16.cell? ⟨W.heap.size, 3, none⟩ = some (.slice none 0 0) := Fr.out.cell 3; have jr0 := Fr.out.frozen 0; have jr1 := Fr.out.frozen 1; have jr2 := Fr.out.frozen 2; have jr3 := Fr.out.frozen 3; have Or := hide own; clear bb bn bm own bA))
          · clear N0
            go_wp2_with fail
            have bA : Below w16.heap.size w16 (w16.alloc (.cells #[.int .i64 (scR s zs).1.ph, .int .i64 (scR s zs).1.ct, .int .i64 (scR s zs).1.vl, .slice A9 m9 c9] 30)) := (Below.refl _ _).alloc (Nat.le_refl _) _
            (with_reducible refine (likeInts_b _ _ _ _ _ _ _ _ _ (Or.out.below bA).rd (Ox.out.below bA).rd).mono ?_)
            rintro e w17 ⟨rfl, bn⟩
            have bb := below_trans bA bn
            replace Fa := hide (Fa.out.below bb)
            replace Fx := hide (Fx.out.below bb)
            replace Fb := hide (Fb.out.below bb)
            replace Oa := hide (Oa.out.below bb)
            replace Oz := hide (Oz.out.below bb)
            replace Ox := hide (Ox.out.below bb)
            replace Ob := hide (Ob.out.below bb)
            replace Or := hide (Or.out.below bb)
            replace BB := hide (below_trans BB.out bb)
            replace hz := BB.out.size
            have Fr := hide ((ScnAt.fresh w16 #[.int .i64 (scR s zs).1.ph, .int .i64 (scR s zs).1.ct, .int .i64 (scR s zs).1.vl, .slice A9 m9 c9]).below bn)
            replace la := Fa.out.lt
            replace a0 : w17.cell? ⟨w1.heap.size, 0, none⟩ = some (.int .i64 s.ph) := Fa.out.cell 0
            replace a1 : w17.cell? ⟨w1.heap.size, 1, none⟩ = some (.int .i64 s.ct) := Fa.out.cell 1
            replace a2 : w17.cell? ⟨w1.heap.size, 2, none⟩ = some (.int .i64 s.vl) := Fa.out.cell 2
            replace a3 : w17.cell? ⟨w1.heap.size, 3, none⟩ = some (.slice A1 m1 c1) := Fa.out.cell 3
            replace lx := Fx.out.lt
            replace x0 : w17.cell? ⟨w2.heap.size, 0, none⟩ = some (.int .i64 (scR s zs).1.ph) := Fx.out.cell 0
            replace x1 : w17.cell? ⟨w2.heap.size, 1, none⟩ = some (.int .i64 (scR s zs).1.ct) := Fx.out.cell 1
            replace x2 : w17.cell? ⟨w2.heap.size, 2, none⟩ = some (.int .i64 (scR s zs).1.vl) := Fx.out.cell 2
            replace x3 : w17.cell? ⟨w2.heap.size, 3, none⟩ = some (.slice A3 m3 c3) := Fx.out.cell 3
            replace lb := Fb.out.lt
            replace b0 : w17.cell? ⟨w15.heap.size, 0, none⟩ = some (.int .i64 (scR s (zs.take c2)).1.ph) := Fb.out.cell 0
            replace b1 : w17.cell? ⟨w15.heap.size, 1, none⟩ = some (.int .i64 (scR s (zs.take c2)).1.ct) := Fb.out.cell 1
            replace b2 : w17.cell? ⟨w15.heap.size, 2, none⟩ = some (.int .i64 (scR s (zs.take c2)).1.vl) := Fb.out.cell 2
            replace b3 : w17.cell? ⟨w15.heap.size, 3, none⟩ = some (.slice A8 m8 c8) := Fb.out.cell 3
            replace lr := Fr.out.lt
            replace r0 : w17.cell? ⟨w16.heap.size, 0, none⟩ = some (.int .i64 (scR s zs).1.ph) := Fr.out.cell 0
            replace r1 : w17.cell? ⟨w16.heap.size, 1, none⟩ = some (.int .i64 (scR s zs).1.ct) := Fr.out.cell 1
            replace r2 : w17.cell? ⟨w16.heap.size, 2, none⟩ = some (.int .i64 (scR s zs).1.vl) := Fr.out.cell 2
            replace r3 : w17.cell? ⟨w16.heap.size, 3, none⟩ = some (.slice A9 m9 c9) := Fr.out.cell 3
            clear bb bn bA
            go_wp2_with fail
            (with_reducible refine (iIsScan_c (scR s zs).1 A3 m3 c3 _ Ox.out.rd).mono ?_)
            rintro e w18 ⟨rfl, bn⟩
            rw [Q3.out]
            replace BB := hide (below_trans BB.out bn)
            clear bn
            go_wp2_with fail
            go_ret
            exact ⟨rfl, BB.out⟩
          · clear N0
            have NE := Nat.ne_of_gt NLx.out
            have NE' := Nat.ne_of_lt NLx.out
            go_wp2_with fail
            replace Oa := hide (Oa.out.set4 (g := W.heap.size) ⟨_, Fr.out⟩ (.int .i64 (scR s zs).1.ph) (.int .i64 (scR s zs).1.ct) (.int .i64 (scR s zs).1.vl) (.slice A9 m9 c9))
            replace Oz := hide (Oz.out.set4 (g := W.heap.size) ⟨_, Fr.out⟩ (.int .i64 (scR s zs).1.ph) (.int .i64 (scR s zs).1.ct) (.int .i64 (scR s zs).1.vl) (.slice A9 m9 c9))
            replace Ox := hide (Ox.out.set4 (g := W.heap.size) ⟨_, Fr.out⟩ (.int .i64 (scR s zs).1.ph) (.int .i64 (scR s zs).1.ct) (.int .i64 (scR s zs).1.vl) (.slice A9 m9 c9))
            replace Ob := hide (Ob.out.set4 (g := W.heap.size) ⟨_, Fr.out⟩ (.int .i64 (scR s zs).1.ph) (.int .i64 (scR s zs).1.ct) (.int .i64 (scR s zs).1.vl) (.slice A9 m9 c9))
            replace Or := hide (Or.out.set4 (g := W.heap.size) ⟨_, Fr.out⟩ (.int .i64 (scR s zs).1.ph) (.int .i64 (scR s zs).1.ct) (.int .i64 (scR s zs).1.vl) (.slice A9 m9 c9))
            replace Fx := hide (Fx.out.other4 (g := W.heap.size) (by have := NLx.out; omega) (.int .i64 (scR s zs).1.ph) (.int .i64 (scR s zs).1.ct) (.int .i64 (scR s zs).1.vl) (.slice A9 m9 c9))
            replace BB := hide (below_set4 BB.out (g := W.heap.size) (by have := HW.out; omega) (.int .i64 (scR s zs).1.ph) (.int .i64 (scR s zs).1.ct) (.int .i64 (scR s zs).1.vl) (.slice A9 m9 c9))
            (with_reducible refine (likeInts_b _ _ _ _ _ _ _ _ _ Or.out.rd Ox.out.rd).mono ?_)
            rintro e w17 ⟨rfl, bn⟩
            replace Fx := hide (Fx.out.below bn)
            replace Oa := hide (Oa.out.below bn)
            replace Oz := hide (Oz.out.below bn)
            replace Ox := hide (Ox.out.below bn)
            replace Ob := hide (Ob.out.below bn)
            replace Or := hide (Or.out.below bn)
            replace BB := hide (below_trans BB.out bn)
            replace hz := BB.out.size
            replace lx := Fx.out.lt
            replace x0 : w17.cell? ⟨w2.heap.size, 0, none⟩ = some (.int .i64 (scR s zs).1.ph) := Fx.out.cell 0
            replace x1 : w17.cell? ⟨w2.heap.size, 1, none⟩ = some (.int .i64 (scR s zs).1.ct) := Fx.out.cell 1
            replace x2 : w17.cell? ⟨w2.heap.size, 2, none⟩ = some (.int .i64 (scR s zs).1.vl) := Fx.out.cell 2
            replace x3 : w17.cell? ⟨w2.heap.size, 3, none⟩ = some (.slice A3 m3 c3) := Fx.out.cell 3
            clear bn
            go_wp2_with fail
            (with_reducible refine (iIsScan_c (scR s zs).1 A3 m3 c3 _ Ox.out.rd).mono ?_)
            rintro e w18 ⟨rfl, bn⟩
            rw [Q3.out]
            replace BB := hide (below_trans BB.out bn)
            clear bn
            go_wp2_with fail
            go_ret
            exact ⟨rfl, BB.out⟩
        · clear N0
          go_wp2_with fail
          replace Fa := hide (Fa.out.other4 (g := w14.heap.size) (by have := MLa.out; omega) (.int .i64 (scR s (zs.take c2)).1.ph) (.int .i64 (scR s (zs.take c2)).1.ct) (.int .i64 (scR s (zs.take c2)).1.vl) (.slice A8 m8 c8))
          replace Fx := hide (Fx.out.other4 (g := w14.heap.size) (by have := MLx.out; omega) (.int .i64 (scR s (zs.take c2)).1.ph) (.int .i64 (scR s (zs.take c2)).1.ct) (.int .i64 (scR s (zs.take c2)).1.vl) (.slice A8 m8 c8))
          replace Oa := hide (Oa.out.set4 (g := w14.heap.size) ⟨_, Fb.out⟩ (.int .i64 (scR s (zs.take c2)).1.ph) (.int .i64 (scR s (zs.take c2)).1.ct) (.int .i64 (scR s (zs.take c2)).1.vl) (.slice A8 m8 c8))
          replace Oz := hide (Oz.out.set4 (g := w14.heap.size) ⟨_, Fb.out⟩ (.int .i64 (scR s (zs.take c2)).1.ph) (.int .i64 (scR s (zs.take c2)).1.ct) (.int .i64 (scR s (zs.take c2)).1.vl) (.slice A8 m8 c8))
          replace Ox := hide (Ox.out.set4 (g := w14.heap.size) ⟨_, Fb.out⟩ (.int .i64 (scR s (zs.take c2)).1.ph) (.int .i64 (scR s (zs.take c2)).1.ct) (.int .i64 (scR s (zs.take c2)).1.vl) (.slice A8 m8 c8))
          replace Ob := hide (Ob.out.set4 (g := w14.heap.size) ⟨_, Fb.out⟩ (.int .i64 (scR s (zs.take c2)).1.ph) (.int .i64 (scR s (zs.take c2)).1.ct) (.int .i64 (scR s (zs.take c2)).1.vl) (.slice A8 m8 c8))
          replace BB := hide (below_set4 BB.out (g := w14.heap.size) (by have := HZ14.out; omega) (.int .i64 (scR s (zs.take c2)).1.ph) (.int .i64 (scR s (zs.take c2)).1.ct) (.int .i64 (scR s (zs.take c2)).1.vl) (.slice A8 m8 c8))
          replace Fb := hide (Fb.out.put4 (.int .i64 (scR s (zs.take c2)).1.ph) (.int .i64 (scR s (zs.take c2)).1.ct) (.int .i64 (scR s (zs.take c2)).1.vl) (.slice A8 m8 c8))
          replace hz := BB.out.size
          clear jb0 jb1 jb2 jb3
          clear a0 a1 a2 a3
          clear x0 x1 x2 x3
          clear b0 b1 b2 b3
          clear la lx lb
          generalize hW : ((((w15.setCell ⟨w14.heap.size, 0, none⟩ (.int .i64 (scR s (zs.take c2)).1.ph)).setCell ⟨w14.heap.size, 1, none⟩ (.int .i64 (scR s (zs.take c2)).1.ct)).setCell ⟨w14.heap.size, 2, none⟩ (.int .i64 (scR s (zs.take c2)).1.vl)).setCell ⟨w14.heap.size, 3, none⟩ (.slice A8 m8 c8)) = W at Fa Fx Fb Oa Oz Ox Ob BB hz ⊢
          clear hW
          replace la := Fa.out.lt
          replace a0 : W.cell? ⟨w1.heap.size, 0, none⟩ = some (.int .i64 s.ph) := Fa.out.cell 0
          replace a1 : W.cell? ⟨w1.heap.size, 1, none⟩ = some (.int .i64 s.ct) := Fa.out.cell 1
          replace a2 : W.cell? ⟨w1.heap.size, 2, none⟩ = some (.int .i64 s.vl) := Fa.out.cell 2
          replace a3 : W.cell? ⟨w1.heap.size, 3, none⟩ = some (.slice A1 m1 c1) := Fa.out.cell 3
          replace lx := Fx.out.lt
          replace x0 : W.cell? ⟨w2.heap.size, 0, none⟩ = some (.int .i64 (scR s zs).1.ph) := Fx.out.cell 0
          replace x1 : W.cell? ⟨w2.heap.size, 1, none⟩ = some (.int .i64 (scR s zs).1.ct) := Fx.out.cell 1
          replace x2 : W.cell? ⟨w2.heap.size, 2, none⟩ = some (.int .i64 (scR s zs).1.vl) := Fx.out.cell 2
          replace x3 : W.cell? ⟨w2.heap.size, 3, none⟩ = some (.slice A3 m3 c3) := Fx.out.cell 3
          replace lb := Fb.out.lt
          replace b0 : W.cell? ⟨w14.heap.size, 0, none⟩ = some (.int .i64 (scR s (zs.take c2)).1.ph) := Fb.out.cell 0
          replace b1 : W.cell? ⟨w14.heap.size, 1, none⟩ = some (.int .i64 (scR s (zs.take c2)).1.ct) := Fb.out.cell 1
          replace b2 : W.cell? ⟨w14.heap.size, 2, none⟩ = some (.int .i64 (scR s (zs.take c2)).1.vl) := Fb.out.cell 2
          replace b3 : W.cell? ⟨w14.heap.size, 3, none⟩ = some (.slice A8 m8 c8) := Fb.out.cell 3
          have HW := hide hz
          have NLx := hide lx
          have hm8s : m8 ≤ 1024 := by have := (scnB_get Q4.out).2.1.1; have := Ob.out.len; omega
          have N0 := World.new_ne W ⟨w14.heap.size, 0, none⟩ b0
          go_region_held3 (fun w' => w'.cell? ⟨w14.heap.size, 0, none⟩ = some (.int .i64 (scR s (zs.take c2)).1.ph) ∧ w'.cell? ⟨w14.heap.size, 1, none⟩ = some (.int .i64 (scR s (zs.take c2)).1.ct) ∧ w'.cell? ⟨w14.heap.size, 2, none⟩ = some (.int .i64 (scR s (zs.take c2)).1.vl) ∧ w'.cell? ⟨w14.heap.size, 3, none⟩ = some (.slice A8 m8 c8)) (go_keep) (first | (go_at_call 56; (with_reducible refine (iScan_rest s A8 m8 c8 (some ⟨gb, 0, none⟩) 0 0 zs c2 _ Ob.out.rd.drew (rd_end Oz.out.rd.drew (by have := Oz.out.len; omega)) (by omega) (by omega) HC.out).mono ?_); rintro e w16 ⟨A9, m9, c9, rfl, own, bn, hm9⟩; replace own := own.mono (B' := w.heap.size) BB.out.size; have bb := below_drewS bn; replace Fa := hide (Fa.out.below bb); replace Fx := hide (Fx.out.below bb); replace Fb := hide (Fb.out.below bb); replace Oa := hide (Oa.out.below bb); replace Oz := hide (Oz.out.below bb); replace Ox := hide (Ox.out.below bb); replace Ob := hide (Ob.out.below bb); replace BB := hide (below_trans BB.out bb); replace hz := BB.out.size; replace la := Fa.out.lt; replace a0 : w16.cell? ⟨w1.heap.size, 0, none⟩ = some (.int .i64 s.ph) := Fa.out.cell 0; replace a1 : w16.cell? ⟨w1.heap.size, 1, none⟩ = some (.int .i64 s.ct) := Fa.out.cell 1; replace a2 : w16.cell? ⟨w1.heap.size, 2, none⟩ = some (.int .i64 s.vl) := Fa.out.cell 2; replace a3 : w16.cell? ⟨w1.heap.size, 3, none⟩ = some (.slice A1 m1 c1) := Fa.out.cell 3; replace lx := Fx.out.lt; replace x0 : w16.cell? ⟨w2.heap.size, 0, none⟩ = some (.int .i64 (scR s zs).1.ph) := Fx.out.cell 0; replace x1 : w16.cell? ⟨w2.heap.size, 1, none⟩ = some (.int .i64 (scR s zs).1.ct) := Fx.out.cell 1; replace x2 : w16.cell? ⟨w2.heap.size, 2, none⟩ = some (.int .i64 (scR s zs).1.vl) := Fx.out.cell 2; replace x3 : w16.cell? ⟨w2.heap.size, 3, none⟩ = some (.slice A3 m3 c3) := Fx.out.cell 3; replace lb := Fb.out.lt; replace b0 : w16.cell? ⟨w14.heap.size, 0, none⟩ = some (.int .i64 (scR s (zs.take c2)).1.ph) := Fb.out.cell 0; replace b1 : w16.cell? ⟨w14.heap.size, 1, none⟩ = some (.int .i64 (scR s (zs.take c2)).1.ct) := Fb.out.cell 1; replace b2 : w16.cell? ⟨w14.heap.size, 2, none⟩ = some (.int .i64 (scR s (zs.take c2)).1.vl) := Fb.out.cell 2; replace b3 : w16.cell? ⟨w14.heap.size, 3, none⟩ = some (.slice A8 m8 c8) := Fb.out.cell 3; have Or := hide own; clear bb bn own) | (go_at_call 56; have bA : Below W.heap.size W (W.alloc (.cells #[.int .i64 0, .int .i64 0, .int .i64 0, .slice none 0 0] 30)) := (Below.refl _ _).alloc (Nat.le_refl _) _; (with_reducible refine (iScan_rest s A8 m8 c8 (some ⟨gb, 0, none⟩) 0 0 zs c2 _ (Ob.out.below bA).rd.drew (rd_end (Oz.out.below bA).rd.drew (by have := Oz.out.len; omega)) (by omega) (by omega) HC.out).mono ?_); rintro e w16 ⟨A9, m9, c9, rfl, own, bn, hm9⟩; have bm := below_drewS bn; have bb := below_trans bA bm; replace own := own.mono (B' := w.heap.size) (by simp; omega); replace Fa := hide (Fa.out.below bb); replace Fx := hide (Fx.out.below bb); replace Fb := hide (Fb.out.below bb); replace Oa := hide (Oa.out.below bb); replace Oz := hide (Oz.out.below bb); replace Ox := hide (Ox.out.below bb); replace Ob := hide (Ob.out.below bb); replace BB := hide (below_trans BB.out bb); replace hz := BB.out.size; have Fr := hide ((ScnAt.fresh W #[.int .i64 0, .int .i64 0, .int .i64 0, .slice none 0 0]).below bm); replace la := Fa.out.lt; replace a0 : w16.cell? ⟨w1.heap.size, 0, none⟩ = some (.int .i64 s.ph) := Fa.out.cell 0; replace a1 : w16.cell? ⟨w1.heap.size, 1, none⟩ = some (.int .i64 s.ct) := Fa.out.cell 1; replace a2 : w16.cell? ⟨w1.heap.size, 2, none⟩ = some (.int .i64 s.vl) := Fa.out.cell 2; replace a3 : w16.cell? ⟨w1.heap.size, 3, none⟩ = some (.slice A1 m1 c1) := Fa.out.cell 3; replace lx := Fx.out.lt; replace x0 : w16.cell? ⟨w2.heap.size, 0, none⟩ = some (.int .i64 (scR s zs).1.ph) := Fx.out.cell 0; replace x1 : w16.cell? ⟨w2.heap.size, 1, none⟩ = some (.int .i64 (scR s zs).1.ct) := Fx.out.cell 1; replace x2 : w16.cell? ⟨w2.heap.size, 2, none⟩ = some (.int .i64 (scR s zs).1.vl) := Fx.out.cell 2; replace x3 : w16.cell? ⟨w2.heap.size, 3, none⟩ = some (.slice A3 m3 c3) := Fx.out.cell 3; replace lb := Fb.out.lt; replace b0 : w16.cell? ⟨w14.heap.size, 0, none⟩ = some (.int .i64 (scR s (zs.take c2)).1.ph) := Fb.out.cell 0; replace b1 : w16.cell? ⟨w14.heap.size, 1, none⟩ = some (.int .i64 (scR s (zs.take c2)).1.ct) := Fb.out.cell 1; replace b2 : w16.cell? ⟨w14.heap.size, 2, none⟩ = some (.int .i64 (scR s (zs.take c2)).1.vl) := Fb.out.cell 2; replace b3 : w16.cell? ⟨w14.heap.size, 3, none⟩ = some (.slice A8 m8 c8) := Fb.out.cell 3; replace lr := Fr.out.lt; replace r0 : w16.cell? ⟨W.heap.size, 0, none⟩ = some (.int .i64 0) := Fr.out.cell 0; replace r1 : w16.cell? ⟨W.heap.size, 1, none⟩ = some (.int .i64 0) := Fr.out.cell 1; replace r2 : w16.cell? ⟨W.heap.size, 2, none⟩ = some (.int .i64 0) := Fr.out.cell 2; replace r3 : w16.cell? ⟨W.heap.size, 3, none⟩ = some (.slice none 0 0) := Fr.out.cell 3; have jr0 := Fr.out.frozen 0; have jr1 := Fr.out.frozen 1; have jr2 := Fr.out.frozen 2; have jr3 := Fr.out.frozen 3; have Or := hide own; clear bb bn bm own bA))
          · clear N0
            go_wp2_with fail
            have bA : Below w16.heap.size w16 (w16.alloc (.cells #[.int .i64 (scR s zs).1.ph, .int .i64 (scR s zs).1.ct, .int .i64 (scR s zs).1.vl, .slice A9 m9 c9] 30)) := (Below.refl _ _).alloc (Nat.le_refl _) _
            (with_reducible refine (likeInts_b _ _ _ _ _ _ _ _ _ (Or.out.below bA).rd (Ox.out.below bA).rd).mono ?_)
            rintro e w17 ⟨rfl, bn⟩
            have bb := below_trans bA bn
            replace Fa := hide (Fa.out.below bb)
            replace Fx := hide (Fx.out.below bb)
            replace Fb := hide (Fb.out.below bb)
            replace Oa := hide (Oa.out.below bb)
            replace Oz := hide (Oz.out.below bb)
            replace Ox := hide (Ox.out.below bb)
            replace Ob := hide (Ob.out.below bb)
            replace Or := hide (Or.out.below bb)
            replace BB := hide (below_trans BB.out bb)
            replace hz := BB.out.size
            have Fr := hide ((ScnAt.fresh w16 #[.int .i64 (scR s zs).1.ph, .int .i64 (scR s zs).1.ct, .int .i64 (scR s zs).1.vl, .slice A9 m9 c9]).below bn)
            replace la := Fa.out.lt
            replace a0 : w17.cell? ⟨w1.heap.size, 0, none⟩ = some (.int .i64 s.ph) := Fa.out.cell 0
            replace a1 : w17.cell? ⟨w1.heap.size, 1, none⟩ = some (.int .i64 s.ct) := Fa.out.cell 1
            replace a2 : w17.cell? ⟨w1.heap.size, 2, none⟩ = some (.int .i64 s.vl) := Fa.out.cell 2
            replace a3 : w17.cell? ⟨w1.heap.size, 3, none⟩ = some (.slice A1 m1 c1) := Fa.out.cell 3
            replace lx := Fx.out.lt
            replace x0 : w17.cell? ⟨w2.heap.size, 0, none⟩ = some (.int .i64 (scR s zs).1.ph) := Fx.out.cell 0
            replace x1 : w17.cell? ⟨w2.heap.size, 1, none⟩ = some (.int .i64 (scR s zs).1.ct) := Fx.out.cell 1
            replace x2 : w17.cell? ⟨w2.heap.size, 2, none⟩ = some (.int .i64 (scR s zs).1.vl) := Fx.out.cell 2
            replace x3 : w17.cell? ⟨w2.heap.size, 3, none⟩ = some (.slice A3 m3 c3) := Fx.out.cell 3
            replace lb := Fb.out.lt
            replace b0 : w17.cell? ⟨w14.heap.size, 0, none⟩ = some (.int .i64 (scR s (zs.take c2)).1.ph) := Fb.out.cell 0
            replace b1 : w17.cell? ⟨w14.heap.size, 1, none⟩ = some (.int .i64 (scR s (zs.take c2)).1.ct) := Fb.out.cell 1
            replace b2 : w17.cell? ⟨w14.heap.size, 2, none⟩ = some (.int .i64 (scR s (zs.take c2)).1.vl) := Fb.out.cell 2
            replace b3 : w17.cell? ⟨w14.heap.size, 3, none⟩ = some (.slice A8 m8 c8) := Fb.out.cell 3
            replace lr := Fr.out.lt
            replace r0 : w17.cell? ⟨w16.heap.size, 0, none⟩ = some (.int .i64 (scR s zs).1.ph) := Fr.out.cell 0
            replace r1 : w17.cell? ⟨w16.heap.size, 1, none⟩ = some (.int .i64 (scR s zs).1.ct) := Fr.out.cell 1
            replace r2 : w17.cell? ⟨w16.heap.size, 2, none⟩ = some (.int .i64 (scR s zs).1.vl) := Fr.out.cell 2
            replace r3 : w17.cell? ⟨w16.heap.size, 3, none⟩ = some (.slice A9 m9 c9) := Fr.out.cell 3
            clear bb bn bA
            go_wp2_with fail
            (with_reducible refine (iIsScan_c (scR s zs).1 A3 m3 c3 _ Ox.out.rd).mono ?_)
            rintro e w18 ⟨rfl, bn⟩
            rw [Q3.out]
            replace BB := hide (below_trans BB.out bn)
            clear bn
            go_wp2_with fail
            go_ret
            exact ⟨rfl, BB.out⟩
          · clear N0
            have NE := Nat.ne_of_gt NLx.out
            have NE' := Nat.ne_of_lt NLx.out
            go_wp2_with fail
            replace Oa := hide (Oa.out.set4 (g := W.heap.size) ⟨_, Fr.out⟩ (.int .i64 (scR s zs).1.ph) (.int .i64 (scR s zs).1.ct) (.int .i64 (scR s zs).1.vl) (.slice A9 m9 c9))
            replace Oz := hide (Oz.out.set4 (g := W.heap.size) ⟨_, Fr.out⟩ (.int .i64 (scR s zs).1.ph) (.int .i64 (scR s zs).1.ct) (.int .i64 (scR s zs).1.vl) (.slice A9 m9 c9))
            replace Ox := hide (Ox.out.set4 (g := W.heap.size) ⟨_, Fr.out⟩ (.int .i64 (scR s zs).1.ph) (.int .i64 (scR s zs).1.ct) (.int .i64 (scR s zs).1.vl) (.slice A9 m9 c9))
            replace Ob := hide (Ob.out.set4 (g := W.heap.size) ⟨_, Fr.out⟩ (.int .i64 (scR s zs).1.ph) (.int .i64 (scR s zs).1.ct) (.int .i64 (scR s zs).1.vl) (.slice A9 m9 c9))
            replace Or := hide (Or.out.set4 (g := W.heap.size) ⟨_, Fr.out⟩ (.int .i64 (scR s zs).1.ph) (.int .i64 (scR s zs).1.ct) (.int .i64 (scR s zs).1.vl) (.slice A9 m9 c9))
            replace Fx := hide (Fx.out.other4 (g := W.heap.size) (by have := NLx.out; omega) (.int .i64 (scR s zs).1.ph) (.int .i64 (scR s zs).1.ct) (.int .i64 (scR s zs).1.vl) (.slice A9 m9 c9))
            replace BB := hide (below_set4 BB.out (g := W.heap.size) (by have := HW.out; omega) (.int .i64 (scR s zs).1.ph) (.int .i64 (scR s zs).1.ct) (.int .i64 (scR s zs).1.vl) (.slice A9 m9 c9))
            (with_reducible refine (likeInts_b _ _ _ _ _ _ _ _ _ Or.out.rd Ox.out.rd).mono ?_)
            rintro e w17 ⟨rfl, bn⟩
            replace Fx := hide (Fx.out.below bn)
            replace Oa := hide (Oa.out.below bn)
            replace Oz := hide (Oz.out.below bn)
            replace Ox := hide (Ox.out.below bn)
            replace Ob := hide (Ob.out.below bn)
            replace Or := hide (Or.out.below bn)
            replace BB := hide (below_trans BB.out bn)
            replace hz := BB.out.size
            replace lx := Fx.out.lt
            replace x0 : w17.cell? ⟨w2.heap.size, 0, none⟩ = some (.int .i64 (scR s zs).1.ph) := Fx.out.cell 0
            replace x1 : w17.cell? ⟨w2.heap.size, 1, none⟩ = some (.int .i64 (scR s zs).1.ct) := Fx.out.cell 1
            replace x2 : w17.cell? ⟨w2.heap.size, 2, none⟩ = some (.int .i64 (scR s zs).1.vl) := Fx.out.cell 2
            replace x3 : w17.cell? ⟨w2.heap.size, 3, none⟩ = some (.slice A3 m3 c3) := Fx.out.cell 3
            clear bn
            go_wp2_with fail
            (with_reducible refine (iIsScan_c (scR s zs).1 A3 m3 c3 _ Ox.out.rd).mono ?_)
            rintro e w18 ⟨rfl, bn⟩
            rw [Q3.out]
            replace BB := hide (below_trans BB.out bn)
            clear bn
            go_wp2_with fail
            go_ret
            exact ⟨rfl, BB.out⟩
      · have hjm : j ≤ m2 := by omega
        have hcc := Oz.out.cap
        have z1 : (0 : Int) ≤ (j : Int) := by omega
        have z2 : (j : Int) ≤ (c2 : Int) := by omega
        have z3 : (j : Int) ≤ (m2 : Int) := by omega
        go_wp2_with fail
        have MLa := hide la
        have MLx := hide lx
        have N0 := World.new_ne w14 ⟨w1.heap.size, 0, none⟩ a0
        go_region_held3 (fun w' => w'.cell? ⟨w1.heap.size, 0, none⟩ = some (.int .i64 s.ph) ∧ w'.cell? ⟨w1.heap.size, 1, none⟩ = some (.int .i64 s.ct) ∧ w'.cell? ⟨w1.heap.size, 2, none⟩ = some (.int .i64 s.vl) ∧ w'.cell? ⟨w1.heap.size, 3, none⟩ = some (.slice A1 m1 c1)) (go_keep) (first | (go_at_call 56; (with_reducible refine (iScanCells_c s A1 m1 c1 (some ⟨gb, 0, none⟩) j c2 (zs.take j) _ Oa.out.rd.drew (Oz.out.rd.drew.take (by omega)) (by omega) (by omega)).mono ?_); rintro e w15 ⟨A8, m8, c8, rfl, own, bn, hm8⟩; replace own := own.mono (B' := w.heap.size) BB.out.size; have bb := below_drewS bn; replace Fa := hide (Fa.out.below bb); replace Fx := hide (Fx.out.below bb); replace Oa := hide (Oa.out.below bb); replace Oz := hide (Oz.out.below bb); replace Ox := hide (Ox.out.below bb); replace BB := hide (below_trans BB.out bb); replace hz := BB.out.size; replace la := Fa.out.lt; replace a0 : w15.cell? ⟨w1.heap.size, 0, none⟩ = some (.int .i64 s.ph) := Fa.out.cell 0; replace a1 : w15.cell? ⟨w1.heap.size, 1, none⟩ = some (.int .i64 s.ct) := Fa.out.cell 1; replace a2 : w15.cell? ⟨w1.heap.size, 2, none⟩ = some (.int .i64 s.vl) := Fa.out.cell 2; replace a3 : w15.cell? ⟨w1.heap.size, 3, none⟩ = some (.slice A1 m1 c1) := Fa.out.cell 3; replace lx := Fx.out.lt; replace x0 : w15.cell? ⟨w2.heap.size, 0, none⟩ = some (.int .i64 (scR s zs).1.ph) := Fx.out.cell 0; replace x1 : w15.cell? ⟨w2.heap.size, 1, none⟩ = some (.int .i64 (scR s zs).1.ct) := Fx.out.cell 1; replace x2 : w15.cell? ⟨w2.heap.size, 2, none⟩ = some (.int .i64 (scR s zs).1.vl) := Fx.out.cell 2; replace x3 : w15.cell? ⟨w2.heap.size, 3, none⟩ = some (.slice A3 m3 c3) := Fx.out.cell 3; have Ob := hide own; clear bb bn own) | (go_at_call 56; have bA : Below w14.heap.size w14 (w14.alloc (.cells #[.int .i64 0, .int .i64 0, .int .i64 0, .slice none 0 0] 30)) := (Below.refl _ _).alloc (Nat.le_refl _) _; (with_reducible refine (iScanCells_c s A1 m1 c1 (some ⟨gb, 0, none⟩) j c2 (zs.take j) _ (Oa.out.below bA).rd.drew ((Oz.out.below bA).rd.drew.take (by omega)) (by omega) (by omega)).mono ?_); rintro e w15 ⟨A8, m8, c8, rfl, own, bn, hm8⟩; have bm := below_drewS bn; have bb := below_trans bA bm; replace own := own.mono (B' := w.heap.size) (by simp; omega); replace Fa := hide (Fa.out.below bb); replace Fx := hide (Fx.out.below bb); replace Oa := hide (Oa.out.below bb); replace Oz := hide (Oz.out.below bb); replace Ox := hide (Ox.out.below bb); replace BB := hide (below_trans BB.out bb); replace hz := BB.out.size; have Fb := hide ((ScnAt.fresh w14 #[.int .i64 0, .int .i64 0, .int .i64 0, .slice none 0 0]).below bm); replace la := Fa.out.lt; replace a0 : w15.cell? ⟨w1.heap.size, 0, none⟩ = some (.int .i64 s.ph) := Fa.out.cell 0; replace a1 : w15.cell? ⟨w1.heap.size, 1, none⟩ = some (.int .i64 s.ct) := Fa.out.cell 1; replace a2 : w15.cell? ⟨w1.heap.size, 2, none⟩ = some (.int .i64 s.vl) := Fa.out.cell 2; replace a3 : w15.cell? ⟨w1.heap.size, 3, none⟩ = some (.slice A1 m1 c1) := Fa.out.cell 3; replace lx := Fx.out.lt; replace x0 : w15.cell? ⟨w2.heap.size, 0, none⟩ = some (.int .i64 (scR s zs).1.ph) := Fx.out.cell 0; replace x1 : w15.cell? ⟨w2.heap.size, 1, none⟩ = some (.int .i64 (scR s zs).1.ct) := Fx.out.cell 1; replace x2 : w15.cell? ⟨w2.heap.size, 2, none⟩ = some (.int .i64 (scR s zs).1.vl) := Fx.out.cell 2; replace x3 : w15.cell? ⟨w2.heap.size, 3, none⟩ = some (.slice A3 m3 c3) := Fx.out.cell 3; replace lb := Fb.out.lt; replace b0 : w15.cell? ⟨w14.heap.size, 0, none⟩ = some (.int .i64 0) := Fb.out.cell 0; replace b1 : w15.cell? ⟨w14.heap.size, 1, none⟩ = some (.int .i64 0) := Fb.out.cell 1; replace b2 : w15.cell? ⟨w14.heap.size, 2, none⟩ = some (.int .i64 0) := Fb.out.cell 2; replace b3 : w15.cell? ⟨w14.heap.size, 3, none⟩ = some (.slice none 0 0) := Fb.out.cell 3; have jb0 := Fb.out.frozen 0; have jb1 := Fb.out.frozen 1; have jb2 := Fb.out.frozen 2; have jb3 := Fb.out.frozen 3; have Ob := hide own; clear bb bn bm own bA))
        · clear N0
          go_wp2_with fail
          have bA : Below w15.heap.size w15 (w15.alloc (.cells #[.int .i64 (scR s (zs.take j)).1.ph, .int .i64 (scR s (zs.take j)).1.ct, .int .i64 (scR s (zs.take j)).1.vl, .slice A8 m8 c8] 30)) := (Below.refl _ _).alloc (Nat.le_refl _) _
          replace Fa := hide (Fa.out.below bA)
          replace Fx := hide (Fx.out.below bA)
          replace Oa := hide (Oa.out.below bA)
          replace Oz := hide (Oz.out.below bA)
          replace Ox := hide (Ox.out.below bA)
          replace Ob := hide (Ob.out.below bA)
          replace BB := hide (below_trans BB.out bA)
          replace hz := BB.out.size
          have Fb := hide (ScnAt.fresh w15 #[.int .i64 (scR s (zs.take j)).1.ph, .int .i64 (scR s (zs.take j)).1.ct, .int .i64 (scR s (zs.take j)).1.vl, .slice A8 m8 c8])
          clear bA
          clear a0 a1 a2 a3
          clear x0 x1 x2 x3
          clear la lx
          generalize hW : (w15.alloc (.cells #[.int .i64 (scR s (zs.take j)).1.ph, .int .i64 (scR s (zs.take j)).1.ct, .int .i64 (scR s (zs.take j)).1.vl, .slice A8 m8 c8] 30)) = W at Fa Fx Fb Oa Oz Ox Ob BB hz ⊢
          clear hW
          replace la := Fa.out.lt
          replace a0 : W.cell? ⟨w1.heap.size, 0, none⟩ = some (.int .i64 s.ph) := Fa.out.cell 0
          replace a1 : W.cell? ⟨w1.heap.size, 1, none⟩ = some (.int .i64 s.ct) := Fa.out.cell 1
          replace a2 : W.cell? ⟨w1.heap.size, 2, none⟩ = some (.int .i64 s.vl) := Fa.out.cell 2
          replace a3 : W.cell? ⟨w1.heap.size, 3, none⟩ = some (.slice A1 m1 c1) := Fa.out.cell 3
          replace lx := Fx.out.lt
          replace x0 : W.cell? ⟨w2.heap.size, 0, none⟩ = some (.int .i64 (scR s zs).1.ph) := Fx.out.cell 0
          replace x1 : W.cell? ⟨w2.heap.size, 1, none⟩ = some (.int .i64 (scR s zs).1.ct) := Fx.out.cell 1
          replace x2 : W.cell? ⟨w2.heap.size, 2, none⟩ = some (.int .i64 (scR s zs).1.vl) := Fx.out.cell 2
          replace x3 : W.cell? ⟨w2.heap.size, 3, none⟩ = some (.slice A3 m3 c3) := Fx.out.cell 3
          replace lb := Fb.out.lt
          replace b0 : W.cell? ⟨w15.heap.size, 0, none⟩ = some (.int .i64 (scR s (zs.take j)).1.ph) := Fb.out.cell 0
          replace b1 : W.cell? ⟨w15.heap.size, 1, none⟩ = some (.int .i64 (scR s (zs.take j)).1.ct) := Fb.out.cell 1
          replace b2 : W.cell? ⟨w15.heap.size, 2, none⟩ = some (.int .i64 (scR s (zs.take j)).1.vl) := Fb.out.cell 2
          replace b3 : W.cell? ⟨w15.heap.size, 3, none⟩ = some (.slice A8 m8 c8) := Fb.out.cell 3
          have HW := hide hz
          have NLx := hide lx
          have hm8s : m8 ≤ 1024 := by have := (scnB_get Q4.out).2.1.1; have := Ob.out.len; omega
          have N0 := World.new_ne W ⟨w15.heap.size, 0, none⟩ b0
          go_region_held3 (fun w' => w'.cell? ⟨w15.heap.size, 0, none⟩ = some (.int .i64 (scR s (zs.take j)).1.ph) ∧ w'.cell? ⟨w15.heap.size, 1, none⟩ = some (.int .i64 (scR s (zs.take j)).1.ct) ∧ w'.cell? ⟨w15.heap.size, 2, none⟩ = some (.int .i64 (scR s (zs.take j)).1.vl) ∧ w'.cell? ⟨w15.heap.size, 3, none⟩ = some (.slice A8 m8 c8)) (go_keep) (first | (go_at_call 56; (with_reducible refine (iScan_rest s A8 m8 c8 (some ⟨gb, j, none⟩) (m2 - j) (c2 - j) zs j _ Ob.out.rd.drew (rd_from Oz.out.rd.drew j (by omega)) (by omega) (by omega) HC.out).mono ?_); rintro e w16 ⟨A9, m9, c9, rfl, own, bn, hm9⟩; replace own := own.mono (B' := w.heap.size) BB.out.size; have bb := below_drewS bn; replace Fa := hide (Fa.out.below bb); replace Fx := hide (Fx.out.below bb); replace Fb := hide (Fb.out.below bb); replace Oa := hide (Oa.out.below bb); replace Oz := hide (Oz.out.below bb); replace Ox := hide (Ox.out.below bb); replace Ob := hide (Ob.out.below bb); replace BB := hide (below_trans BB.out bb); replace hz := BB.out.size; replace la := Fa.out.lt; replace a0 : w16.cell? ⟨w1.heap.size, 0, none⟩ = some (.int .i64 s.ph) := Fa.out.cell 0; replace a1 : w16.cell? ⟨w1.heap.size, 1, none⟩ = some (.int .i64 s.ct) := Fa.out.cell 1; replace a2 : w16.cell? ⟨w1.heap.size, 2, none⟩ = some (.int .i64 s.vl) := Fa.out.cell 2; replace a3 : w16.cell? ⟨w1.heap.size, 3, none⟩ = some (.slice A1 m1 c1) := Fa.out.cell 3; replace lx := Fx.out.lt; replace x0 : w16.cell? ⟨w2.heap.size, 0, none⟩ = some (.int .i64 (scR s zs).1.ph) := Fx.out.cell 0; replace x1 : w16.cell? ⟨w2.heap.size, 1, none⟩ = some (.int .i64 (scR s zs).1.ct) := Fx.out.cell 1; replace x2 : w16.cell? ⟨w2.heap.size, 2, none⟩ = some (.int .i64 (scR s zs).1.vl) := Fx.out.cell 2; replace x3 : w16.cell? ⟨w2.heap.size, 3, none⟩ = some (.slice A3 m3 c3) := Fx.out.cell 3; replace lb := Fb.out.lt; replace b0 : w16.cell? ⟨w15.heap.size, 0, none⟩ = some (.int .i64 (scR s (zs.take j)).1.ph) := Fb.out.cell 0; replace b1 : w16.cell? ⟨w15.heap.size, 1, none⟩ = some (.int .i64 (scR s (zs.take j)).1.ct) := Fb.out.cell 1; replace b2 : w16.cell? ⟨w15.heap.size, 2, none⟩ = some (.int .i64 (scR s (zs.take j)).1.vl) := Fb.out.cell 2; replace b3 : w16.cell? ⟨w15.heap.size, 3, none⟩ = some (.slice A8 m8 c8) := Fb.out.cell 3; have Or := hide own; clear bb bn own) | (go_at_call 56; have bA : Below W.heap.size W (W.alloc (.cells #[.int .i64 0, .int .i64 0, .int .i64 0, .slice none 0 0] 30)) := (Below.refl _ _).alloc (Nat.le_refl _) _; (with_reducible refine (iScan_rest s A8 m8 c8 (some ⟨gb, j, none⟩) (m2 - j) (c2 - j) zs j _ (Ob.out.below bA).rd.drew (rd_from (Oz.out.below bA).rd.drew j (by omega)) (by omega) (by omega) HC.out).mono ?_); rintro e w16 ⟨A9, m9, c9, rfl, own, bn, hm9⟩; have bm := below_drewS bn; have bb := below_trans bA bm; replace own := own.mono (B' := w.heap.size) (by simp; omega); replace Fa := hide (Fa.out.below bb); replace Fx := hide (Fx.out.below bb); replace Fb := hide (Fb.out.below bb); replace Oa := hide (Oa.out.below bb); replace Oz := hide (Oz.out.below bb); replace Ox := hide (Ox.out.below bb); replace Ob := hide (Ob.out.below bb); replace BB := hide (below_trans BB.out bb); replace hz := BB.out.size; have Fr := hide ((ScnAt.fresh W #[.int .i64 0, .int .i64 0, .int .i64 0, .slice none 0 0]).below bm); replace la := Fa.out.lt; replace a0 : w16.cell? ⟨w1.heap.size, 0, none⟩ = some (.int .i64 s.ph) := Fa.out.cell 0; replace a1 : w16.cell? ⟨w1.heap.size, 1, none⟩ = some (.int .i64 s.ct) := Fa.out.cell 1; replace a2 : w16.cell? ⟨w1.heap.size, 2, none⟩ = some (.int .i64 s.vl) := Fa.out.cell 2; replace a3 : w16.cell? ⟨w1.heap.size, 3, none⟩ = some (.slice A1 m1 c1) := Fa.out.cell 3; replace lx := Fx.out.lt; replace x0 : w16.cell? ⟨w2.heap.size, 0, none⟩ = some (.int .i64 (scR s zs).1.ph) := Fx.out.cell 0; replace x1 : w16.cell? ⟨w2.heap.size, 1, none⟩ = some (.int .i64 (scR s zs).1.ct) := Fx.out.cell 1; replace x2 : w16.cell? ⟨w2.heap.size, 2, none⟩ = some (.int .i64 (scR s zs).1.vl) := Fx.out.cell 2; replace x3 : w16.cell? ⟨w2.heap.size, 3, none⟩ = some (.slice A3 m3 c3) := Fx.out.cell 3; replace lb := Fb.out.lt; replace b0 : w16.cell? ⟨w15.heap.size, 0, none⟩ = some (.int .i64 (scR s (zs.take j)).1.ph) := Fb.out.cell 0; replace b1 : w16.cell? ⟨w15.heap.size, 1, none⟩ = some (.int .i64 (scR s (zs.take j)).1.ct) := Fb.out.cell 1; replace b2 : w16.cell? ⟨w15.heap.size, 2, none⟩ = some (.int .i64 (scR s (zs.take j)).1.vl) := Fb.out.cell 2; replace b3 : w16.cell? ⟨w15.heap.size, 3, none⟩ = some (.slice A8 m8 c8) := Fb.out.cell 3; replace lr := Fr.out.lt; replace r0 : w16.cell? ⟨W.heap.size, 0, none⟩ = some (.int .i64 0) := Fr.out.cell 0; replace r1 : w16.cell? ⟨W.heap.size, 1, none⟩ = some (.int .i64 0) := Fr.out.cell 1; replace r2 : w16.cell? ⟨W.heap.size, 2, none⟩ = some (.int .i64 0) := Fr.out.cell 2; replace r3 : w16.cell? ⟨W.heap.size, 3, none⟩ = some (.slice none 0 0) := Fr.out.cell 3; have jr0 := Fr.out.frozen 0; have jr1 := Fr.out.frozen 1; have jr2 := Fr.out.frozen 2; have jr3 := Fr.out.frozen 3; have Or := hide own; clear bb bn bm own bA))
          · clear N0
            go_wp2_with fail
            have bA : Below w16.heap.size w16 (w16.alloc (.cells #[.int .i64 (scR s zs).1.ph, .int .i64 (scR s zs).1.ct, .int .i64 (scR s zs).1.vl, .slice A9 m9 c9] 30)) := (Below.refl _ _).alloc (Nat.le_refl _) _
            (with_reducible refine (likeInts_b _ _ _ _ _ _ _ _ _ (Or.out.below bA).rd (Ox.out.below bA).rd).mono ?_)
            rintro e w17 ⟨rfl, bn⟩
            have bb := below_trans bA bn
            replace Fa := hide (Fa.out.below bb)
            replace Fx := hide (Fx.out.below bb)
            replace Fb := hide (Fb.out.below bb)
            replace Oa := hide (Oa.out.below bb)
            replace Oz := hide (Oz.out.below bb)
            replace Ox := hide (Ox.out.below bb)
            replace Ob := hide (Ob.out.below bb)
            replace Or := hide (Or.out.below bb)
            replace BB := hide (below_trans BB.out bb)
            replace hz := BB.out.size
            have Fr := hide ((ScnAt.fresh w16 #[.int .i64 (scR s zs).1.ph, .int .i64 (scR s zs).1.ct, .int .i64 (scR s zs).1.vl, .slice A9 m9 c9]).below bn)
            replace la := Fa.out.lt
            replace a0 : w17.cell? ⟨w1.heap.size, 0, none⟩ = some (.int .i64 s.ph) := Fa.out.cell 0
            replace a1 : w17.cell? ⟨w1.heap.size, 1, none⟩ = some (.int .i64 s.ct) := Fa.out.cell 1
            replace a2 : w17.cell? ⟨w1.heap.size, 2, none⟩ = some (.int .i64 s.vl) := Fa.out.cell 2
            replace a3 : w17.cell? ⟨w1.heap.size, 3, none⟩ = some (.slice A1 m1 c1) := Fa.out.cell 3
            replace lx := Fx.out.lt
            replace x0 : w17.cell? ⟨w2.heap.size, 0, none⟩ = some (.int .i64 (scR s zs).1.ph) := Fx.out.cell 0
            replace x1 : w17.cell? ⟨w2.heap.size, 1, none⟩ = some (.int .i64 (scR s zs).1.ct) := Fx.out.cell 1
            replace x2 : w17.cell? ⟨w2.heap.size, 2, none⟩ = some (.int .i64 (scR s zs).1.vl) := Fx.out.cell 2
            replace x3 : w17.cell? ⟨w2.heap.size, 3, none⟩ = some (.slice A3 m3 c3) := Fx.out.cell 3
            replace lb := Fb.out.lt
            replace b0 : w17.cell? ⟨w15.heap.size, 0, none⟩ = some (.int .i64 (scR s (zs.take j)).1.ph) := Fb.out.cell 0
            replace b1 : w17.cell? ⟨w15.heap.size, 1, none⟩ = some (.int .i64 (scR s (zs.take j)).1.ct) := Fb.out.cell 1
            replace b2 : w17.cell? ⟨w15.heap.size, 2, none⟩ = some (.int .i64 (scR s (zs.take j)).1.vl) := Fb.out.cell 2
            replace b3 : w17.cell? ⟨w15.heap.size, 3, none⟩ = some (.slice A8 m8 c8) := Fb.out.cell 3
            replace lr := Fr.out.lt
            replace r0 : w17.cell? ⟨w16.heap.size, 0, none⟩ = some (.int .i64 (scR s zs).1.ph) := Fr.out.cell 0
            replace r1 : w17.cell? ⟨w16.heap.size, 1, none⟩ = some (.int .i64 (scR s zs).1.ct) := Fr.out.cell 1
            replace r2 : w17.cell? ⟨w16.heap.size, 2, none⟩ = some (.int .i64 (scR s zs).1.vl) := Fr.out.cell 2
            replace r3 : w17.cell? ⟨w16.heap.size, 3, none⟩ = some (.slice A9 m9 c9) := Fr.out.cell 3
            clear bb bn bA
            go_wp2_with fail
            (with_reducible refine (iIsScan_c (scR s zs).1 A3 m3 c3 _ Ox.out.rd).mono ?_)
            rintro e w18 ⟨rfl, bn⟩
            rw [Q3.out]
            replace BB := hide (below_trans BB.out bn)
            clear bn
            go_wp2_with fail
            go_ret
            exact ⟨rfl, BB.out⟩
          · clear N0
            have NE := Nat.ne_of_gt NLx.out
            have NE' := Nat.ne_of_lt NLx.out
            go_wp2_with fail
            replace Oa := hide (Oa.out.set4 (g := W.heap.size) ⟨_, Fr.out⟩ (.int .i64 (scR s zs).1.ph) (.int .i64 (scR s zs).1.ct) (.int .i64 (scR s zs).1.vl) (.slice A9 m9 c9))
            replace Oz := hide (Oz.out.set4 (g := W.heap.size) ⟨_, Fr.out⟩ (.int .i64 (scR s zs).1.ph) (.int .i64 (scR s zs).1.ct) (.int .i64 (scR s zs).1.vl) (.slice A9 m9 c9))
            replace Ox := hide (Ox.out.set4 (g := W.heap.size) ⟨_, Fr.out⟩ (.int .i64 (scR s zs).1.ph) (.int .i64 (scR s zs).1.ct) (.int .i64 (scR s zs).1.vl) (.slice A9 m9 c9))
            replace Ob := hide (Ob.out.set4 (g := W.heap.size) ⟨_, Fr.out⟩ (.int .i64 (scR s zs).1.ph) (.int .i64 (scR s zs).1.ct) (.int .i64 (scR s zs).1.vl) (.slice A9 m9 c9))
            replace Or := hide (Or.out.set4 (g := W.heap.size) ⟨_, Fr.out⟩ (.int .i64 (scR s zs).1.ph) (.int .i64 (scR s zs).1.ct) (.int .i64 (scR s zs).1.vl) (.slice A9 m9 c9))
            replace Fx := hide (Fx.out.other4 (g := W.heap.size) (by have := NLx.out; omega) (.int .i64 (scR s zs).1.ph) (.int .i64 (scR s zs).1.ct) (.int .i64 (scR s zs).1.vl) (.slice A9 m9 c9))
            replace BB := hide (below_set4 BB.out (g := W.heap.size) (by have := HW.out; omega) (.int .i64 (scR s zs).1.ph) (.int .i64 (scR s zs).1.ct) (.int .i64 (scR s zs).1.vl) (.slice A9 m9 c9))
            (with_reducible refine (likeInts_b _ _ _ _ _ _ _ _ _ Or.out.rd Ox.out.rd).mono ?_)
            rintro e w17 ⟨rfl, bn⟩
            replace Fx := hide (Fx.out.below bn)
            replace Oa := hide (Oa.out.below bn)
            replace Oz := hide (Oz.out.below bn)
            replace Ox := hide (Ox.out.below bn)
            replace Ob := hide (Ob.out.below bn)
            replace Or := hide (Or.out.below bn)
            replace BB := hide (below_trans BB.out bn)
            replace hz := BB.out.size
            replace lx := Fx.out.lt
            replace x0 : w17.cell? ⟨w2.heap.size, 0, none⟩ = some (.int .i64 (scR s zs).1.ph) := Fx.out.cell 0
            replace x1 : w17.cell? ⟨w2.heap.size, 1, none⟩ = some (.int .i64 (scR s zs).1.ct) := Fx.out.cell 1
            replace x2 : w17.cell? ⟨w2.heap.size, 2, none⟩ = some (.int .i64 (scR s zs).1.vl) := Fx.out.cell 2
            replace x3 : w17.cell? ⟨w2.heap.size, 3, none⟩ = some (.slice A3 m3 c3) := Fx.out.cell 3
            clear bn
            go_wp2_with fail
            (with_reducible refine (iIsScan_c (scR s zs).1 A3 m3 c3 _ Ox.out.rd).mono ?_)
            rintro e w18 ⟨rfl, bn⟩
            rw [Q3.out]
            replace BB := hide (below_trans BB.out bn)
            clear bn
            go_wp2_with fail
            go_ret
            exact ⟨rfl, BB.out⟩
        · clear N0
          go_wp2_with fail
          replace Fa := hide (Fa.out.other4 (g := w14.heap.size) (by have := MLa.out; omega) (.int .i64 (scR s (zs.take j)).1.ph) (.int .i64 (scR s (zs.take j)).1.ct) (.int .i64 (scR s (zs.take j)).1.vl) (.slice A8 m8 c8))
          replace Fx := hide (Fx.out.other4 (g := w14.heap.size) (by have := MLx.out; omega) (.int .i64 (scR s (zs.take j)).1.ph) (.int .i64 (scR s (zs.take j)).1.ct) (.int .i64 (scR s (zs.take j)).1.vl) (.slice A8 m8 c8))
          replace Oa := hide (Oa.out.set4 (g := w14.heap.size) ⟨_, Fb.out⟩ (.int .i64 (scR s (zs.take j)).1.ph) (.int .i64 (scR s (zs.take j)).1.ct) (.int .i64 (scR s (zs.take j)).1.vl) (.slice A8 m8 c8))
          replace Oz := hide (Oz.out.set4 (g := w14.heap.size) ⟨_, Fb.out⟩ (.int .i64 (scR s (zs.take j)).1.ph) (.int .i64 (scR s (zs.take j)).1.ct) (.int .i64 (scR s (zs.take j)).1.vl) (.slice A8 m8 c8))
          replace Ox := hide (Ox.out.set4 (g := w14.heap.size) ⟨_, Fb.out⟩ (.int .i64 (scR s (zs.take j)).1.ph) (.int .i64 (scR s (zs.take j)).1.ct) (.int .i64 (scR s (zs.take j)).1.vl) (.slice A8 m8 c8))
          replace Ob := hide (Ob.out.set4 (g := w14.heap.size) ⟨_, Fb.out⟩ (.int .i64 (scR s (zs.take j)).1.ph) (.int .i64 (scR s (zs.take j)).1.ct) (.int .i64 (scR s (zs.take j)).1.vl) (.slice A8 m8 c8))
          replace BB := hide (below_set4 BB.out (g := w14.heap.size) (by have := HZ14.out; omega) (.int .i64 (scR s (zs.take j)).1.ph) (.int .i64 (scR s (zs.take j)).1.ct) (.int .i64 (scR s (zs.take j)).1.vl) (.slice A8 m8 c8))
          replace Fb := hide (Fb.out.put4 (.int .i64 (scR s (zs.take j)).1.ph) (.int .i64 (scR s (zs.take j)).1.ct) (.int .i64 (scR s (zs.take j)).1.vl) (.slice A8 m8 c8))
          replace hz := BB.out.size
          clear jb0 jb1 jb2 jb3
          clear a0 a1 a2 a3
          clear x0 x1 x2 x3
          clear b0 b1 b2 b3
          clear la lx lb
          generalize hW : ((((w15.setCell ⟨w14.heap.size, 0, none⟩ (.int .i64 (scR s (zs.take j)).1.ph)).setCell ⟨w14.heap.size, 1, none⟩ (.int .i64 (scR s (zs.take j)).1.ct)).setCell ⟨w14.heap.size, 2, none⟩ (.int .i64 (scR s (zs.take j)).1.vl)).setCell ⟨w14.heap.size, 3, none⟩ (.slice A8 m8 c8)) = W at Fa Fx Fb Oa Oz Ox Ob BB hz ⊢
          clear hW
          replace la := Fa.out.lt
          replace a0 : W.cell? ⟨w1.heap.size, 0, none⟩ = some (.int .i64 s.ph) := Fa.out.cell 0
          replace a1 : W.cell? ⟨w1.heap.size, 1, none⟩ = some (.int .i64 s.ct) := Fa.out.cell 1
          replace a2 : W.cell? ⟨w1.heap.size, 2, none⟩ = some (.int .i64 s.vl) := Fa.out.cell 2
          replace a3 : W.cell? ⟨w1.heap.size, 3, none⟩ = some (.slice A1 m1 c1) := Fa.out.cell 3
          replace lx := Fx.out.lt
          replace x0 : W.cell? ⟨w2.heap.size, 0, none⟩ = some (.int .i64 (scR s zs).1.ph) := Fx.out.cell 0
          replace x1 : W.cell? ⟨w2.heap.size, 1, none⟩ = some (.int .i64 (scR s zs).1.ct) := Fx.out.cell 1
          replace x2 : W.cell? ⟨w2.heap.size, 2, none⟩ = some (.int .i64 (scR s zs).1.vl) := Fx.out.cell 2
          replace x3 : W.cell? ⟨w2.heap.size, 3, none⟩ = some (.slice A3 m3 c3) := Fx.out.cell 3
          replace lb := Fb.out.lt
          replace b0 : W.cell? ⟨w14.heap.size, 0, none⟩ = some (.int .i64 (scR s (zs.take j)).1.ph) := Fb.out.cell 0
          replace b1 : W.cell? ⟨w14.heap.size, 1, none⟩ = some (.int .i64 (scR s (zs.take j)).1.ct) := Fb.out.cell 1
          replace b2 : W.cell? ⟨w14.heap.size, 2, none⟩ = some (.int .i64 (scR s (zs.take j)).1.vl) := Fb.out.cell 2
          replace b3 : W.cell? ⟨w14.heap.size, 3, none⟩ = some (.slice A8 m8 c8) := Fb.out.cell 3
          have HW := hide hz
          have NLx := hide lx
          have hm8s : m8 ≤ 1024 := by have := (scnB_get Q4.out).2.1.1; have := Ob.out.len; omega
          have N0 := World.new_ne W ⟨w14.heap.size, 0, none⟩ b0
          go_region_held3 (fun w' => w'.cell? ⟨w14.heap.size, 0, none⟩ = some (.int .i64 (scR s (zs.take j)).1.ph) ∧ w'.cell? ⟨w14.heap.size, 1, none⟩ = some (.int .i64 (scR s (zs.take j)).1.ct) ∧ w'.cell? ⟨w14.heap.size, 2, none⟩ = some (.int .i64 (scR s (zs.take j)).1.vl) ∧ w'.cell? ⟨w14.heap.size, 3, none⟩ = some (.slice A8 m8 c8)) (go_keep) (first | (go_at_call 56; (with_reducible refine (iScan_rest s A8 m8 c8 (some ⟨gb, j, none⟩) (m2 - j) (c2 - j) zs j _ Ob.out.rd.drew (rd_from Oz.out.rd.drew j (by omega)) (by omega) (by omega) HC.out).mono ?_); rintro e w16 ⟨A9, m9, c9, rfl, own, bn, hm9⟩; replace own := own.mono (B' := w.heap.size) BB.out.size; have bb := below_drewS bn; replace Fa := hide (Fa.out.below bb); replace Fx := hide (Fx.out.below bb); replace Fb := hide (Fb.out.below bb); replace Oa := hide (Oa.out.below bb); replace Oz := hide (Oz.out.below bb); replace Ox := hide (Ox.out.below bb); replace Ob := hide (Ob.out.below bb); replace BB := hide (below_trans BB.out bb); replace hz := BB.out.size; replace la := Fa.out.lt; replace a0 : w16.cell? ⟨w1.heap.size, 0, none⟩ = some (.int .i64 s.ph) := Fa.out.cell 0; replace a1 : w16.cell? ⟨w1.heap.size, 1, none⟩ = some (.int .i64 s.ct) := Fa.out.cell 1; replace a2 : w16.cell? ⟨w1.heap.size, 2, none⟩ = some (.int .i64 s.vl) := Fa.out.cell 2; replace a3 : w16.cell? ⟨w1.heap.size, 3, none⟩ = some (.slice A1 m1 c1) := Fa.out.cell 3; replace lx := Fx.out.lt; replace x0 : w16.cell? ⟨w2.heap.size, 0, none⟩ = some (.int .i64 (scR s zs).1.ph) := Fx.out.cell 0; replace x1 : w16.cell? ⟨w2.heap.size, 1, none⟩ = some (.int .i64 (scR s zs).1.ct) := Fx.out.cell 1; replace x2 : w16.cell? ⟨w2.heap.size, 2, none⟩ = some (.int .i64 (scR s zs).1.vl) := Fx.out.cell 2; replace x3 : w16.cell? ⟨w2.heap.size, 3, none⟩ = some (.slice A3 m3 c3) := Fx.out.cell 3; replace lb := Fb.out.lt; replace b0 : w16.cell? ⟨w14.heap.size, 0, none⟩ = some (.int .i64 (scR s (zs.take j)).1.ph) := Fb.out.cell 0; replace b1 : w16.cell? ⟨w14.heap.size, 1, none⟩ = some (.int .i64 (scR s (zs.take j)).1.ct) := Fb.out.cell 1; replace b2 : w16.cell? ⟨w14.heap.size, 2, none⟩ = some (.int .i64 (scR s (zs.take j)).1.vl) := Fb.out.cell 2; replace b3 : w16.cell? ⟨w14.heap.size, 3, none⟩ = some (.slice A8 m8 c8) := Fb.out.cell 3; have Or := hide own; clear bb bn own) | (go_at_call 56; have bA : Below W.heap.size W (W.alloc (.cells #[.int .i64 0, .int .i64 0, .int .i64 0, .slice none 0 0] 30)) := (Below.refl _ _).alloc (Nat.le_refl _) _; (with_reducible refine (iScan_rest s A8 m8 c8 (some ⟨gb, j, none⟩) (m2 - j) (c2 - j) zs j _ (Ob.out.below bA).rd.drew (rd_from (Oz.out.below bA).rd.drew j (by omega)) (by omega) (by omega) HC.out).mono ?_); rintro e w16 ⟨A9, m9, c9, rfl, own, bn, hm9⟩; have bm := below_drewS bn; have bb := below_trans bA bm; replace own := own.mono (B' := w.heap.size) (by simp; omega); replace Fa := hide (Fa.out.below bb); replace Fx := hide (Fx.out.below bb); replace Fb := hide (Fb.out.below bb); replace Oa := hide (Oa.out.below bb); replace Oz := hide (Oz.out.below bb); replace Ox := hide (Ox.out.below bb); replace Ob := hide (Ob.out.below bb); replace BB := hide (below_trans BB.out bb); replace hz := BB.out.size; have Fr := hide ((ScnAt.fresh W #[.int .i64 0, .int .i64 0, .int .i64 0, .slice none 0 0]).below bm); replace la := Fa.out.lt; replace a0 : w16.cell? ⟨w1.heap.size, 0, none⟩ = some (.int .i64 s.ph) := Fa.out.cell 0; replace a1 : w16.cell? ⟨w1.heap.size, 1, none⟩ = some (.int .i64 s.ct) := Fa.out.cell 1; replace a2 : w16.cell? ⟨w1.heap.size, 2, none⟩ = some (.int .i64 s.vl) := Fa.out.cell 2; replace a3 : w16.cell? ⟨w1.heap.size, 3, none⟩ = some (.slice A1 m1 c1) := Fa.out.cell 3; replace lx := Fx.out.lt; replace x0 : w16.cell? ⟨w2.heap.size, 0, none⟩ = some (.int .i64 (scR s zs).1.ph) := Fx.out.cell 0; replace x1 : w16.cell? ⟨w2.heap.size, 1, none⟩ = some (.int .i64 (scR s zs).1.ct) := Fx.out.cell 1; replace x2 : w16.cell? ⟨w2.heap.size, 2, none⟩ = some (.int .i64 (scR s zs).1.vl) := Fx.out.cell 2; replace x3 : w16.cell? ⟨w2.heap.size, 3, none⟩ = some (.slice A3 m3 c3) := Fx.out.cell 3; replace lb := Fb.out.lt; replace b0 : w16.cell? ⟨w14.heap.size, 0, none⟩ = some (.int .i64 (scR s (zs.take j)).1.ph) := Fb.out.cell 0; replace b1 : w16.cell? ⟨w14.heap.size, 1, none⟩ = some (.int .i64 (scR s (zs.take j)).1.ct) := Fb.out.cell 1; replace b2 : w16.cell? ⟨w14.heap.size, 2, none⟩ = some (.int .i64 (scR s (zs.take j)).1.vl) := Fb.out.cell 2; replace b3 : w16.cell? ⟨w14.heap.size, 3, none⟩ = some (.slice A8 m8 c8) := Fb.out.cell 3; replace lr := Fr.out.lt; replace r0 : w16.cell? ⟨W.heap.size, 0, none⟩ = some (.int .i64 0) := Fr.out.cell 0; replace r1 : w16.cell? ⟨W.heap.size, 1, none⟩ = some (.int .i64 0) := Fr.out.cell 1; replace r2 : w16.cell? ⟨W.heap.size, 2, none⟩ = some (.int .i64 0) := Fr.out.cell 2; replace r3 : w16.cell? ⟨W.heap.size, 3, none⟩ = some (.slice none 0 0) := Fr.out.cell 3; have jr0 := Fr.out.frozen 0; have jr1 := Fr.out.frozen 1; have jr2 := Fr.out.frozen 2; have jr3 := Fr.out.frozen 3; have Or := hide own; clear bb bn bm own bA))
          · clear N0
            go_wp2_with fail
            have bA : Below w16.heap.size w16 (w16.alloc (.cells #[.int .i64 (scR s zs).1.ph, .int .i64 (scR s zs).1.ct, .int .i64 (scR s zs).1.vl, .slice A9 m9 c9] 30)) := (Below.refl _ _).alloc (Nat.le_refl _) _
            (with_reducible refine (likeInts_b _ _ _ _ _ _ _ _ _ (Or.out.below bA).rd (Ox.out.below bA).rd).mono ?_)
            rintro e w17 ⟨rfl, bn⟩
            have bb := below_trans bA bn
            replace Fa := hide (Fa.out.below bb)
            replace Fx := hide (Fx.out.below bb)
            replace Fb := hide (Fb.out.below bb)
            replace Oa := hide (Oa.out.below bb)
            replace Oz := hide (Oz.out.below bb)
            replace Ox := hide (Ox.out.below bb)
            replace Ob := hide (Ob.out.below bb)
            replace Or := hide (Or.out.below bb)
            replace BB := hide (below_trans BB.out bb)
            replace hz := BB.out.size
            have Fr := hide ((ScnAt.fresh w16 #[.int .i64 (scR s zs).1.ph, .int .i64 (scR s zs).1.ct, .int .i64 (scR s zs).1.vl, .slice A9 m9 c9]).below bn)
            replace la := Fa.out.lt
            replace a0 : w17.cell? ⟨w1.heap.size, 0, none⟩ = some (.int .i64 s.ph) := Fa.out.cell 0
            replace a1 : w17.cell? ⟨w1.heap.size, 1, none⟩ = some (.int .i64 s.ct) := Fa.out.cell 1
            replace a2 : w17.cell? ⟨w1.heap.size, 2, none⟩ = some (.int .i64 s.vl) := Fa.out.cell 2
            replace a3 : w17.cell? ⟨w1.heap.size, 3, none⟩ = some (.slice A1 m1 c1) := Fa.out.cell 3
            replace lx := Fx.out.lt
            replace x0 : w17.cell? ⟨w2.heap.size, 0, none⟩ = some (.int .i64 (scR s zs).1.ph) := Fx.out.cell 0
            replace x1 : w17.cell? ⟨w2.heap.size, 1, none⟩ = some (.int .i64 (scR s zs).1.ct) := Fx.out.cell 1
            replace x2 : w17.cell? ⟨w2.heap.size, 2, none⟩ = some (.int .i64 (scR s zs).1.vl) := Fx.out.cell 2
            replace x3 : w17.cell? ⟨w2.heap.size, 3, none⟩ = some (.slice A3 m3 c3) := Fx.out.cell 3
            replace lb := Fb.out.lt
            replace b0 : w17.cell? ⟨w14.heap.size, 0, none⟩ = some (.int .i64 (scR s (zs.take j)).1.ph) := Fb.out.cell 0
            replace b1 : w17.cell? ⟨w14.heap.size, 1, none⟩ = some (.int .i64 (scR s (zs.take j)).1.ct) := Fb.out.cell 1
            replace b2 : w17.cell? ⟨w14.heap.size, 2, none⟩ = some (.int .i64 (scR s (zs.take j)).1.vl) := Fb.out.cell 2
            replace b3 : w17.cell? ⟨w14.heap.size, 3, none⟩ = some (.slice A8 m8 c8) := Fb.out.cell 3
            replace lr := Fr.out.lt
            replace r0 : w17.cell? ⟨w16.heap.size, 0, none⟩ = some (.int .i64 (scR s zs).1.ph) := Fr.out.cell 0
            replace r1 : w17.cell? ⟨w16.heap.size, 1, none⟩ = some (.int .i64 (scR s zs).1.ct) := Fr.out.cell 1
            replace r2 : w17.cell? ⟨w16.heap.size, 2, none⟩ = some (.int .i64 (scR s zs).1.vl) := Fr.out.cell 2
            replace r3 : w17.cell? ⟨w16.heap.size, 3, none⟩ = some (.slice A9 m9 c9) := Fr.out.cell 3
            clear bb bn bA
            go_wp2_with fail
            (with_reducible refine (iIsScan_c (scR s zs).1 A3 m3 c3 _ Ox.out.rd).mono ?_)
            rintro e w18 ⟨rfl, bn⟩
            rw [Q3.out]
            replace BB := hide (below_trans BB.out bn)
            clear bn
            go_wp2_with fail
            go_ret
            exact ⟨rfl, BB.out⟩
          · clear N0
            have NE := Nat.ne_of_gt NLx.out
            have NE' := Nat.ne_of_lt NLx.out
            go_wp2_with fail
            replace Oa := hide (Oa.out.set4 (g := W.heap.size) ⟨_, Fr.out⟩ (.int .i64 (scR s zs).1.ph) (.int .i64 (scR s zs).1.ct) (.int .i64 (scR s zs).1.vl) (.slice A9 m9 c9))
            replace Oz := hide (Oz.out.set4 (g := W.heap.size) ⟨_, Fr.out⟩ (.int .i64 (scR s zs).1.ph) (.int .i64 (scR s zs).1.ct) (.int .i64 (scR s zs).1.vl) (.slice A9 m9 c9))
            replace Ox := hide (Ox.out.set4 (g := W.heap.size) ⟨_, Fr.out⟩ (.int .i64 (scR s zs).1.ph) (.int .i64 (scR s zs).1.ct) (.int .i64 (scR s zs).1.vl) (.slice A9 m9 c9))
            replace Ob := hide (Ob.out.set4 (g := W.heap.size) ⟨_, Fr.out⟩ (.int .i64 (scR s zs).1.ph) (.int .i64 (scR s zs).1.ct) (.int .i64 (scR s zs).1.vl) (.slice A9 m9 c9))
            replace Or := hide (Or.out.set4 (g := W.heap.size) ⟨_, Fr.out⟩ (.int .i64 (scR s zs).1.ph) (.int .i64 (scR s zs).1.ct) (.int .i64 (scR s zs).1.vl) (.slice A9 m9 c9))
            replace Fx := hide (Fx.out.other4 (g := W.heap.size) (by have := NLx.out; omega) (.int .i64 (scR s zs).1.ph) (.int .i64 (scR s zs).1.ct) (.int .i64 (scR s zs).1.vl) (.slice A9 m9 c9))
            replace BB := hide (below_set4 BB.out (g := W.heap.size) (by have := HW.out; omega) (.int .i64 (scR s zs).1.ph) (.int .i64 (scR s zs).1.ct) (.int .i64 (scR s zs).1.vl) (.slice A9 m9 c9))
            (with_reducible refine (likeInts_b _ _ _ _ _ _ _ _ _ Or.out.rd Ox.out.rd).mono ?_)
            rintro e w17 ⟨rfl, bn⟩
            replace Fx := hide (Fx.out.below bn)
            replace Oa := hide (Oa.out.below bn)
            replace Oz := hide (Oz.out.below bn)
            replace Ox := hide (Ox.out.below bn)
            replace Ob := hide (Ob.out.below bn)
            replace Or := hide (Or.out.below bn)
            replace BB := hide (below_trans BB.out bn)
            replace hz := BB.out.size
            replace lx := Fx.out.lt
            replace x0 : w17.cell? ⟨w2.heap.size, 0, none⟩ = some (.int .i64 (scR s zs).1.ph) := Fx.out.cell 0
            replace x1 : w17.cell? ⟨w2.heap.size, 1, none⟩ = some (.int .i64 (scR s zs).1.ct) := Fx.out.cell 1
            replace x2 : w17.cell? ⟨w2.heap.size, 2, none⟩ = some (.int .i64 (scR s zs).1.vl) := Fx.out.cell 2
            replace x3 : w17.cell? ⟨w2.heap.size, 3, none⟩ = some (.slice A3 m3 c3) := Fx.out.cell 3
            clear bn
            go_wp2_with fail
            (with_reducible refine (iIsScan_c (scR s zs).1 A3 m3 c3 _ Ox.out.rd).mono ?_)
            rintro e w18 ⟨rfl, bn⟩
            rw [Q3.out]
            replace BB := hide (below_trans BB.out bn)
            clear bn
            go_wp2_with fail
            go_ret
            exact ⟨rfl, BB.out⟩
  · skip
    have t2 : ((scR s zs).2 != 0) = true := by simpa using hC
    go_wp2_with fail
    go_ret
    exact ⟨rfl, BB.out⟩
end Go.Proofs.Ytdodhjahihfaiaa
