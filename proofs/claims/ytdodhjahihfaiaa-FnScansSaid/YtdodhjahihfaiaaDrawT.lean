/- Contracts: a scan and a list of bits drawn. Written by gen_drawt.py. -/
import Derived.Test.YtdodhjahihfaiaaDrawS
namespace Go.Proofs.Ytdodhjahihfaiaa
open Go.RowKit
set_option linter.unusedVariables false
set_option linter.unusedSimpArgs false

theorem sNewScan_any (w : World) : Calls Try.prog 100 #[] w fun e w' => e = .returned (.agg #[.int .i64 0, .int .i64 0, .int .i64 0, .slice none 0 0]) ∧ Below w.heap.size w w' := by
  go_enter Try.func100, Try.ntmps100
  go_wp2
  refine bodyPost_ret (v := .agg #[.int .i64 0, .int .i64 0, .int .i64 0, .slice none 0 0]) (by simp [results, Try.results100, go_sem]) rfl ⟨rfl, (Below.refl _ _).alloc (Nat.le_refl _) _⟩
def OutSL (w : World) (e : Ending) (w' : World) : Prop :=
  ∃ (s : Scn) (A' : Option Addr) (m c' : Nat) (A2 : Option Addr) (m2 c2 : Nat) (zs : List Int), e = .returned (.tuple #[.agg #[.int .i64 s.ph, .int .i64 s.ct, .int .i64 s.vl, .slice A' m c'], .slice A2 m2 c2]) ∧ m ≤ 10000 ∧ m2 ≤ 10000 ∧ Own w' w.heap.size A' m c' s.bs ∧ Own w' w.heap.size A2 m2 c2 zs ∧ Below w.heap.size w w'
set_option maxHeartbeats 12800000 in
set_option maxRecDepth 100000 in
theorem DrawScanCells_d (A : Option Addr) (n c : Nat) (bs : List Int) (w : World) (h : Rd8 w A n c bs) (hn : n ≤ 4096) :
    Calls Try.prog 65 #[.slice A n c] w (OutSL w) := by
  have W1 := (Below.refl w.heap.size w).alloc (Nat.le_refl _) (.cells #[.int .i64 0, .int .i64 0, .int .i64 0, .slice none 0 0] 30)
  have R1 := hide (ScnAt.fresh w #[.int .i64 0, .int .i64 0, .int .i64 0, .slice none 0 0])
  have H1 := hide (h.below W1)
  have B1 := hide W1
  clear W1
  go_enter Try.func65, Try.ntmps65
  go_wp2_with fail
  refine (from_d _ _ _ _ _ H1.out hn).mono ?_
  rintro e w2 ⟨g, rfl, hg, h2, b2⟩
  have hg1 : w.heap.size < g := by simp at hg; omega
  have R2 := hide (R1.out.below b2)
  have B2 := hide (below_trans B1.out b2)
  have H2 := hide h2
  have hb2 : w.heap.size ≤ w2.heap.size := B2.out.size
  clear h2 b2 hg R1 H1 B1
  go_wp2_with fail
  refine (next_d _ _ _ _ _ _ _ H2.out).mono ?_
  rintro e w3 ⟨q, rfl, q0, q1, h3, g3⟩
  have R3 := hide (R2.out.keepNe g3 (by omega))
  have G3 := hide g3
  have H3 := hide h3
  have hb3 : w.heap.size ≤ w3.heap.size := Nat.le_trans hb2 g3.size
  clear h3 g3 q1 R2 H2
  by_cases e0 : q = 0
  · subst e0
    go_wp2_with fail
    refine (sNewScan_any w3).mono ?_
    rintro e w4 ⟨rfl, b4⟩
    have R4 := hide (R3.out.below b4)
    have H4 := hide (H3.out.below b4)
    have G4 := hide (grown_trans G3.out (grownBy_of_below b4 _))
    have hb4 : w.heap.size ≤ w4.heap.size := Nat.le_trans hb3 b4.size
    clear b4
    go_wp2_with fail
    refine (l18Draw_d _ _ _ _ _ _ H4.out).mono ?_
    rintro e w5 ⟨A7, m7, c7, zs, rfl, hm7, o7, h5, g5⟩
    have RR := hide (R4.out.keepNe g5 (by omega))
    have GG := hide (grown_trans G4.out g5)
    have O7 := hide (o7.mono (B' := w.heap.size) hb4)
    clear o7 h5 g5
    have r0 : w5.cell? ⟨w.heap.size, 0, none⟩ = some (.int .i64 0) := RR.out.cell 0; have p0 := RR.out.frozen 0; have r1 : w5.cell? ⟨w.heap.size, 1, none⟩ = some (.int .i64 0) := RR.out.cell 1; have p1 := RR.out.frozen 1; have r2 : w5.cell? ⟨w.heap.size, 2, none⟩ = some (.int .i64 0) := RR.out.cell 2; have p2 := RR.out.frozen 2; have r3 : w5.cell? ⟨w.heap.size, 3, none⟩ = some (.slice none 0 0) := RR.out.cell 3; have p3 := RR.out.frozen 3
    go_wp2_with fail
    have fin := RR.out.put4 (.int .i64 0) (.int .i64 0) (.int .i64 0) (.slice none 0 0)
    have hres := fun (tmps : Array Value) (hp : tmps.getD 2 undef = .pointer (some ⟨w.heap.size, 0, none⟩)) (hx : tmps.getD 3 undef = .slice A7 m7 c7) => results_scni (tmps := tmps) Try.results65 hp hx fin
    refine bodyPost_ret (hres _ rfl rfl) rfl ?_
    exact ⟨zeroS, none, 0, 0, A7, m7, c7, zs, rfl, by omega, hm7, Own.nil _ _, O7.out.set4 (g := w.heap.size) ⟨_, RR.out⟩ (.int .i64 0) (.int .i64 0) (.int .i64 0) (.slice none 0 0), below_of_grown (row := some g) (grown_set4 (grown_after B2.out GG.out) (Nat.le_refl w.heap.size) (.int .i64 0) (.int .i64 0) (.int .i64 0) (.slice none 0 0)) (Nat.le_refl _) (by intro k hk; simp at hk; omega)⟩
  · have f00 : (q == 0) = false := by simpa using e0
    go_wp2_with fail
    refine (l19Draw_d g A n c bs w3 H3.out).mono ?_
    rintro e w4 ⟨s, A6, m6, c6, rfl, hm6, o4, h4, g4⟩
    have R4 := R3.out.keepNe g4 (by omega)
    have b5 := (Below.refl w4.heap.size w4).alloc (Nat.le_refl _) (.cells #[.int .i64 s.ph, .int .i64 s.ct, .int .i64 s.vl, .slice A6 m6 c6] 30)
    have S5 := ScnAt.fresh w4 #[.int .i64 s.ph, .int .i64 s.ct, .int .i64 s.vl, .slice A6 m6 c6]
    have hb4 : w.heap.size ≤ w4.heap.size := Nat.le_trans hb3 g4.size
    have lg := h4.lt
    have lR4 := R4.lt
    have RR := hide (R4.below b5)
    have OO := hide ((o4.mono (B' := w.heap.size) hb3).below b5)
    have GG := hide (grown_trans (grown_trans G3.out g4) (grownBy_of_below b5 (some g)))
    have HH := hide (h4.below b5)
    have HD := hide (show Sd (w4.alloc (.cells #[.int .i64 s.ph, .int .i64 s.ct, .int .i64 s.vl, .slice A6 m6 c6] 30)).drew g A n c bs from HH.out)
    have SS := hide S5
    clear o4 h4 g4 b5 R4 S5
    have y0 : (w4.alloc (.cells #[.int .i64 s.ph, .int .i64 s.ct, .int .i64 s.vl, .slice A6 m6 c6] 30)).cell? ⟨w4.heap.size, 0, none⟩ = some (.int .i64 s.ph) := SS.out.cell 0; have y1 : (w4.alloc (.cells #[.int .i64 s.ph, .int .i64 s.ct, .int .i64 s.vl, .slice A6 m6 c6] 30)).cell? ⟨w4.heap.size, 1, none⟩ = some (.int .i64 s.ct) := SS.out.cell 1; have y2 : (w4.alloc (.cells #[.int .i64 s.ph, .int .i64 s.ct, .int .i64 s.vl, .slice A6 m6 c6] 30)).cell? ⟨w4.heap.size, 2, none⟩ = some (.int .i64 s.vl) := SS.out.cell 2; have y3 : (w4.alloc (.cells #[.int .i64 s.ph, .int .i64 s.ct, .int .i64 s.vl, .slice A6 m6 c6] 30)).cell? ⟨w4.heap.size, 3, none⟩ = some (.slice A6 m6 c6) := SS.out.cell 3; have r0 : (w4.alloc (.cells #[.int .i64 s.ph, .int .i64 s.ct, .int .i64 s.vl, .slice A6 m6 c6] 30)).cell? ⟨w.heap.size, 0, none⟩ = some (.int .i64 0) := RR.out.cell 0; have r1 : (w4.alloc (.cells #[.int .i64 s.ph, .int .i64 s.ct, .int .i64 s.vl, .slice A6 m6 c6] 30)).cell? ⟨w.heap.size, 1, none⟩ = some (.int .i64 0) := RR.out.cell 1; have r2 : (w4.alloc (.cells #[.int .i64 s.ph, .int .i64 s.ct, .int .i64 s.vl, .slice A6 m6 c6] 30)).cell? ⟨w.heap.size, 2, none⟩ = some (.int .i64 0) := RR.out.cell 2; have r3 : (w4.alloc (.cells #[.int .i64 s.ph, .int .i64 s.ct, .int .i64 s.vl, .slice A6 m6 c6] 30)).cell? ⟨w.heap.size, 3, none⟩ = some (.slice none 0 0) := RR.out.cell 3; have f0 := SS.out.frozen 0; have q0 := RR.out.frozen 0; have f1 := SS.out.frozen 1; have q1 := RR.out.frozen 1; have f2 := SS.out.frozen 2; have q2 := RR.out.frozen 2; have f3 := SS.out.frozen 3; have q3 := RR.out.frozen 3; have lS := SS.out.lt; have lR := RR.out.lt
    go_wp2_with fail
    go_region_with (first
      | (go_at_call 102; (with_reducible refine (l01DrawBits_d g A n c bs (w4.alloc (.cells #[.int .i64 s.ph, .int .i64 s.ct, .int .i64 s.vl, .slice A6 m6 c6] 30)).drew 12 HD.out (by omega) (by omega)).mono ?_); rintro e wn1 ⟨A7, m7, c7, zs, rfl, hm7, o7, hs, hg⟩; have hq := grown_drewL hg; replace SS := hide (SS.out.keepNe hq (by omega)); replace RR := hide (RR.out.keepNe hq (by omega)); replace OO := hide (OO.out.next HH.out hq); replace GG := hide (grown_trans GG.out hq); have O7 := hide (o7.mono (B' := w.heap.size) (by simp; omega)); have y0 : wn1.cell? ⟨w4.heap.size, 0, none⟩ = some (.int .i64 s.ph) := SS.out.cell 0; have y1 : wn1.cell? ⟨w4.heap.size, 1, none⟩ = some (.int .i64 s.ct) := SS.out.cell 1; have y2 : wn1.cell? ⟨w4.heap.size, 2, none⟩ = some (.int .i64 s.vl) := SS.out.cell 2; have y3 : wn1.cell? ⟨w4.heap.size, 3, none⟩ = some (.slice A6 m6 c6) := SS.out.cell 3; have r0 : wn1.cell? ⟨w.heap.size, 0, none⟩ = some (.int .i64 0) := RR.out.cell 0; have r1 : wn1.cell? ⟨w.heap.size, 1, none⟩ = some (.int .i64 0) := RR.out.cell 1; have r2 : wn1.cell? ⟨w.heap.size, 2, none⟩ = some (.int .i64 0) := RR.out.cell 2; have r3 : wn1.cell? ⟨w.heap.size, 3, none⟩ = some (.slice none 0 0) := RR.out.cell 3; have f0 := SS.out.frozen 0; have q0 := RR.out.frozen 0; have f1 := SS.out.frozen 1; have q1 := RR.out.frozen 1; have f2 := SS.out.frozen 2; have q2 := RR.out.frozen 2; have f3 := SS.out.frozen 3; have q3 := RR.out.frozen 3; have lS := SS.out.lt; have lR := RR.out.lt; clear hs hg hq o7))
    all_goals
      go_wp2_with fail
      have fin := RR.out.put4 (.int .i64 s.ph) (.int .i64 s.ct) (.int .i64 s.vl) (.slice A6 m6 c6)
      have hres := fun (tmps : Array Value) (hp : tmps.getD 2 undef = .pointer (some ⟨w.heap.size, 0, none⟩)) (hx : tmps.getD 3 undef = .slice A7 m7 c7) => results_scni (tmps := tmps) Try.results65 hp hx fin
      refine bodyPost_ret (hres _ rfl rfl) rfl ?_
      exact ⟨s, A6, m6, c6, A7, m7, c7, zs, rfl, hm6, hm7, OO.out.set4 (g := w.heap.size) ⟨_, RR.out⟩ (.int .i64 s.ph) (.int .i64 s.ct) (.int .i64 s.vl) (.slice A6 m6 c6), O7.out.set4 (g := w.heap.size) ⟨_, RR.out⟩ (.int .i64 s.ph) (.int .i64 s.ct) (.int .i64 s.vl) (.slice A6 m6 c6), below_of_grown (row := some g) (grown_set4 (grown_after B2.out GG.out) (Nat.le_refl w.heap.size) (.int .i64 s.ph) (.int .i64 s.ct) (.int .i64 s.vl) (.slice A6 m6 c6)) (Nat.le_refl _) (by intro k hk; simp at hk; omega)⟩
end Go.Proofs.Ytdodhjahihfaiaa
