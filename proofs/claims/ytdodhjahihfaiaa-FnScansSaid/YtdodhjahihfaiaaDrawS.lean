/- Contracts: a scan and a level drawn. Written by gen_draws.py. -/
import Derived.Test.YtdodhjahihfaiaaDrawR
import Derived.Deep.RegionWith
namespace Go.Proofs.Ytdodhjahihfaiaa
open Go.RowKit
set_option linter.unusedVariables false
set_option linter.unusedSimpArgs false

def OutSN (w : World) (e : Ending) (w' : World) : Prop :=
  ∃ (s : Scn) (A' : Option Addr) (m c' : Nat) (x : Int), e = .returned (.tuple #[.agg #[.int .i64 s.ph, .int .i64 s.ct, .int .i64 s.vl, .slice A' m c'], .int .i64 x]) ∧ m ≤ 10000 ∧ (-9223372036854775808 ≤ x ∧ x ≤ 9223372036854775807) ∧ Own w' w.heap.size A' m c' s.bs ∧ Below w.heap.size w w'
set_option maxHeartbeats 12800000 in
set_option maxRecDepth 100000 in
theorem DrawStepCell_d (A : Option Addr) (n c : Nat) (bs : List Int) (w : World) (h : Rd8 w A n c bs) (hn : n ≤ 4096) :
    Calls Try.prog 66 #[.slice A n c] w (OutSN w) := by
  have W1 := (Below.refl w.heap.size w).alloc (Nat.le_refl _) (.cells #[.int .i64 0, .int .i64 0, .int .i64 0, .slice none 0 0] 30)
  have R1 := hide (ScnAt.fresh w #[.int .i64 0, .int .i64 0, .int .i64 0, .slice none 0 0])
  have H1 := hide (h.below W1)
  have B1 := hide W1
  clear W1
  go_enter Try.func66, Try.ntmps66
  go_wp2_with fail
  refine (from_d _ _ _ _ _ H1.out hn).mono ?_
  rintro e w2 ⟨g, rfl, hg, h2, b2⟩
  have hg1 : w.heap.size < g := by simp at hg; omega
  have R2 := hide (R1.out.below b2)
  have B2 := hide (below_trans B1.out b2)
  have H2 := hide h2
  have hb2 : w.heap.size ≤ w2.heap.size := B2.out.size
  clear h2 b2 hg R1 H1 B1
  go_wp2_with fail
  refine (l19Draw_d g A n c bs w2 H2.out).mono ?_
  rintro e w4 ⟨s, A6, m6, c6, rfl, hm6, o4, h4, g4⟩
  have R4 := R2.out.keepNe g4 (by omega)
  have b5 := (Below.refl w4.heap.size w4).alloc (Nat.le_refl _) (.cells #[.int .i64 s.ph, .int .i64 s.ct, .int .i64 s.vl, .slice A6 m6 c6] 30)
  have S5 := ScnAt.fresh w4 #[.int .i64 s.ph, .int .i64 s.ct, .int .i64 s.vl, .slice A6 m6 c6]
  have hb4 : w.heap.size ≤ w4.heap.size := Nat.le_trans hb2 g4.size
  have lg := h4.lt
  have lR4 := R4.lt
  have RR0 := R4.below b5
  have OO0 := (o4.mono (B' := w.heap.size) hb2).below b5
  have GG0 := grown_trans g4 (grownBy_of_below b5 (some g))
  have HH0 := h4.below b5
  clear o4 h4 g4 b5 R2 R4
  have HD := hide (show Sd (w4.alloc (.cells #[.int .i64 s.ph, .int .i64 s.ct, .int .i64 s.vl, .slice A6 m6 c6] 30)).drew g A n c bs from HH0)
  have SS := hide S5
  have RR := hide RR0
  have OO := hide OO0
  have GG := hide GG0
  have HH := hide HH0
  clear S5 RR0 OO0 GG0 HH0
  have y0 : (w4.alloc (.cells #[.int .i64 s.ph, .int .i64 s.ct, .int .i64 s.vl, .slice A6 m6 c6] 30)).cell? ⟨w4.heap.size, 0, none⟩ = some (.int .i64 s.ph) := SS.out.cell 0; have y1 : (w4.alloc (.cells #[.int .i64 s.ph, .int .i64 s.ct, .int .i64 s.vl, .slice A6 m6 c6] 30)).cell? ⟨w4.heap.size, 1, none⟩ = some (.int .i64 s.ct) := SS.out.cell 1; have y2 : (w4.alloc (.cells #[.int .i64 s.ph, .int .i64 s.ct, .int .i64 s.vl, .slice A6 m6 c6] 30)).cell? ⟨w4.heap.size, 2, none⟩ = some (.int .i64 s.vl) := SS.out.cell 2; have y3 : (w4.alloc (.cells #[.int .i64 s.ph, .int .i64 s.ct, .int .i64 s.vl, .slice A6 m6 c6] 30)).cell? ⟨w4.heap.size, 3, none⟩ = some (.slice A6 m6 c6) := SS.out.cell 3; have r0 : (w4.alloc (.cells #[.int .i64 s.ph, .int .i64 s.ct, .int .i64 s.vl, .slice A6 m6 c6] 30)).cell? ⟨w.heap.size, 0, none⟩ = some (.int .i64 0) := RR.out.cell 0; have r1 : (w4.alloc (.cells #[.int .i64 s.ph, .int .i64 s.ct, .int .i64 s.vl, .slice A6 m6 c6] 30)).cell? ⟨w.heap.size, 1, none⟩ = some (.int .i64 0) := RR.out.cell 1; have r2 : (w4.alloc (.cells #[.int .i64 s.ph, .int .i64 s.ct, .int .i64 s.vl, .slice A6 m6 c6] 30)).cell? ⟨w.heap.size, 2, none⟩ = some (.int .i64 0) := RR.out.cell 2; have r3 : (w4.alloc (.cells #[.int .i64 s.ph, .int .i64 s.ct, .int .i64 s.vl, .slice A6 m6 c6] 30)).cell? ⟨w.heap.size, 3, none⟩ = some (.slice none 0 0) := RR.out.cell 3; have f0 := SS.out.frozen 0; have q0 := RR.out.frozen 0; have f1 := SS.out.frozen 1; have q1 := RR.out.frozen 1; have f2 := SS.out.frozen 2; have q2 := RR.out.frozen 2; have f3 := SS.out.frozen 3; have q3 := RR.out.frozen 3; have lS := SS.out.lt; have lR := RR.out.lt
  go_wp2_with fail
  go_region_with (first
    | (go_at_call 97; (with_reducible refine (next_d g A n c bs (w4.alloc (.cells #[.int .i64 s.ph, .int .i64 s.ct, .int .i64 s.vl, .slice A6 m6 c6] 30)).drew _ HD.out).mono ?_); rintro e wn1 ⟨x1, rfl, xa1, xb1, hs, hg⟩; have xm1 := xb1 (by omega); clear xb1; have hq := grown_drewL hg; replace SS := hide (SS.out.keepNe hq (by omega)); replace RR := hide (RR.out.keepNe hq (by omega)); replace OO := hide (OO.out.next HH.out hq); replace GG := hide (grown_trans GG.out hq); replace HH := hide hs; clear hs hg hq; have y0 : wn1.cell? ⟨w4.heap.size, 0, none⟩ = some (.int .i64 s.ph) := SS.out.cell 0; have y1 : wn1.cell? ⟨w4.heap.size, 1, none⟩ = some (.int .i64 s.ct) := SS.out.cell 1; have y2 : wn1.cell? ⟨w4.heap.size, 2, none⟩ = some (.int .i64 s.vl) := SS.out.cell 2; have y3 : wn1.cell? ⟨w4.heap.size, 3, none⟩ = some (.slice A6 m6 c6) := SS.out.cell 3; have r0 : wn1.cell? ⟨w.heap.size, 0, none⟩ = some (.int .i64 0) := RR.out.cell 0; have r1 : wn1.cell? ⟨w.heap.size, 1, none⟩ = some (.int .i64 0) := RR.out.cell 1; have r2 : wn1.cell? ⟨w.heap.size, 2, none⟩ = some (.int .i64 0) := RR.out.cell 2; have r3 : wn1.cell? ⟨w.heap.size, 3, none⟩ = some (.slice none 0 0) := RR.out.cell 3; have f0 := SS.out.frozen 0; have q0 := RR.out.frozen 0; have f1 := SS.out.frozen 1; have q1 := RR.out.frozen 1; have f2 := SS.out.frozen 2; have q2 := RR.out.frozen 2; have f3 := SS.out.frozen 3; have q3 := RR.out.frozen 3; have lS := SS.out.lt; have lR := RR.out.lt)
    | (go_at_call 97; (with_reducible refine (next_d g A n c bs wn1 _ HH.out).mono ?_); rintro e wn2 ⟨x2, rfl, xa2, xb2, hs, hg⟩; have xm2 := xb2 (by omega); clear xb2; have hq := hg; replace SS := hide (SS.out.keepNe hq (by omega)); replace RR := hide (RR.out.keepNe hq (by omega)); replace OO := hide (OO.out.next HH.out hq); replace GG := hide (grown_trans GG.out hq); replace HH := hide hs; clear hs hg hq; have y0 : wn2.cell? ⟨w4.heap.size, 0, none⟩ = some (.int .i64 s.ph) := SS.out.cell 0; have y1 : wn2.cell? ⟨w4.heap.size, 1, none⟩ = some (.int .i64 s.ct) := SS.out.cell 1; have y2 : wn2.cell? ⟨w4.heap.size, 2, none⟩ = some (.int .i64 s.vl) := SS.out.cell 2; have y3 : wn2.cell? ⟨w4.heap.size, 3, none⟩ = some (.slice A6 m6 c6) := SS.out.cell 3; have r0 : wn2.cell? ⟨w.heap.size, 0, none⟩ = some (.int .i64 0) := RR.out.cell 0; have r1 : wn2.cell? ⟨w.heap.size, 1, none⟩ = some (.int .i64 0) := RR.out.cell 1; have r2 : wn2.cell? ⟨w.heap.size, 2, none⟩ = some (.int .i64 0) := RR.out.cell 2; have r3 : wn2.cell? ⟨w.heap.size, 3, none⟩ = some (.slice none 0 0) := RR.out.cell 3; have f0 := SS.out.frozen 0; have q0 := RR.out.frozen 0; have f1 := SS.out.frozen 1; have q1 := RR.out.frozen 1; have f2 := SS.out.frozen 2; have q2 := RR.out.frozen 2; have f3 := SS.out.frozen 3; have q3 := RR.out.frozen 3; have lS := SS.out.lt; have lR := RR.out.lt)
    | (go_at_call 97; (with_reducible refine (next_d g A n c bs wn2 _ HH.out).mono ?_); rintro e wn3 ⟨x3, rfl, xa3, xb3, hs, hg⟩; have xm3 := xb3 (by omega); clear xb3; have hq := hg; replace SS := hide (SS.out.keepNe hq (by omega)); replace RR := hide (RR.out.keepNe hq (by omega)); replace OO := hide (OO.out.next HH.out hq); replace GG := hide (grown_trans GG.out hq); replace HH := hide hs; clear hs hg hq; have y0 : wn3.cell? ⟨w4.heap.size, 0, none⟩ = some (.int .i64 s.ph) := SS.out.cell 0; have y1 : wn3.cell? ⟨w4.heap.size, 1, none⟩ = some (.int .i64 s.ct) := SS.out.cell 1; have y2 : wn3.cell? ⟨w4.heap.size, 2, none⟩ = some (.int .i64 s.vl) := SS.out.cell 2; have y3 : wn3.cell? ⟨w4.heap.size, 3, none⟩ = some (.slice A6 m6 c6) := SS.out.cell 3; have r0 : wn3.cell? ⟨w.heap.size, 0, none⟩ = some (.int .i64 0) := RR.out.cell 0; have r1 : wn3.cell? ⟨w.heap.size, 1, none⟩ = some (.int .i64 0) := RR.out.cell 1; have r2 : wn3.cell? ⟨w.heap.size, 2, none⟩ = some (.int .i64 0) := RR.out.cell 2; have r3 : wn3.cell? ⟨w.heap.size, 3, none⟩ = some (.slice none 0 0) := RR.out.cell 3; have f0 := SS.out.frozen 0; have q0 := RR.out.frozen 0; have f1 := SS.out.frozen 1; have q1 := RR.out.frozen 1; have f2 := SS.out.frozen 2; have q2 := RR.out.frozen 2; have f3 := SS.out.frozen 3; have q3 := RR.out.frozen 3; have lS := SS.out.lt; have lR := RR.out.lt))
  all_goals
    go_wp2_with fail
    have fin := RR.out.put4 (.int .i64 s.ph) (.int .i64 s.ct) (.int .i64 s.vl) (.slice A6 m6 c6)
    have t2 : IntKind.i64.wrap (x2.tdiv 29) = x2 / 29 := by rw [Int.tdiv_eq_ediv_of_nonneg xa2]; exact IntWalk.i64_in _ (by omega)
    have t3 : IntKind.i64.wrap (x3.tdiv 29) = x3 / 29 := by rw [Int.tdiv_eq_ediv_of_nonneg xa3]; exact IntWalk.i64_in _ (by omega)
    have t1 : IntKind.i64.wrap (x1 + x2 / 29) = x1 + x2 / 29 := IntWalk.i64_in _ (by omega)
    have t0 : IntKind.i64.wrap (x1 + x2 / 29 - x3 / 29) = x1 + x2 / 29 - x3 / 29 := IntWalk.i64_in _ (by omega)
    have hres := fun (tmps : Array Value) (hp : tmps.getD 2 undef = .pointer (some ⟨w.heap.size, 0, none⟩)) (hx : tmps.getD 3 undef = .int .i64 (IntKind.i64.wrap (IntKind.i64.wrap (x1 + IntKind.i64.wrap (x2.tdiv 29)) - IntKind.i64.wrap (x3.tdiv 29)))) => results_scni (tmps := tmps) Try.results66 hp hx fin
    refine bodyPost_ret (hres _ rfl rfl) rfl ?_
    exact ⟨s, A6, m6, c6, _, rfl, hm6, by rw [t2, t3, t1, t0]; omega, OO.out.set4 (g := w.heap.size) ⟨_, RR.out⟩ (.int .i64 s.ph) (.int .i64 s.ct) (.int .i64 s.vl) (.slice A6 m6 c6), below_of_grown (row := some g) (grown_set4 (grown_after B2.out GG.out) (Nat.le_refl w.heap.size) (.int .i64 s.ph) (.int .i64 s.ct) (.int .i64 s.vl) (.slice A6 m6 c6)) (Nat.le_refl _) (by intro k hk; simp at hk; omega)⟩
end Go.Proofs.Ytdodhjahihfaiaa
