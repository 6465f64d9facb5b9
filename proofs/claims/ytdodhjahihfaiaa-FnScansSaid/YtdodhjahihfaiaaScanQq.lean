/- Contracts: one cell read, by the program and by the reference. Written by gen_scanq.py. -/
import Derived.Test.YtdodhjahihfaiaaScanPp
namespace Go.Proofs.Ytdodhjahihfaiaa
open Go.RowKit
set_option linter.unusedVariables false
set_option linter.unusedSimpArgs false

theorem stR_ok {s : Scn} {x : Int} (h : scnB s = true) (hc : stepC s x = 0) : stR s x = (stepS s x, 0) := by
  rw [stR, scR_yes h, scanR, if_pos hc]; rfl
theorem stR_bad {s : Scn} {x : Int} (h : scnB s = true) (hc : stepC s x ≠ 0) : stR s x = (zeroS, stepC s x) := by
  rw [stR, scR_yes h, scanR, if_neg hc]
theorem stR_no {s : Scn} {x : Int} (h : scnB s = false) : stR s x = (zeroS, 1) := scR_no h
theorem stR_range {s : Scn} {x : Int} (h : scnB s = true) (hr : stepR s x = true) : stR s x = (zeroS, 2) := by
  have e : stepC s x = 2 := by simp [stepC, hr]
  rw [stR_bad h (by rw [e]; decide), e]
theorem stR_bytes {s : Scn} {x : Int} (h : scnB s = true) (hr : stepR s x = false) (hb : bytesB (stepS s x).bs = true) : stR s x = (stepS s x, 0) := by
  refine stR_ok h ?_
  have hl : stepL s = false := by
    cases e : stepL s
    · rfl
    · exfalso
      simp [stepL] at e
      obtain ⟨h4, h7, hlen⟩ := e
      have := (bytesB_get hb).1
      simp [stepS, h4, h7, hlen] at this
  simp [stepC, hr, hl]
theorem stR_limit {s : Scn} {x : Int} (h : scnB s = true) (hr : stepR s x = false) (hb : bytesB (stepS s x).bs = false) : stR s x = (zeroS, 3) := by
  have hl : stepL s = true := by
    cases e : stepL s
    · exfalso
      have := (scnB_get (stepS_valid h hr e)).2.1
      simp [bytesB, upB, this] at hb
    · rfl
  have e : stepC s x = 3 := by simp [stepC, hr, hl]
  rw [stR_bad h (by rw [e]; decide), e]
set_option maxHeartbeats 3200000 in
theorem iStepCell_c (s : Scn) (x : Int) (A : Option Addr) (n c : Nat) (w : World) (h : Rd w A n c s.bs) (hn : n ≤ 1048576) (hx : -9223372036854775808 ≤ x ∧ x ≤ 9223372036854775807) :
    Calls Try.prog 50 #[.agg #[.int .i64 s.ph, .int .i64 s.ct, .int .i64 s.vl, .slice A n c], .int .i64 x] w (ScOut (stR s x) w) := by
  have W0 := hide (show Below w.heap.size w (((w.alloc (.cells #[.int .i64 s.ph, .int .i64 s.ct, .int .i64 s.vl, .slice A n c] 30)).alloc (.cells #[.int .i64 0, .int .i64 0, .int .i64 0, .slice none 0 0] 30)).alloc (.cells #[.int .i64 x] 2)) by (repeat (first | exact Below.refl _ _ | (refine Below.alloc ?_ (by simp <;> omega) _) | (refine Below.setCell ?_ (by simp <;> omega) _))))
  have R0 := hide ((ScnAt.fresh1 w (.cells #[.int .i64 s.ph, .int .i64 s.ct, .int .i64 s.vl, .slice A n c] 30) #[.int .i64 0, .int .i64 0, .int .i64 0, .slice none 0 0]).below ((Below.refl _ _).alloc (Nat.le_refl _) (.cells #[.int .i64 x] 2)))
  have H0 := hide (h.below W0.out)
  have L0 := hide ((Own.lit1 (w.alloc (.cells #[.int .i64 s.ph, .int .i64 s.ct, .int .i64 s.vl, .slice A n c] 30)) (.cells #[.int .i64 0, .int .i64 0, .int .i64 0, .slice none 0 0] 30) (Nat.le_refl _) #[.int .i64 x] [x] rfl (I64.one hx.1 hx.2) 1 rfl (by omega)).rd)
  go_enter Try.func50, Try.ntmps50
  go_wp2_with fail
  have L1 := L0.out
  rw [show (w.alloc (.cells #[.int .i64 s.ph, .int .i64 s.ct, .int .i64 s.vl, .slice A n c] 30)).heap.size = w.heap.size + 1 by simp] at L1
  refine (iScanCells_c s A n c _ 1 1 [x] _ H0.out L1 hn (by omega)).mono ?_
  rintro e w2 ⟨A2, m2, c2, rfl, own2, b2, hm2⟩
  have HR := hide (R0.out.below b2)
  have B2 := hide (below_trans W0.out b2)
  have O2 := hide (own2.mono (B' := w.heap.size) W0.out.size)
  have r0 : w2.cell? ⟨w.heap.size + 1, 0, none⟩ = some (.int .i64 0) := HR.out.cell 0
  have r1 : w2.cell? ⟨w.heap.size + 1, 1, none⟩ = some (.int .i64 0) := HR.out.cell 1
  have r2 : w2.cell? ⟨w.heap.size + 1, 2, none⟩ = some (.int .i64 0) := HR.out.cell 2
  have r3 : w2.cell? ⟨w.heap.size + 1, 3, none⟩ = some (.slice none 0 0) := HR.out.cell 3
  have q0 := HR.out.frozen 0
  have q1 := HR.out.frozen 1
  have q2 := HR.out.frozen 2
  have q3 := HR.out.frozen 3
  clear b2 own2 L1
  go_wp2_with fail
  have fin := HR.out.put4 (.int .i64 (scR s [x]).1.ph) (.int .i64 (scR s [x]).1.ct) (.int .i64 (scR s [x]).1.vl) (.slice A2 m2 c2)
  have hO := O2.out.set4 (g := w.heap.size + 1) ⟨_, HR.out⟩ (.int .i64 (scR s [x]).1.ph) (.int .i64 (scR s [x]).1.ct) (.int .i64 (scR s [x]).1.vl) (.slice A2 m2 c2)
  have hB := below_set4 B2.out (g := w.heap.size + 1) (by omega) (.int .i64 (scR s [x]).1.ph) (.int .i64 (scR s [x]).1.ct) (.int .i64 (scR s [x]).1.vl) (.slice A2 m2 c2)
  have hres := fun (tmps : Array Value) (hp : tmps.getD 4 undef = .pointer (some ⟨w.heap.size + 1, 0, none⟩)) (hx : tmps.getD 5 undef = .int .i64 (scR s [x]).2) => results_scni (tmps := tmps) Try.results50 hp hx fin
  refine bodyPost_ret (hres _ rfl rfl) rfl ?_
  exact ⟨A2, m2, c2, rfl, hO, hB, hm2⟩
set_option maxHeartbeats 3200000 in
theorem sStep_no (s : Scn) (x : Int) (A : Option Addr) (n c : Nat) (w : World) (h : Rd w A n c s.bs) (hn : n ≤ 1048576) (es : scnB s = false) :
    Calls Try.prog 49 #[.agg #[.int .i64 s.ph, .int .i64 s.ct, .int .i64 s.vl, .slice A n c], .int .i64 x] w (ScOut (zeroS, 1) w) := by
  have W0 := hide (show Below w.heap.size w ((w.alloc (.cells #[.int .i64 s.ph, .int .i64 s.ct, .int .i64 s.vl, .slice A n c] 30)).alloc (.cells #[.int .i64 0, .int .i64 0, .int .i64 0, .slice none 0 0] 30)) by (repeat (first | exact Below.refl _ _ | (refine Below.alloc ?_ (by simp <;> omega) _) | (refine Below.setCell ?_ (by simp <;> omega) _))))
  have S0 := hide ((ScnAt.fresh w #[.int .i64 s.ph, .int .i64 s.ct, .int .i64 s.vl, .slice A n c]).below ((Below.refl _ _).alloc (Nat.le_refl _) (.cells #[.int .i64 0, .int .i64 0, .int .i64 0, .slice none 0 0] 30)))
  have R0 := hide (ScnAt.fresh1 w (.cells #[.int .i64 s.ph, .int .i64 s.ct, .int .i64 s.vl, .slice A n c] 30) #[.int .i64 0, .int .i64 0, .int .i64 0, .slice none 0 0])
  have H0 := hide (h.below W0.out)
  have HH := sIsScan_c s A n c _ H0.out
  rw [es] at HH
  have HC := hide HH
  clear h HH
  go_enter Try.func49, Try.ntmps49
  go_wp2_with fail
  have HX := HC.out
  have W1 := W0.out
  have S1 := S0.out
  have R1 := R0.out
  have H1 := H0.out
  refine HX.mono ?_
  rintro e w2 ⟨rfl, b2⟩
  have HR := hide (R1.below b2)
  have HS := hide (S1.below b2)
  have B2 := hide (below_trans W1 b2)
  have H2 := hide (H1.below b2)
  clear HX W1 S1 R1 H1 W0 S0 R0 H0 HC
  have r0 : w2.cell? ⟨w.heap.size + 1, 0, none⟩ = some (.int .i64 0) := HR.out.cell 0
  have r1 : w2.cell? ⟨w.heap.size + 1, 1, none⟩ = some (.int .i64 0) := HR.out.cell 1
  have r2 : w2.cell? ⟨w.heap.size + 1, 2, none⟩ = some (.int .i64 0) := HR.out.cell 2
  have r3 : w2.cell? ⟨w.heap.size + 1, 3, none⟩ = some (.slice none 0 0) := HR.out.cell 3
  have q0 := HR.out.frozen 0
  have q1 := HR.out.frozen 1
  have q2 := HR.out.frozen 2
  have q3 := HR.out.frozen 3
  clear b2
  go_wp2_with fail
  have fin := HR.out.put4 (.int .i64 0) (.int .i64 0) (.int .i64 0) (.slice none 0 0)
  have hB := below_set4 B2.out (g := w.heap.size + 1) (by omega) (.int .i64 0) (.int .i64 0) (.int .i64 0) (.slice none 0 0)
  have hres := fun (tmps : Array Value) (hp : tmps.getD 4 undef = .pointer (some ⟨w.heap.size + 1, 0, none⟩)) (hx : tmps.getD 5 undef = .int .i64 1) => results_scni (tmps := tmps) Try.results49 hp hx fin
  refine bodyPost_ret (hres _ rfl rfl) rfl ?_
  exact ⟨none, 0, 0, rfl, Own.nil _ _, hB, by omega⟩
set_option maxHeartbeats 3200000 in
theorem sStep_c0 (s : Scn) (x : Int) (A : Option Addr) (n c : Nat) (w : World) (h : Rd w A n c s.bs) (hn : n ≤ 1048576) (es : scnB s = true) (e1 : inB 0 1 x = false) :
    Calls Try.prog 49 #[.agg #[.int .i64 s.ph, .int .i64 s.ct, .int .i64 s.vl, .slice A n c], .int .i64 x] w (ScOut (zeroS, 2) w) := by
  have W0 := hide (show Below w.heap.size w ((w.alloc (.cells #[.int .i64 s.ph, .int .i64 s.ct, .int .i64 s.vl, .slice A n c] 30)).alloc (.cells #[.int .i64 0, .int .i64 0, .int .i64 0, .slice none 0 0] 30)) by (repeat (first | exact Below.refl _ _ | (refine Below.alloc ?_ (by simp <;> omega) _) | (refine Below.setCell ?_ (by simp <;> omega) _))))
  have S0 := hide ((ScnAt.fresh w #[.int .i64 s.ph, .int .i64 s.ct, .int .i64 s.vl, .slice A n c]).below ((Below.refl _ _).alloc (Nat.le_refl _) (.cells #[.int .i64 0, .int .i64 0, .int .i64 0, .slice none 0 0] 30)))
  have R0 := hide (ScnAt.fresh1 w (.cells #[.int .i64 s.ph, .int .i64 s.ct, .int .i64 s.vl, .slice A n c] 30) #[.int .i64 0, .int .i64 0, .int .i64 0, .slice none 0 0])
  have H0 := hide (h.below W0.out)
  have HH := sIsScan_c s A n c _ H0.out
  rw [es] at HH
  have HC := hide HH
  clear h HH
  go_enter Try.func49, Try.ntmps49
  go_wp2_with fail
  have HX := HC.out
  have W1 := W0.out
  have S1 := S0.out
  have R1 := R0.out
  have H1 := H0.out
  refine HX.mono ?_
  rintro e w2 ⟨rfl, b2⟩
  have HR := hide (R1.below b2)
  have HS := hide (S1.below b2)
  have B2 := hide (below_trans W1 b2)
  have H2 := hide (H1.below b2)
  clear HX W1 S1 R1 H1 W0 S0 R0 H0 HC
  have r0 : w2.cell? ⟨w.heap.size + 1, 0, none⟩ = some (.int .i64 0) := HR.out.cell 0
  have r1 : w2.cell? ⟨w.heap.size + 1, 1, none⟩ = some (.int .i64 0) := HR.out.cell 1
  have r2 : w2.cell? ⟨w.heap.size + 1, 2, none⟩ = some (.int .i64 0) := HR.out.cell 2
  have r3 : w2.cell? ⟨w.heap.size + 1, 3, none⟩ = some (.slice none 0 0) := HR.out.cell 3
  have q0 := HR.out.frozen 0
  have q1 := HR.out.frozen 1
  have q2 := HR.out.frozen 2
  have q3 := HR.out.frozen 3
  have y0 : w2.cell? ⟨w.heap.size, 0, none⟩ = some (.int .i64 s.ph) := HS.out.cell 0
  have y1 : w2.cell? ⟨w.heap.size, 1, none⟩ = some (.int .i64 s.ct) := HS.out.cell 1
  have y2 : w2.cell? ⟨w.heap.size, 2, none⟩ = some (.int .i64 s.vl) := HS.out.cell 2
  have y3 : w2.cell? ⟨w.heap.size, 3, none⟩ = some (.slice A n c) := HS.out.cell 3
  clear b2
  go_wp2_with (go_at_call 72; (with_reducible refine (l01In_any _ _ _ _).mono ?_); rintro e w' ⟨rfl, rfl⟩)
  have fin := HR.out.put4 (.int .i64 0) (.int .i64 0) (.int .i64 0) (.slice none 0 0)
  have hB := below_set4 B2.out (g := w.heap.size + 1) (by omega) (.int .i64 0) (.int .i64 0) (.int .i64 0) (.slice none 0 0)
  have hres := fun (tmps : Array Value) (hp : tmps.getD 4 undef = .pointer (some ⟨w.heap.size + 1, 0, none⟩)) (hx : tmps.getD 5 undef = .int .i64 2) => results_scni (tmps := tmps) Try.results49 hp hx fin
  refine bodyPost_ret (hres _ rfl rfl) rfl ?_
  exact ⟨none, 0, 0, rfl, Own.nil _ _, hB, by omega⟩
set_option maxHeartbeats 3200000 in
theorem sStep_c2 (s : Scn) (x : Int) (A : Option Addr) (n c : Nat) (w : World) (h : Rd w A n c s.bs) (hn : n ≤ 1048576) (es : scnB s = true) (e1 : inB 0 1 x = true) (hp : s.ph = 4) (h7 : 7 < s.ct) :
    Calls Try.prog 49 #[.agg #[.int .i64 s.ph, .int .i64 s.ct, .int .i64 s.vl, .slice A n c], .int .i64 x] w (ScOut (zeroS, 2) w) := by
  have W0 := hide (show Below w.heap.size w ((w.alloc (.cells #[.int .i64 s.ph, .int .i64 s.ct, .int .i64 s.vl, .slice A n c] 30)).alloc (.cells #[.int .i64 0, .int .i64 0, .int .i64 0, .slice none 0 0] 30)) by (repeat (first | exact Below.refl _ _ | (refine Below.alloc ?_ (by simp <;> omega) _) | (refine Below.setCell ?_ (by simp <;> omega) _))))
  have S0 := hide ((ScnAt.fresh w #[.int .i64 s.ph, .int .i64 s.ct, .int .i64 s.vl, .slice A n c]).below ((Below.refl _ _).alloc (Nat.le_refl _) (.cells #[.int .i64 0, .int .i64 0, .int .i64 0, .slice none 0 0] 30)))
  have R0 := hide (ScnAt.fresh1 w (.cells #[.int .i64 s.ph, .int .i64 s.ct, .int .i64 s.vl, .slice A n c] 30) #[.int .i64 0, .int .i64 0, .int .i64 0, .slice none 0 0])
  have H0 := hide (h.below W0.out)
  have HH := sIsScan_c s A n c _ H0.out
  rw [es] at HH
  have HC := hide HH
  have t7 : decide (s.ct > 7) = true := decide_eq_true h7
  clear h HH
  go_enter Try.func49, Try.ntmps49
  go_wp2_with fail
  have HX := HC.out
  have W1 := W0.out
  have S1 := S0.out
  have R1 := R0.out
  have H1 := H0.out
  rw [hp] at HX W1 S1 R1 H1
  refine HX.mono ?_
  rintro e w2 ⟨rfl, b2⟩
  have HR := hide (R1.below b2)
  have HS := hide (S1.below b2)
  have B2 := hide (below_trans W1 b2)
  have H2 := hide (H1.below b2)
  clear HX W1 S1 R1 H1 W0 S0 R0 H0 HC
  have r0 : w2.cell? ⟨w.heap.size + 1, 0, none⟩ = some (.int .i64 0) := HR.out.cell 0
  have r1 : w2.cell? ⟨w.heap.size + 1, 1, none⟩ = some (.int .i64 0) := HR.out.cell 1
  have r2 : w2.cell? ⟨w.heap.size + 1, 2, none⟩ = some (.int .i64 0) := HR.out.cell 2
  have r3 : w2.cell? ⟨w.heap.size + 1, 3, none⟩ = some (.slice none 0 0) := HR.out.cell 3
  have q0 := HR.out.frozen 0
  have q1 := HR.out.frozen 1
  have q2 := HR.out.frozen 2
  have q3 := HR.out.frozen 3
  have y0 : w2.cell? ⟨w.heap.size, 0, none⟩ = some (.int .i64 4) := HS.out.cell 0
  have y1 : w2.cell? ⟨w.heap.size, 1, none⟩ = some (.int .i64 s.ct) := HS.out.cell 1
  have y2 : w2.cell? ⟨w.heap.size, 2, none⟩ = some (.int .i64 s.vl) := HS.out.cell 2
  have y3 : w2.cell? ⟨w.heap.size, 3, none⟩ = some (.slice A n c) := HS.out.cell 3
  clear b2
  go_wp2_with (go_at_call 72; (with_reducible refine (l01In_any _ _ _ _).mono ?_); rintro e w' ⟨rfl, rfl⟩)
  have fin := HR.out.put4 (.int .i64 0) (.int .i64 0) (.int .i64 0) (.slice none 0 0)
  have hB := below_set4 B2.out (g := w.heap.size + 1) (by omega) (.int .i64 0) (.int .i64 0) (.int .i64 0) (.slice none 0 0)
  have hres := fun (tmps : Array Value) (hp : tmps.getD 4 undef = .pointer (some ⟨w.heap.size + 1, 0, none⟩)) (hx : tmps.getD 5 undef = .int .i64 2) => results_scni (tmps := tmps) Try.results49 hp hx fin
  refine bodyPost_ret (hres _ rfl rfl) rfl ?_
  exact ⟨none, 0, 0, rfl, Own.nil _ _, hB, by omega⟩
set_option maxHeartbeats 3200000 in
theorem sStep_r0 (s : Scn) (x : Int) (A : Option Addr) (n c : Nat) (w : World) (h : Rd w A n c s.bs) (hn : n ≤ 1048576) (es : scnB s = true) (e1 : inB 0 1 x = true) (hp : s.ph = 4) (hc : s.ct = 0) (hv : 1 ≤ s.vl) :
    Calls Try.prog 49 #[.agg #[.int .i64 s.ph, .int .i64 s.ct, .int .i64 s.vl, .slice A n c], .int .i64 x] w (ScOut (zeroS, 2) w) := by
  have W0 := hide (show Below w.heap.size w ((w.alloc (.cells #[.int .i64 s.ph, .int .i64 s.ct, .int .i64 s.vl, .slice A n c] 30)).alloc (.cells #[.int .i64 0, .int .i64 0, .int .i64 0, .slice none 0 0] 30)) by (repeat (first | exact Below.refl _ _ | (refine Below.alloc ?_ (by simp <;> omega) _) | (refine Below.setCell ?_ (by simp <;> omega) _))))
  have S0 := hide ((ScnAt.fresh w #[.int .i64 s.ph, .int .i64 s.ct, .int .i64 s.vl, .slice A n c]).below ((Below.refl _ _).alloc (Nat.le_refl _) (.cells #[.int .i64 0, .int .i64 0, .int .i64 0, .slice none 0 0] 30)))
  have R0 := hide (ScnAt.fresh1 w (.cells #[.int .i64 s.ph, .int .i64 s.ct, .int .i64 s.vl, .slice A n c] 30) #[.int .i64 0, .int .i64 0, .int .i64 0, .slice none 0 0])
  have H0 := hide (h.below W0.out)
  have HH := sIsScan_c s A n c _ H0.out
  rw [es] at HH
  have HC := hide HH
  have tv : decide (s.vl ≥ 1) = true := decide_eq_true hv
  clear h HH
  go_enter Try.func49, Try.ntmps49
  go_wp2_with fail
  have HX := HC.out
  have W1 := W0.out
  have S1 := S0.out
  have R1 := R0.out
  have H1 := H0.out
  rw [hp, hc] at HX W1 S1 R1 H1
  refine HX.mono ?_
  rintro e w2 ⟨rfl, b2⟩
  have HR := hide (R1.below b2)
  have HS := hide (S1.below b2)
  have B2 := hide (below_trans W1 b2)
  have H2 := hide (H1.below b2)
  clear HX W1 S1 R1 H1 W0 S0 R0 H0 HC
  have r0 : w2.cell? ⟨w.heap.size + 1, 0, none⟩ = some (.int .i64 0) := HR.out.cell 0
  have r1 : w2.cell? ⟨w.heap.size + 1, 1, none⟩ = some (.int .i64 0) := HR.out.cell 1
  have r2 : w2.cell? ⟨w.heap.size + 1, 2, none⟩ = some (.int .i64 0) := HR.out.cell 2
  have r3 : w2.cell? ⟨w.heap.size + 1, 3, none⟩ = some (.slice none 0 0) := HR.out.cell 3
  have q0 := HR.out.frozen 0
  have q1 := HR.out.frozen 1
  have q2 := HR.out.frozen 2
  have q3 := HR.out.frozen 3
  have y0 : w2.cell? ⟨w.heap.size, 0, none⟩ = some (.int .i64 4) := HS.out.cell 0
  have y1 : w2.cell? ⟨w.heap.size, 1, none⟩ = some (.int .i64 0) := HS.out.cell 1
  have y2 : w2.cell? ⟨w.heap.size, 2, none⟩ = some (.int .i64 s.vl) := HS.out.cell 2
  have y3 : w2.cell? ⟨w.heap.size, 3, none⟩ = some (.slice A n c) := HS.out.cell 3
  clear b2
  go_wp2_with (go_at_call 72; (with_reducible refine (l01In_any _ _ _ _).mono ?_); rintro e w' ⟨rfl, rfl⟩)
  have fin := HR.out.put4 (.int .i64 0) (.int .i64 0) (.int .i64 0) (.slice none 0 0)
  have hB := below_set4 B2.out (g := w.heap.size + 1) (by omega) (.int .i64 0) (.int .i64 0) (.int .i64 0) (.slice none 0 0)
  have hres := fun (tmps : Array Value) (hp : tmps.getD 4 undef = .pointer (some ⟨w.heap.size + 1, 0, none⟩)) (hx : tmps.getD 5 undef = .int .i64 2) => results_scni (tmps := tmps) Try.results49 hp hx fin
  refine bodyPost_ret (hres _ rfl rfl) rfl ?_
  exact ⟨none, 0, 0, rfl, Own.nil _ _, hB, by omega⟩
set_option maxHeartbeats 3200000 in
theorem sStep_n0 (s : Scn) (x : Int) (A : Option Addr) (n c : Nat) (w : World) (h : Rd w A n c s.bs) (hn : n ≤ 1048576) (es : scnB s = true) (e1 : inB 0 1 x = true) (hx : x = 0 ∨ x = 1) (er : stepR s x = false) (hp : s.ph = 4) (hc : s.ct = 0) (hw : ¬ 1 ≤ s.vl) :
    Calls Try.prog 49 #[.agg #[.int .i64 s.ph, .int .i64 s.ct, .int .i64 s.vl, .slice A n c], .int .i64 x] w (ScOut (stR s x) w) := by
  have W0 := hide (show Below w.heap.size w ((w.alloc (.cells #[.int .i64 s.ph, .int .i64 s.ct, .int .i64 s.vl, .slice A n c] 30)).alloc (.cells #[.int .i64 0, .int .i64 0, .int .i64 0, .slice none 0 0] 30)) by (repeat (first | exact Below.refl _ _ | (refine Below.alloc ?_ (by simp <;> omega) _) | (refine Below.setCell ?_ (by simp <;> omega) _))))
  have S0 := hide ((ScnAt.fresh w #[.int .i64 s.ph, .int .i64 s.ct, .int .i64 s.vl, .slice A n c]).below ((Below.refl _ _).alloc (Nat.le_refl _) (.cells #[.int .i64 0, .int .i64 0, .int .i64 0, .slice none 0 0] 30)))
  have R0 := hide (ScnAt.fresh1 w (.cells #[.int .i64 s.ph, .int .i64 s.ct, .int .i64 s.vl, .slice A n c] 30) #[.int .i64 0, .int .i64 0, .int .i64 0, .slice none 0 0])
  have H0 := hide (h.below W0.out)
  have HH := sIsScan_c s A n c _ H0.out
  rw [es] at HH
  have HC := hide HH
  have hv := hide (show (0 ≤ s.ph ∧ s.ph ≤ 7) ∧ (0 ≤ s.ct ∧ s.ct ≤ 15) ∧ (0 ≤ s.vl ∧ s.vl ≤ 255) from ⟨(scnB_get es).1, (scnB_get es).2.2.1, (scnB_get es).2.2.2⟩)
  have h4 := hide (show s.ph = 4 → s.ct ≤ 7 from fun e => ((stepR_get er).2 e).1)
  have es0 := hide es
  have er0 := hide er
  clear er
  have tv : decide (s.vl ≥ 1) = false := decide_eq_false hw
  clear hw
  clear h HH
  go_enter Try.func49, Try.ntmps49
  go_wp2_with fail
  have HX := HC.out
  have W1 := W0.out
  have S1 := S0.out
  have R1 := R0.out
  have H1 := H0.out
  rw [hp, hc] at HX W1 S1 R1 H1
  refine HX.mono ?_
  rintro e w2 ⟨rfl, b2⟩
  have HR := hide (R1.below b2)
  have HS := hide (S1.below b2)
  have B2 := hide (below_trans W1 b2)
  have H2 := hide (H1.below b2)
  clear HX W1 S1 R1 H1 W0 S0 R0 H0 HC
  have r0 : w2.cell? ⟨w.heap.size + 1, 0, none⟩ = some (.int .i64 0) := HR.out.cell 0
  have r1 : w2.cell? ⟨w.heap.size + 1, 1, none⟩ = some (.int .i64 0) := HR.out.cell 1
  have r2 : w2.cell? ⟨w.heap.size + 1, 2, none⟩ = some (.int .i64 0) := HR.out.cell 2
  have r3 : w2.cell? ⟨w.heap.size + 1, 3, none⟩ = some (.slice none 0 0) := HR.out.cell 3
  have q0 := HR.out.frozen 0
  have q1 := HR.out.frozen 1
  have q2 := HR.out.frozen 2
  have q3 := HR.out.frozen 3
  have y0 : w2.cell? ⟨w.heap.size, 0, none⟩ = some (.int .i64 4) := HS.out.cell 0
  have y1 : w2.cell? ⟨w.heap.size, 1, none⟩ = some (.int .i64 0) := HS.out.cell 1
  have y2 : w2.cell? ⟨w.heap.size, 2, none⟩ = some (.int .i64 s.vl) := HS.out.cell 2
  have y3 : w2.cell? ⟨w.heap.size, 3, none⟩ = some (.slice A n c) := HS.out.cell 3
  clear b2 r0 r1 r2 r3 q0 q1 q2 q3
  go_wp2_with (go_at_call 72; (with_reducible refine (l01In_any _ _ _ _).mono ?_); rintro e w' ⟨rfl, rfl⟩)
  have HC2 : Calls Try.prog 88 #[.agg #[.int .i64 4, .int .i64 0, .int .i64 s.vl, .slice A n c], .int .i64 x] w2 (SpecOut (stepS s x) n w2) := by
    have HC2 := sstep_any s x A n c w2 H2.out hv.out.1 hv.out.2.1 hv.out.2.2 h4.out hn hx
    rwa [hp, hc] at HC2
  with_reducible refine HC2.mono ?_
  clear HC2
  rintro e w3 ⟨A3, m3, c3, rfl, own3, b3, hm3⟩
  have HR3 := hide (HR.out.below b3)
  have B3 := hide (below_trans B2.out b3)
  have O3 := hide (own3.mono (B' := w.heap.size) B2.out.size)
  have ba := (Below.refl w3.heap.size w3).alloc (Nat.le_refl _) (.cells #[.int .i64 (stepS s x).ph, .int .i64 (stepS s x).ct, .int .i64 (stepS s x).vl, .slice A3 m3 c3] 30)
  have HR4 := hide (HR3.out.below ba)
  have B4 := hide (below_trans B3.out ba)
  have O4 := hide (O3.out.below ba)
  have hl3 := HR3.out.lt
  clear b3 own3 ba y0 y1 y2 y3
  have r0 : w3.cell? ⟨w.heap.size + 1, 0, none⟩ = some (.int .i64 0) := HR3.out.cell 0
  have r1 : w3.cell? ⟨w.heap.size + 1, 1, none⟩ = some (.int .i64 0) := HR3.out.cell 1
  have r2 : w3.cell? ⟨w.heap.size + 1, 2, none⟩ = some (.int .i64 0) := HR3.out.cell 2
  have r3 : w3.cell? ⟨w.heap.size + 1, 3, none⟩ = some (.slice none 0 0) := HR3.out.cell 3
  have q0 := HR3.out.frozen 0
  have q1 := HR3.out.frozen 1
  have q2 := HR3.out.frozen 2
  have q3 := HR3.out.frozen 3
  cases eb : bytesB (stepS s x).bs
  · have F := hide (stR_limit es0.out er0.out eb)
    go_wp2_with (go_at_call 78; (with_reducible refine (sIsBytes_any _ _ _ _ _ O4.out.rd).mono ?_); rintro e w' ⟨rfl, rfl⟩)
    have bs4 := below_set4 B3.out (g := w.heap.size + 1) (by omega) (.int .i64 0) (.int .i64 0) (.int .i64 0) (.slice none 0 0)
    have hB := below_trans bs4 ((Below.refl _ _).alloc (Nat.le_refl _) (.cells #[.int .i64 (stepS s x).ph, .int .i64 (stepS s x).ct, .int .i64 (stepS s x).vl, .slice A3 m3 c3] 30))
    have fin := (HR3.out.put4 (.int .i64 0) (.int .i64 0) (.int .i64 0) (.slice none 0 0)).below ((Below.refl _ _).alloc (Nat.le_refl _) (.cells #[.int .i64 (stepS s x).ph, .int .i64 (stepS s x).ct, .int .i64 (stepS s x).vl, .slice A3 m3 c3] 30))
    have hres := fun (tmps : Array Value) (hp : tmps.getD 4 undef = .pointer (some ⟨w.heap.size + 1, 0, none⟩)) (hx : tmps.getD 5 undef = .int .i64 3) => results_scni (tmps := tmps) Try.results49 hp hx fin
    refine bodyPost_ret (hres _ rfl rfl) rfl ?_
    rw [F.out]
    exact ⟨none, 0, 0, rfl, Own.nil _ _, hB, by omega⟩
  · have F := hide (stR_bytes es0.out er0.out eb)
    go_wp2_with (go_at_call 78; (with_reducible refine (sIsBytes_any _ _ _ _ _ O4.out.rd).mono ?_); rintro e w' ⟨rfl, rfl⟩)
    have bs4 := below_set4 B3.out (g := w.heap.size + 1) (by omega) (.int .i64 (stepS s x).ph) (.int .i64 (stepS s x).ct) (.int .i64 (stepS s x).vl) (.slice A3 m3 c3)
    have ba := (Below.refl _ ((((w3.setCell ⟨w.heap.size + 1, 0, none⟩ (.int .i64 (stepS s x).ph)).setCell ⟨w.heap.size + 1, 1, none⟩ (.int .i64 (stepS s x).ct)).setCell ⟨w.heap.size + 1, 2, none⟩ (.int .i64 (stepS s x).vl)).setCell ⟨w.heap.size + 1, 3, none⟩ (.slice A3 m3 c3))).alloc (Nat.le_refl _) (.cells #[.int .i64 (stepS s x).ph, .int .i64 (stepS s x).ct, .int .i64 (stepS s x).vl, .slice A3 m3 c3] 30)
    have hB := below_trans bs4 ba
    have fin := (HR3.out.put4 (.int .i64 (stepS s x).ph) (.int .i64 (stepS s x).ct) (.int .i64 (stepS s x).vl) (.slice A3 m3 c3)).below ba
    have hO := (O3.out.set4 (g := w.heap.size + 1) ⟨_, HR3.out⟩ (.int .i64 (stepS s x).ph) (.int .i64 (stepS s x).ct) (.int .i64 (stepS s x).vl) (.slice A3 m3 c3)).below ba
    have hres := fun (tmps : Array Value) (hp : tmps.getD 4 undef = .pointer (some ⟨w.heap.size + 1, 0, none⟩)) (hx : tmps.getD 5 undef = .int .i64 0) => results_scni (tmps := tmps) Try.results49 hp hx fin
    refine bodyPost_ret (hres _ rfl rfl) rfl ?_
    rw [F.out]
    exact ⟨A3, m3, c3, rfl, hO, hB, by omega⟩
set_option maxHeartbeats 3200000 in
theorem sStep_r1 (s : Scn) (x : Int) (A : Option Addr) (n c : Nat) (w : World) (h : Rd w A n c s.bs) (hn : n ≤ 1048576) (es : scnB s = true) (e1 : inB 0 1 x = true) (hp : s.ph = 4) (hc : s.ct = 1) (hv : 2 ≤ s.vl) :
    Calls Try.prog 49 #[.agg #[.int .i64 s.ph, .int .i64 s.ct, .int .i64 s.vl, .slice A n c], .int .i64 x] w (ScOut (zeroS, 2) w) := by
  have W0 := hide (show Below w.heap.size w ((w.alloc (.cells #[.int .i64 s.ph, .int .i64 s.ct, .int .i64 s.vl, .slice A n c] 30)).alloc (.cells #[.int .i64 0, .int .i64 0, .int .i64 0, .slice none 0 0] 30)) by (repeat (first | exact Below.refl _ _ | (refine Below.alloc ?_ (by simp <;> omega) _) | (refine Below.setCell ?_ (by simp <;> omega) _))))
  have S0 := hide ((ScnAt.fresh w #[.int .i64 s.ph, .int .i64 s.ct, .int .i64 s.vl, .slice A n c]).below ((Below.refl _ _).alloc (Nat.le_refl _) (.cells #[.int .i64 0, .int .i64 0, .int .i64 0, .slice none 0 0] 30)))
  have R0 := hide (ScnAt.fresh1 w (.cells #[.int .i64 s.ph, .int .i64 s.ct, .int .i64 s.vl, .slice A n c] 30) #[.int .i64 0, .int .i64 0, .int .i64 0, .slice none 0 0])
  have H0 := hide (h.below W0.out)
  have HH := sIsScan_c s A n c _ H0.out
  rw [es] at HH
  have HC := hide HH
  have tv : decide (s.vl ≥ 2) = true := decide_eq_true hv
  clear h HH
  go_enter Try.func49, Try.ntmps49
  go_wp2_with fail
  have HX := HC.out
  have W1 := W0.out
  have S1 := S0.out
  have R1 := R0.out
  have H1 := H0.out
  rw [hp, hc] at HX W1 S1 R1 H1
  refine HX.mono ?_
  rintro e w2 ⟨rfl, b2⟩
  have HR := hide (R1.below b2)
  have HS := hide (S1.below b2)
  have B2 := hide (below_trans W1 b2)
  have H2 := hide (H1.below b2)
  clear HX W1 S1 R1 H1 W0 S0 R0 H0 HC
  have r0 : w2.cell? ⟨w.heap.size + 1, 0, none⟩ = some (.int .i64 0) := HR.out.cell 0
  have r1 : w2.cell? ⟨w.heap.size + 1, 1, none⟩ = some (.int .i64 0) := HR.out.cell 1
  have r2 : w2.cell? ⟨w.heap.size + 1, 2, none⟩ = some (.int .i64 0) := HR.out.cell 2
  have r3 : w2.cell? ⟨w.heap.size + 1, 3, none⟩ = some (.slice none 0 0) := HR.out.cell 3
  have q0 := HR.out.frozen 0
  have q1 := HR.out.frozen 1
  have q2 := HR.out.frozen 2
  have q3 := HR.out.frozen 3
  have y0 : w2.cell? ⟨w.heap.size, 0, none⟩ = some (.int .i64 4) := HS.out.cell 0
  have y1 : w2.cell? ⟨w.heap.size, 1, none⟩ = some (.int .i64 1) := HS.out.cell 1
  have y2 : w2.cell? ⟨w.heap.size, 2, none⟩ = some (.int .i64 s.vl) := HS.out.cell 2
  have y3 : w2.cell? ⟨w.heap.size, 3, none⟩ = some (.slice A n c) := HS.out.cell 3
  clear b2
  go_wp2_with (go_at_call 72; (with_reducible refine (l01In_any _ _ _ _).mono ?_); rintro e w' ⟨rfl, rfl⟩)
  have fin := HR.out.put4 (.int .i64 0) (.int .i64 0) (.int .i64 0) (.slice none 0 0)
  have hB := below_set4 B2.out (g := w.heap.size + 1) (by omega) (.int .i64 0) (.int .i64 0) (.int .i64 0) (.slice none 0 0)
  have hres := fun (tmps : Array Value) (hp : tmps.getD 4 undef = .pointer (some ⟨w.heap.size + 1, 0, none⟩)) (hx : tmps.getD 5 undef = .int .i64 2) => results_scni (tmps := tmps) Try.results49 hp hx fin
  refine bodyPost_ret (hres _ rfl rfl) rfl ?_
  exact ⟨none, 0, 0, rfl, Own.nil _ _, hB, by omega⟩
set_option maxHeartbeats 3200000 in
theorem sStep_n1 (s : Scn) (x : Int) (A : Option Addr) (n c : Nat) (w : World) (h : Rd w A n c s.bs) (hn : n ≤ 1048576) (es : scnB s = true) (e1 : inB 0 1 x = true) (hx : x = 0 ∨ x = 1) (er : stepR s x = false) (hp : s.ph = 4) (hc : s.ct = 1) (hw : ¬ 2 ≤ s.vl) :
    Calls Try.prog 49 #[.agg #[.int .i64 s.ph, .int .i64 s.ct, .int .i64 s.vl, .slice A n c], .int .i64 x] w (ScOut (stR s x) w) := by
  have W0 := hide (show Below w.heap.size w ((w.alloc (.cells #[.int .i64 s.ph, .int .i64 s.ct, .int .i64 s.vl, .slice A n c] 30)).alloc (.cells #[.int .i64 0, .int .i64 0, .int .i64 0, .slice none 0 0] 30)) by (repeat (first | exact Below.refl _ _ | (refine Below.alloc ?_ (by simp <;> omega) _) | (refine Below.setCell ?_ (by simp <;> omega) _))))
  have S0 := hide ((ScnAt.fresh w #[.int .i64 s.ph, .int .i64 s.ct, .int .i64 s.vl, .slice A n c]).below ((Below.refl _ _).alloc (Nat.le_refl _) (.cells #[.int .i64 0, .int .i64 0, .int .i64 0, .slice none 0 0] 30)))
  have R0 := hide (ScnAt.fresh1 w (.cells #[.int .i64 s.ph, .int .i64 s.ct, .int .i64 s.vl, .slice A n c] 30) #[.int .i64 0, .int .i64 0, .int .i64 0, .slice none 0 0])
  have H0 := hide (h.below W0.out)
  have HH := sIsScan_c s A n c _ H0.out
  rw [es] at HH
  have HC := hide HH
  have hv := hide (show (0 ≤ s.ph ∧ s.ph ≤ 7) ∧ (0 ≤ s.ct ∧ s.ct ≤ 15) ∧ (0 ≤ s.vl ∧ s.vl ≤ 255) from ⟨(scnB_get es).1, (scnB_get es).2.2.1, (scnB_get es).2.2.2⟩)
  have h4 := hide (show s.ph = 4 → s.ct ≤ 7 from fun e => ((stepR_get er).2 e).1)
  have es0 := hide es
  have er0 := hide er
  clear er
  have tv : decide (s.vl ≥ 2) = false := decide_eq_false hw
  clear hw
  clear h HH
  go_enter Try.func49, Try.ntmps49
  go_wp2_with fail
  have HX := HC.out
  have W1 := W0.out
  have S1 := S0.out
  have R1 := R0.out
  have H1 := H0.out
  rw [hp, hc] at HX W1 S1 R1 H1
  refine HX.mono ?_
  rintro e w2 ⟨rfl, b2⟩
  have HR := hide (R1.below b2)
  have HS := hide (S1.below b2)
  have B2 := hide (below_trans W1 b2)
  have H2 := hide (H1.below b2)
  clear HX W1 S1 R1 H1 W0 S0 R0 H0 HC
  have r0 : w2.cell? ⟨w.heap.size + 1, 0, none⟩ = some (.int .i64 0) := HR.out.cell 0
  have r1 : w2.cell? ⟨w.heap.size + 1, 1, none⟩ = some (.int .i64 0) := HR.out.cell 1
  have r2 : w2.cell? ⟨w.heap.size + 1, 2, none⟩ = some (.int .i64 0) := HR.out.cell 2
  have r3 : w2.cell? ⟨w.heap.size + 1, 3, none⟩ = some (.slice none 0 0) := HR.out.cell 3
  have q0 := HR.out.frozen 0
  have q1 := HR.out.frozen 1
  have q2 := HR.out.frozen 2
  have q3 := HR.out.frozen 3
  have y0 : w2.cell? ⟨w.heap.size, 0, none⟩ = some (.int .i64 4) := HS.out.cell 0
  have y1 : w2.cell? ⟨w.heap.size, 1, none⟩ = some (.int .i64 1) := HS.out.cell 1
  have y2 : w2.cell? ⟨w.heap.size, 2, none⟩ = some (.int .i64 s.vl) := HS.out.cell 2
  have y3 : w2.cell? ⟨w.heap.size, 3, none⟩ = some (.slice A n c) := HS.out.cell 3
  clear b2 r0 r1 r2 r3 q0 q1 q2 q3
  go_wp2_with (go_at_call 72; (with_reducible refine (l01In_any _ _ _ _).mono ?_); rintro e w' ⟨rfl, rfl⟩)
  have HC2 : Calls Try.prog 88 #[.agg #[.int .i64 4, .int .i64 1, .int .i64 s.vl, .slice A n c], .int .i64 x] w2 (SpecOut (stepS s x) n w2) := by
    have HC2 := sstep_any s x A n c w2 H2.out hv.out.1 hv.out.2.1 hv.out.2.2 h4.out hn hx
    rwa [hp, hc] at HC2
  with_reducible refine HC2.mono ?_
  clear HC2
  rintro e w3 ⟨A3, m3, c3, rfl, own3, b3, hm3⟩
  have HR3 := hide (HR.out.below b3)
  have B3 := hide (below_trans B2.out b3)
  have O3 := hide (own3.mono (B' := w.heap.size) B2.out.size)
  have ba := (Below.refl w3.heap.size w3).alloc (Nat.le_refl _) (.cells #[.int .i64 (stepS s x).ph, .int .i64 (stepS s x).ct, .int .i64 (stepS s x).vl, .slice A3 m3 c3] 30)
  have HR4 := hide (HR3.out.below ba)
  have B4 := hide (below_trans B3.out ba)
  have O4 := hide (O3.out.below ba)
  have hl3 := HR3.out.lt
  clear b3 own3 ba y0 y1 y2 y3
  have r0 : w3.cell? ⟨w.heap.size + 1, 0, none⟩ = some (.int .i64 0) := HR3.out.cell 0
  have r1 : w3.cell? ⟨w.heap.size + 1, 1, none⟩ = some (.int .i64 0) := HR3.out.cell 1
  have r2 : w3.cell? ⟨w.heap.size + 1, 2, none⟩ = some (.int .i64 0) := HR3.out.cell 2
  have r3 : w3.cell? ⟨w.heap.size + 1, 3, none⟩ = some (.slice none 0 0) := HR3.out.cell 3
  have q0 := HR3.out.frozen 0
  have q1 := HR3.out.frozen 1
  have q2 := HR3.out.frozen 2
  have q3 := HR3.out.frozen 3
  cases eb : bytesB (stepS s x).bs
  · have F := hide (stR_limit es0.out er0.out eb)
    go_wp2_with (go_at_call 78; (with_reducible refine (sIsBytes_any _ _ _ _ _ O4.out.rd).mono ?_); rintro e w' ⟨rfl, rfl⟩)
    have bs4 := below_set4 B3.out (g := w.heap.size + 1) (by omega) (.int .i64 0) (.int .i64 0) (.int .i64 0) (.slice none 0 0)
    have hB := below_trans bs4 ((Below.refl _ _).alloc (Nat.le_refl _) (.cells #[.int .i64 (stepS s x).ph, .int .i64 (stepS s x).ct, .int .i64 (stepS s x).vl, .slice A3 m3 c3] 30))
    have fin := (HR3.out.put4 (.int .i64 0) (.int .i64 0) (.int .i64 0) (.slice none 0 0)).below ((Below.refl _ _).alloc (Nat.le_refl _) (.cells #[.int .i64 (stepS s x).ph, .int .i64 (stepS s x).ct, .int .i64 (stepS s x).vl, .slice A3 m3 c3] 30))
    have hres := fun (tmps : Array Value) (hp : tmps.getD 4 undef = .pointer (some ⟨w.heap.size + 1, 0, none⟩)) (hx : tmps.getD 5 undef = .int .i64 3) => results_scni (tmps := tmps) Try.results49 hp hx fin
    refine bodyPost_ret (hres _ rfl rfl) rfl ?_
    rw [F.out]
    exact ⟨none, 0, 0, rfl, Own.nil _ _, hB, by omega⟩
  · have F := hide (stR_bytes es0.out er0.out eb)
    go_wp2_with (go_at_call 78; (with_reducible refine (sIsBytes_any _ _ _ _ _ O4.out.rd).mono ?_); rintro e w' ⟨rfl, rfl⟩)
    have bs4 := below_set4 B3.out (g := w.heap.size + 1) (by omega) (.int .i64 (stepS s x).ph) (.int .i64 (stepS s x).ct) (.int .i64 (stepS s x).vl) (.slice A3 m3 c3)
    have ba := (Below.refl _ ((((w3.setCell ⟨w.heap.size + 1, 0, none⟩ (.int .i64 (stepS s x).ph)).setCell ⟨w.heap.size + 1, 1, none⟩ (.int .i64 (stepS s x).ct)).setCell ⟨w.heap.size + 1, 2, none⟩ (.int .i64 (stepS s x).vl)).setCell ⟨w.heap.size + 1, 3, none⟩ (.slice A3 m3 c3))).alloc (Nat.le_refl _) (.cells #[.int .i64 (stepS s x).ph, .int .i64 (stepS s x).ct, .int .i64 (stepS s x).vl, .slice A3 m3 c3] 30)
    have hB := below_trans bs4 ba
    have fin := (HR3.out.put4 (.int .i64 (stepS s x).ph) (.int .i64 (stepS s x).ct) (.int .i64 (stepS s x).vl) (.slice A3 m3 c3)).below ba
    have hO := (O3.out.set4 (g := w.heap.size + 1) ⟨_, HR3.out⟩ (.int .i64 (stepS s x).ph) (.int .i64 (stepS s x).ct) (.int .i64 (stepS s x).vl) (.slice A3 m3 c3)).below ba
    have hres := fun (tmps : Array Value) (hp : tmps.getD 4 undef = .pointer (some ⟨w.heap.size + 1, 0, none⟩)) (hx : tmps.getD 5 undef = .int .i64 0) => results_scni (tmps := tmps) Try.results49 hp hx fin
    refine bodyPost_ret (hres _ rfl rfl) rfl ?_
    rw [F.out]
    exact ⟨A3, m3, c3, rfl, hO, hB, by omega⟩
set_option maxHeartbeats 3200000 in
theorem sStep_r2 (s : Scn) (x : Int) (A : Option Addr) (n c : Nat) (w : World) (h : Rd w A n c s.bs) (hn : n ≤ 1048576) (es : scnB s = true) (e1 : inB 0 1 x = true) (hp : s.ph = 4) (hc : s.ct = 2) (hv : 4 ≤ s.vl) :
    Calls Try.prog 49 #[.agg #[.int .i64 s.ph, .int .i64 s.ct, .int .i64 s.vl, .slice A n c], .int .i64 x] w (ScOut (zeroS, 2) w) := by
  have W0 := hide (show Below w.heap.size w ((w.alloc (.cells #[.int .i64 s.ph, .int .i64 s.ct, .int .i64 s.vl, .slice A n c] 30)).alloc (.cells #[.int .i64 0, .int .i64 0, .int .i64 0, .slice none 0 0] 30)) by (repeat (first | exact Below.refl _ _ | (refine Below.alloc ?_ (by simp <;> omega) _) | (refine Below.setCell ?_ (by simp <;> omega) _))))
  have S0 := hide ((ScnAt.fresh w #[.int .i64 s.ph, .int .i64 s.ct, .int .i64 s.vl, .slice A n c]).below ((Below.refl _ _).alloc (Nat.le_refl _) (.cells #[.int .i64 0, .int .i64 0, .int .i64 0, .slice none 0 0] 30)))
  have R0 := hide (ScnAt.fresh1 w (.cells #[.int .i64 s.ph, .int .i64 s.ct, .int .i64 s.vl, .slice A n c] 30) #[.int .i64 0, .int .i64 0, .int .i64 0, .slice none 0 0])
  have H0 := hide (h.below W0.out)
  have HH := sIsScan_c s A n c _ H0.out
  rw [es] at HH
  have HC := hide HH
  have tv : decide (s.vl ≥ 4) = true := decide_eq_true hv
  clear h HH
  go_enter Try.func49, Try.ntmps49
  go_wp2_with fail
  have HX := HC.out
  have W1 := W0.out
  have S1 := S0.out
  have R1 := R0.out
  have H1 := H0.out
  rw [hp, hc] at HX W1 S1 R1 H1
  refine HX.mono ?_
  rintro e w2 ⟨rfl, b2⟩
  have HR := hide (R1.below b2)
  have HS := hide (S1.below b2)
  have B2 := hide (below_trans W1 b2)
  have H2 := hide (H1.below b2)
  clear HX W1 S1 R1 H1 W0 S0 R0 H0 HC
  have r0 : w2.cell? ⟨w.heap.size + 1, 0, none⟩ = some (.int .i64 0) := HR.out.cell 0
  have r1 : w2.cell? ⟨w.heap.size + 1, 1, none⟩ = some (.int .i64 0) := HR.out.cell 1
  have r2 : w2.cell? ⟨w.heap.size + 1, 2, none⟩ = some (.int .i64 0) := HR.out.cell 2
  have r3 : w2.cell? ⟨w.heap.size + 1, 3, none⟩ = some (.slice none 0 0) := HR.out.cell 3
  have q0 := HR.out.frozen 0
  have q1 := HR.out.frozen 1
  have q2 := HR.out.frozen 2
  have q3 := HR.out.frozen 3
  have y0 : w2.cell? ⟨w.heap.size, 0, none⟩ = some (.int .i64 4) := HS.out.cell 0
  have y1 : w2.cell? ⟨w.heap.size, 1, none⟩ = some (.int .i64 2) := HS.out.cell 1
  have y2 : w2.cell? ⟨w.heap.size, 2, none⟩ = some (.int .i64 s.vl) := HS.out.cell 2
  have y3 : w2.cell? ⟨w.heap.size, 3, none⟩ = some (.slice A n c) := HS.out.cell 3
  clear b2
  go_wp2_with (go_at_call 72; (with_reducible refine (l01In_any _ _ _ _).mono ?_); rintro e w' ⟨rfl, rfl⟩)
  have fin := HR.out.put4 (.int .i64 0) (.int .i64 0) (.int .i64 0) (.slice none 0 0)
  have hB := below_set4 B2.out (g := w.heap.size + 1) (by omega) (.int .i64 0) (.int .i64 0) (.int .i64 0) (.slice none 0 0)
  have hres := fun (tmps : Array Value) (hp : tmps.getD 4 undef = .pointer (some ⟨w.heap.size + 1, 0, none⟩)) (hx : tmps.getD 5 undef = .int .i64 2) => results_scni (tmps := tmps) Try.results49 hp hx fin
  refine bodyPost_ret (hres _ rfl rfl) rfl ?_
  exact ⟨none, 0, 0, rfl, Own.nil _ _, hB, by omega⟩
set_option maxHeartbeats 3200000 in
theorem sStep_n2 (s : Scn) (x : Int) (A : Option Addr) (n c : Nat) (w : World) (h : Rd w A n c s.bs) (hn : n ≤ 1048576) (es : scnB s = true) (e1 : inB 0 1 x = true) (hx : x = 0 ∨ x = 1) (er : stepR s x = false) (hp : s.ph = 4) (hc : s.ct = 2) (hw : ¬ 4 ≤ s.vl) :
    Calls Try.prog 49 #[.agg #[.int .i64 s.ph, .int .i64 s.ct, .int .i64 s.vl, .slice A n c], .int .i64 x] w (ScOut (stR s x) w) := by
  have W0 := hide (show Below w.heap.size w ((w.alloc (.cells #[.int .i64 s.ph, .int .i64 s.ct, .int .i64 s.vl, .slice A n c] 30)).alloc (.cells #[.int .i64 0, .int .i64 0, .int .i64 0, .slice none 0 0] 30)) by (repeat (first | exact Below.refl _ _ | (refine Below.alloc ?_ (by simp <;> omega) _) | (refine Below.setCell ?_ (by simp <;> omega) _))))
  have S0 := hide ((ScnAt.fresh w #[.int .i64 s.ph, .int .i64 s.ct, .int .i64 s.vl, .slice A n c]).below ((Below.refl _ _).alloc (Nat.le_refl _) (.cells #[.int .i64 0, .int .i64 0, .int .i64 0, .slice none 0 0] 30)))
  have R0 := hide (ScnAt.fresh1 w (.cells #[.int .i64 s.ph, .int .i64 s.ct, .int .i64 s.vl, .slice A n c] 30) #[.int .i64 0, .int .i64 0, .int .i64 0, .slice none 0 0])
  have H0 := hide (h.below W0.out)
  have HH := sIsScan_c s A n c _ H0.out
  rw [es] at HH
  have HC := hide HH
  have hv := hide (show (0 ≤ s.ph ∧ s.ph ≤ 7) ∧ (0 ≤ s.ct ∧ s.ct ≤ 15) ∧ (0 ≤ s.vl ∧ s.vl ≤ 255) from ⟨(scnB_get es).1, (scnB_get es).2.2.1, (scnB_get es).2.2.2⟩)
  have h4 := hide (show s.ph = 4 → s.ct ≤ 7 from fun e => ((stepR_get er).2 e).1)
  have es0 := hide es
  have er0 := hide er
  clear er
  have tv : decide (s.vl ≥ 4) = false := decide_eq_false hw
  clear hw
  clear h HH
  go_enter Try.func49, Try.ntmps49
  go_wp2_with fail
  have HX := HC.out
  have W1 := W0.out
  have S1 := S0.out
  have R1 := R0.out
  have H1 := H0.out
  rw [hp, hc] at HX W1 S1 R1 H1
  refine HX.mono ?_
  rintro e w2 ⟨rfl, b2⟩
  have HR := hide (R1.below b2)
  have HS := hide (S1.below b2)
  have B2 := hide (below_trans W1 b2)
  have H2 := hide (H1.below b2)
  clear HX W1 S1 R1 H1 W0 S0 R0 H0 HC
  have r0 : w2.cell? ⟨w.heap.size + 1, 0, none⟩ = some (.int .i64 0) := HR.out.cell 0
  have r1 : w2.cell? ⟨w.heap.size + 1, 1, none⟩ = some (.int .i64 0) := HR.out.cell 1
  have r2 : w2.cell? ⟨w.heap.size + 1, 2, none⟩ = some (.int .i64 0) := HR.out.cell 2
  have r3 : w2.cell? ⟨w.heap.size + 1, 3, none⟩ = some (.slice none 0 0) := HR.out.cell 3
  have q0 := HR.out.frozen 0
  have q1 := HR.out.frozen 1
  have q2 := HR.out.frozen 2
  have q3 := HR.out.frozen 3
  have y0 : w2.cell? ⟨w.heap.size, 0, none⟩ = some (.int .i64 4) := HS.out.cell 0
  have y1 : w2.cell? ⟨w.heap.size, 1, none⟩ = some (.int .i64 2) := HS.out.cell 1
  have y2 : w2.cell? ⟨w.heap.size, 2, none⟩ = some (.int .i64 s.vl) := HS.out.cell 2
  have y3 : w2.cell? ⟨w.heap.size, 3, none⟩ = some (.slice A n c) := HS.out.cell 3
  clear b2 r0 r1 r2 r3 q0 q1 q2 q3
  go_wp2_with (go_at_call 72; (with_reducible refine (l01In_any _ _ _ _).mono ?_); rintro e w' ⟨rfl, rfl⟩)
  have HC2 : Calls Try.prog 88 #[.agg #[.int .i64 4, .int .i64 2, .int .i64 s.vl, .slice A n c], .int .i64 x] w2 (SpecOut (stepS s x) n w2) := by
    have HC2 := sstep_any s x A n c w2 H2.out hv.out.1 hv.out.2.1 hv.out.2.2 h4.out hn hx
    rwa [hp, hc] at HC2
  with_reducible refine HC2.mono ?_
  clear HC2
  rintro e w3 ⟨A3, m3, c3, rfl, own3, b3, hm3⟩
  have HR3 := hide (HR.out.below b3)
  have B3 := hide (below_trans B2.out b3)
  have O3 := hide (own3.mono (B' := w.heap.size) B2.out.size)
  have ba := (Below.refl w3.heap.size w3).alloc (Nat.le_refl _) (.cells #[.int .i64 (stepS s x).ph, .int .i64 (stepS s x).ct, .int .i64 (stepS s x).vl, .slice A3 m3 c3] 30)
  have HR4 := hide (HR3.out.below ba)
  have B4 := hide (below_trans B3.out ba)
  have O4 := hide (O3.out.below ba)
  have hl3 := HR3.out.lt
  clear b3 own3 ba y0 y1 y2 y3
  have r0 : w3.cell? ⟨w.heap.size + 1, 0, none⟩ = some (.int .i64 0) := HR3.out.cell 0
  have r1 : w3.cell? ⟨w.heap.size + 1, 1, none⟩ = some (.int .i64 0) := HR3.out.cell 1
  have r2 : w3.cell? ⟨w.heap.size + 1, 2, none⟩ = some (.int .i64 0) := HR3.out.cell 2
  have r3 : w3.cell? ⟨w.heap.size + 1, 3, none⟩ = some (.slice none 0 0) := HR3.out.cell 3
  have q0 := HR3.out.frozen 0
  have q1 := HR3.out.frozen 1
  have q2 := HR3.out.frozen 2
  have q3 := HR3.out.frozen 3
  cases eb : bytesB (stepS s x).bs
  · have F := hide (stR_limit es0.out er0.out eb)
    go_wp2_with (go_at_call 78; (with_reducible refine (sIsBytes_any _ _ _ _ _ O4.out.rd).mono ?_); rintro e w' ⟨rfl, rfl⟩)
    have bs4 := below_set4 B3.out (g := w.heap.size + 1) (by omega) (.int .i64 0) (.int .i64 0) (.int .i64 0) (.slice none 0 0)
    have hB := below_trans bs4 ((Below.refl _ _).alloc (Nat.le_refl _) (.cells #[.int .i64 (stepS s x).ph, .int .i64 (stepS s x).ct, .int .i64 (stepS s x).vl, .slice A3 m3 c3] 30))
    have fin := (HR3.out.put4 (.int .i64 0) (.int .i64 0) (.int .i64 0) (.slice none 0 0)).below ((Below.refl _ _).alloc (Nat.le_refl _) (.cells #[.int .i64 (stepS s x).ph, .int .i64 (stepS s x).ct, .int .i64 (stepS s x).vl, .slice A3 m3 c3] 30))
    have hres := fun (tmps : Array Value) (hp : tmps.getD 4 undef = .pointer (some ⟨w.heap.size + 1, 0, none⟩)) (hx : tmps.getD 5 undef = .int .i64 3) => results_scni (tmps := tmps) Try.results49 hp hx fin
    refine bodyPost_ret (hres _ rfl rfl) rfl ?_
    rw [F.out]
    exact ⟨none, 0, 0, rfl, Own.nil _ _, hB, by omega⟩
  · have F := hide (stR_bytes es0.out er0.out eb)
    go_wp2_with (go_at_call 78; (with_reducible refine (sIsBytes_any _ _ _ _ _ O4.out.rd).mono ?_); rintro e w' ⟨rfl, rfl⟩)
    have bs4 := below_set4 B3.out (g := w.heap.size + 1) (by omega) (.int .i64 (stepS s x).ph) (.int .i64 (stepS s x).ct) (.int .i64 (stepS s x).vl) (.slice A3 m3 c3)
    have ba := (Below.refl _ ((((w3.setCell ⟨w.heap.size + 1, 0, none⟩ (.int .i64 (stepS s x).ph)).setCell ⟨w.heap.size + 1, 1, none⟩ (.int .i64 (stepS s x).ct)).setCell ⟨w.heap.size + 1, 2, none⟩ (.int .i64 (stepS s x).vl)).setCell ⟨w.heap.size + 1, 3, none⟩ (.slice A3 m3 c3))).alloc (Nat.le_refl _) (.cells #[.int .i64 (stepS s x).ph, .int .i64 (stepS s x).ct, .int .i64 (stepS s x).vl, .slice A3 m3 c3] 30)
    have hB := below_trans bs4 ba
    have fin := (HR3.out.put4 (.int .i64 (stepS s x).ph) (.int .i64 (stepS s x).ct) (.int .i64 (stepS s x).vl) (.slice A3 m3 c3)).below ba
    have hO := (O3.out.set4 (g := w.heap.size + 1) ⟨_, HR3.out⟩ (.int .i64 (stepS s x).ph) (.int .i64 (stepS s x).ct) (.int .i64 (stepS s x).vl) (.slice A3 m3 c3)).below ba
    have hres := fun (tmps : Array Value) (hp : tmps.getD 4 undef = .pointer (some ⟨w.heap.size + 1, 0, none⟩)) (hx : tmps.getD 5 undef = .int .i64 0) => results_scni (tmps := tmps) Try.results49 hp hx fin
    refine bodyPost_ret (hres _ rfl rfl) rfl ?_
    rw [F.out]
    exact ⟨A3, m3, c3, rfl, hO, hB, by omega⟩
set_option maxHeartbeats 3200000 in
theorem sStep_r3 (s : Scn) (x : Int) (A : Option Addr) (n c : Nat) (w : World) (h : Rd w A n c s.bs) (hn : n ≤ 1048576) (es : scnB s = true) (e1 : inB 0 1 x = true) (hp : s.ph = 4) (hc : s.ct = 3) (hv : 8 ≤ s.vl) :
    Calls Try.prog 49 #[.agg #[.int .i64 s.ph, .int .i64 s.ct, .int .i64 s.vl, .slice A n c], .int .i64 x] w (ScOut (zeroS, 2) w) := by
  have W0 := hide (show Below w.heap.size w ((w.alloc (.cells #[.int .i64 s.ph, .int .i64 s.ct, .int .i64 s.vl, .slice A n c] 30)).alloc (.cells #[.int .i64 0, .int .i64 0, .int .i64 0, .slice none 0 0] 30)) by (repeat (first | exact Below.refl _ _ | (refine Below.alloc ?_ (by simp <;> omega) _) | (refine Below.setCell ?_ (by simp <;> omega) _))))
  have S0 := hide ((ScnAt.fresh w #[.int .i64 s.ph, .int .i64 s.ct, .int .i64 s.vl, .slice A n c]).below ((Below.refl _ _).alloc (Nat.le_refl _) (.cells #[.int .i64 0, .int .i64 0, .int .i64 0, .slice none 0 0] 30)))
  have R0 := hide (ScnAt.fresh1 w (.cells #[.int .i64 s.ph, .int .i64 s.ct, .int .i64 s.vl, .slice A n c] 30) #[.int .i64 0, .int .i64 0, .int .i64 0, .slice none 0 0])
  have H0 := hide (h.below W0.out)
  have HH := sIsScan_c s A n c _ H0.out
  rw [es] at HH
  have HC := hide HH
  have tv : decide (s.vl ≥ 8) = true := decide_eq_true hv
  clear h HH
  go_enter Try.func49, Try.ntmps49
  go_wp2_with fail
  have HX := HC.out
  have W1 := W0.out
  have S1 := S0.out
  have R1 := R0.out
  have H1 := H0.out
  rw [hp, hc] at HX W1 S1 R1 H1
  refine HX.mono ?_
  rintro e w2 ⟨rfl, b2⟩
  have HR := hide (R1.below b2)
  have HS := hide (S1.below b2)
  have B2 := hide (below_trans W1 b2)
  have H2 := hide (H1.below b2)
  clear HX W1 S1 R1 H1 W0 S0 R0 H0 HC
  have r0 : w2.cell? ⟨w.heap.size + 1, 0, none⟩ = some (.int .i64 0) := HR.out.cell 0
  have r1 : w2.cell? ⟨w.heap.size + 1, 1, none⟩ = some (.int .i64 0) := HR.out.cell 1
  have r2 : w2.cell? ⟨w.heap.size + 1, 2, none⟩ = some (.int .i64 0) := HR.out.cell 2
  have r3 : w2.cell? ⟨w.heap.size + 1, 3, none⟩ = some (.slice none 0 0) := HR.out.cell 3
  have q0 := HR.out.frozen 0
  have q1 := HR.out.frozen 1
  have q2 := HR.out.frozen 2
  have q3 := HR.out.frozen 3
  have y0 : w2.cell? ⟨w.heap.size, 0, none⟩ = some (.int .i64 4) := HS.out.cell 0
  have y1 : w2.cell? ⟨w.heap.size, 1, none⟩ = some (.int .i64 3) := HS.out.cell 1
  have y2 : w2.cell? ⟨w.heap.size, 2, none⟩ = some (.int .i64 s.vl) := HS.out.cell 2
  have y3 : w2.cell? ⟨w.heap.size, 3, none⟩ = some (.slice A n c) := HS.out.cell 3
  clear b2
  go_wp2_with (go_at_call 72; (with_reducible refine (l01In_any _ _ _ _).mono ?_); rintro e w' ⟨rfl, rfl⟩)
  have fin := HR.out.put4 (.int .i64 0) (.int .i64 0) (.int .i64 0) (.slice none 0 0)
  have hB := below_set4 B2.out (g := w.heap.size + 1) (by omega) (.int .i64 0) (.int .i64 0) (.int .i64 0) (.slice none 0 0)
  have hres := fun (tmps : Array Value) (hp : tmps.getD 4 undef = .pointer (some ⟨w.heap.size + 1, 0, none⟩)) (hx : tmps.getD 5 undef = .int .i64 2) => results_scni (tmps := tmps) Try.results49 hp hx fin
  refine bodyPost_ret (hres _ rfl rfl) rfl ?_
  exact ⟨none, 0, 0, rfl, Own.nil _ _, hB, by omega⟩
set_option maxHeartbeats 3200000 in
theorem sStep_n3 (s : Scn) (x : Int) (A : Option Addr) (n c : Nat) (w : World) (h : Rd w A n c s.bs) (hn : n ≤ 1048576) (es : scnB s = true) (e1 : inB 0 1 x = true) (hx : x = 0 ∨ x = 1) (er : stepR s x = false) (hp : s.ph = 4) (hc : s.ct = 3) (hw : ¬ 8 ≤ s.vl) :
    Calls Try.prog 49 #[.agg #[.int .i64 s.ph, .int .i64 s.ct, .int .i64 s.vl, .slice A n c], .int .i64 x] w (ScOut (stR s x) w) := by
  have W0 := hide (show Below w.heap.size w ((w.alloc (.cells #[.int .i64 s.ph, .int .i64 s.ct, .int .i64 s.vl, .slice A n c] 30)).alloc (.cells #[.int .i64 0, .int .i64 0, .int .i64 0, .slice none 0 0] 30)) by (repeat (first | exact Below.refl _ _ | (refine Below.alloc ?_ (by simp <;> omega) _) | (refine Below.setCell ?_ (by simp <;> omega) _))))
  have S0 := hide ((ScnAt.fresh w #[.int .i64 s.ph, .int .i64 s.ct, .int .i64 s.vl, .slice A n c]).below ((Below.refl _ _).alloc (Nat.le_refl _) (.cells #[.int .i64 0, .int .i64 0, .int .i64 0, .slice none 0 0] 30)))
  have R0 := hide (ScnAt.fresh1 w (.cells #[.int .i64 s.ph, .int .i64 s.ct, .int .i64 s.vl, .slice A n c] 30) #[.int .i64 0, .int .i64 0, .int .i64 0, .slice none 0 0])
  have H0 := hide (h.below W0.out)
  have HH := sIsScan_c s A n c _ H0.out
  rw [es] at HH
  have HC := hide HH
  have hv := hide (show (0 ≤ s.ph ∧ s.ph ≤ 7) ∧ (0 ≤ s.ct ∧ s.ct ≤ 15) ∧ (0 ≤ s.vl ∧ s.vl ≤ 255) from ⟨(scnB_get es).1, (scnB_get es).2.2.1, (scnB_get es).2.2.2⟩)
  have h4 := hide (show s.ph = 4 → s.ct ≤ 7 from fun e => ((stepR_get er).2 e).1)
  have es0 := hide es
  have er0 := hide er
  clear er
  have tv : decide (s.vl ≥ 8) = false := decide_eq_false hw
  clear hw
  clear h HH
  go_enter Try.func49, Try.ntmps49
  go_wp2_with fail
  have HX := HC.out
  have W1 := W0.out
  have S1 := S0.out
  have R1 := R0.out
  have H1 := H0.out
  rw [hp, hc] at HX W1 S1 R1 H1
  refine HX.mono ?_
  rintro e w2 ⟨rfl, b2⟩
  have HR := hide (R1.below b2)
  have HS := hide (S1.below b2)
  have B2 := hide (below_trans W1 b2)
  have H2 := hide (H1.below b2)
  clear HX W1 S1 R1 H1 W0 S0 R0 H0 HC
  have r0 : w2.cell? ⟨w.heap.size + 1, 0, none⟩ = some (.int .i64 0) := HR.out.cell 0
  have r1 : w2.cell? ⟨w.heap.size + 1, 1, none⟩ = some (.int .i64 0) := HR.out.cell 1
  have r2 : w2.cell? ⟨w.heap.size + 1, 2, none⟩ = some (.int .i64 0) := HR.out.cell 2
  have r3 : w2.cell? ⟨w.heap.size + 1, 3, none⟩ = some (.slice none 0 0) := HR.out.cell 3
  have q0 := HR.out.frozen 0
  have q1 := HR.out.frozen 1
  have q2 := HR.out.frozen 2
  have q3 := HR.out.frozen 3
  have y0 : w2.cell? ⟨w.heap.size, 0, none⟩ = some (.int .i64 4) := HS.out.cell 0
  have y1 : w2.cell? ⟨w.heap.size, 1, none⟩ = some (.int .i64 3) := HS.out.cell 1
  have y2 : w2.cell? ⟨w.heap.size, 2, none⟩ = some (.int .i64 s.vl) := HS.out.cell 2
  have y3 : w2.cell? ⟨w.heap.size, 3, none⟩ = some (.slice A n c) := HS.out.cell 3
  clear b2 r0 r1 r2 r3 q0 q1 q2 q3
  go_wp2_with (go_at_call 72; (with_reducible refine (l01In_any _ _ _ _).mono ?_); rintro e w' ⟨rfl, rfl⟩)
  have HC2 : Calls Try.prog 88 #[.agg #[.int .i64 4, .int .i64 3, .int .i64 s.vl, .slice A n c], .int .i64 x] w2 (SpecOut (stepS s x) n w2) := by
    have HC2 := sstep_any s x A n c w2 H2.out hv.out.1 hv.out.2.1 hv.out.2.2 h4.out hn hx
    rwa [hp, hc] at HC2
  with_reducible refine HC2.mono ?_
  clear HC2
  rintro e w3 ⟨A3, m3, c3, rfl, own3, b3, hm3⟩
  have HR3 := hide (HR.out.below b3)
  have B3 := hide (below_trans B2.out b3)
  have O3 := hide (own3.mono (B' := w.heap.size) B2.out.size)
  have ba := (Below.refl w3.heap.size w3).alloc (Nat.le_refl _) (.cells #[.int .i64 (stepS s x).ph, .int .i64 (stepS s x).ct, .int .i64 (stepS s x).vl, .slice A3 m3 c3] 30)
  have HR4 := hide (HR3.out.below ba)
  have B4 := hide (below_trans B3.out ba)
  have O4 := hide (O3.out.below ba)
  have hl3 := HR3.out.lt
  clear b3 own3 ba y0 y1 y2 y3
  have r0 : w3.cell? ⟨w.heap.size + 1, 0, none⟩ = some (.int .i64 0) := HR3.out.cell 0
  have r1 : w3.cell? ⟨w.heap.size + 1, 1, none⟩ = some (.int .i64 0) := HR3.out.cell 1
  have r2 : w3.cell? ⟨w.heap.size + 1, 2, none⟩ = some (.int .i64 0) := HR3.out.cell 2
  have r3 : w3.cell? ⟨w.heap.size + 1, 3, none⟩ = some (.slice none 0 0) := HR3.out.cell 3
  have q0 := HR3.out.frozen 0
  have q1 := HR3.out.frozen 1
  have q2 := HR3.out.frozen 2
  have q3 := HR3.out.frozen 3
  cases eb : bytesB (stepS s x).bs
  · have F := hide (stR_limit es0.out er0.out eb)
    go_wp2_with (go_at_call 78; (with_reducible refine (sIsBytes_any _ _ _ _ _ O4.out.rd).mono ?_); rintro e w' ⟨rfl, rfl⟩)
    have bs4 := below_set4 B3.out (g := w.heap.size + 1) (by omega) (.int .i64 0) (.int .i64 0) (.int .i64 0) (.slice none 0 0)
    have hB := below_trans bs4 ((Below.refl _ _).alloc (Nat.le_refl _) (.cells #[.int .i64 (stepS s x).ph, .int .i64 (stepS s x).ct, .int .i64 (stepS s x).vl, .slice A3 m3 c3] 30))
    have fin := (HR3.out.put4 (.int .i64 0) (.int .i64 0) (.int .i64 0) (.slice none 0 0)).below ((Below.refl _ _).alloc (Nat.le_refl _) (.cells #[.int .i64 (stepS s x).ph, .int .i64 (stepS s x).ct, .int .i64 (stepS s x).vl, .slice A3 m3 c3] 30))
    have hres := fun (tmps : Array Value) (hp : tmps.getD 4 undef = .pointer (some ⟨w.heap.size + 1, 0, none⟩)) (hx : tmps.getD 5 undef = .int .i64 3) => results_scni (tmps := tmps) Try.results49 hp hx fin
    refine bodyPost_ret (hres _ rfl rfl) rfl ?_
    rw [F.out]
    exact ⟨none, 0, 0, rfl, Own.nil _ _, hB, by omega⟩
  · have F := hide (stR_bytes es0.out er0.out eb)
    go_wp2_with (go_at_call 78; (with_reducible refine (sIsBytes_any _ _ _ _ _ O4.out.rd).mono ?_); rintro e w' ⟨rfl, rfl⟩)
    have bs4 := below_set4 B3.out (g := w.heap.size + 1) (by omega) (.int .i64 (stepS s x).ph) (.int .i64 (stepS s x).ct) (.int .i64 (stepS s x).vl) (.slice A3 m3 c3)
    have ba := (Below.refl _ ((((w3.setCell ⟨w.heap.size + 1, 0, none⟩ (.int .i64 (stepS s x).ph)).setCell ⟨w.heap.size + 1, 1, none⟩ (.int .i64 (stepS s x).ct)).setCell ⟨w.heap.size + 1, 2, none⟩ (.int .i64 (stepS s x).vl)).setCell ⟨w.heap.size + 1, 3, none⟩ (.slice A3 m3 c3))).alloc (Nat.le_refl _) (.cells #[.int .i64 (stepS s x).ph, .int .i64 (stepS s x).ct, .int .i64 (stepS s x).vl, .slice A3 m3 c3] 30)
    have hB := below_trans bs4 ba
    have fin := (HR3.out.put4 (.int .i64 (stepS s x).ph) (.int .i64 (stepS s x).ct) (.int .i64 (stepS s x).vl) (.slice A3 m3 c3)).below ba
    have hO := (O3.out.set4 (g := w.heap.size + 1) ⟨_, HR3.out⟩ (.int .i64 (stepS s x).ph) (.int .i64 (stepS s x).ct) (.int .i64 (stepS s x).vl) (.slice A3 m3 c3)).below ba
    have hres := fun (tmps : Array Value) (hp : tmps.getD 4 undef = .pointer (some ⟨w.heap.size + 1, 0, none⟩)) (hx : tmps.getD 5 undef = .int .i64 0) => results_scni (tmps := tmps) Try.results49 hp hx fin
    refine bodyPost_ret (hres _ rfl rfl) rfl ?_
    rw [F.out]
    exact ⟨A3, m3, c3, rfl, hO, hB, by omega⟩
set_option maxHeartbeats 3200000 in
theorem sStep_r4 (s : Scn) (x : Int) (A : Option Addr) (n c : Nat) (w : World) (h : Rd w A n c s.bs) (hn : n ≤ 1048576) (es : scnB s = true) (e1 : inB 0 1 x = true) (hp : s.ph = 4) (hc : s.ct = 4) (hv : 16 ≤ s.vl) :
    Calls Try.prog 49 #[.agg #[.int .i64 s.ph, .int .i64 s.ct, .int .i64 s.vl, .slice A n c], .int .i64 x] w (ScOut (zeroS, 2) w) := by
  have W0 := hide (show Below w.heap.size w ((w.alloc (.cells #[.int .i64 s.ph, .int .i64 s.ct, .int .i64 s.vl, .slice A n c] 30)).alloc (.cells #[.int .i64 0, .int .i64 0, .int .i64 0, .slice none 0 0] 30)) by (repeat (first | exact Below.refl _ _ | (refine Below.alloc ?_ (by simp <;> omega) _) | (refine Below.setCell ?_ (by simp <;> omega) _))))
  have S0 := hide ((ScnAt.fresh w #[.int .i64 s.ph, .int .i64 s.ct, .int .i64 s.vl, .slice A n c]).below ((Below.refl _ _).alloc (Nat.le_refl _) (.cells #[.int .i64 0, .int .i64 0, .int .i64 0, .slice none 0 0] 30)))
  have R0 := hide (ScnAt.fresh1 w (.cells #[.int .i64 s.ph, .int .i64 s.ct, .int .i64 s.vl, .slice A n c] 30) #[.int .i64 0, .int .i64 0, .int .i64 0, .slice none 0 0])
  have H0 := hide (h.below W0.out)
  have HH := sIsScan_c s A n c _ H0.out
  rw [es] at HH
  have HC := hide HH
  have tv : decide (s.vl ≥ 16) = true := decide_eq_true hv
  clear h HH
  go_enter Try.func49, Try.ntmps49
  go_wp2_with fail
  have HX := HC.out
  have W1 := W0.out
  have S1 := S0.out
  have R1 := R0.out
  have H1 := H0.out
  rw [hp, hc] at HX W1 S1 R1 H1
  refine HX.mono ?_
  rintro e w2 ⟨rfl, b2⟩
  have HR := hide (R1.below b2)
  have HS := hide (S1.below b2)
  have B2 := hide (below_trans W1 b2)
  have H2 := hide (H1.below b2)
  clear HX W1 S1 R1 H1 W0 S0 R0 H0 HC
  have r0 : w2.cell? ⟨w.heap.size + 1, 0, none⟩ = some (.int .i64 0) := HR.out.cell 0
  have r1 : w2.cell? ⟨w.heap.size + 1, 1, none⟩ = some (.int .i64 0) := HR.out.cell 1
  have r2 : w2.cell? ⟨w.heap.size + 1, 2, none⟩ = some (.int .i64 0) := HR.out.cell 2
  have r3 : w2.cell? ⟨w.heap.size + 1, 3, none⟩ = some (.slice none 0 0) := HR.out.cell 3
  have q0 := HR.out.frozen 0
  have q1 := HR.out.frozen 1
  have q2 := HR.out.frozen 2
  have q3 := HR.out.frozen 3
  have y0 : w2.cell? ⟨w.heap.size, 0, none⟩ = some (.int .i64 4) := HS.out.cell 0
  have y1 : w2.cell? ⟨w.heap.size, 1, none⟩ = some (.int .i64 4) := HS.out.cell 1
  have y2 : w2.cell? ⟨w.heap.size, 2, none⟩ = some (.int .i64 s.vl) := HS.out.cell 2
  have y3 : w2.cell? ⟨w.heap.size, 3, none⟩ = some (.slice A n c) := HS.out.cell 3
  clear b2
  go_wp2_with (go_at_call 72; (with_reducible refine (l01In_any _ _ _ _).mono ?_); rintro e w' ⟨rfl, rfl⟩)
  have fin := HR.out.put4 (.int .i64 0) (.int .i64 0) (.int .i64 0) (.slice none 0 0)
  have hB := below_set4 B2.out (g := w.heap.size + 1) (by omega) (.int .i64 0) (.int .i64 0) (.int .i64 0) (.slice none 0 0)
  have hres := fun (tmps : Array Value) (hp : tmps.getD 4 undef = .pointer (some ⟨w.heap.size + 1, 0, none⟩)) (hx : tmps.getD 5 undef = .int .i64 2) => results_scni (tmps := tmps) Try.results49 hp hx fin
  refine bodyPost_ret (hres _ rfl rfl) rfl ?_
  exact ⟨none, 0, 0, rfl, Own.nil _ _, hB, by omega⟩
set_option maxHeartbeats 3200000 in
theorem sStep_n4 (s : Scn) (x : Int) (A : Option Addr) (n c : Nat) (w : World) (h : Rd w A n c s.bs) (hn : n ≤ 1048576) (es : scnB s = true) (e1 : inB 0 1 x = true) (hx : x = 0 ∨ x = 1) (er : stepR s x = false) (hp : s.ph = 4) (hc : s.ct = 4) (hw : ¬ 16 ≤ s.vl) :
    Calls Try.prog 49 #[.agg #[.int .i64 s.ph, .int .i64 s.ct, .int .i64 s.vl, .slice A n c], .int .i64 x] w (ScOut (stR s x) w) := by
  have W0 := hide (show Below w.heap.size w ((w.alloc (.cells #[.int .i64 s.ph, .int .i64 s.ct, .int .i64 s.vl, .slice A n c] 30)).alloc (.cells #[.int .i64 0, .int .i64 0, .int .i64 0, .slice none 0 0] 30)) by (repeat (first | exact Below.refl _ _ | (refine Below.alloc ?_ (by simp <;> omega) _) | (refine Below.setCell ?_ (by simp <;> omega) _))))
  have S0 := hide ((ScnAt.fresh w #[.int .i64 s.ph, .int .i64 s.ct, .int .i64 s.vl, .slice A n c]).below ((Below.refl _ _).alloc (Nat.le_refl _) (.cells #[.int .i64 0, .int .i64 0, .int .i64 0, .slice none 0 0] 30)))
  have R0 := hide (ScnAt.fresh1 w (.cells #[.int .i64 s.ph, .int .i64 s.ct, .int .i64 s.vl, .slice A n c] 30) #[.int .i64 0, .int .i64 0, .int .i64 0, .slice none 0 0])
  have H0 := hide (h.below W0.out)
  have HH := sIsScan_c s A n c _ H0.out
  rw [es] at HH
  have HC := hide HH
  have hv := hide (show (0 ≤ s.ph ∧ s.ph ≤ 7) ∧ (0 ≤ s.ct ∧ s.ct ≤ 15) ∧ (0 ≤ s.vl ∧ s.vl ≤ 255) from ⟨(scnB_get es).1, (scnB_get es).2.2.1, (scnB_get es).2.2.2⟩)
  have h4 := hide (show s.ph = 4 → s.ct ≤ 7 from fun e => ((stepR_get er).2 e).1)
  have es0 := hide es
  have er0 := hide er
  clear er
  have tv : decide (s.vl ≥ 16) = false := decide_eq_false hw
  clear hw
  clear h HH
  go_enter Try.func49, Try.ntmps49
  go_wp2_with fail
  have HX := HC.out
  have W1 := W0.out
  have S1 := S0.out
  have R1 := R0.out
  have H1 := H0.out
  rw [hp, hc] at HX W1 S1 R1 H1
  refine HX.mono ?_
  rintro e w2 ⟨rfl, b2⟩
  have HR := hide (R1.below b2)
  have HS := hide (S1.below b2)
  have B2 := hide (below_trans W1 b2)
  have H2 := hide (H1.below b2)
  clear HX W1 S1 R1 H1 W0 S0 R0 H0 HC
  have r0 : w2.cell? ⟨w.heap.size + 1, 0, none⟩ = some (.int .i64 0) := HR.out.cell 0
  have r1 : w2.cell? ⟨w.heap.size + 1, 1, none⟩ = some (.int .i64 0) := HR.out.cell 1
  have r2 : w2.cell? ⟨w.heap.size + 1, 2, none⟩ = some (.int .i64 0) := HR.out.cell 2
  have r3 : w2.cell? ⟨w.heap.size + 1, 3, none⟩ = some (.slice none 0 0) := HR.out.cell 3
  have q0 := HR.out.frozen 0
  have q1 := HR.out.frozen 1
  have q2 := HR.out.frozen 2
  have q3 := HR.out.frozen 3
  have y0 : w2.cell? ⟨w.heap.size, 0, none⟩ = some (.int .i64 4) := HS.out.cell 0
  have y1 : w2.cell? ⟨w.heap.size, 1, none⟩ = some (.int .i64 4) := HS.out.cell 1
  have y2 : w2.cell? ⟨w.heap.size, 2, none⟩ = some (.int .i64 s.vl) := HS.out.cell 2
  have y3 : w2.cell? ⟨w.heap.size, 3, none⟩ = some (.slice A n c) := HS.out.cell 3
  clear b2 r0 r1 r2 r3 q0 q1 q2 q3
  go_wp2_with (go_at_call 72; (with_reducible refine (l01In_any _ _ _ _).mono ?_); rintro e w' ⟨rfl, rfl⟩)
  have HC2 : Calls Try.prog 88 #[.agg #[.int .i64 4, .int .i64 4, .int .i64 s.vl, .slice A n c], .int .i64 x] w2 (SpecOut (stepS s x) n w2) := by
    have HC2 := sstep_any s x A n c w2 H2.out hv.out.1 hv.out.2.1 hv.out.2.2 h4.out hn hx
    rwa [hp, hc] at HC2
  with_reducible refine HC2.mono ?_
  clear HC2
  rintro e w3 ⟨A3, m3, c3, rfl, own3, b3, hm3⟩
  have HR3 := hide (HR.out.below b3)
  have B3 := hide (below_trans B2.out b3)
  have O3 := hide (own3.mono (B' := w.heap.size) B2.out.size)
  have ba := (Below.refl w3.heap.size w3).alloc (Nat.le_refl _) (.cells #[.int .i64 (stepS s x).ph, .int .i64 (stepS s x).ct, .int .i64 (stepS s x).vl, .slice A3 m3 c3] 30)
  have HR4 := hide (HR3.out.below ba)
  have B4 := hide (below_trans B3.out ba)
  have O4 := hide (O3.out.below ba)
  have hl3 := HR3.out.lt
  clear b3 own3 ba y0 y1 y2 y3
  have r0 : w3.cell? ⟨w.heap.size + 1, 0, none⟩ = some (.int .i64 0) := HR3.out.cell 0
  have r1 : w3.cell? ⟨w.heap.size + 1, 1, none⟩ = some (.int .i64 0) := HR3.out.cell 1
  have r2 : w3.cell? ⟨w.heap.size + 1, 2, none⟩ = some (.int .i64 0) := HR3.out.cell 2
  have r3 : w3.cell? ⟨w.heap.size + 1, 3, none⟩ = some (.slice none 0 0) := HR3.out.cell 3
  have q0 := HR3.out.frozen 0
  have q1 := HR3.out.frozen 1
  have q2 := HR3.out.frozen 2
  have q3 := HR3.out.frozen 3
  cases eb : bytesB (stepS s x).bs
  · have F := hide (stR_limit es0.out er0.out eb)
    go_wp2_with (go_at_call 78; (with_reducible refine (sIsBytes_any _ _ _ _ _ O4.out.rd).mono ?_); rintro e w' ⟨rfl, rfl⟩)
    have bs4 := below_set4 B3.out (g := w.heap.size + 1) (by omega) (.int .i64 0) (.int .i64 0) (.int .i64 0) (.slice none 0 0)
    have hB := below_trans bs4 ((Below.refl _ _).alloc (Nat.le_refl _) (.cells #[.int .i64 (stepS s x).ph, .int .i64 (stepS s x).ct, .int .i64 (stepS s x).vl, .slice A3 m3 c3] 30))
    have fin := (HR3.out.put4 (.int .i64 0) (.int .i64 0) (.int .i64 0) (.slice none 0 0)).below ((Below.refl _ _).alloc (Nat.le_refl _) (.cells #[.int .i64 (stepS s x).ph, .int .i64 (stepS s x).ct, .int .i64 (stepS s x).vl, .slice A3 m3 c3] 30))
    have hres := fun (tmps : Array Value) (hp : tmps.getD 4 undef = .pointer (some ⟨w.heap.size + 1, 0, none⟩)) (hx : tmps.getD 5 undef = .int .i64 3) => results_scni (tmps := tmps) Try.results49 hp hx fin
    refine bodyPost_ret (hres _ rfl rfl) rfl ?_
    rw [F.out]
    exact ⟨none, 0, 0, rfl, Own.nil _ _, hB, by omega⟩
  · have F := hide (stR_bytes es0.out er0.out eb)
    go_wp2_with (go_at_call 78; (with_reducible refine (sIsBytes_any _ _ _ _ _ O4.out.rd).mono ?_); rintro e w' ⟨rfl, rfl⟩)
    have bs4 := below_set4 B3.out (g := w.heap.size + 1) (by omega) (.int .i64 (stepS s x).ph) (.int .i64 (stepS s x).ct) (.int .i64 (stepS s x).vl) (.slice A3 m3 c3)
    have ba := (Below.refl _ ((((w3.setCell ⟨w.heap.size + 1, 0, none⟩ (.int .i64 (stepS s x).ph)).setCell ⟨w.heap.size + 1, 1, none⟩ (.int .i64 (stepS s x).ct)).setCell ⟨w.heap.size + 1, 2, none⟩ (.int .i64 (stepS s x).vl)).setCell ⟨w.heap.size + 1, 3, none⟩ (.slice A3 m3 c3))).alloc (Nat.le_refl _) (.cells #[.int .i64 (stepS s x).ph, .int .i64 (stepS s x).ct, .int .i64 (stepS s x).vl, .slice A3 m3 c3] 30)
    have hB := below_trans bs4 ba
    have fin := (HR3.out.put4 (.int .i64 (stepS s x).ph) (.int .i64 (stepS s x).ct) (.int .i64 (stepS s x).vl) (.slice A3 m3 c3)).below ba
    have hO := (O3.out.set4 (g := w.heap.size + 1) ⟨_, HR3.out⟩ (.int .i64 (stepS s x).ph) (.int .i64 (stepS s x).ct) (.int .i64 (stepS s x).vl) (.slice A3 m3 c3)).below ba
    have hres := fun (tmps : Array Value) (hp : tmps.getD 4 undef = .pointer (some ⟨w.heap.size + 1, 0, none⟩)) (hx : tmps.getD 5 undef = .int .i64 0) => results_scni (tmps := tmps) Try.results49 hp hx fin
    refine bodyPost_ret (hres _ rfl rfl) rfl ?_
    rw [F.out]
    exact ⟨A3, m3, c3, rfl, hO, hB, by omega⟩
set_option maxHeartbeats 3200000 in
theorem sStep_r5 (s : Scn) (x : Int) (A : Option Addr) (n c : Nat) (w : World) (h : Rd w A n c s.bs) (hn : n ≤ 1048576) (es : scnB s = true) (e1 : inB 0 1 x = true) (hp : s.ph = 4) (hc : s.ct = 5) (hv : 32 ≤ s.vl) :
    Calls Try.prog 49 #[.agg #[.int .i64 s.ph, .int .i64 s.ct, .int .i64 s.vl, .slice A n c], .int .i64 x] w (ScOut (zeroS, 2) w) := by
  have W0 := hide (show Below w.heap.size w ((w.alloc (.cells #[.int .i64 s.ph, .int .i64 s.ct, .int .i64 s.vl, .slice A n c] 30)).alloc (.cells #[.int .i64 0, .int .i64 0, .int .i64 0, .slice none 0 0] 30)) by (repeat (first | exact Below.refl _ _ | (refine Below.alloc ?_ (by simp <;> omega) _) | (refine Below.setCell ?_ (by simp <;> omega) _))))
  have S0 := hide ((ScnAt.fresh w #[.int .i64 s.ph, .int .i64 s.ct, .int .i64 s.vl, .slice A n c]).below ((Below.refl _ _).alloc (Nat.le_refl _) (.cells #[.int .i64 0, .int .i64 0, .int .i64 0, .slice none 0 0] 30)))
  have R0 := hide (ScnAt.fresh1 w (.cells #[.int .i64 s.ph, .int .i64 s.ct, .int .i64 s.vl, .slice A n c] 30) #[.int .i64 0, .int .i64 0, .int .i64 0, .slice none 0 0])
  have H0 := hide (h.below W0.out)
  have HH := sIsScan_c s A n c _ H0.out
  rw [es] at HH
  have HC := hide HH
  have tv : decide (s.vl ≥ 32) = true := decide_eq_true hv
  clear h HH
  go_enter Try.func49, Try.ntmps49
  go_wp2_with fail
  have HX := HC.out
  have W1 := W0.out
  have S1 := S0.out
  have R1 := R0.out
  have H1 := H0.out
  rw [hp, hc] at HX W1 S1 R1 H1
  refine HX.mono ?_
  rintro e w2 ⟨rfl, b2⟩
  have HR := hide (R1.below b2)
  have HS := hide (S1.below b2)
  have B2 := hide (below_trans W1 b2)
  have H2 := hide (H1.below b2)
  clear HX W1 S1 R1 H1 W0 S0 R0 H0 HC
  have r0 : w2.cell? ⟨w.heap.size + 1, 0, none⟩ = some (.int .i64 0) := HR.out.cell 0
  have r1 : w2.cell? ⟨w.heap.size + 1, 1, none⟩ = some (.int .i64 0) := HR.out.cell 1
  have r2 : w2.cell? ⟨w.heap.size + 1, 2, none⟩ = some (.int .i64 0) := HR.out.cell 2
  have r3 : w2.cell? ⟨w.heap.size + 1, 3, none⟩ = some (.slice none 0 0) := HR.out.cell 3
  have q0 := HR.out.frozen 0
  have q1 := HR.out.frozen 1
  have q2 := HR.out.frozen 2
  have q3 := HR.out.frozen 3
  have y0 : w2.cell? ⟨w.heap.size, 0, none⟩ = some (.int .i64 4) := HS.out.cell 0
  have y1 : w2.cell? ⟨w.heap.size, 1, none⟩ = some (.int .i64 5) := HS.out.cell 1
  have y2 : w2.cell? ⟨w.heap.size, 2, none⟩ = some (.int .i64 s.vl) := HS.out.cell 2
  have y3 : w2.cell? ⟨w.heap.size, 3, none⟩ = some (.slice A n c) := HS.out.cell 3
  clear b2
  go_wp2_with (go_at_call 72; (with_reducible refine (l01In_any _ _ _ _).mono ?_); rintro e w' ⟨rfl, rfl⟩)
  have fin := HR.out.put4 (.int .i64 0) (.int .i64 0) (.int .i64 0) (.slice none 0 0)
  have hB := below_set4 B2.out (g := w.heap.size + 1) (by omega) (.int .i64 0) (.int .i64 0) (.int .i64 0) (.slice none 0 0)
  have hres := fun (tmps : Array Value) (hp : tmps.getD 4 undef = .pointer (some ⟨w.heap.size + 1, 0, none⟩)) (hx : tmps.getD 5 undef = .int .i64 2) => results_scni (tmps := tmps) Try.results49 hp hx fin
  refine bodyPost_ret (hres _ rfl rfl) rfl ?_
  exact ⟨none, 0, 0, rfl, Own.nil _ _, hB, by omega⟩
set_option maxHeartbeats 3200000 in
theorem sStep_n5 (s : Scn) (x : Int) (A : Option Addr) (n c : Nat) (w : World) (h : Rd w A n c s.bs) (hn : n ≤ 1048576) (es : scnB s = true) (e1 : inB 0 1 x = true) (hx : x = 0 ∨ x = 1) (er : stepR s x = false) (hp : s.ph = 4) (hc : s.ct = 5) (hw : ¬ 32 ≤ s.vl) :
    Calls Try.prog 49 #[.agg #[.int .i64 s.ph, .int .i64 s.ct, .int .i64 s.vl, .slice A n c], .int .i64 x] w (ScOut (stR s x) w) := by
  have W0 := hide (show Below w.heap.size w ((w.alloc (.cells #[.int .i64 s.ph, .int .i64 s.ct, .int .i64 s.vl, .slice A n c] 30)).alloc (.cells #[.int .i64 0, .int .i64 0, .int .i64 0, .slice none 0 0] 30)) by (repeat (first | exact Below.refl _ _ | (refine Below.alloc ?_ (by simp <;> omega) _) | (refine Below.setCell ?_ (by simp <;> omega) _))))
  have S0 := hide ((ScnAt.fresh w #[.int .i64 s.ph, .int .i64 s.ct, .int .i64 s.vl, .slice A n c]).below ((Below.refl _ _).alloc (Nat.le_refl _) (.cells #[.int .i64 0, .int .i64 0, .int .i64 0, .slice none 0 0] 30)))
  have R0 := hide (ScnAt.fresh1 w (.cells #[.int .i64 s.ph, .int .i64 s.ct, .int .i64 s.vl, .slice A n c] 30) #[.int .i64 0, .int .i64 0, .int .i64 0, .slice none 0 0])
  have H0 := hide (h.below W0.out)
  have HH := sIsScan_c s A n c _ H0.out
  rw [es] at HH
  have HC := hide HH
  have hv := hide (show (0 ≤ s.ph ∧ s.ph ≤ 7) ∧ (0 ≤ s.ct ∧ s.ct ≤ 15) ∧ (0 ≤ s.vl ∧ s.vl ≤ 255) from ⟨(scnB_get es).1, (scnB_get es).2.2.1, (scnB_get es).2.2.2⟩)
  have h4 := hide (show s.ph = 4 → s.ct ≤ 7 from fun e => ((stepR_get er).2 e).1)
  have es0 := hide es
  have er0 := hide er
  clear er
  have tv : decide (s.vl ≥ 32) = false := decide_eq_false hw
  clear hw
  clear h HH
  go_enter Try.func49, Try.ntmps49
  go_wp2_with fail
  have HX := HC.out
  have W1 := W0.out
  have S1 := S0.out
  have R1 := R0.out
  have H1 := H0.out
  rw [hp, hc] at HX W1 S1 R1 H1
  refine HX.mono ?_
  rintro e w2 ⟨rfl, b2⟩
  have HR := hide (R1.below b2)
  have HS := hide (S1.below b2)
  have B2 := hide (below_trans W1 b2)
  have H2 := hide (H1.below b2)
  clear HX W1 S1 R1 H1 W0 S0 R0 H0 HC
  have r0 : w2.cell? ⟨w.heap.size + 1, 0, none⟩ = some (.int .i64 0) := HR.out.cell 0
  have r1 : w2.cell? ⟨w.heap.size + 1, 1, none⟩ = some (.int .i64 0) := HR.out.cell 1
  have r2 : w2.cell? ⟨w.heap.size + 1, 2, none⟩ = some (.int .i64 0) := HR.out.cell 2
  have r3 : w2.cell? ⟨w.heap.size + 1, 3, none⟩ = some (.slice none 0 0) := HR.out.cell 3
  have q0 := HR.out.frozen 0
  have q1 := HR.out.frozen 1
  have q2 := HR.out.frozen 2
  have q3 := HR.out.frozen 3
  have y0 : w2.cell? ⟨w.heap.size, 0, none⟩ = some (.int .i64 4) := HS.out.cell 0
  have y1 : w2.cell? ⟨w.heap.size, 1, none⟩ = some (.int .i64 5) := HS.out.cell 1
  have y2 : w2.cell? ⟨w.heap.size, 2, none⟩ = some (.int .i64 s.vl) := HS.out.cell 2
  have y3 : w2.cell? ⟨w.heap.size, 3, none⟩ = some (.slice A n c) := HS.out.cell 3
  clear b2 r0 r1 r2 r3 q0 q1 q2 q3
  go_wp2_with (go_at_call 72; (with_reducible refine (l01In_any _ _ _ _).mono ?_); rintro e w' ⟨rfl, rfl⟩)
  have HC2 : Calls Try.prog 88 #[.agg #[.int .i64 4, .int .i64 5, .int .i64 s.vl, .slice A n c], .int .i64 x] w2 (SpecOut (stepS s x) n w2) := by
    have HC2 := sstep_any s x A n c w2 H2.out hv.out.1 hv.out.2.1 hv.out.2.2 h4.out hn hx
    rwa [hp, hc] at HC2
  with_reducible refine HC2.mono ?_
  clear HC2
  rintro e w3 ⟨A3, m3, c3, rfl, own3, b3, hm3⟩
  have HR3 := hide (HR.out.below b3)
  have B3 := hide (below_trans B2.out b3)
  have O3 := hide (own3.mono (B' := w.heap.size) B2.out.size)
  have ba := (Below.refl w3.heap.size w3).alloc (Nat.le_refl _) (.cells #[.int .i64 (stepS s x).ph, .int .i64 (stepS s x).ct, .int .i64 (stepS s x).vl, .slice A3 m3 c3] 30)
  have HR4 := hide (HR3.out.below ba)
  have B4 := hide (below_trans B3.out ba)
  have O4 := hide (O3.out.below ba)
  have hl3 := HR3.out.lt
  clear b3 own3 ba y0 y1 y2 y3
  have r0 : w3.cell? ⟨w.heap.size + 1, 0, none⟩ = some (.int .i64 0) := HR3.out.cell 0
  have r1 : w3.cell? ⟨w.heap.size + 1, 1, none⟩ = some (.int .i64 0) := HR3.out.cell 1
  have r2 : w3.cell? ⟨w.heap.size + 1, 2, none⟩ = some (.int .i64 0) := HR3.out.cell 2
  have r3 : w3.cell? ⟨w.heap.size + 1, 3, none⟩ = some (.slice none 0 0) := HR3.out.cell 3
  have q0 := HR3.out.frozen 0
  have q1 := HR3.out.frozen 1
  have q2 := HR3.out.frozen 2
  have q3 := HR3.out.frozen 3
  cases eb : bytesB (stepS s x).bs
  · have F := hide (stR_limit es0.out er0.out eb)
    go_wp2_with (go_at_call 78; (with_reducible refine (sIsBytes_any _ _ _ _ _ O4.out.rd).mono ?_); rintro e w' ⟨rfl, rfl⟩)
    have bs4 := below_set4 B3.out (g := w.heap.size + 1) (by omega) (.int .i64 0) (.int .i64 0) (.int .i64 0) (.slice none 0 0)
    have hB := below_trans bs4 ((Below.refl _ _).alloc (Nat.le_refl _) (.cells #[.int .i64 (stepS s x).ph, .int .i64 (stepS s x).ct, .int .i64 (stepS s x).vl, .slice A3 m3 c3] 30))
    have fin := (HR3.out.put4 (.int .i64 0) (.int .i64 0) (.int .i64 0) (.slice none 0 0)).below ((Below.refl _ _).alloc (Nat.le_refl _) (.cells #[.int .i64 (stepS s x).ph, .int .i64 (stepS s x).ct, .int .i64 (stepS s x).vl, .slice A3 m3 c3] 30))
    have hres := fun (tmps : Array Value) (hp : tmps.getD 4 undef = .pointer (some ⟨w.heap.size + 1, 0, none⟩)) (hx : tmps.getD 5 undef = .int .i64 3) => results_scni (tmps := tmps) Try.results49 hp hx fin
    refine bodyPost_ret (hres _ rfl rfl) rfl ?_
    rw [F.out]
    exact ⟨none, 0, 0, rfl, Own.nil _ _, hB, by omega⟩
  · have F := hide (stR_bytes es0.out er0.out eb)
    go_wp2_with (go_at_call 78; (with_reducible refine (sIsBytes_any _ _ _ _ _ O4.out.rd).mono ?_); rintro e w' ⟨rfl, rfl⟩)
    have bs4 := below_set4 B3.out (g := w.heap.size + 1) (by omega) (.int .i64 (stepS s x).ph) (.int .i64 (stepS s x).ct) (.int .i64 (stepS s x).vl) (.slice A3 m3 c3)
    have ba := (Below.refl _ ((((w3.setCell ⟨w.heap.size + 1, 0, none⟩ (.int .i64 (stepS s x).ph)).setCell ⟨w.heap.size + 1, 1, none⟩ (.int .i64 (stepS s x).ct)).setCell ⟨w.heap.size + 1, 2, none⟩ (.int .i64 (stepS s x).vl)).setCell ⟨w.heap.size + 1, 3, none⟩ (.slice A3 m3 c3))).alloc (Nat.le_refl _) (.cells #[.int .i64 (stepS s x).ph, .int .i64 (stepS s x).ct, .int .i64 (stepS s x).vl, .slice A3 m3 c3] 30)
    have hB := below_trans bs4 ba
    have fin := (HR3.out.put4 (.int .i64 (stepS s x).ph) (.int .i64 (stepS s x).ct) (.int .i64 (stepS s x).vl) (.slice A3 m3 c3)).below ba
    have hO := (O3.out.set4 (g := w.heap.size + 1) ⟨_, HR3.out⟩ (.int .i64 (stepS s x).ph) (.int .i64 (stepS s x).ct) (.int .i64 (stepS s x).vl) (.slice A3 m3 c3)).below ba
    have hres := fun (tmps : Array Value) (hp : tmps.getD 4 undef = .pointer (some ⟨w.heap.size + 1, 0, none⟩)) (hx : tmps.getD 5 undef = .int .i64 0) => results_scni (tmps := tmps) Try.results49 hp hx fin
    refine bodyPost_ret (hres _ rfl rfl) rfl ?_
    rw [F.out]
    exact ⟨A3, m3, c3, rfl, hO, hB, by omega⟩
set_option maxHeartbeats 3200000 in
theorem sStep_r6 (s : Scn) (x : Int) (A : Option Addr) (n c : Nat) (w : World) (h : Rd w A n c s.bs) (hn : n ≤ 1048576) (es : scnB s = true) (e1 : inB 0 1 x = true) (hp : s.ph = 4) (hc : s.ct = 6) (hv : 64 ≤ s.vl) :
    Calls Try.prog 49 #[.agg #[.int .i64 s.ph, .int .i64 s.ct, .int .i64 s.vl, .slice A n c], .int .i64 x] w (ScOut (zeroS, 2) w) := by
  have W0 := hide (show Below w.heap.size w ((w.alloc (.cells #[.int .i64 s.ph, .int .i64 s.ct, .int .i64 s.vl, .slice A n c] 30)).alloc (.cells #[.int .i64 0, .int .i64 0, .int .i64 0, .slice none 0 0] 30)) by (repeat (first | exact Below.refl _ _ | (refine Below.alloc ?_ (by simp <;> omega) _) | (refine Below.setCell ?_ (by simp <;> omega) _))))
  have S0 := hide ((ScnAt.fresh w #[.int .i64 s.ph, .int .i64 s.ct, .int .i64 s.vl, .slice A n c]).below ((Below.refl _ _).alloc (Nat.le_refl _) (.cells #[.int .i64 0, .int .i64 0, .int .i64 0, .slice none 0 0] 30)))
  have R0 := hide (ScnAt.fresh1 w (.cells #[.int .i64 s.ph, .int .i64 s.ct, .int .i64 s.vl, .slice A n c] 30) #[.int .i64 0, .int .i64 0, .int .i64 0, .slice none 0 0])
  have H0 := hide (h.below W0.out)
  have HH := sIsScan_c s A n c _ H0.out
  rw [es] at HH
  have HC := hide HH
  have tv : decide (s.vl ≥ 64) = true := decide_eq_true hv
  clear h HH
  go_enter Try.func49, Try.ntmps49
  go_wp2_with fail
  have HX := HC.out
  have W1 := W0.out
  have S1 := S0.out
  have R1 := R0.out
  have H1 := H0.out
  rw [hp, hc] at HX W1 S1 R1 H1
  refine HX.mono ?_
  rintro e w2 ⟨rfl, b2⟩
  have HR := hide (R1.below b2)
  have HS := hide (S1.below b2)
  have B2 := hide (below_trans W1 b2)
  have H2 := hide (H1.below b2)
  clear HX W1 S1 R1 H1 W0 S0 R0 H0 HC
  have r0 : w2.cell? ⟨w.heap.size + 1, 0, none⟩ = some (.int .i64 0) := HR.out.cell 0
  have r1 : w2.cell? ⟨w.heap.size + 1, 1, none⟩ = some (.int .i64 0) := HR.out.cell 1
  have r2 : w2.cell? ⟨w.heap.size + 1, 2, none⟩ = some (.int .i64 0) := HR.out.cell 2
  have r3 : w2.cell? ⟨w.heap.size + 1, 3, none⟩ = some (.slice none 0 0) := HR.out.cell 3
  have q0 := HR.out.frozen 0
  have q1 := HR.out.frozen 1
  have q2 := HR.out.frozen 2
  have q3 := HR.out.frozen 3
  have y0 : w2.cell? ⟨w.heap.size, 0, none⟩ = some (.int .i64 4) := HS.out.cell 0
  have y1 : w2.cell? ⟨w.heap.size, 1, none⟩ = some (.int .i64 6) := HS.out.cell 1
  have y2 : w2.cell? ⟨w.heap.size, 2, none⟩ = some (.int .i64 s.vl) := HS.out.cell 2
  have y3 : w2.cell? ⟨w.heap.size, 3, none⟩ = some (.slice A n c) := HS.out.cell 3
  clear b2
  go_wp2_with (go_at_call 72; (with_reducible refine (l01In_any _ _ _ _).mono ?_); rintro e w' ⟨rfl, rfl⟩)
  have fin := HR.out.put4 (.int .i64 0) (.int .i64 0) (.int .i64 0) (.slice none 0 0)
  have hB := below_set4 B2.out (g := w.heap.size + 1) (by omega) (.int .i64 0) (.int .i64 0) (.int .i64 0) (.slice none 0 0)
  have hres := fun (tmps : Array Value) (hp : tmps.getD 4 undef = .pointer (some ⟨w.heap.size + 1, 0, none⟩)) (hx : tmps.getD 5 undef = .int .i64 2) => results_scni (tmps := tmps) Try.results49 hp hx fin
  refine bodyPost_ret (hres _ rfl rfl) rfl ?_
  exact ⟨none, 0, 0, rfl, Own.nil _ _, hB, by omega⟩
set_option maxHeartbeats 3200000 in
theorem sStep_n6 (s : Scn) (x : Int) (A : Option Addr) (n c : Nat) (w : World) (h : Rd w A n c s.bs) (hn : n ≤ 1048576) (es : scnB s = true) (e1 : inB 0 1 x = true) (hx : x = 0 ∨ x = 1) (er : stepR s x = false) (hp : s.ph = 4) (hc : s.ct = 6) (hw : ¬ 64 ≤ s.vl) :
    Calls Try.prog 49 #[.agg #[.int .i64 s.ph, .int .i64 s.ct, .int .i64 s.vl, .slice A n c], .int .i64 x] w (ScOut (stR s x) w) := by
  have W0 := hide (show Below w.heap.size w ((w.alloc (.cells #[.int .i64 s.ph, .int .i64 s.ct, .int .i64 s.vl, .slice A n c] 30)).alloc (.cells #[.int .i64 0, .int .i64 0, .int .i64 0, .slice none 0 0] 30)) by (repeat (first | exact Below.refl _ _ | (refine Below.alloc ?_ (by simp <;> omega) _) | (refine Below.setCell ?_ (by simp <;> omega) _))))
  have S0 := hide ((ScnAt.fresh w #[.int .i64 s.ph, .int .i64 s.ct, .int .i64 s.vl, .slice A n c]).below ((Below.refl _ _).alloc (Nat.le_refl _) (.cells #[.int .i64 0, .int .i64 0, .int .i64 0, .slice none 0 0] 30)))
  have R0 := hide (ScnAt.fresh1 w (.cells #[.int .i64 s.ph, .int .i64 s.ct, .int .i64 s.vl, .slice A n c] 30) #[.int .i64 0, .int .i64 0, .int .i64 0, .slice none 0 0])
  have H0 := hide (h.below W0.out)
  have HH := sIsScan_c s A n c _ H0.out
  rw [es] at HH
  have HC := hide HH
  have hv := hide (show (0 ≤ s.ph ∧ s.ph ≤ 7) ∧ (0 ≤ s.ct ∧ s.ct ≤ 15) ∧ (0 ≤ s.vl ∧ s.vl ≤ 255) from ⟨(scnB_get es).1, (scnB_get es).2.2.1, (scnB_get es).2.2.2⟩)
  have h4 := hide (show s.ph = 4 → s.ct ≤ 7 from fun e => ((stepR_get er).2 e).1)
  have es0 := hide es
  have er0 := hide er
  clear er
  have tv : decide (s.vl ≥ 64) = false := decide_eq_false hw
  clear hw
  clear h HH
  go_enter Try.func49, Try.ntmps49
  go_wp2_with fail
  have HX := HC.out
  have W1 := W0.out
  have S1 := S0.out
  have R1 := R0.out
  have H1 := H0.out
  rw [hp, hc] at HX W1 S1 R1 H1
  refine HX.mono ?_
  rintro e w2 ⟨rfl, b2⟩
  have HR := hide (R1.below b2)
  have HS := hide (S1.below b2)
  have B2 := hide (below_trans W1 b2)
  have H2 := hide (H1.below b2)
  clear HX W1 S1 R1 H1 W0 S0 R0 H0 HC
  have r0 : w2.cell? ⟨w.heap.size + 1, 0, none⟩ = some (.int .i64 0) := HR.out.cell 0
  have r1 : w2.cell? ⟨w.heap.size + 1, 1, none⟩ = some (.int .i64 0) := HR.out.cell 1
  have r2 : w2.cell? ⟨w.heap.size + 1, 2, none⟩ = some (.int .i64 0) := HR.out.cell 2
  have r3 : w2.cell? ⟨w.heap.size + 1, 3, none⟩ = some (.slice none 0 0) := HR.out.cell 3
  have q0 := HR.out.frozen 0
  have q1 := HR.out.frozen 1
  have q2 := HR.out.frozen 2
  have q3 := HR.out.frozen 3
  have y0 : w2.cell? ⟨w.heap.size, 0, none⟩ = some (.int .i64 4) := HS.out.cell 0
  have y1 : w2.cell? ⟨w.heap.size, 1, none⟩ = some (.int .i64 6) := HS.out.cell 1
  have y2 : w2.cell? ⟨w.heap.size, 2, none⟩ = some (.int .i64 s.vl) := HS.out.cell 2
  have y3 : w2.cell? ⟨w.heap.size, 3, none⟩ = some (.slice A n c) := HS.out.cell 3
  clear b2 r0 r1 r2 r3 q0 q1 q2 q3
  go_wp2_with (go_at_call 72; (with_reducible refine (l01In_any _ _ _ _).mono ?_); rintro e w' ⟨rfl, rfl⟩)
  have HC2 : Calls Try.prog 88 #[.agg #[.int .i64 4, .int .i64 6, .int .i64 s.vl, .slice A n c], .int .i64 x] w2 (SpecOut (stepS s x) n w2) := by
    have HC2 := sstep_any s x A n c w2 H2.out hv.out.1 hv.out.2.1 hv.out.2.2 h4.out hn hx
    rwa [hp, hc] at HC2
  with_reducible refine HC2.mono ?_
  clear HC2
  rintro e w3 ⟨A3, m3, c3, rfl, own3, b3, hm3⟩
  have HR3 := hide (HR.out.below b3)
  have B3 := hide (below_trans B2.out b3)
  have O3 := hide (own3.mono (B' := w.heap.size) B2.out.size)
  have ba := (Below.refl w3.heap.size w3).alloc (Nat.le_refl _) (.cells #[.int .i64 (stepS s x).ph, .int .i64 (stepS s x).ct, .int .i64 (stepS s x).vl, .slice A3 m3 c3] 30)
  have HR4 := hide (HR3.out.below ba)
  have B4 := hide (below_trans B3.out ba)
  have O4 := hide (O3.out.below ba)
  have hl3 := HR3.out.lt
  clear b3 own3 ba y0 y1 y2 y3
  have r0 : w3.cell? ⟨w.heap.size + 1, 0, none⟩ = some (.int .i64 0) := HR3.out.cell 0
  have r1 : w3.cell? ⟨w.heap.size + 1, 1, none⟩ = some (.int .i64 0) := HR3.out.cell 1
  have r2 : w3.cell? ⟨w.heap.size + 1, 2, none⟩ = some (.int .i64 0) := HR3.out.cell 2
  have r3 : w3.cell? ⟨w.heap.size + 1, 3, none⟩ = some (.slice none 0 0) := HR3.out.cell 3
  have q0 := HR3.out.frozen 0
  have q1 := HR3.out.frozen 1
  have q2 := HR3.out.frozen 2
  have q3 := HR3.out.frozen 3
  cases eb : bytesB (stepS s x).bs
  · have F := hide (stR_limit es0.out er0.out eb)
    go_wp2_with (go_at_call 78; (with_reducible refine (sIsBytes_any _ _ _ _ _ O4.out.rd).mono ?_); rintro e w' ⟨rfl, rfl⟩)
    have bs4 := below_set4 B3.out (g := w.heap.size + 1) (by omega) (.int .i64 0) (.int .i64 0) (.int .i64 0) (.slice none 0 0)
    have hB := below_trans bs4 ((Below.refl _ _).alloc (Nat.le_refl _) (.cells #[.int .i64 (stepS s x).ph, .int .i64 (stepS s x).ct, .int .i64 (stepS s x).vl, .slice A3 m3 c3] 30))
    have fin := (HR3.out.put4 (.int .i64 0) (.int .i64 0) (.int .i64 0) (.slice none 0 0)).below ((Below.refl _ _).alloc (Nat.le_refl _) (.cells #[.int .i64 (stepS s x).ph, .int .i64 (stepS s x).ct, .int .i64 (stepS s x).vl, .slice A3 m3 c3] 30))
    have hres := fun (tmps : Array Value) (hp : tmps.getD 4 undef = .pointer (some ⟨w.heap.size + 1, 0, none⟩)) (hx : tmps.getD 5 undef = .int .i64 3) => results_scni (tmps := tmps) Try.results49 hp hx fin
    refine bodyPost_ret (hres _ rfl rfl) rfl ?_
    rw [F.out]
    exact ⟨none, 0, 0, rfl, Own.nil _ _, hB, by omega⟩
  · have F := hide (stR_bytes es0.out er0.out eb)
    go_wp2_with (go_at_call 78; (with_reducible refine (sIsBytes_any _ _ _ _ _ O4.out.rd).mono ?_); rintro e w' ⟨rfl, rfl⟩)
    have bs4 := below_set4 B3.out (g := w.heap.size + 1) (by omega) (.int .i64 (stepS s x).ph) (.int .i64 (stepS s x).ct) (.int .i64 (stepS s x).vl) (.slice A3 m3 c3)
    have ba := (Below.refl _ ((((w3.setCell ⟨w.heap.size + 1, 0, none⟩ (.int .i64 (stepS s x).ph)).setCell ⟨w.heap.size + 1, 1, none⟩ (.int .i64 (stepS s x).ct)).setCell ⟨w.heap.size + 1, 2, none⟩ (.int .i64 (stepS s x).vl)).setCell ⟨w.heap.size + 1, 3, none⟩ (.slice A3 m3 c3))).alloc (Nat.le_refl _) (.cells #[.int .i64 (stepS s x).ph, .int .i64 (stepS s x).ct, .int .i64 (stepS s x).vl, .slice A3 m3 c3] 30)
    have hB := below_trans bs4 ba
    have fin := (HR3.out.put4 (.int .i64 (stepS s x).ph) (.int .i64 (stepS s x).ct) (.int .i64 (stepS s x).vl) (.slice A3 m3 c3)).below ba
    have hO := (O3.out.set4 (g := w.heap.size + 1) ⟨_, HR3.out⟩ (.int .i64 (stepS s x).ph) (.int .i64 (stepS s x).ct) (.int .i64 (stepS s x).vl) (.slice A3 m3 c3)).below ba
    have hres := fun (tmps : Array Value) (hp : tmps.getD 4 undef = .pointer (some ⟨w.heap.size + 1, 0, none⟩)) (hx : tmps.getD 5 undef = .int .i64 0) => results_scni (tmps := tmps) Try.results49 hp hx fin
    refine bodyPost_ret (hres _ rfl rfl) rfl ?_
    rw [F.out]
    exact ⟨A3, m3, c3, rfl, hO, hB, by omega⟩
set_option maxHeartbeats 3200000 in
theorem sStep_r7 (s : Scn) (x : Int) (A : Option Addr) (n c : Nat) (w : World) (h : Rd w A n c s.bs) (hn : n ≤ 1048576) (es : scnB s = true) (e1 : inB 0 1 x = true) (hp : s.ph = 4) (hc : s.ct = 7) (hv : 128 ≤ s.vl) :
    Calls Try.prog 49 #[.agg #[.int .i64 s.ph, .int .i64 s.ct, .int .i64 s.vl, .slice A n c], .int .i64 x] w (ScOut (zeroS, 2) w) := by
  have W0 := hide (show Below w.heap.size w ((w.alloc (.cells #[.int .i64 s.ph, .int .i64 s.ct, .int .i64 s.vl, .slice A n c] 30)).alloc (.cells #[.int .i64 0, .int .i64 0, .int .i64 0, .slice none 0 0] 30)) by (repeat (first | exact Below.refl _ _ | (refine Below.alloc ?_ (by simp <;> omega) _) | (refine Below.setCell ?_ (by simp <;> omega) _))))
  have S0 := hide ((ScnAt.fresh w #[.int .i64 s.ph, .int .i64 s.ct, .int .i64 s.vl, .slice A n c]).below ((Below.refl _ _).alloc (Nat.le_refl _) (.cells #[.int .i64 0, .int .i64 0, .int .i64 0, .slice none 0 0] 30)))
  have R0 := hide (ScnAt.fresh1 w (.cells #[.int .i64 s.ph, .int .i64 s.ct, .int .i64 s.vl, .slice A n c] 30) #[.int .i64 0, .int .i64 0, .int .i64 0, .slice none 0 0])
  have H0 := hide (h.below W0.out)
  have HH := sIsScan_c s A n c _ H0.out
  rw [es] at HH
  have HC := hide HH
  have tv : decide (s.vl ≥ 128) = true := decide_eq_true hv
  clear h HH
  go_enter Try.func49, Try.ntmps49
  go_wp2_with fail
  have HX := HC.out
  have W1 := W0.out
  have S1 := S0.out
  have R1 := R0.out
  have H1 := H0.out
  rw [hp, hc] at HX W1 S1 R1 H1
  refine HX.mono ?_
  rintro e w2 ⟨rfl, b2⟩
  have HR := hide (R1.below b2)
  have HS := hide (S1.below b2)
  have B2 := hide (below_trans W1 b2)
  have H2 := hide (H1.below b2)
  clear HX W1 S1 R1 H1 W0 S0 R0 H0 HC
  have r0 : w2.cell? ⟨w.heap.size + 1, 0, none⟩ = some (.int .i64 0) := HR.out.cell 0
  have r1 : w2.cell? ⟨w.heap.size + 1, 1, none⟩ = some (.int .i64 0) := HR.out.cell 1
  have r2 : w2.cell? ⟨w.heap.size + 1, 2, none⟩ = some (.int .i64 0) := HR.out.cell 2
  have r3 : w2.cell? ⟨w.heap.size + 1, 3, none⟩ = some (.slice none 0 0) := HR.out.cell 3
  have q0 := HR.out.frozen 0
  have q1 := HR.out.frozen 1
  have q2 := HR.out.frozen 2
  have q3 := HR.out.frozen 3
  have y0 : w2.cell? ⟨w.heap.size, 0, none⟩ = some (.int .i64 4) := HS.out.cell 0
  have y1 : w2.cell? ⟨w.heap.size, 1, none⟩ = some (.int .i64 7) := HS.out.cell 1
  have y2 : w2.cell? ⟨w.heap.size, 2, none⟩ = some (.int .i64 s.vl) := HS.out.cell 2
  have y3 : w2.cell? ⟨w.heap.size, 3, none⟩ = some (.slice A n c) := HS.out.cell 3
  clear b2
  go_wp2_with (go_at_call 72; (with_reducible refine (l01In_any _ _ _ _).mono ?_); rintro e w' ⟨rfl, rfl⟩)
  have fin := HR.out.put4 (.int .i64 0) (.int .i64 0) (.int .i64 0) (.slice none 0 0)
  have hB := below_set4 B2.out (g := w.heap.size + 1) (by omega) (.int .i64 0) (.int .i64 0) (.int .i64 0) (.slice none 0 0)
  have hres := fun (tmps : Array Value) (hp : tmps.getD 4 undef = .pointer (some ⟨w.heap.size + 1, 0, none⟩)) (hx : tmps.getD 5 undef = .int .i64 2) => results_scni (tmps := tmps) Try.results49 hp hx fin
  refine bodyPost_ret (hres _ rfl rfl) rfl ?_
  exact ⟨none, 0, 0, rfl, Own.nil _ _, hB, by omega⟩
set_option maxHeartbeats 3200000 in
theorem sStep_n7 (s : Scn) (x : Int) (A : Option Addr) (n c : Nat) (w : World) (h : Rd w A n c s.bs) (hn : n ≤ 1048576) (es : scnB s = true) (e1 : inB 0 1 x = true) (hx : x = 0 ∨ x = 1) (er : stepR s x = false) (hp : s.ph = 4) (hc : s.ct = 7) (hw : ¬ 128 ≤ s.vl) :
    Calls Try.prog 49 #[.agg #[.int .i64 s.ph, .int .i64 s.ct, .int .i64 s.vl, .slice A n c], .int .i64 x] w (ScOut (stR s x) w) := by
  have W0 := hide (show Below w.heap.size w ((w.alloc (.cells #[.int .i64 s.ph, .int .i64 s.ct, .int .i64 s.vl, .slice A n c] 30)).alloc (.cells #[.int .i64 0, .int .i64 0, .int .i64 0, .slice none 0 0] 30)) by (repeat (first | exact Below.refl _ _ | (refine Below.alloc ?_ (by simp <;> omega) _) | (refine Below.setCell ?_ (by simp <;> omega) _))))
  have S0 := hide ((ScnAt.fresh w #[.int .i64 s.ph, .int .i64 s.ct, .int .i64 s.vl, .slice A n c]).below ((Below.refl _ _).alloc (Nat.le_refl _) (.cells #[.int .i64 0, .int .i64 0, .int .i64 0, .slice none 0 0] 30)))
  have R0 := hide (ScnAt.fresh1 w (.cells #[.int .i64 s.ph, .int .i64 s.ct, .int .i64 s.vl, .slice A n c] 30) #[.int .i64 0, .int .i64 0, .int .i64 0, .slice none 0 0])
  have H0 := hide (h.below W0.out)
  have HH := sIsScan_c s A n c _ H0.out
  rw [es] at HH
  have HC := hide HH
  have hv := hide (show (0 ≤ s.ph ∧ s.ph ≤ 7) ∧ (0 ≤ s.ct ∧ s.ct ≤ 15) ∧ (0 ≤ s.vl ∧ s.vl ≤ 255) from ⟨(scnB_get es).1, (scnB_get es).2.2.1, (scnB_get es).2.2.2⟩)
  have h4 := hide (show s.ph = 4 → s.ct ≤ 7 from fun e => ((stepR_get er).2 e).1)
  have es0 := hide es
  have er0 := hide er
  clear er
  have tv : decide (s.vl ≥ 128) = false := decide_eq_false hw
  clear hw
  clear h HH
  go_enter Try.func49, Try.ntmps49
  go_wp2_with fail
  have HX := HC.out
  have W1 := W0.out
  have S1 := S0.out
  have R1 := R0.out
  have H1 := H0.out
  rw [hp, hc] at HX W1 S1 R1 H1
  refine HX.mono ?_
  rintro e w2 ⟨rfl, b2⟩
  have HR := hide (R1.below b2)
  have HS := hide (S1.below b2)
  have B2 := hide (below_trans W1 b2)
  have H2 := hide (H1.below b2)
  clear HX W1 S1 R1 H1 W0 S0 R0 H0 HC
  have r0 : w2.cell? ⟨w.heap.size + 1, 0, none⟩ = some (.int .i64 0) := HR.out.cell 0
  have r1 : w2.cell? ⟨w.heap.size + 1, 1, none⟩ = some (.int .i64 0) := HR.out.cell 1
  have r2 : w2.cell? ⟨w.heap.size + 1, 2, none⟩ = some (.int .i64 0) := HR.out.cell 2
  have r3 : w2.cell? ⟨w.heap.size + 1, 3, none⟩ = some (.slice none 0 0) := HR.out.cell 3
  have q0 := HR.out.frozen 0
  have q1 := HR.out.frozen 1
  have q2 := HR.out.frozen 2
  have q3 := HR.out.frozen 3
  have y0 : w2.cell? ⟨w.heap.size, 0, none⟩ = some (.int .i64 4) := HS.out.cell 0
  have y1 : w2.cell? ⟨w.heap.size, 1, none⟩ = some (.int .i64 7) := HS.out.cell 1
  have y2 : w2.cell? ⟨w.heap.size, 2, none⟩ = some (.int .i64 s.vl) := HS.out.cell 2
  have y3 : w2.cell? ⟨w.heap.size, 3, none⟩ = some (.slice A n c) := HS.out.cell 3
  clear b2 r0 r1 r2 r3 q0 q1 q2 q3
  go_wp2_with (go_at_call 72; (with_reducible refine (l01In_any _ _ _ _).mono ?_); rintro e w' ⟨rfl, rfl⟩)
  have HC2 : Calls Try.prog 88 #[.agg #[.int .i64 4, .int .i64 7, .int .i64 s.vl, .slice A n c], .int .i64 x] w2 (SpecOut (stepS s x) n w2) := by
    have HC2 := sstep_any s x A n c w2 H2.out hv.out.1 hv.out.2.1 hv.out.2.2 h4.out hn hx
    rwa [hp, hc] at HC2
  with_reducible refine HC2.mono ?_
  clear HC2
  rintro e w3 ⟨A3, m3, c3, rfl, own3, b3, hm3⟩
  have HR3 := hide (HR.out.below b3)
  have B3 := hide (below_trans B2.out b3)
  have O3 := hide (own3.mono (B' := w.heap.size) B2.out.size)
  have ba := (Below.refl w3.heap.size w3).alloc (Nat.le_refl _) (.cells #[.int .i64 (stepS s x).ph, .int .i64 (stepS s x).ct, .int .i64 (stepS s x).vl, .slice A3 m3 c3] 30)
  have HR4 := hide (HR3.out.below ba)
  have B4 := hide (below_trans B3.out ba)
  have O4 := hide (O3.out.below ba)
  have hl3 := HR3.out.lt
  clear b3 own3 ba y0 y1 y2 y3
  have r0 : w3.cell? ⟨w.heap.size + 1, 0, none⟩ = some (.int .i64 0) := HR3.out.cell 0
  have r1 : w3.cell? ⟨w.heap.size + 1, 1, none⟩ = some (.int .i64 0) := HR3.out.cell 1
  have r2 : w3.cell? ⟨w.heap.size + 1, 2, none⟩ = some (.int .i64 0) := HR3.out.cell 2
  have r3 : w3.cell? ⟨w.heap.size + 1, 3, none⟩ = some (.slice none 0 0) := HR3.out.cell 3
  have q0 := HR3.out.frozen 0
  have q1 := HR3.out.frozen 1
  have q2 := HR3.out.frozen 2
  have q3 := HR3.out.frozen 3
  cases eb : bytesB (stepS s x).bs
  · have F := hide (stR_limit es0.out er0.out eb)
    go_wp2_with (go_at_call 78; (with_reducible refine (sIsBytes_any _ _ _ _ _ O4.out.rd).mono ?_); rintro e w' ⟨rfl, rfl⟩)
    have bs4 := below_set4 B3.out (g := w.heap.size + 1) (by omega) (.int .i64 0) (.int .i64 0) (.int .i64 0) (.slice none 0 0)
    have hB := below_trans bs4 ((Below.refl _ _).alloc (Nat.le_refl _) (.cells #[.int .i64 (stepS s x).ph, .int .i64 (stepS s x).ct, .int .i64 (stepS s x).vl, .slice A3 m3 c3] 30))
    have fin := (HR3.out.put4 (.int .i64 0) (.int .i64 0) (.int .i64 0) (.slice none 0 0)).below ((Below.refl _ _).alloc (Nat.le_refl _) (.cells #[.int .i64 (stepS s x).ph, .int .i64 (stepS s x).ct, .int .i64 (stepS s x).vl, .slice A3 m3 c3] 30))
    have hres := fun (tmps : Array Value) (hp : tmps.getD 4 undef = .pointer (some ⟨w.heap.size + 1, 0, none⟩)) (hx : tmps.getD 5 undef = .int .i64 3) => results_scni (tmps := tmps) Try.results49 hp hx fin
    refine bodyPost_ret (hres _ rfl rfl) rfl ?_
    rw [F.out]
    exact ⟨none, 0, 0, rfl, Own.nil _ _, hB, by omega⟩
  · have F := hide (stR_bytes es0.out er0.out eb)
    go_wp2_with (go_at_call 78; (with_reducible refine (sIsBytes_any _ _ _ _ _ O4.out.rd).mono ?_); rintro e w' ⟨rfl, rfl⟩)
    have bs4 := below_set4 B3.out (g := w.heap.size + 1) (by omega) (.int .i64 (stepS s x).ph) (.int .i64 (stepS s x).ct) (.int .i64 (stepS s x).vl) (.slice A3 m3 c3)
    have ba := (Below.refl _ ((((w3.setCell ⟨w.heap.size + 1, 0, none⟩ (.int .i64 (stepS s x).ph)).setCell ⟨w.heap.size + 1, 1, none⟩ (.int .i64 (stepS s x).ct)).setCell ⟨w.heap.size + 1, 2, none⟩ (.int .i64 (stepS s x).vl)).setCell ⟨w.heap.size + 1, 3, none⟩ (.slice A3 m3 c3))).alloc (Nat.le_refl _) (.cells #[.int .i64 (stepS s x).ph, .int .i64 (stepS s x).ct, .int .i64 (stepS s x).vl, .slice A3 m3 c3] 30)
    have hB := below_trans bs4 ba
    have fin := (HR3.out.put4 (.int .i64 (stepS s x).ph) (.int .i64 (stepS s x).ct) (.int .i64 (stepS s x).vl) (.slice A3 m3 c3)).below ba
    have hO := (O3.out.set4 (g := w.heap.size + 1) ⟨_, HR3.out⟩ (.int .i64 (stepS s x).ph) (.int .i64 (stepS s x).ct) (.int .i64 (stepS s x).vl) (.slice A3 m3 c3)).below ba
    have hres := fun (tmps : Array Value) (hp : tmps.getD 4 undef = .pointer (some ⟨w.heap.size + 1, 0, none⟩)) (hx : tmps.getD 5 undef = .int .i64 0) => results_scni (tmps := tmps) Try.results49 hp hx fin
    refine bodyPost_ret (hres _ rfl rfl) rfl ?_
    rw [F.out]
    exact ⟨A3, m3, c3, rfl, hO, hB, by omega⟩
set_option maxHeartbeats 3200000 in
theorem sStep_c1 (s : Scn) (x : Int) (A : Option Addr) (n c : Nat) (w : World) (h : Rd w A n c s.bs) (hn : n ≤ 1048576) (es : scnB s = true) (e1 : inB 0 1 x = true) (hx : x = 0 ∨ x = 1) (er : stepR s x = false) (hp : (s.ph == 4) = false) :
    Calls Try.prog 49 #[.agg #[.int .i64 s.ph, .int .i64 s.ct, .int .i64 s.vl, .slice A n c], .int .i64 x] w (ScOut (stR s x) w) := by
  have W0 := hide (show Below w.heap.size w ((w.alloc (.cells #[.int .i64 s.ph, .int .i64 s.ct, .int .i64 s.vl, .slice A n c] 30)).alloc (.cells #[.int .i64 0, .int .i64 0, .int .i64 0, .slice none 0 0] 30)) by (repeat (first | exact Below.refl _ _ | (refine Below.alloc ?_ (by simp <;> omega) _) | (refine Below.setCell ?_ (by simp <;> omega) _))))
  have S0 := hide ((ScnAt.fresh w #[.int .i64 s.ph, .int .i64 s.ct, .int .i64 s.vl, .slice A n c]).below ((Below.refl _ _).alloc (Nat.le_refl _) (.cells #[.int .i64 0, .int .i64 0, .int .i64 0, .slice none 0 0] 30)))
  have R0 := hide (ScnAt.fresh1 w (.cells #[.int .i64 s.ph, .int .i64 s.ct, .int .i64 s.vl, .slice A n c] 30) #[.int .i64 0, .int .i64 0, .int .i64 0, .slice none 0 0])
  have H0 := hide (h.below W0.out)
  have HH := sIsScan_c s A n c _ H0.out
  rw [es] at HH
  have HC := hide HH
  have hv := hide (show (0 ≤ s.ph ∧ s.ph ≤ 7) ∧ (0 ≤ s.ct ∧ s.ct ≤ 15) ∧ (0 ≤ s.vl ∧ s.vl ≤ 255) from ⟨(scnB_get es).1, (scnB_get es).2.2.1, (scnB_get es).2.2.2⟩)
  have h4 := hide (show s.ph = 4 → s.ct ≤ 7 from fun e => ((stepR_get er).2 e).1)
  have es0 := hide es
  have er0 := hide er
  clear er
  clear h HH
  go_enter Try.func49, Try.ntmps49
  go_wp2_with fail
  have HX := HC.out
  have W1 := W0.out
  have S1 := S0.out
  have R1 := R0.out
  have H1 := H0.out
  refine HX.mono ?_
  rintro e w2 ⟨rfl, b2⟩
  have HR := hide (R1.below b2)
  have HS := hide (S1.below b2)
  have B2 := hide (below_trans W1 b2)
  have H2 := hide (H1.below b2)
  clear HX W1 S1 R1 H1 W0 S0 R0 H0 HC
  have r0 : w2.cell? ⟨w.heap.size + 1, 0, none⟩ = some (.int .i64 0) := HR.out.cell 0
  have r1 : w2.cell? ⟨w.heap.size + 1, 1, none⟩ = some (.int .i64 0) := HR.out.cell 1
  have r2 : w2.cell? ⟨w.heap.size + 1, 2, none⟩ = some (.int .i64 0) := HR.out.cell 2
  have r3 : w2.cell? ⟨w.heap.size + 1, 3, none⟩ = some (.slice none 0 0) := HR.out.cell 3
  have q0 := HR.out.frozen 0
  have q1 := HR.out.frozen 1
  have q2 := HR.out.frozen 2
  have q3 := HR.out.frozen 3
  have y0 : w2.cell? ⟨w.heap.size, 0, none⟩ = some (.int .i64 s.ph) := HS.out.cell 0
  have y1 : w2.cell? ⟨w.heap.size, 1, none⟩ = some (.int .i64 s.ct) := HS.out.cell 1
  have y2 : w2.cell? ⟨w.heap.size, 2, none⟩ = some (.int .i64 s.vl) := HS.out.cell 2
  have y3 : w2.cell? ⟨w.heap.size, 3, none⟩ = some (.slice A n c) := HS.out.cell 3
  clear b2 r0 r1 r2 r3 q0 q1 q2 q3
  go_wp2_with (go_at_call 72; (with_reducible refine (l01In_any _ _ _ _).mono ?_); rintro e w' ⟨rfl, rfl⟩)
  have HC2 : Calls Try.prog 88 #[.agg #[.int .i64 s.ph, .int .i64 s.ct, .int .i64 s.vl, .slice A n c], .int .i64 x] w2 (SpecOut (stepS s x) n w2) := by
    have HC2 := sstep_any s x A n c w2 H2.out hv.out.1 hv.out.2.1 hv.out.2.2 h4.out hn hx
    exact HC2
  with_reducible refine HC2.mono ?_
  clear HC2
  rintro e w3 ⟨A3, m3, c3, rfl, own3, b3, hm3⟩
  have HR3 := hide (HR.out.below b3)
  have B3 := hide (below_trans B2.out b3)
  have O3 := hide (own3.mono (B' := w.heap.size) B2.out.size)
  have ba := (Below.refl w3.heap.size w3).alloc (Nat.le_refl _) (.cells #[.int .i64 (stepS s x).ph, .int .i64 (stepS s x).ct, .int .i64 (stepS s x).vl, .slice A3 m3 c3] 30)
  have HR4 := hide (HR3.out.below ba)
  have B4 := hide (below_trans B3.out ba)
  have O4 := hide (O3.out.below ba)
  have hl3 := HR3.out.lt
  clear b3 own3 ba y0 y1 y2 y3
  have r0 : w3.cell? ⟨w.heap.size + 1, 0, none⟩ = some (.int .i64 0) := HR3.out.cell 0
  have r1 : w3.cell? ⟨w.heap.size + 1, 1, none⟩ = some (.int .i64 0) := HR3.out.cell 1
  have r2 : w3.cell? ⟨w.heap.size + 1, 2, none⟩ = some (.int .i64 0) := HR3.out.cell 2
  have r3 : w3.cell? ⟨w.heap.size + 1, 3, none⟩ = some (.slice none 0 0) := HR3.out.cell 3
  have q0 := HR3.out.frozen 0
  have q1 := HR3.out.frozen 1
  have q2 := HR3.out.frozen 2
  have q3 := HR3.out.frozen 3
  cases eb : bytesB (stepS s x).bs
  · have F := hide (stR_limit es0.out er0.out eb)
    go_wp2_with (go_at_call 78; (with_reducible refine (sIsBytes_any _ _ _ _ _ O4.out.rd).mono ?_); rintro e w' ⟨rfl, rfl⟩)
    have bs4 := below_set4 B3.out (g := w.heap.size + 1) (by omega) (.int .i64 0) (.int .i64 0) (.int .i64 0) (.slice none 0 0)
    have hB := below_trans bs4 ((Below.refl _ _).alloc (Nat.le_refl _) (.cells #[.int .i64 (stepS s x).ph, .int .i64 (stepS s x).ct, .int .i64 (stepS s x).vl, .slice A3 m3 c3] 30))
    have fin := (HR3.out.put4 (.int .i64 0) (.int .i64 0) (.int .i64 0) (.slice none 0 0)).below ((Below.refl _ _).alloc (Nat.le_refl _) (.cells #[.int .i64 (stepS s x).ph, .int .i64 (stepS s x).ct, .int .i64 (stepS s x).vl, .slice A3 m3 c3] 30))
    have hres := fun (tmps : Array Value) (hp : tmps.getD 4 undef = .pointer (some ⟨w.heap.size + 1, 0, none⟩)) (hx : tmps.getD 5 undef = .int .i64 3) => results_scni (tmps := tmps) Try.results49 hp hx fin
    refine bodyPost_ret (hres _ rfl rfl) rfl ?_
    rw [F.out]
    exact ⟨none, 0, 0, rfl, Own.nil _ _, hB, by omega⟩
  · have F := hide (stR_bytes es0.out er0.out eb)
    go_wp2_with (go_at_call 78; (with_reducible refine (sIsBytes_any _ _ _ _ _ O4.out.rd).mono ?_); rintro e w' ⟨rfl, rfl⟩)
    have bs4 := below_set4 B3.out (g := w.heap.size + 1) (by omega) (.int .i64 (stepS s x).ph) (.int .i64 (stepS s x).ct) (.int .i64 (stepS s x).vl) (.slice A3 m3 c3)
    have ba := (Below.refl _ ((((w3.setCell ⟨w.heap.size + 1, 0, none⟩ (.int .i64 (stepS s x).ph)).setCell ⟨w.heap.size + 1, 1, none⟩ (.int .i64 (stepS s x).ct)).setCell ⟨w.heap.size + 1, 2, none⟩ (.int .i64 (stepS s x).vl)).setCell ⟨w.heap.size + 1, 3, none⟩ (.slice A3 m3 c3))).alloc (Nat.le_refl _) (.cells #[.int .i64 (stepS s x).ph, .int .i64 (stepS s x).ct, .int .i64 (stepS s x).vl, .slice A3 m3 c3] 30)
    have hB := below_trans bs4 ba
    have fin := (HR3.out.put4 (.int .i64 (stepS s x).ph) (.int .i64 (stepS s x).ct) (.int .i64 (stepS s x).vl) (.slice A3 m3 c3)).below ba
    have hO := (O3.out.set4 (g := w.heap.size + 1) ⟨_, HR3.out⟩ (.int .i64 (stepS s x).ph) (.int .i64 (stepS s x).ct) (.int .i64 (stepS s x).vl) (.slice A3 m3 c3)).below ba
    have hres := fun (tmps : Array Value) (hp : tmps.getD 4 undef = .pointer (some ⟨w.heap.size + 1, 0, none⟩)) (hx : tmps.getD 5 undef = .int .i64 0) => results_scni (tmps := tmps) Try.results49 hp hx fin
    refine bodyPost_ret (hres _ rfl rfl) rfl ?_
    rw [F.out]
    exact ⟨A3, m3, c3, rfl, hO, hB, by omega⟩
theorem sStepCell_c (s : Scn) (x : Int) (A : Option Addr) (n c : Nat) (w : World) (h : Rd w A n c s.bs) (hn : n ≤ 1048576) (hx : -9223372036854775808 ≤ x ∧ x ≤ 9223372036854775807) :
    Calls Try.prog 49 #[.agg #[.int .i64 s.ph, .int .i64 s.ct, .int .i64 s.vl, .slice A n c], .int .i64 x] w (ScOut (stR s x) w) := by
  cases es : scnB s
  · rw [stR_no es]; exact sStep_no s x A n c w h hn es
  obtain ⟨p, b, k, v⟩ := scnB_get es
  cases e1 : inB 0 1 x
  · rw [stR_range es (by simp [stepR, e1])]; exact sStep_c0 s x A n c w h hn es e1
  have hx2 := inB_true e1
  have hx1 : x = 0 ∨ x = 1 := by omega
  by_cases hp : s.ph = 4
  · by_cases h7 : 7 < s.ct
    · rw [stR_range es (by simp [stepR, e1, hp, h7])]; exact sStep_c2 s x A n c w h hn es e1 hp h7
    · have hq : s.ct = 0 ∨ s.ct = 1 ∨ s.ct = 2 ∨ s.ct = 3 ∨ s.ct = 4 ∨ s.ct = 5 ∨ s.ct = 6 ∨ s.ct = 7 := by omega
      rcases hq with hc | hc | hc | hc | hc | hc | hc | hc
      · by_cases hv : 1 ≤ s.vl
        · rw [stR_range es (by simp [stepR, e1, hp, hc, hv])]; exact sStep_r0 s x A n c w h hn es e1 hp hc hv
        · exact sStep_n0 s x A n c w h hn es e1 hx1 (by simp [stepR, e1, hp, hc]; omega) hp hc hv
      · by_cases hv : 2 ≤ s.vl
        · rw [stR_range es (by simp [stepR, e1, hp, hc, hv])]; exact sStep_r1 s x A n c w h hn es e1 hp hc hv
        · exact sStep_n1 s x A n c w h hn es e1 hx1 (by simp [stepR, e1, hp, hc]; omega) hp hc hv
      · by_cases hv : 4 ≤ s.vl
        · rw [stR_range es (by simp [stepR, e1, hp, hc, hv])]; exact sStep_r2 s x A n c w h hn es e1 hp hc hv
        · exact sStep_n2 s x A n c w h hn es e1 hx1 (by simp [stepR, e1, hp, hc]; omega) hp hc hv
      · by_cases hv : 8 ≤ s.vl
        · rw [stR_range es (by simp [stepR, e1, hp, hc, hv])]; exact sStep_r3 s x A n c w h hn es e1 hp hc hv
        · exact sStep_n3 s x A n c w h hn es e1 hx1 (by simp [stepR, e1, hp, hc]; omega) hp hc hv
      · by_cases hv : 16 ≤ s.vl
        · rw [stR_range es (by simp [stepR, e1, hp, hc, hv])]; exact sStep_r4 s x A n c w h hn es e1 hp hc hv
        · exact sStep_n4 s x A n c w h hn es e1 hx1 (by simp [stepR, e1, hp, hc]; omega) hp hc hv
      · by_cases hv : 32 ≤ s.vl
        · rw [stR_range es (by simp [stepR, e1, hp, hc, hv])]; exact sStep_r5 s x A n c w h hn es e1 hp hc hv
        · exact sStep_n5 s x A n c w h hn es e1 hx1 (by simp [stepR, e1, hp, hc]; omega) hp hc hv
      · by_cases hv : 64 ≤ s.vl
        · rw [stR_range es (by simp [stepR, e1, hp, hc, hv])]; exact sStep_r6 s x A n c w h hn es e1 hp hc hv
        · exact sStep_n6 s x A n c w h hn es e1 hx1 (by simp [stepR, e1, hp, hc]; omega) hp hc hv
      · by_cases hv : 128 ≤ s.vl
        · rw [stR_range es (by simp [stepR, e1, hp, hc, hv])]; exact sStep_r7 s x A n c w h hn es e1 hp hc hv
        · exact sStep_n7 s x A n c w h hn es e1 hx1 (by simp [stepR, e1, hp, hc]; omega) hp hc hv
  · exact sStep_c1 s x A n c w h hn es e1 hx1 (by simp [stepR, e1, hp]) (by simpa using hp)
end Go.Proofs.Ytdodhjahihfaiaa
