/- Contracts: a scan's next cell, by the reference: a phase each. Written by gen_scane.py. -/
import Derived.Test.YtdodhjahihfaiaaScanD
namespace Go.Proofs.Ytdodhjahihfaiaa
open Go.RowKit
set_option linter.unusedVariables false
set_option linter.unusedSimpArgs false

/-- what comes out of a step of the reference -/
def SpecOut (s' : Scn) (n : Nat) (w : World) (e : Ending) (w' : World) : Prop :=
  ∃ (A' : Option Addr) (m c' : Nat), e = .returned (.agg #[.int .i64 s'.ph, .int .i64 s'.ct, .int .i64 s'.vl, .slice A' m c']) ∧ Own w' w.heap.size A' m c' s'.bs ∧ Below w.heap.size w w' ∧ m ≤ n + 1

set_option maxHeartbeats 1600000 in
theorem sstep00 (ct vl : Int) (bs : List Int) (A : Option Addr) (n c : Nat) (w : World) (h : Rd w A n c bs) (hct : 0 ≤ ct ∧ ct ≤ 15) (hvl : 0 ≤ vl ∧ vl ≤ 255) (hn : n ≤ 1048576) :
    Calls Try.prog 88 #[.agg #[.int .i64 0, .int .i64 ct, .int .i64 vl, .slice A n c], .int .i64 0] w (SpecOut ⟨1, 1, vl, bs⟩ n w) := by
  have W0 := hide (show Below w.heap.size w ((w.alloc (.cells #[.int .i64 0, .int .i64 ct, .int .i64 vl, .slice A n c] 30)).alloc (.cells #[.int .i64 0, .int .i64 0, .int .i64 0, .slice none 0 0] 30)) by (repeat (first | exact Below.refl _ _ | (refine Below.alloc ?_ (by simp <;> omega) _) | (refine Below.setCell ?_ (by simp <;> omega) _))))
  have S0 := hide ((ScnAt.fresh w #[.int .i64 0, .int .i64 ct, .int .i64 vl, .slice A n c]).below ((Below.refl _ _).alloc (Nat.le_refl _) (.cells #[.int .i64 0, .int .i64 0, .int .i64 0, .slice none 0 0] 30)))
  have R0 := hide (ScnAt.fresh1 w (.cells #[.int .i64 0, .int .i64 ct, .int .i64 vl, .slice A n c] 30) #[.int .i64 0, .int .i64 0, .int .i64 0, .slice none 0 0])
  have H0 := hide (h.below W0.out)
  clear h
  go_enter Try.func88, Try.ntmps88
  go_wp2_with fail
  refine (l19To_any _ _ _ _ _ _ A n c bs _ H0.out hn).mono ?_
  rintro e w2 ⟨A2, c2, rfl, own2, b2⟩
  have b3 := (Below.refl w2.heap.size w2).alloc (Nat.le_refl _) (.cells #[.int .i64 7, .int .i64 ct, .int .i64 vl, .slice A2 n c2] 30)
  have HS := hide ((S0.out.below b2).below b3)
  have HR := hide ((R0.out.below b2).below b3)
  have B3 := hide (below_trans (below_trans W0.out b2) b3)
  have O3 := hide ((own2.mono (B' := w.heap.size) W0.out.size).below b3)
  have H3 := hide ((H0.out.below b2).below b3)
  have hl0 : w.heap.size < w2.heap.size := (S0.out.below b2).lt
  have hl1 : w.heap.size + 1 < w2.heap.size := (R0.out.below b2).lt
  have c0 : w2.cell? ⟨w.heap.size, 0, none⟩ = some (.int .i64 0) := (S0.out.below b2).cell 0
  have c1 : w2.cell? ⟨w.heap.size, 1, none⟩ = some (.int .i64 ct) := (S0.out.below b2).cell 1
  have c2' : w2.cell? ⟨w.heap.size, 2, none⟩ = some (.int .i64 vl) := (S0.out.below b2).cell 2
  have c3 : w2.cell? ⟨w.heap.size, 3, none⟩ = some (.slice A n c) := (S0.out.below b2).cell 3
  clear b2 b3 own2
  go_wp2_with fail
  refine (l19To_any _ _ _ _ _ _ A n c bs _ H3.out hn).mono ?_
  rintro e w4 ⟨A4, c4, rfl, own4, b4⟩
  have HR4 := hide (HR.out.below b4)
  have B4 := hide (below_trans B3.out b4)
  have O4 := hide (own4.mono (B' := w.heap.size) B3.out.size)
  clear c0 c1 c2' c3 b4 own4
  have r0 : w4.cell? ⟨w.heap.size + 1, 0, none⟩ = some (.int .i64 0) := HR4.out.cell 0
  have q0 : w4.frozen? ⟨w.heap.size + 1, 0, none⟩ = false := HR4.out.frozen 0
  have r1 : w4.cell? ⟨w.heap.size + 1, 1, none⟩ = some (.int .i64 0) := HR4.out.cell 1
  have q1 : w4.frozen? ⟨w.heap.size + 1, 1, none⟩ = false := HR4.out.frozen 1
  have r2 : w4.cell? ⟨w.heap.size + 1, 2, none⟩ = some (.int .i64 0) := HR4.out.cell 2
  have q2 : w4.frozen? ⟨w.heap.size + 1, 2, none⟩ = false := HR4.out.frozen 2
  have r3 : w4.cell? ⟨w.heap.size + 1, 3, none⟩ = some (.slice none 0 0) := HR4.out.cell 3
  have q3 : w4.frozen? ⟨w.heap.size + 1, 3, none⟩ = false := HR4.out.frozen 3
  go_wp2_with fail
  have fin := HR4.out.put4 (.int .i64 (1)) (.int .i64 (1)) (.int .i64 (vl)) (.slice A4 n c4)
  have hO := O4.out.set4 (g := w.heap.size + 1) ⟨_, HR4.out⟩ (.int .i64 (1)) (.int .i64 (1)) (.int .i64 (vl)) (.slice A4 n c4)
  have hB := below_set4 B4.out (g := w.heap.size + 1) (by omega) (.int .i64 (1)) (.int .i64 (1)) (.int .i64 (vl)) (.slice A4 n c4)
  have hres := fun (tmps : Array Value) (hp : tmps.getD 4 undef = .pointer (some ⟨w.heap.size + 1, 0, none⟩)) => results_scn (tmps := tmps) Try.results88 hp fin
  refine bodyPost_ret (hres _ rfl) rfl ?_
  exact ⟨A4, n, c4, rfl, hO, hB, by omega⟩

set_option maxHeartbeats 1600000 in
theorem sstep01 (ct vl : Int) (bs : List Int) (A : Option Addr) (n c : Nat) (w : World) (h : Rd w A n c bs) (hct : 0 ≤ ct ∧ ct ≤ 15) (hvl : 0 ≤ vl ∧ vl ≤ 255) (hn : n ≤ 1048576) :
    Calls Try.prog 88 #[.agg #[.int .i64 0, .int .i64 ct, .int .i64 vl, .slice A n c], .int .i64 1] w (SpecOut ⟨0, ct, vl, bs⟩ n w) := by
  have W0 := hide (show Below w.heap.size w ((w.alloc (.cells #[.int .i64 0, .int .i64 ct, .int .i64 vl, .slice A n c] 30)).alloc (.cells #[.int .i64 0, .int .i64 0, .int .i64 0, .slice none 0 0] 30)) by (repeat (first | exact Below.refl _ _ | (refine Below.alloc ?_ (by simp <;> omega) _) | (refine Below.setCell ?_ (by simp <;> omega) _))))
  have S0 := hide ((ScnAt.fresh w #[.int .i64 0, .int .i64 ct, .int .i64 vl, .slice A n c]).below ((Below.refl _ _).alloc (Nat.le_refl _) (.cells #[.int .i64 0, .int .i64 0, .int .i64 0, .slice none 0 0] 30)))
  have R0 := hide (ScnAt.fresh1 w (.cells #[.int .i64 0, .int .i64 ct, .int .i64 vl, .slice A n c] 30) #[.int .i64 0, .int .i64 0, .int .i64 0, .slice none 0 0])
  have H0 := hide (h.below W0.out)
  clear h
  go_enter Try.func88, Try.ntmps88
  go_wp2_with fail
  refine (l19To_any _ _ _ _ _ _ A n c bs _ H0.out hn).mono ?_
  rintro e w2 ⟨A2, c2, rfl, own2, b2⟩
  have b3 := (Below.refl w2.heap.size w2).alloc (Nat.le_refl _) (.cells #[.int .i64 7, .int .i64 ct, .int .i64 vl, .slice A2 n c2] 30)
  have HS := hide ((S0.out.below b2).below b3)
  have HR := hide ((R0.out.below b2).below b3)
  have B3 := hide (below_trans (below_trans W0.out b2) b3)
  have O3 := hide ((own2.mono (B' := w.heap.size) W0.out.size).below b3)
  have H3 := hide ((H0.out.below b2).below b3)
  have hl0 : w.heap.size < w2.heap.size := (S0.out.below b2).lt
  have hl1 : w.heap.size + 1 < w2.heap.size := (R0.out.below b2).lt
  have c0 : w2.cell? ⟨w.heap.size, 0, none⟩ = some (.int .i64 0) := (S0.out.below b2).cell 0
  have c1 : w2.cell? ⟨w.heap.size, 1, none⟩ = some (.int .i64 ct) := (S0.out.below b2).cell 1
  have c2' : w2.cell? ⟨w.heap.size, 2, none⟩ = some (.int .i64 vl) := (S0.out.below b2).cell 2
  have c3 : w2.cell? ⟨w.heap.size, 3, none⟩ = some (.slice A n c) := (S0.out.below b2).cell 3
  clear b2 b3 own2
  go_wp2_with fail
  refine (l19To_any _ _ _ _ _ _ A n c bs _ H3.out hn).mono ?_
  rintro e w4 ⟨A4, c4, rfl, own4, b4⟩
  have HR4 := hide (HR.out.below b4)
  have B4 := hide (below_trans B3.out b4)
  have O4 := hide (own4.mono (B' := w.heap.size) B3.out.size)
  clear c0 c1 c2' c3 b4 own4
  have r0 : w4.cell? ⟨w.heap.size + 1, 0, none⟩ = some (.int .i64 0) := HR4.out.cell 0
  have q0 : w4.frozen? ⟨w.heap.size + 1, 0, none⟩ = false := HR4.out.frozen 0
  have r1 : w4.cell? ⟨w.heap.size + 1, 1, none⟩ = some (.int .i64 0) := HR4.out.cell 1
  have q1 : w4.frozen? ⟨w.heap.size + 1, 1, none⟩ = false := HR4.out.frozen 1
  have r2 : w4.cell? ⟨w.heap.size + 1, 2, none⟩ = some (.int .i64 0) := HR4.out.cell 2
  have q2 : w4.frozen? ⟨w.heap.size + 1, 2, none⟩ = false := HR4.out.frozen 2
  have r3 : w4.cell? ⟨w.heap.size + 1, 3, none⟩ = some (.slice none 0 0) := HR4.out.cell 3
  have q3 : w4.frozen? ⟨w.heap.size + 1, 3, none⟩ = false := HR4.out.frozen 3
  go_wp2_with fail
  have fin := HR4.out.put4 (.int .i64 (0)) (.int .i64 (ct)) (.int .i64 (vl)) (.slice A4 n c4)
  have hO := O4.out.set4 (g := w.heap.size + 1) ⟨_, HR4.out⟩ (.int .i64 (0)) (.int .i64 (ct)) (.int .i64 (vl)) (.slice A4 n c4)
  have hB := below_set4 B4.out (g := w.heap.size + 1) (by omega) (.int .i64 (0)) (.int .i64 (ct)) (.int .i64 (vl)) (.slice A4 n c4)
  have hres := fun (tmps : Array Value) (hp : tmps.getD 4 undef = .pointer (some ⟨w.heap.size + 1, 0, none⟩)) => results_scn (tmps := tmps) Try.results88 hp fin
  refine bodyPost_ret (hres _ rfl) rfl ?_
  exact ⟨A4, n, c4, rfl, hO, hB, by omega⟩

set_option maxHeartbeats 1600000 in
theorem sstep11y (ct vl : Int) (bs : List Int) (A : Option Addr) (n c : Nat) (w : World) (h : Rd w A n c bs) (hct : 0 ≤ ct ∧ ct ≤ 15) (hvl : 0 ≤ vl ∧ vl ≤ 255) (hn : n ≤ 1048576) (h3 : 3 ≤ ct) :
    Calls Try.prog 88 #[.agg #[.int .i64 1, .int .i64 ct, .int .i64 vl, .slice A n c], .int .i64 1] w (SpecOut ⟨2, 0, vl, bs⟩ n w) := by
  have t : decide (ct ≥ 3) = true := decide_eq_true h3
  have W0 := hide (show Below w.heap.size w ((w.alloc (.cells #[.int .i64 1, .int .i64 ct, .int .i64 vl, .slice A n c] 30)).alloc (.cells #[.int .i64 0, .int .i64 0, .int .i64 0, .slice none 0 0] 30)) by (repeat (first | exact Below.refl _ _ | (refine Below.alloc ?_ (by simp <;> omega) _) | (refine Below.setCell ?_ (by simp <;> omega) _))))
  have S0 := hide ((ScnAt.fresh w #[.int .i64 1, .int .i64 ct, .int .i64 vl, .slice A n c]).below ((Below.refl _ _).alloc (Nat.le_refl _) (.cells #[.int .i64 0, .int .i64 0, .int .i64 0, .slice none 0 0] 30)))
  have R0 := hide (ScnAt.fresh1 w (.cells #[.int .i64 1, .int .i64 ct, .int .i64 vl, .slice A n c] 30) #[.int .i64 0, .int .i64 0, .int .i64 0, .slice none 0 0])
  have H0 := hide (h.below W0.out)
  clear h
  go_enter Try.func88, Try.ntmps88
  go_wp2_with fail
  refine (l19To_any _ _ _ _ _ _ A n c bs _ H0.out hn).mono ?_
  rintro e w2 ⟨A2, c2, rfl, own2, b2⟩
  have b3 := (Below.refl w2.heap.size w2).alloc (Nat.le_refl _) (.cells #[.int .i64 7, .int .i64 ct, .int .i64 vl, .slice A2 n c2] 30)
  have HS := hide ((S0.out.below b2).below b3)
  have HR := hide ((R0.out.below b2).below b3)
  have B3 := hide (below_trans (below_trans W0.out b2) b3)
  have O3 := hide ((own2.mono (B' := w.heap.size) W0.out.size).below b3)
  have H3 := hide ((H0.out.below b2).below b3)
  have hl0 : w.heap.size < w2.heap.size := (S0.out.below b2).lt
  have hl1 : w.heap.size + 1 < w2.heap.size := (R0.out.below b2).lt
  have c0 : w2.cell? ⟨w.heap.size, 0, none⟩ = some (.int .i64 1) := (S0.out.below b2).cell 0
  have c1 : w2.cell? ⟨w.heap.size, 1, none⟩ = some (.int .i64 ct) := (S0.out.below b2).cell 1
  have c2' : w2.cell? ⟨w.heap.size, 2, none⟩ = some (.int .i64 vl) := (S0.out.below b2).cell 2
  have c3 : w2.cell? ⟨w.heap.size, 3, none⟩ = some (.slice A n c) := (S0.out.below b2).cell 3
  clear b2 b3 own2
  go_wp2_with fail
  refine (l19To_any _ _ _ _ _ _ A n c bs _ H3.out hn).mono ?_
  rintro e w4 ⟨A4, c4, rfl, own4, b4⟩
  have HR4 := hide (HR.out.below b4)
  have B4 := hide (below_trans B3.out b4)
  have O4 := hide (own4.mono (B' := w.heap.size) B3.out.size)
  clear c0 c1 c2' c3 b4 own4
  have r0 : w4.cell? ⟨w.heap.size + 1, 0, none⟩ = some (.int .i64 0) := HR4.out.cell 0
  have q0 : w4.frozen? ⟨w.heap.size + 1, 0, none⟩ = false := HR4.out.frozen 0
  have r1 : w4.cell? ⟨w.heap.size + 1, 1, none⟩ = some (.int .i64 0) := HR4.out.cell 1
  have q1 : w4.frozen? ⟨w.heap.size + 1, 1, none⟩ = false := HR4.out.frozen 1
  have r2 : w4.cell? ⟨w.heap.size + 1, 2, none⟩ = some (.int .i64 0) := HR4.out.cell 2
  have q2 : w4.frozen? ⟨w.heap.size + 1, 2, none⟩ = false := HR4.out.frozen 2
  have r3 : w4.cell? ⟨w.heap.size + 1, 3, none⟩ = some (.slice none 0 0) := HR4.out.cell 3
  have q3 : w4.frozen? ⟨w.heap.size + 1, 3, none⟩ = false := HR4.out.frozen 3
  go_wp2_with fail
  have fin := HR4.out.put4 (.int .i64 (2)) (.int .i64 (0)) (.int .i64 (vl)) (.slice A4 n c4)
  have hO := O4.out.set4 (g := w.heap.size + 1) ⟨_, HR4.out⟩ (.int .i64 (2)) (.int .i64 (0)) (.int .i64 (vl)) (.slice A4 n c4)
  have hB := below_set4 B4.out (g := w.heap.size + 1) (by omega) (.int .i64 (2)) (.int .i64 (0)) (.int .i64 (vl)) (.slice A4 n c4)
  have hres := fun (tmps : Array Value) (hp : tmps.getD 4 undef = .pointer (some ⟨w.heap.size + 1, 0, none⟩)) => results_scn (tmps := tmps) Try.results88 hp fin
  refine bodyPost_ret (hres _ rfl) rfl ?_
  exact ⟨A4, n, c4, rfl, hO, hB, by omega⟩

set_option maxHeartbeats 1600000 in
theorem sstep11n (ct vl : Int) (bs : List Int) (A : Option Addr) (n c : Nat) (w : World) (h : Rd w A n c bs) (hct : 0 ≤ ct ∧ ct ≤ 15) (hvl : 0 ≤ vl ∧ vl ≤ 255) (hn : n ≤ 1048576) (h3 : ¬ 3 ≤ ct) :
    Calls Try.prog 88 #[.agg #[.int .i64 1, .int .i64 ct, .int .i64 vl, .slice A n c], .int .i64 1] w (SpecOut ⟨7, ct, vl, bs⟩ n w) := by
  have t : decide (ct ≥ 3) = false := decide_eq_false h3
  have W0 := hide (show Below w.heap.size w ((w.alloc (.cells #[.int .i64 1, .int .i64 ct, .int .i64 vl, .slice A n c] 30)).alloc (.cells #[.int .i64 0, .int .i64 0, .int .i64 0, .slice none 0 0] 30)) by (repeat (first | exact Below.refl _ _ | (refine Below.alloc ?_ (by simp <;> omega) _) | (refine Below.setCell ?_ (by simp <;> omega) _))))
  have S0 := hide ((ScnAt.fresh w #[.int .i64 1, .int .i64 ct, .int .i64 vl, .slice A n c]).below ((Below.refl _ _).alloc (Nat.le_refl _) (.cells #[.int .i64 0, .int .i64 0, .int .i64 0, .slice none 0 0] 30)))
  have R0 := hide (ScnAt.fresh1 w (.cells #[.int .i64 1, .int .i64 ct, .int .i64 vl, .slice A n c] 30) #[.int .i64 0, .int .i64 0, .int .i64 0, .slice none 0 0])
  have H0 := hide (h.below W0.out)
  clear h
  go_enter Try.func88, Try.ntmps88
  go_wp2_with fail
  refine (l19To_any _ _ _ _ _ _ A n c bs _ H0.out hn).mono ?_
  rintro e w2 ⟨A2, c2, rfl, own2, b2⟩
  have b3 := (Below.refl w2.heap.size w2).alloc (Nat.le_refl _) (.cells #[.int .i64 7, .int .i64 ct, .int .i64 vl, .slice A2 n c2] 30)
  have HS := hide ((S0.out.below b2).below b3)
  have HR := hide ((R0.out.below b2).below b3)
  have B3 := hide (below_trans (below_trans W0.out b2) b3)
  have O3 := hide ((own2.mono (B' := w.heap.size) W0.out.size).below b3)
  have H3 := hide ((H0.out.below b2).below b3)
  have hl0 : w.heap.size < w2.heap.size := (S0.out.below b2).lt
  have hl1 : w.heap.size + 1 < w2.heap.size := (R0.out.below b2).lt
  have c0 : w2.cell? ⟨w.heap.size, 0, none⟩ = some (.int .i64 1) := (S0.out.below b2).cell 0
  have c1 : w2.cell? ⟨w.heap.size, 1, none⟩ = some (.int .i64 ct) := (S0.out.below b2).cell 1
  have c2' : w2.cell? ⟨w.heap.size, 2, none⟩ = some (.int .i64 vl) := (S0.out.below b2).cell 2
  have c3 : w2.cell? ⟨w.heap.size, 3, none⟩ = some (.slice A n c) := (S0.out.below b2).cell 3
  have r0 : w2.cell? ⟨w.heap.size + 1, 0, none⟩ = some (.int .i64 0) := (R0.out.below b2).cell 0
  have q0 : w2.frozen? ⟨w.heap.size + 1, 0, none⟩ = false := (R0.out.below b2).frozen 0
  have r1 : w2.cell? ⟨w.heap.size + 1, 1, none⟩ = some (.int .i64 0) := (R0.out.below b2).cell 1
  have q1 : w2.frozen? ⟨w.heap.size + 1, 1, none⟩ = false := (R0.out.below b2).frozen 1
  have r2 : w2.cell? ⟨w.heap.size + 1, 2, none⟩ = some (.int .i64 0) := (R0.out.below b2).cell 2
  have q2 : w2.frozen? ⟨w.heap.size + 1, 2, none⟩ = false := (R0.out.below b2).frozen 2
  have r3 : w2.cell? ⟨w.heap.size + 1, 3, none⟩ = some (.slice none 0 0) := (R0.out.below b2).cell 3
  have q3 : w2.frozen? ⟨w.heap.size + 1, 3, none⟩ = false := (R0.out.below b2).frozen 3
  have HR2 := hide (R0.out.below b2)
  have O2 := hide (own2.mono (B' := w.heap.size) W0.out.size)
  have B2 := hide (below_trans W0.out b2)
  clear b2 b3 own2
  go_wp2_with fail
  have fin := (HR2.out.put4 (.int .i64 7) (.int .i64 ct) (.int .i64 vl) (.slice A2 n c2)).below ((Below.refl _ _).alloc (Nat.le_refl _) (.cells #[.int .i64 7, .int .i64 ct, .int .i64 vl, .slice A2 n c2] 30))
  have hO := (O2.out.set4 (g := w.heap.size + 1) ⟨_, HR2.out⟩ (.int .i64 7) (.int .i64 ct) (.int .i64 vl) (.slice A2 n c2)).below ((Below.refl _ _).alloc (Nat.le_refl _) (.cells #[.int .i64 7, .int .i64 ct, .int .i64 vl, .slice A2 n c2] 30))
  have hB := below_trans (below_set4 B2.out (g := w.heap.size + 1) (by omega) (.int .i64 7) (.int .i64 ct) (.int .i64 vl) (.slice A2 n c2)) ((Below.refl _ _).alloc (Nat.le_refl _) (.cells #[.int .i64 7, .int .i64 ct, .int .i64 vl, .slice A2 n c2] 30))
  have hres := fun (tmps : Array Value) (hp : tmps.getD 4 undef = .pointer (some ⟨w.heap.size + 1, 0, none⟩)) => results_scn (tmps := tmps) Try.results88 hp fin
  refine bodyPost_ret (hres _ rfl) rfl ?_
  exact ⟨A2, n, c2, rfl, hO, hB, by omega⟩

set_option maxHeartbeats 1600000 in
theorem sstep10y (ct vl : Int) (bs : List Int) (A : Option Addr) (n c : Nat) (w : World) (h : Rd w A n c bs) (hct : 0 ≤ ct ∧ ct ≤ 15) (hvl : 0 ≤ vl ∧ vl ≤ 255) (hn : n ≤ 1048576) (h3 : ct < 15) :
    Calls Try.prog 88 #[.agg #[.int .i64 1, .int .i64 ct, .int .i64 vl, .slice A n c], .int .i64 0] w (SpecOut ⟨1, ct + 1, vl, bs⟩ n w) := by
  have t : decide (ct < 15) = true := decide_eq_true h3
  have W0 := hide (show Below w.heap.size w ((w.alloc (.cells #[.int .i64 1, .int .i64 ct, .int .i64 vl, .slice A n c] 30)).alloc (.cells #[.int .i64 0, .int .i64 0, .int .i64 0, .slice none 0 0] 30)) by (repeat (first | exact Below.refl _ _ | (refine Below.alloc ?_ (by simp <;> omega) _) | (refine Below.setCell ?_ (by simp <;> omega) _))))
  have S0 := hide ((ScnAt.fresh w #[.int .i64 1, .int .i64 ct, .int .i64 vl, .slice A n c]).below ((Below.refl _ _).alloc (Nat.le_refl _) (.cells #[.int .i64 0, .int .i64 0, .int .i64 0, .slice none 0 0] 30)))
  have R0 := hide (ScnAt.fresh1 w (.cells #[.int .i64 1, .int .i64 ct, .int .i64 vl, .slice A n c] 30) #[.int .i64 0, .int .i64 0, .int .i64 0, .slice none 0 0])
  have H0 := hide (h.below W0.out)
  clear h
  go_enter Try.func88, Try.ntmps88
  go_wp2_with fail
  refine (l19To_any _ _ _ _ _ _ A n c bs _ H0.out hn).mono ?_
  rintro e w2 ⟨A2, c2, rfl, own2, b2⟩
  have b3 := (Below.refl w2.heap.size w2).alloc (Nat.le_refl _) (.cells #[.int .i64 7, .int .i64 ct, .int .i64 vl, .slice A2 n c2] 30)
  have HS := hide ((S0.out.below b2).below b3)
  have HR := hide ((R0.out.below b2).below b3)
  have B3 := hide (below_trans (below_trans W0.out b2) b3)
  have O3 := hide ((own2.mono (B' := w.heap.size) W0.out.size).below b3)
  have H3 := hide ((H0.out.below b2).below b3)
  have hl0 : w.heap.size < w2.heap.size := (S0.out.below b2).lt
  have hl1 : w.heap.size + 1 < w2.heap.size := (R0.out.below b2).lt
  have c0 : w2.cell? ⟨w.heap.size, 0, none⟩ = some (.int .i64 1) := (S0.out.below b2).cell 0
  have c1 : w2.cell? ⟨w.heap.size, 1, none⟩ = some (.int .i64 ct) := (S0.out.below b2).cell 1
  have c2' : w2.cell? ⟨w.heap.size, 2, none⟩ = some (.int .i64 vl) := (S0.out.below b2).cell 2
  have c3 : w2.cell? ⟨w.heap.size, 3, none⟩ = some (.slice A n c) := (S0.out.below b2).cell 3
  clear b2 b3 own2
  go_wp2_with fail
  refine (l19To_any _ _ _ _ _ _ A n c bs _ H3.out hn).mono ?_
  rintro e w4 ⟨A4, c4, rfl, own4, b4⟩
  have HR4 := hide (HR.out.below b4)
  have B4 := hide (below_trans B3.out b4)
  have O4 := hide (own4.mono (B' := w.heap.size) B3.out.size)
  clear c0 c1 c2' c3 b4 own4
  have r0 : w4.cell? ⟨w.heap.size + 1, 0, none⟩ = some (.int .i64 0) := HR4.out.cell 0
  have q0 : w4.frozen? ⟨w.heap.size + 1, 0, none⟩ = false := HR4.out.frozen 0
  have r1 : w4.cell? ⟨w.heap.size + 1, 1, none⟩ = some (.int .i64 0) := HR4.out.cell 1
  have q1 : w4.frozen? ⟨w.heap.size + 1, 1, none⟩ = false := HR4.out.frozen 1
  have r2 : w4.cell? ⟨w.heap.size + 1, 2, none⟩ = some (.int .i64 0) := HR4.out.cell 2
  have q2 : w4.frozen? ⟨w.heap.size + 1, 2, none⟩ = false := HR4.out.frozen 2
  have r3 : w4.cell? ⟨w.heap.size + 1, 3, none⟩ = some (.slice none 0 0) := HR4.out.cell 3
  have q3 : w4.frozen? ⟨w.heap.size + 1, 3, none⟩ = false := HR4.out.frozen 3
  go_wp2_with fail
  have fin := HR4.out.put4 (.int .i64 (1)) (.int .i64 (ct + 1)) (.int .i64 (vl)) (.slice A4 n c4)
  have hO := O4.out.set4 (g := w.heap.size + 1) ⟨_, HR4.out⟩ (.int .i64 (1)) (.int .i64 (ct + 1)) (.int .i64 (vl)) (.slice A4 n c4)
  have hB := below_set4 B4.out (g := w.heap.size + 1) (by omega) (.int .i64 (1)) (.int .i64 (ct + 1)) (.int .i64 (vl)) (.slice A4 n c4)
  have hres := fun (tmps : Array Value) (hp : tmps.getD 4 undef = .pointer (some ⟨w.heap.size + 1, 0, none⟩)) => results_scn (tmps := tmps) Try.results88 hp fin
  refine bodyPost_ret (hres _ rfl) rfl ?_
  exact ⟨A4, n, c4, rfl, hO, hB, by omega⟩

set_option maxHeartbeats 1600000 in
theorem sstep10n (ct vl : Int) (bs : List Int) (A : Option Addr) (n c : Nat) (w : World) (h : Rd w A n c bs) (hct : 0 ≤ ct ∧ ct ≤ 15) (hvl : 0 ≤ vl ∧ vl ≤ 255) (hn : n ≤ 1048576) (h3 : ¬ ct < 15) :
    Calls Try.prog 88 #[.agg #[.int .i64 1, .int .i64 ct, .int .i64 vl, .slice A n c], .int .i64 0] w (SpecOut ⟨7, ct, vl, bs⟩ n w) := by
  have t : decide (ct < 15) = false := decide_eq_false h3
  have W0 := hide (show Below w.heap.size w ((w.alloc (.cells #[.int .i64 1, .int .i64 ct, .int .i64 vl, .slice A n c] 30)).alloc (.cells #[.int .i64 0, .int .i64 0, .int .i64 0, .slice none 0 0] 30)) by (repeat (first | exact Below.refl _ _ | (refine Below.alloc ?_ (by simp <;> omega) _) | (refine Below.setCell ?_ (by simp <;> omega) _))))
  have S0 := hide ((ScnAt.fresh w #[.int .i64 1, .int .i64 ct, .int .i64 vl, .slice A n c]).below ((Below.refl _ _).alloc (Nat.le_refl _) (.cells #[.int .i64 0, .int .i64 0, .int .i64 0, .slice none 0 0] 30)))
  have R0 := hide (ScnAt.fresh1 w (.cells #[.int .i64 1, .int .i64 ct, .int .i64 vl, .slice A n c] 30) #[.int .i64 0, .int .i64 0, .int .i64 0, .slice none 0 0])
  have H0 := hide (h.below W0.out)
  clear h
  go_enter Try.func88, Try.ntmps88
  go_wp2_with fail
  refine (l19To_any _ _ _ _ _ _ A n c bs _ H0.out hn).mono ?_
  rintro e w2 ⟨A2, c2, rfl, own2, b2⟩
  have b3 := (Below.refl w2.heap.size w2).alloc (Nat.le_refl _) (.cells #[.int .i64 7, .int .i64 ct, .int .i64 vl, .slice A2 n c2] 30)
  have HS := hide ((S0.out.below b2).below b3)
  have HR := hide ((R0.out.below b2).below b3)
  have B3 := hide (below_trans (below_trans W0.out b2) b3)
  have O3 := hide ((own2.mono (B' := w.heap.size) W0.out.size).below b3)
  have H3 := hide ((H0.out.below b2).below b3)
  have hl0 : w.heap.size < w2.heap.size := (S0.out.below b2).lt
  have hl1 : w.heap.size + 1 < w2.heap.size := (R0.out.below b2).lt
  have c0 : w2.cell? ⟨w.heap.size, 0, none⟩ = some (.int .i64 1) := (S0.out.below b2).cell 0
  have c1 : w2.cell? ⟨w.heap.size, 1, none⟩ = some (.int .i64 ct) := (S0.out.below b2).cell 1
  have c2' : w2.cell? ⟨w.heap.size, 2, none⟩ = some (.int .i64 vl) := (S0.out.below b2).cell 2
  have c3 : w2.cell? ⟨w.heap.size, 3, none⟩ = some (.slice A n c) := (S0.out.below b2).cell 3
  have r0 : w2.cell? ⟨w.heap.size + 1, 0, none⟩ = some (.int .i64 0) := (R0.out.below b2).cell 0
  have q0 : w2.frozen? ⟨w.heap.size + 1, 0, none⟩ = false := (R0.out.below b2).frozen 0
  have r1 : w2.cell? ⟨w.heap.size + 1, 1, none⟩ = some (.int .i64 0) := (R0.out.below b2).cell 1
  have q1 : w2.frozen? ⟨w.heap.size + 1, 1, none⟩ = false := (R0.out.below b2).frozen 1
  have r2 : w2.cell? ⟨w.heap.size + 1, 2, none⟩ = some (.int .i64 0) := (R0.out.below b2).cell 2
  have q2 : w2.frozen? ⟨w.heap.size + 1, 2, none⟩ = false := (R0.out.below b2).frozen 2
  have r3 : w2.cell? ⟨w.heap.size + 1, 3, none⟩ = some (.slice none 0 0) := (R0.out.below b2).cell 3
  have q3 : w2.frozen? ⟨w.heap.size + 1, 3, none⟩ = false := (R0.out.below b2).frozen 3
  have HR2 := hide (R0.out.below b2)
  have O2 := hide (own2.mono (B' := w.heap.size) W0.out.size)
  have B2 := hide (below_trans W0.out b2)
  clear b2 b3 own2
  go_wp2_with fail
  have fin := (HR2.out.put4 (.int .i64 7) (.int .i64 ct) (.int .i64 vl) (.slice A2 n c2)).below ((Below.refl _ _).alloc (Nat.le_refl _) (.cells #[.int .i64 7, .int .i64 ct, .int .i64 vl, .slice A2 n c2] 30))
  have hO := (O2.out.set4 (g := w.heap.size + 1) ⟨_, HR2.out⟩ (.int .i64 7) (.int .i64 ct) (.int .i64 vl) (.slice A2 n c2)).below ((Below.refl _ _).alloc (Nat.le_refl _) (.cells #[.int .i64 7, .int .i64 ct, .int .i64 vl, .slice A2 n c2] 30))
  have hB := below_trans (below_set4 B2.out (g := w.heap.size + 1) (by omega) (.int .i64 7) (.int .i64 ct) (.int .i64 vl) (.slice A2 n c2)) ((Below.refl _ _).alloc (Nat.le_refl _) (.cells #[.int .i64 7, .int .i64 ct, .int .i64 vl, .slice A2 n c2] 30))
  have hres := fun (tmps : Array Value) (hp : tmps.getD 4 undef = .pointer (some ⟨w.heap.size + 1, 0, none⟩)) => results_scn (tmps := tmps) Try.results88 hp fin
  refine bodyPost_ret (hres _ rfl) rfl ?_
  exact ⟨A2, n, c2, rfl, hO, hB, by omega⟩

set_option maxHeartbeats 1600000 in
theorem sstep31 (ct vl : Int) (bs : List Int) (A : Option Addr) (n c : Nat) (w : World) (h : Rd w A n c bs) (hct : 0 ≤ ct ∧ ct ≤ 15) (hvl : 0 ≤ vl ∧ vl ≤ 255) (hn : n ≤ 1048576) :
    Calls Try.prog 88 #[.agg #[.int .i64 3, .int .i64 ct, .int .i64 vl, .slice A n c], .int .i64 1] w (SpecOut ⟨7, ct, vl, bs⟩ n w) := by
  have W0 := hide (show Below w.heap.size w ((w.alloc (.cells #[.int .i64 3, .int .i64 ct, .int .i64 vl, .slice A n c] 30)).alloc (.cells #[.int .i64 0, .int .i64 0, .int .i64 0, .slice none 0 0] 30)) by (repeat (first | exact Below.refl _ _ | (refine Below.alloc ?_ (by simp <;> omega) _) | (refine Below.setCell ?_ (by simp <;> omega) _))))
  have S0 := hide ((ScnAt.fresh w #[.int .i64 3, .int .i64 ct, .int .i64 vl, .slice A n c]).below ((Below.refl _ _).alloc (Nat.le_refl _) (.cells #[.int .i64 0, .int .i64 0, .int .i64 0, .slice none 0 0] 30)))
  have R0 := hide (ScnAt.fresh1 w (.cells #[.int .i64 3, .int .i64 ct, .int .i64 vl, .slice A n c] 30) #[.int .i64 0, .int .i64 0, .int .i64 0, .slice none 0 0])
  have H0 := hide (h.below W0.out)
  clear h
  go_enter Try.func88, Try.ntmps88
  go_wp2_with fail
  refine (l19To_any _ _ _ _ _ _ A n c bs _ H0.out hn).mono ?_
  rintro e w2 ⟨A2, c2, rfl, own2, b2⟩
  have b3 := (Below.refl w2.heap.size w2).alloc (Nat.le_refl _) (.cells #[.int .i64 7, .int .i64 ct, .int .i64 vl, .slice A2 n c2] 30)
  have HS := hide ((S0.out.below b2).below b3)
  have HR := hide ((R0.out.below b2).below b3)
  have B3 := hide (below_trans (below_trans W0.out b2) b3)
  have O3 := hide ((own2.mono (B' := w.heap.size) W0.out.size).below b3)
  have H3 := hide ((H0.out.below b2).below b3)
  have hl0 : w.heap.size < w2.heap.size := (S0.out.below b2).lt
  have hl1 : w.heap.size + 1 < w2.heap.size := (R0.out.below b2).lt
  have c0 : w2.cell? ⟨w.heap.size, 0, none⟩ = some (.int .i64 3) := (S0.out.below b2).cell 0
  have c1 : w2.cell? ⟨w.heap.size, 1, none⟩ = some (.int .i64 ct) := (S0.out.below b2).cell 1
  have c2' : w2.cell? ⟨w.heap.size, 2, none⟩ = some (.int .i64 vl) := (S0.out.below b2).cell 2
  have c3 : w2.cell? ⟨w.heap.size, 3, none⟩ = some (.slice A n c) := (S0.out.below b2).cell 3
  have r0 : w2.cell? ⟨w.heap.size + 1, 0, none⟩ = some (.int .i64 0) := (R0.out.below b2).cell 0
  have q0 : w2.frozen? ⟨w.heap.size + 1, 0, none⟩ = false := (R0.out.below b2).frozen 0
  have r1 : w2.cell? ⟨w.heap.size + 1, 1, none⟩ = some (.int .i64 0) := (R0.out.below b2).cell 1
  have q1 : w2.frozen? ⟨w.heap.size + 1, 1, none⟩ = false := (R0.out.below b2).frozen 1
  have r2 : w2.cell? ⟨w.heap.size + 1, 2, none⟩ = some (.int .i64 0) := (R0.out.below b2).cell 2
  have q2 : w2.frozen? ⟨w.heap.size + 1, 2, none⟩ = false := (R0.out.below b2).frozen 2
  have r3 : w2.cell? ⟨w.heap.size + 1, 3, none⟩ = some (.slice none 0 0) := (R0.out.below b2).cell 3
  have q3 : w2.frozen? ⟨w.heap.size + 1, 3, none⟩ = false := (R0.out.below b2).frozen 3
  have HR2 := hide (R0.out.below b2)
  have O2 := hide (own2.mono (B' := w.heap.size) W0.out.size)
  have B2 := hide (below_trans W0.out b2)
  clear b2 b3 own2
  go_wp2_with fail
  have fin := (HR2.out.put4 (.int .i64 7) (.int .i64 ct) (.int .i64 vl) (.slice A2 n c2)).below ((Below.refl _ _).alloc (Nat.le_refl _) (.cells #[.int .i64 7, .int .i64 ct, .int .i64 vl, .slice A2 n c2] 30))
  have hO := (O2.out.set4 (g := w.heap.size + 1) ⟨_, HR2.out⟩ (.int .i64 7) (.int .i64 ct) (.int .i64 vl) (.slice A2 n c2)).below ((Below.refl _ _).alloc (Nat.le_refl _) (.cells #[.int .i64 7, .int .i64 ct, .int .i64 vl, .slice A2 n c2] 30))
  have hB := below_trans (below_set4 B2.out (g := w.heap.size + 1) (by omega) (.int .i64 7) (.int .i64 ct) (.int .i64 vl) (.slice A2 n c2)) ((Below.refl _ _).alloc (Nat.le_refl _) (.cells #[.int .i64 7, .int .i64 ct, .int .i64 vl, .slice A2 n c2] 30))
  have hres := fun (tmps : Array Value) (hp : tmps.getD 4 undef = .pointer (some ⟨w.heap.size + 1, 0, none⟩)) => results_scn (tmps := tmps) Try.results88 hp fin
  refine bodyPost_ret (hres _ rfl) rfl ?_
  exact ⟨A2, n, c2, rfl, hO, hB, by omega⟩

set_option maxHeartbeats 1600000 in
theorem sstep30 (ct vl : Int) (bs : List Int) (A : Option Addr) (n c : Nat) (w : World) (h : Rd w A n c bs) (hct : 0 ≤ ct ∧ ct ≤ 15) (hvl : 0 ≤ vl ∧ vl ≤ 255) (hn : n ≤ 1048576) :
    Calls Try.prog 88 #[.agg #[.int .i64 3, .int .i64 ct, .int .i64 vl, .slice A n c], .int .i64 0] w (SpecOut ⟨4, 0, 0, bs⟩ n w) := by
  have W0 := hide (show Below w.heap.size w ((w.alloc (.cells #[.int .i64 3, .int .i64 ct, .int .i64 vl, .slice A n c] 30)).alloc (.cells #[.int .i64 0, .int .i64 0, .int .i64 0, .slice none 0 0] 30)) by (repeat (first | exact Below.refl _ _ | (refine Below.alloc ?_ (by simp <;> omega) _) | (refine Below.setCell ?_ (by simp <;> omega) _))))
  have S0 := hide ((ScnAt.fresh w #[.int .i64 3, .int .i64 ct, .int .i64 vl, .slice A n c]).below ((Below.refl _ _).alloc (Nat.le_refl _) (.cells #[.int .i64 0, .int .i64 0, .int .i64 0, .slice none 0 0] 30)))
  have R0 := hide (ScnAt.fresh1 w (.cells #[.int .i64 3, .int .i64 ct, .int .i64 vl, .slice A n c] 30) #[.int .i64 0, .int .i64 0, .int .i64 0, .slice none 0 0])
  have H0 := hide (h.below W0.out)
  clear h
  go_enter Try.func88, Try.ntmps88
  go_wp2_with fail
  refine (l19To_any _ _ _ _ _ _ A n c bs _ H0.out hn).mono ?_
  rintro e w2 ⟨A2, c2, rfl, own2, b2⟩
  have b3 := (Below.refl w2.heap.size w2).alloc (Nat.le_refl _) (.cells #[.int .i64 7, .int .i64 ct, .int .i64 vl, .slice A2 n c2] 30)
  have HS := hide ((S0.out.below b2).below b3)
  have HR := hide ((R0.out.below b2).below b3)
  have B3 := hide (below_trans (below_trans W0.out b2) b3)
  have O3 := hide ((own2.mono (B' := w.heap.size) W0.out.size).below b3)
  have H3 := hide ((H0.out.below b2).below b3)
  have hl0 : w.heap.size < w2.heap.size := (S0.out.below b2).lt
  have hl1 : w.heap.size + 1 < w2.heap.size := (R0.out.below b2).lt
  have c0 : w2.cell? ⟨w.heap.size, 0, none⟩ = some (.int .i64 3) := (S0.out.below b2).cell 0
  have c1 : w2.cell? ⟨w.heap.size, 1, none⟩ = some (.int .i64 ct) := (S0.out.below b2).cell 1
  have c2' : w2.cell? ⟨w.heap.size, 2, none⟩ = some (.int .i64 vl) := (S0.out.below b2).cell 2
  have c3 : w2.cell? ⟨w.heap.size, 3, none⟩ = some (.slice A n c) := (S0.out.below b2).cell 3
  clear b2 b3 own2
  go_wp2_with fail
  refine (l19To_any _ _ _ _ _ _ A n c bs _ H3.out hn).mono ?_
  rintro e w4 ⟨A4, c4, rfl, own4, b4⟩
  have HR4 := hide (HR.out.below b4)
  have B4 := hide (below_trans B3.out b4)
  have O4 := hide (own4.mono (B' := w.heap.size) B3.out.size)
  clear c0 c1 c2' c3 b4 own4
  have r0 : w4.cell? ⟨w.heap.size + 1, 0, none⟩ = some (.int .i64 0) := HR4.out.cell 0
  have q0 : w4.frozen? ⟨w.heap.size + 1, 0, none⟩ = false := HR4.out.frozen 0
  have r1 : w4.cell? ⟨w.heap.size + 1, 1, none⟩ = some (.int .i64 0) := HR4.out.cell 1
  have q1 : w4.frozen? ⟨w.heap.size + 1, 1, none⟩ = false := HR4.out.frozen 1
  have r2 : w4.cell? ⟨w.heap.size + 1, 2, none⟩ = some (.int .i64 0) := HR4.out.cell 2
  have q2 : w4.frozen? ⟨w.heap.size + 1, 2, none⟩ = false := HR4.out.frozen 2
  have r3 : w4.cell? ⟨w.heap.size + 1, 3, none⟩ = some (.slice none 0 0) := HR4.out.cell 3
  have q3 : w4.frozen? ⟨w.heap.size + 1, 3, none⟩ = false := HR4.out.frozen 3
  go_wp2_with fail
  have fin := HR4.out.put4 (.int .i64 (4)) (.int .i64 (0)) (.int .i64 (0)) (.slice A4 n c4)
  have hO := O4.out.set4 (g := w.heap.size + 1) ⟨_, HR4.out⟩ (.int .i64 (4)) (.int .i64 (0)) (.int .i64 (0)) (.slice A4 n c4)
  have hB := below_set4 B4.out (g := w.heap.size + 1) (by omega) (.int .i64 (4)) (.int .i64 (0)) (.int .i64 (0)) (.slice A4 n c4)
  have hres := fun (tmps : Array Value) (hp : tmps.getD 4 undef = .pointer (some ⟨w.heap.size + 1, 0, none⟩)) => results_scn (tmps := tmps) Try.results88 hp fin
  refine bodyPost_ret (hres _ rfl) rfl ?_
  exact ⟨A4, n, c4, rfl, hO, hB, by omega⟩

set_option maxHeartbeats 1600000 in
theorem sstep4y (ct vl : Int) (bs : List Int) (x : Int) (A : Option Addr) (n c : Nat) (w : World) (h : Rd w A n c bs) (hct : 0 ≤ ct ∧ ct ≤ 15) (hvl : 0 ≤ vl ∧ vl ≤ 255) (hn : n ≤ 1048576) (hx : x = 0 ∨ x = 1) (h3 : ct < 7) :
    Calls Try.prog 88 #[.agg #[.int .i64 4, .int .i64 ct, .int .i64 vl, .slice A n c], .int .i64 x] w (SpecOut ⟨4, ct + 1, 2 * vl + x, bs⟩ n w) := by
  have hx1 : 0 ≤ x ∧ x ≤ 1 := by omega
  have t : decide (ct < 7) = true := decide_eq_true h3
  have W0 := hide (show Below w.heap.size w ((w.alloc (.cells #[.int .i64 4, .int .i64 ct, .int .i64 vl, .slice A n c] 30)).alloc (.cells #[.int .i64 0, .int .i64 0, .int .i64 0, .slice none 0 0] 30)) by (repeat (first | exact Below.refl _ _ | (refine Below.alloc ?_ (by simp <;> omega) _) | (refine Below.setCell ?_ (by simp <;> omega) _))))
  have S0 := hide ((ScnAt.fresh w #[.int .i64 4, .int .i64 ct, .int .i64 vl, .slice A n c]).below ((Below.refl _ _).alloc (Nat.le_refl _) (.cells #[.int .i64 0, .int .i64 0, .int .i64 0, .slice none 0 0] 30)))
  have R0 := hide (ScnAt.fresh1 w (.cells #[.int .i64 4, .int .i64 ct, .int .i64 vl, .slice A n c] 30) #[.int .i64 0, .int .i64 0, .int .i64 0, .slice none 0 0])
  have H0 := hide (h.below W0.out)
  clear h
  go_enter Try.func88, Try.ntmps88
  go_wp2_with fail
  refine (l19To_any _ _ _ _ _ _ A n c bs _ H0.out hn).mono ?_
  rintro e w2 ⟨A2, c2, rfl, own2, b2⟩
  have b3 := (Below.refl w2.heap.size w2).alloc (Nat.le_refl _) (.cells #[.int .i64 7, .int .i64 ct, .int .i64 vl, .slice A2 n c2] 30)
  have HS := hide ((S0.out.below b2).below b3)
  have HR := hide ((R0.out.below b2).below b3)
  have B3 := hide (below_trans (below_trans W0.out b2) b3)
  have O3 := hide ((own2.mono (B' := w.heap.size) W0.out.size).below b3)
  have H3 := hide ((H0.out.below b2).below b3)
  have hl0 : w.heap.size < w2.heap.size := (S0.out.below b2).lt
  have hl1 : w.heap.size + 1 < w2.heap.size := (R0.out.below b2).lt
  have c0 : w2.cell? ⟨w.heap.size, 0, none⟩ = some (.int .i64 4) := (S0.out.below b2).cell 0
  have c1 : w2.cell? ⟨w.heap.size, 1, none⟩ = some (.int .i64 ct) := (S0.out.below b2).cell 1
  have c2' : w2.cell? ⟨w.heap.size, 2, none⟩ = some (.int .i64 vl) := (S0.out.below b2).cell 2
  have c3 : w2.cell? ⟨w.heap.size, 3, none⟩ = some (.slice A n c) := (S0.out.below b2).cell 3
  clear b2 b3 own2
  go_wp2_with fail
  refine (l19To_any _ _ _ _ _ _ A n c bs _ H3.out hn).mono ?_
  rintro e w4 ⟨A4, c4, rfl, own4, b4⟩
  have HR4 := hide (HR.out.below b4)
  have B4 := hide (below_trans B3.out b4)
  have O4 := hide (own4.mono (B' := w.heap.size) B3.out.size)
  clear c0 c1 c2' c3 b4 own4
  have r0 : w4.cell? ⟨w.heap.size + 1, 0, none⟩ = some (.int .i64 0) := HR4.out.cell 0
  have q0 : w4.frozen? ⟨w.heap.size + 1, 0, none⟩ = false := HR4.out.frozen 0
  have r1 : w4.cell? ⟨w.heap.size + 1, 1, none⟩ = some (.int .i64 0) := HR4.out.cell 1
  have q1 : w4.frozen? ⟨w.heap.size + 1, 1, none⟩ = false := HR4.out.frozen 1
  have r2 : w4.cell? ⟨w.heap.size + 1, 2, none⟩ = some (.int .i64 0) := HR4.out.cell 2
  have q2 : w4.frozen? ⟨w.heap.size + 1, 2, none⟩ = false := HR4.out.frozen 2
  have r3 : w4.cell? ⟨w.heap.size + 1, 3, none⟩ = some (.slice none 0 0) := HR4.out.cell 3
  have q3 : w4.frozen? ⟨w.heap.size + 1, 3, none⟩ = false := HR4.out.frozen 3
  go_wp2_with fail
  have fin := HR4.out.put4 (.int .i64 (4)) (.int .i64 (ct + 1)) (.int .i64 (2 * vl + x)) (.slice A4 n c4)
  have hO := O4.out.set4 (g := w.heap.size + 1) ⟨_, HR4.out⟩ (.int .i64 (4)) (.int .i64 (ct + 1)) (.int .i64 (2 * vl + x)) (.slice A4 n c4)
  have hB := below_set4 B4.out (g := w.heap.size + 1) (by omega) (.int .i64 (4)) (.int .i64 (ct + 1)) (.int .i64 (2 * vl + x)) (.slice A4 n c4)
  have hres := fun (tmps : Array Value) (hp : tmps.getD 4 undef = .pointer (some ⟨w.heap.size + 1, 0, none⟩)) => results_scn (tmps := tmps) Try.results88 hp fin
  refine bodyPost_ret (hres _ rfl) rfl ?_
  exact ⟨A4, n, c4, rfl, hO, hB, by omega⟩

set_option maxHeartbeats 1600000 in
theorem sstep51 (ct vl : Int) (bs : List Int) (A : Option Addr) (n c : Nat) (w : World) (h : Rd w A n c bs) (hct : 0 ≤ ct ∧ ct ≤ 15) (hvl : 0 ≤ vl ∧ vl ≤ 255) (hn : n ≤ 1048576) :
    Calls Try.prog 88 #[.agg #[.int .i64 5, .int .i64 ct, .int .i64 vl, .slice A n c], .int .i64 1] w (SpecOut ⟨6, ct, vl, bs⟩ n w) := by
  have W0 := hide (show Below w.heap.size w ((w.alloc (.cells #[.int .i64 5, .int .i64 ct, .int .i64 vl, .slice A n c] 30)).alloc (.cells #[.int .i64 0, .int .i64 0, .int .i64 0, .slice none 0 0] 30)) by (repeat (first | exact Below.refl _ _ | (refine Below.alloc ?_ (by simp <;> omega) _) | (refine Below.setCell ?_ (by simp <;> omega) _))))
  have S0 := hide ((ScnAt.fresh w #[.int .i64 5, .int .i64 ct, .int .i64 vl, .slice A n c]).below ((Below.refl _ _).alloc (Nat.le_refl _) (.cells #[.int .i64 0, .int .i64 0, .int .i64 0, .slice none 0 0] 30)))
  have R0 := hide (ScnAt.fresh1 w (.cells #[.int .i64 5, .int .i64 ct, .int .i64 vl, .slice A n c] 30) #[.int .i64 0, .int .i64 0, .int .i64 0, .slice none 0 0])
  have H0 := hide (h.below W0.out)
  clear h
  go_enter Try.func88, Try.ntmps88
  go_wp2_with fail
  refine (l19To_any _ _ _ _ _ _ A n c bs _ H0.out hn).mono ?_
  rintro e w2 ⟨A2, c2, rfl, own2, b2⟩
  have b3 := (Below.refl w2.heap.size w2).alloc (Nat.le_refl _) (.cells #[.int .i64 7, .int .i64 ct, .int .i64 vl, .slice A2 n c2] 30)
  have HS := hide ((S0.out.below b2).below b3)
  have HR := hide ((R0.out.below b2).below b3)
  have B3 := hide (below_trans (below_trans W0.out b2) b3)
  have O3 := hide ((own2.mono (B' := w.heap.size) W0.out.size).below b3)
  have H3 := hide ((H0.out.below b2).below b3)
  have hl0 : w.heap.size < w2.heap.size := (S0.out.below b2).lt
  have hl1 : w.heap.size + 1 < w2.heap.size := (R0.out.below b2).lt
  have c0 : w2.cell? ⟨w.heap.size, 0, none⟩ = some (.int .i64 5) := (S0.out.below b2).cell 0
  have c1 : w2.cell? ⟨w.heap.size, 1, none⟩ = some (.int .i64 ct) := (S0.out.below b2).cell 1
  have c2' : w2.cell? ⟨w.heap.size, 2, none⟩ = some (.int .i64 vl) := (S0.out.below b2).cell 2
  have c3 : w2.cell? ⟨w.heap.size, 3, none⟩ = some (.slice A n c) := (S0.out.below b2).cell 3
  clear b2 b3 own2
  go_wp2_with fail
  refine (l19To_any _ _ _ _ _ _ A n c bs _ H3.out hn).mono ?_
  rintro e w4 ⟨A4, c4, rfl, own4, b4⟩
  have HR4 := hide (HR.out.below b4)
  have B4 := hide (below_trans B3.out b4)
  have O4 := hide (own4.mono (B' := w.heap.size) B3.out.size)
  clear c0 c1 c2' c3 b4 own4
  have r0 : w4.cell? ⟨w.heap.size + 1, 0, none⟩ = some (.int .i64 0) := HR4.out.cell 0
  have q0 : w4.frozen? ⟨w.heap.size + 1, 0, none⟩ = false := HR4.out.frozen 0
  have r1 : w4.cell? ⟨w.heap.size + 1, 1, none⟩ = some (.int .i64 0) := HR4.out.cell 1
  have q1 : w4.frozen? ⟨w.heap.size + 1, 1, none⟩ = false := HR4.out.frozen 1
  have r2 : w4.cell? ⟨w.heap.size + 1, 2, none⟩ = some (.int .i64 0) := HR4.out.cell 2
  have q2 : w4.frozen? ⟨w.heap.size + 1, 2, none⟩ = false := HR4.out.frozen 2
  have r3 : w4.cell? ⟨w.heap.size + 1, 3, none⟩ = some (.slice none 0 0) := HR4.out.cell 3
  have q3 : w4.frozen? ⟨w.heap.size + 1, 3, none⟩ = false := HR4.out.frozen 3
  go_wp2_with fail
  have fin := HR4.out.put4 (.int .i64 (6)) (.int .i64 (ct)) (.int .i64 (vl)) (.slice A4 n c4)
  have hO := O4.out.set4 (g := w.heap.size + 1) ⟨_, HR4.out⟩ (.int .i64 (6)) (.int .i64 (ct)) (.int .i64 (vl)) (.slice A4 n c4)
  have hB := below_set4 B4.out (g := w.heap.size + 1) (by omega) (.int .i64 (6)) (.int .i64 (ct)) (.int .i64 (vl)) (.slice A4 n c4)
  have hres := fun (tmps : Array Value) (hp : tmps.getD 4 undef = .pointer (some ⟨w.heap.size + 1, 0, none⟩)) => results_scn (tmps := tmps) Try.results88 hp fin
  refine bodyPost_ret (hres _ rfl) rfl ?_
  exact ⟨A4, n, c4, rfl, hO, hB, by omega⟩

set_option maxHeartbeats 1600000 in
theorem sstep50 (ct vl : Int) (bs : List Int) (A : Option Addr) (n c : Nat) (w : World) (h : Rd w A n c bs) (hct : 0 ≤ ct ∧ ct ≤ 15) (hvl : 0 ≤ vl ∧ vl ≤ 255) (hn : n ≤ 1048576) :
    Calls Try.prog 88 #[.agg #[.int .i64 5, .int .i64 ct, .int .i64 vl, .slice A n c], .int .i64 0] w (SpecOut ⟨7, ct, vl, bs⟩ n w) := by
  have W0 := hide (show Below w.heap.size w ((w.alloc (.cells #[.int .i64 5, .int .i64 ct, .int .i64 vl, .slice A n c] 30)).alloc (.cells #[.int .i64 0, .int .i64 0, .int .i64 0, .slice none 0 0] 30)) by (repeat (first | exact Below.refl _ _ | (refine Below.alloc ?_ (by simp <;> omega) _) | (refine Below.setCell ?_ (by simp <;> omega) _))))
  have S0 := hide ((ScnAt.fresh w #[.int .i64 5, .int .i64 ct, .int .i64 vl, .slice A n c]).below ((Below.refl _ _).alloc (Nat.le_refl _) (.cells #[.int .i64 0, .int .i64 0, .int .i64 0, .slice none 0 0] 30)))
  have R0 := hide (ScnAt.fresh1 w (.cells #[.int .i64 5, .int .i64 ct, .int .i64 vl, .slice A n c] 30) #[.int .i64 0, .int .i64 0, .int .i64 0, .slice none 0 0])
  have H0 := hide (h.below W0.out)
  clear h
  go_enter Try.func88, Try.ntmps88
  go_wp2_with fail
  refine (l19To_any _ _ _ _ _ _ A n c bs _ H0.out hn).mono ?_
  rintro e w2 ⟨A2, c2, rfl, own2, b2⟩
  have b3 := (Below.refl w2.heap.size w2).alloc (Nat.le_refl _) (.cells #[.int .i64 7, .int .i64 ct, .int .i64 vl, .slice A2 n c2] 30)
  have HS := hide ((S0.out.below b2).below b3)
  have HR := hide ((R0.out.below b2).below b3)
  have B3 := hide (below_trans (below_trans W0.out b2) b3)
  have O3 := hide ((own2.mono (B' := w.heap.size) W0.out.size).below b3)
  have H3 := hide ((H0.out.below b2).below b3)
  have hl0 : w.heap.size < w2.heap.size := (S0.out.below b2).lt
  have hl1 : w.heap.size + 1 < w2.heap.size := (R0.out.below b2).lt
  have c0 : w2.cell? ⟨w.heap.size, 0, none⟩ = some (.int .i64 5) := (S0.out.below b2).cell 0
  have c1 : w2.cell? ⟨w.heap.size, 1, none⟩ = some (.int .i64 ct) := (S0.out.below b2).cell 1
  have c2' : w2.cell? ⟨w.heap.size, 2, none⟩ = some (.int .i64 vl) := (S0.out.below b2).cell 2
  have c3 : w2.cell? ⟨w.heap.size, 3, none⟩ = some (.slice A n c) := (S0.out.below b2).cell 3
  have r0 : w2.cell? ⟨w.heap.size + 1, 0, none⟩ = some (.int .i64 0) := (R0.out.below b2).cell 0
  have q0 : w2.frozen? ⟨w.heap.size + 1, 0, none⟩ = false := (R0.out.below b2).frozen 0
  have r1 : w2.cell? ⟨w.heap.size + 1, 1, none⟩ = some (.int .i64 0) := (R0.out.below b2).cell 1
  have q1 : w2.frozen? ⟨w.heap.size + 1, 1, none⟩ = false := (R0.out.below b2).frozen 1
  have r2 : w2.cell? ⟨w.heap.size + 1, 2, none⟩ = some (.int .i64 0) := (R0.out.below b2).cell 2
  have q2 : w2.frozen? ⟨w.heap.size + 1, 2, none⟩ = false := (R0.out.below b2).frozen 2
  have r3 : w2.cell? ⟨w.heap.size + 1, 3, none⟩ = some (.slice none 0 0) := (R0.out.below b2).cell 3
  have q3 : w2.frozen? ⟨w.heap.size + 1, 3, none⟩ = false := (R0.out.below b2).frozen 3
  have HR2 := hide (R0.out.below b2)
  have O2 := hide (own2.mono (B' := w.heap.size) W0.out.size)
  have B2 := hide (below_trans W0.out b2)
  clear b2 b3 own2
  go_wp2_with fail
  have fin := (HR2.out.put4 (.int .i64 7) (.int .i64 ct) (.int .i64 vl) (.slice A2 n c2)).below ((Below.refl _ _).alloc (Nat.le_refl _) (.cells #[.int .i64 7, .int .i64 ct, .int .i64 vl, .slice A2 n c2] 30))
  have hO := (O2.out.set4 (g := w.heap.size + 1) ⟨_, HR2.out⟩ (.int .i64 7) (.int .i64 ct) (.int .i64 vl) (.slice A2 n c2)).below ((Below.refl _ _).alloc (Nat.le_refl _) (.cells #[.int .i64 7, .int .i64 ct, .int .i64 vl, .slice A2 n c2] 30))
  have hB := below_trans (below_set4 B2.out (g := w.heap.size + 1) (by omega) (.int .i64 7) (.int .i64 ct) (.int .i64 vl) (.slice A2 n c2)) ((Below.refl _ _).alloc (Nat.le_refl _) (.cells #[.int .i64 7, .int .i64 ct, .int .i64 vl, .slice A2 n c2] 30))
  have hres := fun (tmps : Array Value) (hp : tmps.getD 4 undef = .pointer (some ⟨w.heap.size + 1, 0, none⟩)) => results_scn (tmps := tmps) Try.results88 hp fin
  refine bodyPost_ret (hres _ rfl) rfl ?_
  exact ⟨A2, n, c2, rfl, hO, hB, by omega⟩

set_option maxHeartbeats 1600000 in
theorem sstep61 (ct vl : Int) (bs : List Int) (A : Option Addr) (n c : Nat) (w : World) (h : Rd w A n c bs) (hct : 0 ≤ ct ∧ ct ≤ 15) (hvl : 0 ≤ vl ∧ vl ≤ 255) (hn : n ≤ 1048576) :
    Calls Try.prog 88 #[.agg #[.int .i64 6, .int .i64 ct, .int .i64 vl, .slice A n c], .int .i64 1] w (SpecOut ⟨6, ct, vl, bs⟩ n w) := by
  have W0 := hide (show Below w.heap.size w ((w.alloc (.cells #[.int .i64 6, .int .i64 ct, .int .i64 vl, .slice A n c] 30)).alloc (.cells #[.int .i64 0, .int .i64 0, .int .i64 0, .slice none 0 0] 30)) by (repeat (first | exact Below.refl _ _ | (refine Below.alloc ?_ (by simp <;> omega) _) | (refine Below.setCell ?_ (by simp <;> omega) _))))
  have S0 := hide ((ScnAt.fresh w #[.int .i64 6, .int .i64 ct, .int .i64 vl, .slice A n c]).below ((Below.refl _ _).alloc (Nat.le_refl _) (.cells #[.int .i64 0, .int .i64 0, .int .i64 0, .slice none 0 0] 30)))
  have R0 := hide (ScnAt.fresh1 w (.cells #[.int .i64 6, .int .i64 ct, .int .i64 vl, .slice A n c] 30) #[.int .i64 0, .int .i64 0, .int .i64 0, .slice none 0 0])
  have H0 := hide (h.below W0.out)
  clear h
  go_enter Try.func88, Try.ntmps88
  go_wp2_with fail
  refine (l19To_any _ _ _ _ _ _ A n c bs _ H0.out hn).mono ?_
  rintro e w2 ⟨A2, c2, rfl, own2, b2⟩
  have b3 := (Below.refl w2.heap.size w2).alloc (Nat.le_refl _) (.cells #[.int .i64 7, .int .i64 ct, .int .i64 vl, .slice A2 n c2] 30)
  have HS := hide ((S0.out.below b2).below b3)
  have HR := hide ((R0.out.below b2).below b3)
  have B3 := hide (below_trans (below_trans W0.out b2) b3)
  have O3 := hide ((own2.mono (B' := w.heap.size) W0.out.size).below b3)
  have H3 := hide ((H0.out.below b2).below b3)
  have hl0 : w.heap.size < w2.heap.size := (S0.out.below b2).lt
  have hl1 : w.heap.size + 1 < w2.heap.size := (R0.out.below b2).lt
  have c0 : w2.cell? ⟨w.heap.size, 0, none⟩ = some (.int .i64 6) := (S0.out.below b2).cell 0
  have c1 : w2.cell? ⟨w.heap.size, 1, none⟩ = some (.int .i64 ct) := (S0.out.below b2).cell 1
  have c2' : w2.cell? ⟨w.heap.size, 2, none⟩ = some (.int .i64 vl) := (S0.out.below b2).cell 2
  have c3 : w2.cell? ⟨w.heap.size, 3, none⟩ = some (.slice A n c) := (S0.out.below b2).cell 3
  clear b2 b3 own2
  go_wp2_with fail
  refine (l19To_any _ _ _ _ _ _ A n c bs _ H3.out hn).mono ?_
  rintro e w4 ⟨A4, c4, rfl, own4, b4⟩
  have HR4 := hide (HR.out.below b4)
  have B4 := hide (below_trans B3.out b4)
  have O4 := hide (own4.mono (B' := w.heap.size) B3.out.size)
  clear c0 c1 c2' c3 b4 own4
  have r0 : w4.cell? ⟨w.heap.size + 1, 0, none⟩ = some (.int .i64 0) := HR4.out.cell 0
  have q0 : w4.frozen? ⟨w.heap.size + 1, 0, none⟩ = false := HR4.out.frozen 0
  have r1 : w4.cell? ⟨w.heap.size + 1, 1, none⟩ = some (.int .i64 0) := HR4.out.cell 1
  have q1 : w4.frozen? ⟨w.heap.size + 1, 1, none⟩ = false := HR4.out.frozen 1
  have r2 : w4.cell? ⟨w.heap.size + 1, 2, none⟩ = some (.int .i64 0) := HR4.out.cell 2
  have q2 : w4.frozen? ⟨w.heap.size + 1, 2, none⟩ = false := HR4.out.frozen 2
  have r3 : w4.cell? ⟨w.heap.size + 1, 3, none⟩ = some (.slice none 0 0) := HR4.out.cell 3
  have q3 : w4.frozen? ⟨w.heap.size + 1, 3, none⟩ = false := HR4.out.frozen 3
  go_wp2_with fail
  have fin := HR4.out.put4 (.int .i64 (6)) (.int .i64 (ct)) (.int .i64 (vl)) (.slice A4 n c4)
  have hO := O4.out.set4 (g := w.heap.size + 1) ⟨_, HR4.out⟩ (.int .i64 (6)) (.int .i64 (ct)) (.int .i64 (vl)) (.slice A4 n c4)
  have hB := below_set4 B4.out (g := w.heap.size + 1) (by omega) (.int .i64 (6)) (.int .i64 (ct)) (.int .i64 (vl)) (.slice A4 n c4)
  have hres := fun (tmps : Array Value) (hp : tmps.getD 4 undef = .pointer (some ⟨w.heap.size + 1, 0, none⟩)) => results_scn (tmps := tmps) Try.results88 hp fin
  refine bodyPost_ret (hres _ rfl) rfl ?_
  exact ⟨A4, n, c4, rfl, hO, hB, by omega⟩

set_option maxHeartbeats 1600000 in
theorem sstep60 (ct vl : Int) (bs : List Int) (A : Option Addr) (n c : Nat) (w : World) (h : Rd w A n c bs) (hct : 0 ≤ ct ∧ ct ≤ 15) (hvl : 0 ≤ vl ∧ vl ≤ 255) (hn : n ≤ 1048576) :
    Calls Try.prog 88 #[.agg #[.int .i64 6, .int .i64 ct, .int .i64 vl, .slice A n c], .int .i64 0] w (SpecOut ⟨7, ct, vl, bs⟩ n w) := by
  have W0 := hide (show Below w.heap.size w ((w.alloc (.cells #[.int .i64 6, .int .i64 ct, .int .i64 vl, .slice A n c] 30)).alloc (.cells #[.int .i64 0, .int .i64 0, .int .i64 0, .slice none 0 0] 30)) by (repeat (first | exact Below.refl _ _ | (refine Below.alloc ?_ (by simp <;> omega) _) | (refine Below.setCell ?_ (by simp <;> omega) _))))
  have S0 := hide ((ScnAt.fresh w #[.int .i64 6, .int .i64 ct, .int .i64 vl, .slice A n c]).below ((Below.refl _ _).alloc (Nat.le_refl _) (.cells #[.int .i64 0, .int .i64 0, .int .i64 0, .slice none 0 0] 30)))
  have R0 := hide (ScnAt.fresh1 w (.cells #[.int .i64 6, .int .i64 ct, .int .i64 vl, .slice A n c] 30) #[.int .i64 0, .int .i64 0, .int .i64 0, .slice none 0 0])
  have H0 := hide (h.below W0.out)
  clear h
  go_enter Try.func88, Try.ntmps88
  go_wp2_with fail
  refine (l19To_any _ _ _ _ _ _ A n c bs _ H0.out hn).mono ?_
  rintro e w2 ⟨A2, c2, rfl, own2, b2⟩
  have b3 := (Below.refl w2.heap.size w2).alloc (Nat.le_refl _) (.cells #[.int .i64 7, .int .i64 ct, .int .i64 vl, .slice A2 n c2] 30)
  have HS := hide ((S0.out.below b2).below b3)
  have HR := hide ((R0.out.below b2).below b3)
  have B3 := hide (below_trans (below_trans W0.out b2) b3)
  have O3 := hide ((own2.mono (B' := w.heap.size) W0.out.size).below b3)
  have H3 := hide ((H0.out.below b2).below b3)
  have hl0 : w.heap.size < w2.heap.size := (S0.out.below b2).lt
  have hl1 : w.heap.size + 1 < w2.heap.size := (R0.out.below b2).lt
  have c0 : w2.cell? ⟨w.heap.size, 0, none⟩ = some (.int .i64 6) := (S0.out.below b2).cell 0
  have c1 : w2.cell? ⟨w.heap.size, 1, none⟩ = some (.int .i64 ct) := (S0.out.below b2).cell 1
  have c2' : w2.cell? ⟨w.heap.size, 2, none⟩ = some (.int .i64 vl) := (S0.out.below b2).cell 2
  have c3 : w2.cell? ⟨w.heap.size, 3, none⟩ = some (.slice A n c) := (S0.out.below b2).cell 3
  have r0 : w2.cell? ⟨w.heap.size + 1, 0, none⟩ = some (.int .i64 0) := (R0.out.below b2).cell 0
  have q0 : w2.frozen? ⟨w.heap.size + 1, 0, none⟩ = false := (R0.out.below b2).frozen 0
  have r1 : w2.cell? ⟨w.heap.size + 1, 1, none⟩ = some (.int .i64 0) := (R0.out.below b2).cell 1
  have q1 : w2.frozen? ⟨w.heap.size + 1, 1, none⟩ = false := (R0.out.below b2).frozen 1
  have r2 : w2.cell? ⟨w.heap.size + 1, 2, none⟩ = some (.int .i64 0) := (R0.out.below b2).cell 2
  have q2 : w2.frozen? ⟨w.heap.size + 1, 2, none⟩ = false := (R0.out.below b2).frozen 2
  have r3 : w2.cell? ⟨w.heap.size + 1, 3, none⟩ = some (.slice none 0 0) := (R0.out.below b2).cell 3
  have q3 : w2.frozen? ⟨w.heap.size + 1, 3, none⟩ = false := (R0.out.below b2).frozen 3
  have HR2 := hide (R0.out.below b2)
  have O2 := hide (own2.mono (B' := w.heap.size) W0.out.size)
  have B2 := hide (below_trans W0.out b2)
  clear b2 b3 own2
  go_wp2_with fail
  have fin := (HR2.out.put4 (.int .i64 7) (.int .i64 ct) (.int .i64 vl) (.slice A2 n c2)).below ((Below.refl _ _).alloc (Nat.le_refl _) (.cells #[.int .i64 7, .int .i64 ct, .int .i64 vl, .slice A2 n c2] 30))
  have hO := (O2.out.set4 (g := w.heap.size + 1) ⟨_, HR2.out⟩ (.int .i64 7) (.int .i64 ct) (.int .i64 vl) (.slice A2 n c2)).below ((Below.refl _ _).alloc (Nat.le_refl _) (.cells #[.int .i64 7, .int .i64 ct, .int .i64 vl, .slice A2 n c2] 30))
  have hB := below_trans (below_set4 B2.out (g := w.heap.size + 1) (by omega) (.int .i64 7) (.int .i64 ct) (.int .i64 vl) (.slice A2 n c2)) ((Below.refl _ _).alloc (Nat.le_refl _) (.cells #[.int .i64 7, .int .i64 ct, .int .i64 vl, .slice A2 n c2] 30))
  have hres := fun (tmps : Array Value) (hp : tmps.getD 4 undef = .pointer (some ⟨w.heap.size + 1, 0, none⟩)) => results_scn (tmps := tmps) Try.results88 hp fin
  refine bodyPost_ret (hres _ rfl) rfl ?_
  exact ⟨A2, n, c2, rfl, hO, hB, by omega⟩

set_option maxHeartbeats 1600000 in
theorem sstep7 (ct vl : Int) (bs : List Int) (x : Int) (A : Option Addr) (n c : Nat) (w : World) (h : Rd w A n c bs) (hct : 0 ≤ ct ∧ ct ≤ 15) (hvl : 0 ≤ vl ∧ vl ≤ 255) (hn : n ≤ 1048576) (hx : x = 0 ∨ x = 1) :
    Calls Try.prog 88 #[.agg #[.int .i64 7, .int .i64 ct, .int .i64 vl, .slice A n c], .int .i64 x] w (SpecOut ⟨7, ct, vl, bs⟩ n w) := by
  have hx1 : 0 ≤ x ∧ x ≤ 1 := by omega
  have W0 := hide (show Below w.heap.size w ((w.alloc (.cells #[.int .i64 7, .int .i64 ct, .int .i64 vl, .slice A n c] 30)).alloc (.cells #[.int .i64 0, .int .i64 0, .int .i64 0, .slice none 0 0] 30)) by (repeat (first | exact Below.refl _ _ | (refine Below.alloc ?_ (by simp <;> omega) _) | (refine Below.setCell ?_ (by simp <;> omega) _))))
  have S0 := hide ((ScnAt.fresh w #[.int .i64 7, .int .i64 ct, .int .i64 vl, .slice A n c]).below ((Below.refl _ _).alloc (Nat.le_refl _) (.cells #[.int .i64 0, .int .i64 0, .int .i64 0, .slice none 0 0] 30)))
  have R0 := hide (ScnAt.fresh1 w (.cells #[.int .i64 7, .int .i64 ct, .int .i64 vl, .slice A n c] 30) #[.int .i64 0, .int .i64 0, .int .i64 0, .slice none 0 0])
  have H0 := hide (h.below W0.out)
  clear h
  go_enter Try.func88, Try.ntmps88
  go_wp2_with fail
  refine (l19To_any _ _ _ _ _ _ A n c bs _ H0.out hn).mono ?_
  rintro e w2 ⟨A2, c2, rfl, own2, b2⟩
  have b3 := (Below.refl w2.heap.size w2).alloc (Nat.le_refl _) (.cells #[.int .i64 7, .int .i64 ct, .int .i64 vl, .slice A2 n c2] 30)
  have HS := hide ((S0.out.below b2).below b3)
  have HR := hide ((R0.out.below b2).below b3)
  have B3 := hide (below_trans (below_trans W0.out b2) b3)
  have O3 := hide ((own2.mono (B' := w.heap.size) W0.out.size).below b3)
  have H3 := hide ((H0.out.below b2).below b3)
  have hl0 : w.heap.size < w2.heap.size := (S0.out.below b2).lt
  have hl1 : w.heap.size + 1 < w2.heap.size := (R0.out.below b2).lt
  have c0 : w2.cell? ⟨w.heap.size, 0, none⟩ = some (.int .i64 7) := (S0.out.below b2).cell 0
  have c1 : w2.cell? ⟨w.heap.size, 1, none⟩ = some (.int .i64 ct) := (S0.out.below b2).cell 1
  have c2' : w2.cell? ⟨w.heap.size, 2, none⟩ = some (.int .i64 vl) := (S0.out.below b2).cell 2
  have c3 : w2.cell? ⟨w.heap.size, 3, none⟩ = some (.slice A n c) := (S0.out.below b2).cell 3
  clear b2 b3 own2
  go_wp2_with fail
  refine (l19To_any _ _ _ _ _ _ A n c bs _ H3.out hn).mono ?_
  rintro e w4 ⟨A4, c4, rfl, own4, b4⟩
  have HR4 := hide (HR.out.below b4)
  have B4 := hide (below_trans B3.out b4)
  have O4 := hide (own4.mono (B' := w.heap.size) B3.out.size)
  clear c0 c1 c2' c3 b4 own4
  have r0 : w4.cell? ⟨w.heap.size + 1, 0, none⟩ = some (.int .i64 0) := HR4.out.cell 0
  have q0 : w4.frozen? ⟨w.heap.size + 1, 0, none⟩ = false := HR4.out.frozen 0
  have r1 : w4.cell? ⟨w.heap.size + 1, 1, none⟩ = some (.int .i64 0) := HR4.out.cell 1
  have q1 : w4.frozen? ⟨w.heap.size + 1, 1, none⟩ = false := HR4.out.frozen 1
  have r2 : w4.cell? ⟨w.heap.size + 1, 2, none⟩ = some (.int .i64 0) := HR4.out.cell 2
  have q2 : w4.frozen? ⟨w.heap.size + 1, 2, none⟩ = false := HR4.out.frozen 2
  have r3 : w4.cell? ⟨w.heap.size + 1, 3, none⟩ = some (.slice none 0 0) := HR4.out.cell 3
  have q3 : w4.frozen? ⟨w.heap.size + 1, 3, none⟩ = false := HR4.out.frozen 3
  go_wp2_with fail
  have fin := HR4.out.put4 (.int .i64 (7)) (.int .i64 (ct)) (.int .i64 (vl)) (.slice A4 n c4)
  have hO := O4.out.set4 (g := w.heap.size + 1) ⟨_, HR4.out⟩ (.int .i64 (7)) (.int .i64 (ct)) (.int .i64 (vl)) (.slice A4 n c4)
  have hB := below_set4 B4.out (g := w.heap.size + 1) (by omega) (.int .i64 (7)) (.int .i64 (ct)) (.int .i64 (vl)) (.slice A4 n c4)
  have hres := fun (tmps : Array Value) (hp : tmps.getD 4 undef = .pointer (some ⟨w.heap.size + 1, 0, none⟩)) => results_scn (tmps := tmps) Try.results88 hp fin
  refine bodyPost_ret (hres _ rfl) rfl ?_
  exact ⟨A4, n, c4, rfl, hO, hB, by omega⟩

end Go.Proofs.Ytdodhjahihfaiaa
