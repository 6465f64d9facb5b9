/- Contracts: the first wrong cell, by the program. -/
import Derived.Test.YtdodhjahihfaiaaScanB
import Derived.Test.YtdodhjahihfaiaaMoreMath
namespace Go.Proofs.Ytdodhjahihfaiaa
open Go.RowKit
set_option linter.unusedVariables false
set_option linter.unusedSimpArgs false

theorem step_any (B : Nat) (s : Scn) (x : Int) (A : Option Addr) (n c : Nat) (w : World) (hown : Own w B A n c s.bs) (hB : B ≤ w.heap.size) (hp : 0 ≤ s.ph ∧ s.ph ≤ 7) (hct : 0 ≤ s.ct ∧ s.ct ≤ 15) (hvl : 0 ≤ s.vl ∧ s.vl ≤ 255) (h4 : s.ph = 4 → s.ct ≤ 7) (hn : n ≤ 1048576) (hx : x = 0 ∨ x = 1) :
    Calls Try.prog 94 #[.agg #[.int .i64 s.ph, .int .i64 s.ct, .int .i64 s.vl, .slice A n c], .int .i64 x] w (StepOut B (stepS s x) A n c w) := by
  obtain ⟨ph, ct, vl, bs⟩ := s
  simp only at hp hct hvl h4 hown ⊢
  have : ph = 0 ∨ ph = 1 ∨ ph = 2 ∨ ph = 3 ∨ ph = 4 ∨ ph = 5 ∨ ph = 6 ∨ ph = 7 := by omega
  rcases this with rfl | rfl | rfl | rfl | rfl | rfl | rfl | rfl
  · rcases hx with rfl | rfl
    · rw [show stepS ⟨0, ct, vl, bs⟩ 0 = ⟨1, 1, vl, bs⟩ by simp [stepS]]; exact step00 B ct vl bs A n c w hown hB hct hvl hn
    · rw [show stepS ⟨0, ct, vl, bs⟩ 1 = ⟨0, ct, vl, bs⟩ by simp [stepS]]; exact step01 B ct vl bs A n c w hown hB hct hvl hn
  · rcases hx with rfl | rfl
    · by_cases h : ct < 15
      · rw [show stepS ⟨1, ct, vl, bs⟩ 0 = ⟨1, ct + 1, vl, bs⟩ by simp [stepS, h]]; exact step10y B ct vl bs A n c w hown hB hct hvl hn h
      · rw [show stepS ⟨1, ct, vl, bs⟩ 0 = ⟨7, ct, vl, bs⟩ by simp [stepS, h]]; exact step10n B ct vl bs A n c w hown hB hct hvl hn h
    · by_cases h : 3 ≤ ct
      · rw [show stepS ⟨1, ct, vl, bs⟩ 1 = ⟨2, 0, vl, bs⟩ by simp [stepS, h]]; exact step11y B ct vl bs A n c w hown hB hct hvl hn h
      · rw [show stepS ⟨1, ct, vl, bs⟩ 1 = ⟨7, ct, vl, bs⟩ by simp [stepS, h]]; exact step11n B ct vl bs A n c w hown hB hct hvl hn h
  · rcases hx with rfl | rfl
    · rw [show stepS ⟨2, ct, vl, bs⟩ 0 = ⟨5, ct, vl, bs⟩ by simp [stepS]]; exact step20 B ct vl bs A n c w hown hB hct hvl hn
    · rw [show stepS ⟨2, ct, vl, bs⟩ 1 = ⟨3, ct, vl, bs⟩ by simp [stepS]]; exact step21 B ct vl bs A n c w hown hB hct hvl hn
  · rcases hx with rfl | rfl
    · rw [show stepS ⟨3, ct, vl, bs⟩ 0 = ⟨4, 0, 0, bs⟩ by simp [stepS]]; exact step30 B ct vl bs A n c w hown hB hct hvl hn
    · rw [show stepS ⟨3, ct, vl, bs⟩ 1 = ⟨7, ct, vl, bs⟩ by simp [stepS]]; exact step31 B ct vl bs A n c w hown hB hct hvl hn
  · have h7 := h4 rfl
    by_cases h : ct < 7
    · rw [show stepS ⟨4, ct, vl, bs⟩ x = ⟨4, ct + 1, 2 * vl + x, bs⟩ by simp [stepS, h]]; exact step4y B ct vl bs x A n c w hown hB hct hvl hn hx h
    · obtain rfl : ct = 7 := by omega
      rw [show stepS ⟨4, 7, vl, bs⟩ x = ⟨2, 0, 0, bs ++ [2 * vl + x]⟩ by simp [stepS]]; exact step4n B vl bs x A n c w hown hB hvl hn hx
  · rcases hx with rfl | rfl
    · rw [show stepS ⟨5, ct, vl, bs⟩ 0 = ⟨7, ct, vl, bs⟩ by simp [stepS]]; exact step50 B ct vl bs A n c w hown hB hct hvl hn
    · rw [show stepS ⟨5, ct, vl, bs⟩ 1 = ⟨6, ct, vl, bs⟩ by simp [stepS]]; exact step51 B ct vl bs A n c w hown hB hct hvl hn
  · rcases hx with rfl | rfl
    · rw [show stepS ⟨6, ct, vl, bs⟩ 0 = ⟨7, ct, vl, bs⟩ by simp [stepS]]; exact step60 B ct vl bs A n c w hown hB hct hvl hn
    · rw [show stepS ⟨6, ct, vl, bs⟩ 1 = ⟨6, ct, vl, bs⟩ by simp [stepS]]; exact step61 B ct vl bs A n c w hown hB hct hvl hn
  · rw [show stepS ⟨7, ct, vl, bs⟩ x = ⟨7, ct, vl, bs⟩ by simp [stepS]]; exact step7 B ct vl bs x A n c w hown hB hct hvl hn hx
theorem results_iscn {fn : Func} {t u : Tmp} (h : fn.results = #[.tmp u, .cell t 30]) {tmps : Array Value} {w : World} {g : Nat} {a b c d x : Value} (hp : tmps.getD t undef = .pointer (some ⟨g, 0, none⟩)) (hx : tmps.getD u undef = x) (hs : ScnAt w g #[a, b, c, d]) :
    (results fn tmps).run Try.prog w = .ok (.tuple #[x, .agg #[a, b, c, d]]) w := by
  have d0 : w.cell? ⟨g, 0, none⟩ = some a := hs.cell 0
  have d1 : w.cell? ⟨g, 1, none⟩ = some b := hs.cell 1
  have d2 : w.cell? ⟨g, 2, none⟩ = some c := hs.cell 2
  have d3 : w.cell? ⟨g, 3, none⟩ = some d := hs.cell 3
  rw [Array.getD_eq_getD_getElem?] at hp hx
  simp [results, h, hp, hx, go_sem, d0, d1, d2, d3]
/-- after all cells -/
def scnEnd (zs : List Int) : Scn := scanTo zeroS zs zs.length
def fwR (zs : List Int) : Int := fwTo zs zs.length
theorem fwR_none {zs : List Int} (h : ∀ j, j ≤ zs.length → (scanTo zeroS zs j).ph ≠ 7) : fwR zs = -1 := fw_none h
theorem fwR_at {zs : List Int} {k : Nat} (h : ∀ j, j ≤ k → (scanTo zeroS zs j).ph ≠ 7) (h7 : (scanTo zeroS zs (k + 1)).ph = 7) (hk : k < zs.length) : fwR zs = (k : Int) ∧ scnEnd zs = scanTo zeroS zs (k + 1) := by
  refine ⟨fw_at h h7 hk, ?_⟩
  have := scan_wrong h7 (zs.length - (k + 1))
  rw [show k + 1 + (zs.length - (k + 1)) = zs.length by omega] at this
  exact this
theorem Own.set4 {w : World} {g : Nat} {B m d : Nat} {A' : Option Addr} {zs : List Int} (h : Own w B A' m d zs) (hs : ∃ cs, ScnAt w g cs) (a b c e : Value) : Own ((((w.setCell ⟨g, 0, none⟩ a).setCell ⟨g, 1, none⟩ b).setCell ⟨g, 2, none⟩ c).setCell ⟨g, 3, none⟩ e) B A' m d zs :=
  (((h.setScn hs 0 a).setScn (ScnAt.set hs g 0 a) 1 b).setScn (ScnAt.set (ScnAt.set hs g 0 a) g 1 b) 2 c).setScn (ScnAt.set (ScnAt.set (ScnAt.set hs g 0 a) g 1 b) g 2 c) 3 e
theorem ScnAt.other4 {w : World} {g g' : Nat} {cs : Array Value} (h : ScnAt w g' cs) (hne : g' ≠ g) (a b c e : Value) : ScnAt ((((w.setCell ⟨g, 0, none⟩ a).setCell ⟨g, 1, none⟩ b).setCell ⟨g, 2, none⟩ c).setCell ⟨g, 3, none⟩ e) g' cs :=
  (((h.other hne 0 a).other hne 1 b).other hne 2 c).other hne 3 e
theorem below_set4 {w0 w : World} {B g : Nat} (h : Below B w0 w) (hg : B ≤ g) (a b c e : Value) : Below B w0 ((((w.setCell ⟨g, 0, none⟩ a).setCell ⟨g, 1, none⟩ b).setCell ⟨g, 2, none⟩ c).setCell ⟨g, 3, none⟩ e) :=
  (((h.setCell (p := ⟨g, 0, none⟩) hg a).setCell (p := ⟨g, 1, none⟩) hg b).setCell (p := ⟨g, 2, none⟩) hg c).setCell (p := ⟨g, 3, none⟩) hg e
theorem ScnAt.drew {w : World} {g : Nat} {cs : Array Value} (h : ScnAt w g cs) : ScnAt w.drew g cs := h
def scn0 : Array Value := #[.int .i64 0, .int .i64 0, .int .i64 0, .slice none 0 0]
set_option maxHeartbeats 3200000 in
theorem firstWrong_any (A : Option Addr) (n c : Nat) (zs : List Int) (w : World) (h : Rd w A n c zs) (hn : n ≤ 8192) (hb : allB 0 1 zs = true) :
    Calls Try.prog 87 #[.slice A n c] w fun e w' => ∃ A' m c', e = .returned (.tuple #[.int .i64 (fwR zs), .agg #[.int .i64 (scnEnd zs).ph, .int .i64 (scnEnd zs).ct, .int .i64 (scnEnd zs).vl, .slice A' m c']]) ∧ Own w' w.heap.size A' m c' (scnEnd zs).bs ∧ Below w.heap.size w w' ∧ m ≤ 1048576 := by
  have hlen := h.le
  have hcap := h.cap
  go_enter Try.func87, Try.ntmps87
  go_wp2
  go_loopw [10] (fun i wr => ∃ (k : Nat) (s : Scn) (A' : Option Addr) (m c' : Nat), k ≤ n ∧ i = .int .i64 k ∧ Hid (s = scanTo zeroS zs k) ∧ Hid (∀ j, j ≤ k → (scanTo zeroS zs j).ph ≠ 7) ∧ Hid (ScnAt wr w.heap.size #[.int .i64 0, .int .i64 0, .int .i64 0, .slice none 0 0]) ∧ Hid (ScnAt wr (w.heap.size + 1 + 1) #[.int .i64 s.ph, .int .i64 s.ct, .int .i64 s.vl, .slice A' m c']) ∧ Own wr w.heap.size A' m c' s.bs ∧ m ≤ k ∧ Below w.heap.size w wr) (fun i _ => n - (intOf i).toNat)
  case atStart =>
    have b1 : Below w.heap.size w (w.alloc (.cells #[.int .i64 0, .int .i64 0, .int .i64 0, .slice none 0 0] 30)) := (Below.refl _ _).alloc (Nat.le_refl _) _
    have b2 := (Below.refl _ (w.alloc (.cells #[.int .i64 0, .int .i64 0, .int .i64 0, .slice none 0 0] 30))).alloc (Nat.le_refl _) (.cells #[.int .i64 0, .int .i64 0, .int .i64 0, .slice none 0 0] 30)
    have b3 := (Below.refl _ ((w.alloc (.cells #[.int .i64 0, .int .i64 0, .int .i64 0, .slice none 0 0] 30)).alloc (.cells #[.int .i64 0, .int .i64 0, .int .i64 0, .slice none 0 0] 30))).alloc (Nat.le_refl _) (.cells #[.int .i64 0, .int .i64 0, .int .i64 0, .slice none 0 0] 30)
    have hs3 := ScnAt.fresh1 (w.alloc (.cells #[.int .i64 0, .int .i64 0, .int .i64 0, .slice none 0 0] 30)) (.cells #[.int .i64 0, .int .i64 0, .int .i64 0, .slice none 0 0] 30) #[.int .i64 0, .int .i64 0, .int .i64 0, .slice none 0 0]
    rw [show (w.alloc (.cells #[.int .i64 0, .int .i64 0, .int .i64 0, .slice none 0 0] 30)).heap.size = w.heap.size + 1 by simp] at hs3
    exact ⟨0, zeroS, none, 0, 0, by omega, rfl, rfl, fun j hj => by obtain rfl : j = 0 := (by omega); show (0 : Int) ≠ 7; decide, ((ScnAt.fresh w _).below b2).below b3, hs3, Own.nil _ _, by omega, below_trans (below_trans b1 b2) b3⟩
  case round =>
    obtain ⟨k, s, A', m, c', hk, rfl, hsk, hno, hR, hS, hown, hmk, hbel⟩ := hrel
    have hsz := hbel.size
    have hsl := hS.out.lt
    by_cases hlt : k < n
    · obtain ⟨b, off, rfl, hbb, hc⟩ := h.at_ (by omega)
      have hck := (hbel.cell (p := ⟨b, off + k, none⟩) hbb).trans (hc k hlt)
      have hx0 := allB_get hb k (by omega)
      have hst := hide (scanTo_succ zeroS zs k)
      have hfac := (Inv.scan hb k (by omega)).facts
      rw [← hsk.out] at hfac
      obtain ⟨i1, i2, i3, _, _, i6⟩ := hfac
      obtain ⟨x, hxe⟩ : ∃ x, x = nth zs k := ⟨_, rfl⟩
      rw [← hxe] at hck hx0
      have hst2 : Hid (scanTo zeroS zs (k + 1) = stepS s x) := by
        show _ = _
        rw [hst.out, hsk.out, hxe]
      have hx : x = 0 ∨ x = 1 := by omega
      have c0 : wr.cell? ⟨w.heap.size + 1 + 1, 0, none⟩ = some (.int .i64 s.ph) := hS.out.cell 0
      have c1 : wr.cell? ⟨w.heap.size + 1 + 1, 1, none⟩ = some (.int .i64 s.ct) := hS.out.cell 1
      have c2 : wr.cell? ⟨w.heap.size + 1 + 1, 2, none⟩ = some (.int .i64 s.vl) := hS.out.cell 2
      have c3 : wr.cell? ⟨w.heap.size + 1 + 1, 3, none⟩ = some (.slice A' m c') := hS.out.cell 3
      have i7 : s.ph = 4 → s.ct ≤ 7 := fun e => (i6 e).1
      clear hc i6 hst hxe hx0
      by_cases h7 : (stepS s x).ph = 7
      · have t7 : ((stepS s x).ph == 7) = true := by simpa using h7
        go_wp2_with (go_at_call 94; refine (step_any w.heap.size s x A' m c' _ hown hsz i1 i2 i3 i7 (by omega) hx).mono ?_; rintro e w2 ⟨A2, m2, d2, rfl, own2, gr2, hm2⟩; have HS2 := hide (hS.out.keepOwn hown gr2); have HR2 := hide (hR.out.keepOwn hown gr2); have B2 := hide (below_own hbel hsz hown (Nat.le_refl _) gr2); clear c0 c1 c2 c3; have c0 : w2.cell? ⟨w.heap.size + 1 + 1, 0, none⟩ = some (.int .i64 s.ph) := HS2.out.cell 0; have c1 : w2.cell? ⟨w.heap.size + 1 + 1, 1, none⟩ = some (.int .i64 s.ct) := HS2.out.cell 1; have c2 : w2.cell? ⟨w.heap.size + 1 + 1, 2, none⟩ = some (.int .i64 s.vl) := HS2.out.cell 2; have c3 : w2.cell? ⟨w.heap.size + 1 + 1, 3, none⟩ = some (.slice A' m c') := HS2.out.cell 3; have f0 := HS2.out.frozen 0; have f1 := HS2.out.frozen 1; have f2 := HS2.out.frozen 2; have f3 := HS2.out.frozen 3; have r0 : w2.cell? ⟨w.heap.size, 0, none⟩ = some (.int .i64 0) := HR2.out.cell 0; have r1 : w2.cell? ⟨w.heap.size, 1, none⟩ = some (.int .i64 0) := HR2.out.cell 1; have r2 : w2.cell? ⟨w.heap.size, 2, none⟩ = some (.int .i64 0) := HR2.out.cell 2; have r3 : w2.cell? ⟨w.heap.size, 3, none⟩ = some (.slice none 0 0) := HR2.out.cell 3; have q0 := HR2.out.frozen 0; have q1 := HR2.out.frozen 1; have q2 := HR2.out.frozen 2; have q3 := HR2.out.frozen 3)
        go_region
        go_wp2
        have e0 := fwR_at (zs := zs) (k := k) hno.out (by rw [hst2.out]; exact h7) (by omega)
        have hr1 := HR2.out.other4 (g := w.heap.size + 1 + 1) (by omega) (.int .i64 7) (.int .i64 (stepS s x).ct) (.int .i64 (stepS s x).vl) (.slice A2 m2 d2)
        have fin := (hr1.put4 (.int .i64 7) (.int .i64 (stepS s x).ct) (.int .i64 (stepS s x).vl) (.slice A2 m2 d2)).drew
        have hO := ((own2.set4 (g := w.heap.size + 1 + 1) ⟨_, HS2.out⟩ (.int .i64 7) (.int .i64 (stepS s x).ct) (.int .i64 (stepS s x).vl) (.slice A2 m2 d2)).set4 (g := w.heap.size) ⟨_, hr1⟩ (.int .i64 7) (.int .i64 (stepS s x).ct) (.int .i64 (stepS s x).vl) (.slice A2 m2 d2)).drew
        have hB := (below_set4 (below_set4 B2.out (g := w.heap.size + 1 + 1) (by omega) (.int .i64 7) (.int .i64 (stepS s x).ct) (.int .i64 (stepS s x).vl) (.slice A2 m2 d2)) (g := w.heap.size) (Nat.le_refl _) (.int .i64 7) (.int .i64 (stepS s x).ct) (.int .i64 (stepS s x).vl) (.slice A2 m2 d2)).drew
        have hres := fun (tmps : Array Value) (hp : tmps.getD 3 undef = .pointer (some ⟨w.heap.size, 0, none⟩)) (hx : tmps.getD 2 undef = .int .i64 k) => results_iscn (tmps := tmps) Try.results87 hp hx fin
        refine bodyPost_ret (hres _ rfl rfl) rfl ?_
        rw [e0.1, e0.2, hst2.out, h7]
        exact ⟨A2, m2, d2, rfl, hO, hB, by omega⟩
      · have t7 : ((stepS s x).ph == 7) = false := by simpa using h7
        go_wp2_with (go_at_call 94; refine (step_any w.heap.size s x A' m c' _ hown hsz i1 i2 i3 i7 (by omega) hx).mono ?_; rintro e w2 ⟨A2, m2, d2, rfl, own2, gr2, hm2⟩; have HS2 := hide (hS.out.keepOwn hown gr2); have HR2 := hide (hR.out.keepOwn hown gr2); have B2 := hide (below_own hbel hsz hown (Nat.le_refl _) gr2); clear c0 c1 c2 c3; have c0 : w2.cell? ⟨w.heap.size + 1 + 1, 0, none⟩ = some (.int .i64 s.ph) := HS2.out.cell 0; have c1 : w2.cell? ⟨w.heap.size + 1 + 1, 1, none⟩ = some (.int .i64 s.ct) := HS2.out.cell 1; have c2 : w2.cell? ⟨w.heap.size + 1 + 1, 2, none⟩ = some (.int .i64 s.vl) := HS2.out.cell 2; have c3 : w2.cell? ⟨w.heap.size + 1 + 1, 3, none⟩ = some (.slice A' m c') := HS2.out.cell 3; have f0 := HS2.out.frozen 0; have f1 := HS2.out.frozen 1; have f2 := HS2.out.frozen 2; have f3 := HS2.out.frozen 3; have r0 : w2.cell? ⟨w.heap.size, 0, none⟩ = some (.int .i64 0) := HR2.out.cell 0; have r1 : w2.cell? ⟨w.heap.size, 1, none⟩ = some (.int .i64 0) := HR2.out.cell 1; have r2 : w2.cell? ⟨w.heap.size, 2, none⟩ = some (.int .i64 0) := HR2.out.cell 2; have r3 : w2.cell? ⟨w.heap.size, 3, none⟩ = some (.slice none 0 0) := HR2.out.cell 3; have q0 := HR2.out.frozen 0; have q1 := HR2.out.frozen 1; have q2 := HR2.out.frozen 2; have q3 := HR2.out.frozen 3)
        have hno2 : Hid (∀ j, j ≤ k + 1 → (scanTo zeroS zs j).ph ≠ 7) := by
          intro j hj
          by_cases e : j = k + 1
          · subst e; rw [hst2.out]; exact h7
          · exact hno.out j (by omega)
        have hr1 := HR2.out.other4 (g := w.heap.size + 1 + 1) (by omega) (.int .i64 (stepS s x).ph) (.int .i64 (stepS s x).ct) (.int .i64 (stepS s x).vl) (.slice A2 m2 d2)
        have hs1 := HS2.out.put4 (.int .i64 (stepS s x).ph) (.int .i64 (stepS s x).ct) (.int .i64 (stepS s x).vl) (.slice A2 m2 d2)
        have hO := own2.set4 (g := w.heap.size + 1 + 1) ⟨_, HS2.out⟩ (.int .i64 (stepS s x).ph) (.int .i64 (stepS s x).ct) (.int .i64 (stepS s x).vl) (.slice A2 m2 d2)
        have hB := below_set4 B2.out (g := w.heap.size + 1 + 1) (by omega) (.int .i64 (stepS s x).ph) (.int .i64 (stepS s x).ct) (.int .i64 (stepS s x).vl) (.slice A2 m2 d2)
        go_roundw
        case rel => exact ⟨k + 1, stepS s x, A2, m2, d2, by omega, by go_num, hst2.out.symm, hno2, hr1, hs1, hO, by omega, hB⟩
        case measure => simp [intOf]; omega
    · obtain rfl : k = n := by omega
      have c0 : wr.cell? ⟨w.heap.size + 1 + 1, 0, none⟩ = some (.int .i64 s.ph) := hS.out.cell 0
      have c1 : wr.cell? ⟨w.heap.size + 1 + 1, 1, none⟩ = some (.int .i64 s.ct) := hS.out.cell 1
      have c2 : wr.cell? ⟨w.heap.size + 1 + 1, 2, none⟩ = some (.int .i64 s.vl) := hS.out.cell 2
      have c3 : wr.cell? ⟨w.heap.size + 1 + 1, 3, none⟩ = some (.slice A' m c') := hS.out.cell 3
      have r0 : wr.cell? ⟨w.heap.size, 0, none⟩ = some (.int .i64 0) := hR.out.cell 0
      have r1 : wr.cell? ⟨w.heap.size, 1, none⟩ = some (.int .i64 0) := hR.out.cell 1
      have r2 : wr.cell? ⟨w.heap.size, 2, none⟩ = some (.int .i64 0) := hR.out.cell 2
      have r3 : wr.cell? ⟨w.heap.size, 3, none⟩ = some (.slice none 0 0) := hR.out.cell 3
      have q0 := hR.out.frozen 0
      have q1 := hR.out.frozen 1
      have q2 := hR.out.frozen 2
      have q3 := hR.out.frozen 3
      go_wp2
      go_region
      go_wp2
      have e0 := fwR_none (zs := zs) (fun j hj => hno.out j (by omega))
      have e1 : scnEnd zs = s := by
        rw [hsk.out, scnEnd]
        congr 1
        omega
      have fin := (hR.out.put4 (.int .i64 s.ph) (.int .i64 s.ct) (.int .i64 s.vl) (.slice A' m c')).drew
      have hO := (hown.set4 (g := w.heap.size) ⟨_, hR.out⟩ (.int .i64 s.ph) (.int .i64 s.ct) (.int .i64 s.vl) (.slice A' m c')).drew
      have hB := (below_set4 hbel (g := w.heap.size) (Nat.le_refl _) (.int .i64 s.ph) (.int .i64 s.ct) (.int .i64 s.vl) (.slice A' m c')).drew
      have hres := fun (tmps : Array Value) (hp : tmps.getD 3 undef = .pointer (some ⟨w.heap.size, 0, none⟩)) (hx : tmps.getD 2 undef = .int .i64 (-1)) => results_iscn (tmps := tmps) Try.results87 hp hx fin
      refine bodyPost_ret (hres _ rfl rfl) rfl ?_
      rw [e0, e1]
      exact ⟨A', m, c', rfl, hO, hB, by omega⟩
end Go.Proofs.Ytdodhjahihfaiaa
