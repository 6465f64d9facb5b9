/- Contracts: the cells of a list read, by the program. Written by gen_scanp.py. -/
import Derived.Test.YtdodhjahihfaiaaScanP
namespace Go.Proofs.Ytdodhjahihfaiaa
open Go.RowKit
set_option linter.unusedVariables false
set_option linter.unusedSimpArgs false

set_option maxHeartbeats 6400000 in
set_option maxRecDepth 100000 in
theorem iScanCells_c (s : Scn) (A : Option Addr) (n c : Nat) (A1 : Option Addr) (n1 c1 : Nat) (zs : List Int) (w : World) (h : Rd w A n c s.bs) (h1 : Rd w A1 n1 c1 zs) (hn : n ≤ 1048576) (hn1 : n1 ≤ 1048576) :
    Calls Try.prog 56 #[.agg #[.int .i64 s.ph, .int .i64 s.ct, .int .i64 s.vl, .slice A n c], .slice A1 n1 c1] w (ScOut (scR s zs) w) := by
  have hlen := h1.le
  have hcap := h1.cap
  have W0 := hide (show Below w.heap.size w ((w.alloc (.cells #[.int .i64 s.ph, .int .i64 s.ct, .int .i64 s.vl, .slice A n c] 30)).alloc (.cells #[.int .i64 0, .int .i64 0, .int .i64 0, .slice none 0 0] 30)) by (repeat (first | exact Below.refl _ _ | (refine Below.alloc ?_ (by simp <;> omega) _) | (refine Below.setCell ?_ (by simp <;> omega) _))))
  have S0 := hide ((ScnAt.fresh w #[.int .i64 s.ph, .int .i64 s.ct, .int .i64 s.vl, .slice A n c]).below ((Below.refl _ _).alloc (Nat.le_refl _) (.cells #[.int .i64 0, .int .i64 0, .int .i64 0, .slice none 0 0] 30)))
  have R0 := hide (ScnAt.fresh1 w (.cells #[.int .i64 s.ph, .int .i64 s.ct, .int .i64 s.vl, .slice A n c] 30) #[.int .i64 0, .int .i64 0, .int .i64 0, .slice none 0 0])
  have H0 := hide (h.below W0.out)
  go_enter Try.func56, Try.ntmps56
  cases e1 : scnB s
  · go_wp2_with fail
    refine (iIsScan_c s A n c _ H0.out).mono ?_
    rintro e w2 ⟨rfl, b2⟩
    have HR := hide (R0.out.below b2)
    have B2 := hide (below_trans W0.out b2)
    have r0 : w2.cell? ⟨w.heap.size + 1, 0, none⟩ = some (.int .i64 0) := HR.out.cell 0
    have r1 : w2.cell? ⟨w.heap.size + 1, 1, none⟩ = some (.int .i64 0) := HR.out.cell 1
    have r2 : w2.cell? ⟨w.heap.size + 1, 2, none⟩ = some (.int .i64 0) := HR.out.cell 2
    have r3 : w2.cell? ⟨w.heap.size + 1, 3, none⟩ = some (.slice none 0 0) := HR.out.cell 3
    have q0 := HR.out.frozen 0
    have q1 := HR.out.frozen 1
    have q2 := HR.out.frozen 2
    have q3 := HR.out.frozen 3
    clear b2
    go_wp2_with fail
    have fin := HR.out.put4 (.int .i64 0) (.int .i64 0) (.int .i64 0) (.slice none 0 0)
    have hB := below_set4 B2.out (g := w.heap.size + 1) (by omega) (.int .i64 0) (.int .i64 0) (.int .i64 0) (.slice none 0 0)
    have hres := fun (tmps : Array Value) (hp : tmps.getD 4 undef = .pointer (some ⟨w.heap.size + 1, 0, none⟩)) (hx : tmps.getD 5 undef = .int .i64 1) => results_scni (tmps := tmps) Try.results56 hp hx fin
    refine bodyPost_ret (hres _ rfl rfl) rfl ?_
    rw [scR_no e1]
    exact ⟨none, 0, 0, rfl, Own.nil _ _, hB, by omega⟩
  · go_wp2_with fail
    refine (iIsScan_c s A n c _ H0.out).mono ?_
    rintro e w2 ⟨rfl, b2⟩
    rw [e1]
    have HR := hide (R0.out.below b2)
    have HS := hide (S0.out.below b2)
    have B2 := hide (below_trans W0.out b2)
    have H2 := hide (H0.out.below b2)
    have y0 : w2.cell? ⟨w.heap.size, 0, none⟩ = some (.int .i64 s.ph) := HS.out.cell 0
    have y1 : w2.cell? ⟨w.heap.size, 1, none⟩ = some (.int .i64 s.ct) := HS.out.cell 1
    have y2 : w2.cell? ⟨w.heap.size, 2, none⟩ = some (.int .i64 s.vl) := HS.out.cell 2
    have y3 : w2.cell? ⟨w.heap.size, 3, none⟩ = some (.slice A n c) := HS.out.cell 3
    have f0 := HS.out.frozen 0
    have f1 := HS.out.frozen 1
    have f2 := HS.out.frozen 2
    have f3 := HS.out.frozen 3
    clear b2
    go_wp2_with fail
    refine (own_any s.ph s.ct s.vl A n c s.bs _ H2.out hn).mono ?_
    rintro e w3 ⟨A3, c3, rfl, own3, b3⟩
    have HR3 := hide (HR.out.below b3)
    have HS3 := hide (HS.out.below b3)
    have B3 := hide (below_trans B2.out b3)
    have O3 := hide (own3.mono (B' := w.heap.size) B2.out.size)
    have hm3 : n ≤ 1024 := by have := (scnB_get e1).2.1.1; have := h.len; omega
    clear b3 own3 y0 y1 y2 y3 f0 f1 f2 f3
    have u0 : w3.cell? ⟨w.heap.size, 0, none⟩ = some (.int .i64 s.ph) := HS3.out.cell 0
    have u1 : w3.cell? ⟨w.heap.size, 1, none⟩ = some (.int .i64 s.ct) := HS3.out.cell 1
    have u2 : w3.cell? ⟨w.heap.size, 2, none⟩ = some (.int .i64 s.vl) := HS3.out.cell 2
    have u3 : w3.cell? ⟨w.heap.size, 3, none⟩ = some (.slice A n c) := HS3.out.cell 3
    have v0 := HS3.out.frozen 0
    have v1 := HS3.out.frozen 1
    have v2 := HS3.out.frozen 2
    have v3 := HS3.out.frozen 3
    go_wp2_with fail
    go_loopw [17] (fun i wr => ∃ (k : Nat) (s2 : Scn) (A' : Option Addr) (m c' : Nat), k ≤ n1 ∧ i = .int .i64 k ∧ Hid (s2 = scanTo s zs k) ∧ Hid (OkTo s zs k) ∧ Hid (scnB s2 = true) ∧ Hid (ScnAt wr (w.heap.size + 1) #[.int .i64 0, .int .i64 0, .int .i64 0, .slice none 0 0]) ∧ Hid (ScnAt wr w.heap.size #[.int .i64 s2.ph, .int .i64 s2.ct, .int .i64 s2.vl, .slice A' m c']) ∧ Own wr w.heap.size A' m c' s2.bs ∧ Below w.heap.size w wr) (fun i _ => n1 - (intOf i).toNat)
    case atStart =>
      exact ⟨0, s, A3, n, c3, by omega, rfl, rfl, OkTo.zero s zs, e1, HR3.out.other4 (g := w.heap.size) (by omega) _ _ _ _, HS3.out.put4 _ _ _ _, O3.out.set4 (g := w.heap.size) ⟨_, HS3.out⟩ _ _ _ _, below_set4 B3.out (g := w.heap.size) (Nat.le_refl _) _ _ _ _⟩
    case round =>
      obtain ⟨k, s2, A', m, c', hk, rfl, hsk, hok, hv, hR, hS, hown, hbel⟩ := hrel
      have hsz := hbel.size
      have hsl := hS.out.lt
      have hrl := hR.out.lt
      clear u0 u1 u2 u3 v0 v1 v2 v3
      by_cases hlt : k < n1
      · obtain ⟨b, off, rfl, hbb, hc⟩ := h1.at_ (by omega)
        have hck := (hbel.cell (p := ⟨b, off + k, none⟩) hbb).trans (hc k hlt)
        obtain ⟨x, hxe⟩ : ∃ x, x = nth zs k := ⟨_, rfl⟩
        rw [← hxe] at hck
        have hst2 : Hid (scanTo s zs (k + 1) = stepS s2 x) := by
          show _ = _
          rw [scanTo_succ, hsk.out, hxe]
        have hXE := hide hxe
        obtain ⟨i1, ib, i2, i3⟩ := scnB_get hv.out
        have hml : m ≤ 1024 := by rw [← hown.len]; exact ib.1
        have z1 : (0 : Int) ≤ (k : Int) := by omega
        have z2 : (k : Int) < (n1 : Int) := by omega
        have c0 : wr.cell? ⟨w.heap.size, 0, none⟩ = some (.int .i64 s2.ph) := hS.out.cell 0
        have c1 : wr.cell? ⟨w.heap.size, 1, none⟩ = some (.int .i64 s2.ct) := hS.out.cell 1
        have c2 : wr.cell? ⟨w.heap.size, 2, none⟩ = some (.int .i64 s2.vl) := hS.out.cell 2
        have c3 : wr.cell? ⟨w.heap.size, 3, none⟩ = some ((.slice A' m c')) := hS.out.cell 3
        clear hc hxe ib
        by_cases hC : stepC s2 x = 0
        · have t0 := neqF hC
          have hr : stepR s2 x = false := by
            cases e : stepR s2 x
            · rfl
            · simp [stepC, e] at hC
          have hl : stepL s2 = false := by
            cases e : stepL s2
            · rfl
            · simp [stepC, hr, e] at hC
          obtain ⟨j1, j2⟩ := stepR_get hr
          have i7 : s2.ph = 4 → s2.ct ≤ 7 := fun e => (j2 e).1
          have hv3 : Hid (scnB (stepS s2 x) = true) := stepS_valid hv.out hr hl
          have hok3 : Hid (OkTo s zs (k + 1)) := hok.out.succ (by rw [← hsk.out, ← hXE.out]; exact hC)
          clear hC hr hl j2
          go_wp2_with fail
          refine (stepCode_any s2 x A' m c' _ hown.rd hv.out).mono ?_
          rintro e w4 ⟨rfl, b4⟩
          have HS4 := hide (hS.out.below b4)
          have HR4 := hide (hR.out.below b4)
          have O4 := hide (hown.below b4)
          have B4 := hide (below_trans hbel b4)
          clear b4 c0 c1 c2 c3
          have d0 : w4.cell? ⟨w.heap.size, 0, none⟩ = some (.int .i64 s2.ph) := HS4.out.cell 0
          have d1 : w4.cell? ⟨w.heap.size, 1, none⟩ = some (.int .i64 s2.ct) := HS4.out.cell 1
          have d2 : w4.cell? ⟨w.heap.size, 2, none⟩ = some (.int .i64 s2.vl) := HS4.out.cell 2
          have d3 : w4.cell? ⟨w.heap.size, 3, none⟩ = some ((.slice A' m c')) := HS4.out.cell 3
          go_wp2_with fail
          refine (step_any w.heap.size s2 x A' m c' _ O4.out B4.out.size i1 i2 i3 i7 (by omega) (by omega)).mono ?_
          rintro e w5 ⟨A5, m5, d5, rfl, own5, gr5, hm5⟩
          have HS5 := hide (HS4.out.keepOwn O4.out gr5)
          have HR5 := hide (HR4.out.keepOwn O4.out gr5)
          have B5 := hide (below_own B4.out B4.out.size O4.out (Nat.le_refl _) gr5)
          clear gr5 d0 d1 d2 d3
          have g0 : w5.cell? ⟨w.heap.size, 0, none⟩ = some (.int .i64 s2.ph) := HS5.out.cell 0
          have g1 : w5.cell? ⟨w.heap.size, 1, none⟩ = some (.int .i64 s2.ct) := HS5.out.cell 1
          have g2 : w5.cell? ⟨w.heap.size, 2, none⟩ = some (.int .i64 s2.vl) := HS5.out.cell 2
          have g3 : w5.cell? ⟨w.heap.size, 3, none⟩ = some ((.slice A' m c')) := HS5.out.cell 3
          have f0 := HS5.out.frozen 0
          have f1 := HS5.out.frozen 1
          have f2 := HS5.out.frozen 2
          have f3 := HS5.out.frozen 3
          go_wp2_with fail
          have fin := HS5.out.put4 (.int .i64 (stepS s2 x).ph) (.int .i64 (stepS s2 x).ct) (.int .i64 (stepS s2 x).vl) (.slice A5 m5 d5)
          have hr1 := HR5.out.other4 (g := w.heap.size) (by omega) (.int .i64 (stepS s2 x).ph) (.int .i64 (stepS s2 x).ct) (.int .i64 (stepS s2 x).vl) (.slice A5 m5 d5)
          have hO := own5.set4 (g := w.heap.size) ⟨_, HS5.out⟩ (.int .i64 (stepS s2 x).ph) (.int .i64 (stepS s2 x).ct) (.int .i64 (stepS s2 x).vl) (.slice A5 m5 d5)
          have hB := below_set4 B5.out (g := w.heap.size) (Nat.le_refl _) (.int .i64 (stepS s2 x).ph) (.int .i64 (stepS s2 x).ct) (.int .i64 (stepS s2 x).vl) (.slice A5 m5 d5)
          go_roundw
          case rel => exact ⟨k + 1, stepS s2 x, A5, m5, d5, by omega, by go_num, hst2.out.symm, hok3, hv3, hr1, fin, hO, hB⟩
          case measure => simp [intOf]; omega
        · have t0 := neqT hC
          have hfin : Hid (scanR s zs = (zeroS, stepC s2 x)) := by
            show _ = _
            have := scanR_bad (cs := zs) (k := k) (by omega) hok.out (by rw [← hsk.out, ← hXE.out]; exact hC)
            rw [this, ← hsk.out, ← hXE.out]
          clear hC
          go_wp2_with fail
          refine (stepCode_any s2 x A' m c' _ hown.rd hv.out).mono ?_
          rintro e w4 ⟨rfl, b4⟩
          have HR4 := hide (hR.out.below b4)
          have B4 := hide (below_trans hbel b4)
          clear b4 c0 c1 c2 c3
          have r0 : w4.cell? ⟨w.heap.size + 1, 0, none⟩ = some (.int .i64 0) := HR4.out.cell 0
          have r1 : w4.cell? ⟨w.heap.size + 1, 1, none⟩ = some (.int .i64 0) := HR4.out.cell 1
          have r2 : w4.cell? ⟨w.heap.size + 1, 2, none⟩ = some (.int .i64 0) := HR4.out.cell 2
          have r3 : w4.cell? ⟨w.heap.size + 1, 3, none⟩ = some (.slice none 0 0) := HR4.out.cell 3
          have q0 := HR4.out.frozen 0
          have q1 := HR4.out.frozen 1
          have q2 := HR4.out.frozen 2
          have q3 := HR4.out.frozen 3
          go_wp2_with fail
          have fin := HR4.out.put4 (.int .i64 0) (.int .i64 0) (.int .i64 0) (.slice none 0 0)
          have hB := below_set4 B4.out (g := w.heap.size + 1) (by omega) (.int .i64 0) (.int .i64 0) (.int .i64 0) (.slice none 0 0)
          have hres := fun (tmps : Array Value) (hp : tmps.getD 4 undef = .pointer (some ⟨w.heap.size + 1, 0, none⟩)) (hx : tmps.getD 5 undef = .int .i64 (stepC s2 x)) => results_scni (tmps := tmps) Try.results56 hp hx fin
          refine bodyPost_ret (hres _ rfl rfl) rfl ?_
          rw [scR_yes e1, hfin.out]
          exact ⟨none, 0, 0, rfl, Own.nil _ _, hB, by omega⟩
      · obtain rfl : k = n1 := by omega
        have hml : m ≤ 1024 := by rw [← hown.len]; exact (scnB_get hv.out).2.1.1
        have hfin : Hid (scanR s zs = (s2, 0)) := by
          show _ = _
          have hlz : zs.length = k := by omega
          have := scanR_ok (cs := zs) (s := s) (by rw [hlz]; exact hok.out)
          rw [this, hlz, ← hsk.out]
        have c0 : wr.cell? ⟨w.heap.size, 0, none⟩ = some (.int .i64 s2.ph) := hS.out.cell 0
        have c1 : wr.cell? ⟨w.heap.size, 1, none⟩ = some (.int .i64 s2.ct) := hS.out.cell 1
        have c2 : wr.cell? ⟨w.heap.size, 2, none⟩ = some (.int .i64 s2.vl) := hS.out.cell 2
        have c3 : wr.cell? ⟨w.heap.size, 3, none⟩ = some ((.slice A' m c')) := hS.out.cell 3
        have r0 : wr.cell? ⟨w.heap.size + 1, 0, none⟩ = some (.int .i64 0) := hR.out.cell 0
        have r1 : wr.cell? ⟨w.heap.size + 1, 1, none⟩ = some (.int .i64 0) := hR.out.cell 1
        have r2 : wr.cell? ⟨w.heap.size + 1, 2, none⟩ = some (.int .i64 0) := hR.out.cell 2
        have r3 : wr.cell? ⟨w.heap.size + 1, 3, none⟩ = some (.slice none 0 0) := hR.out.cell 3
        have q0 := hR.out.frozen 0
        have q1 := hR.out.frozen 1
        have q2 := hR.out.frozen 2
        have q3 := hR.out.frozen 3
        go_wp2_with fail
        have fin := hR.out.put4 (.int .i64 s2.ph) (.int .i64 s2.ct) (.int .i64 s2.vl) (.slice A' m c')
        have hO := hown.set4 (g := w.heap.size + 1) ⟨_, hR.out⟩ (.int .i64 s2.ph) (.int .i64 s2.ct) (.int .i64 s2.vl) (.slice A' m c')
        have hB := below_set4 hbel (g := w.heap.size + 1) (by omega) (.int .i64 s2.ph) (.int .i64 s2.ct) (.int .i64 s2.vl) (.slice A' m c')
        have hres := fun (tmps : Array Value) (hp : tmps.getD 4 undef = .pointer (some ⟨w.heap.size + 1, 0, none⟩)) (hx : tmps.getD 5 undef = .int .i64 0) => results_scni (tmps := tmps) Try.results56 hp hx fin
        refine bodyPost_ret (hres _ rfl rfl) rfl ?_
        rw [scR_yes e1, hfin.out]
        exact ⟨A', m, c', rfl, hO, hB, by omega⟩
end Go.Proofs.Ytdodhjahihfaiaa
