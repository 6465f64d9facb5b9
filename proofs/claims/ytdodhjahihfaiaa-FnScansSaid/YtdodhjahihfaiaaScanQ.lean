/- Contracts: the cells of a list read, by the reference. Written by gen_scanq2.py. -/
import Derived.Test.YtdodhjahihfaiaaScanQq
import Derived.Deep.RegionHeld3
namespace Go.Proofs.Ytdodhjahihfaiaa
open Go.RowKit
set_option linter.unusedVariables false
set_option linter.unusedSimpArgs false

theorem below_drewM {B : Nat} {a w : World} (h : Below B a.drew w) : Below B a w := ⟨h.os, h.tape, h.output, h.size, h.block⟩
set_option maxHeartbeats 6400000 in
set_option maxRecDepth 100000 in
theorem sScanCells_c (s : Scn) (A : Option Addr) (n c : Nat) (A1 : Option Addr) (n1 c1 : Nat) (zs : List Int) (w : World) (h : Rd w A n c s.bs) (h1 : Rd w A1 n1 c1 zs) (hn : n ≤ 1048576) (hn1 : n1 ≤ 1048576) :
    Calls Try.prog 55 #[.agg #[.int .i64 s.ph, .int .i64 s.ct, .int .i64 s.vl, .slice A n c], .slice A1 n1 c1] w (ScOut (scR s zs) w) := by
  have hlen := h1.le
  have hcap := h1.cap
  have W0 := hide (show Below w.heap.size w ((w.alloc (.cells #[.int .i64 s.ph, .int .i64 s.ct, .int .i64 s.vl, .slice A n c] 30)).alloc (.cells #[.int .i64 0, .int .i64 0, .int .i64 0, .slice none 0 0] 30)) by (repeat (first | exact Below.refl _ _ | (refine Below.alloc ?_ (by simp <;> omega) _) | (refine Below.setCell ?_ (by simp <;> omega) _))))
  have S0 := hide ((ScnAt.fresh w #[.int .i64 s.ph, .int .i64 s.ct, .int .i64 s.vl, .slice A n c]).below ((Below.refl _ _).alloc (Nat.le_refl _) (.cells #[.int .i64 0, .int .i64 0, .int .i64 0, .slice none 0 0] 30)))
  have R0 := hide (ScnAt.fresh1 w (.cells #[.int .i64 s.ph, .int .i64 s.ct, .int .i64 s.vl, .slice A n c] 30) #[.int .i64 0, .int .i64 0, .int .i64 0, .slice none 0 0])
  have H0 := hide (h.below W0.out)
  go_enter Try.func55, Try.ntmps55
  cases e1 : scnB s
  · go_wp2_with fail
    refine (sIsScan_c s A n c _ H0.out).mono ?_
    rintro e w2 ⟨rfl, b2⟩
    have HR := hide (R0.out.below b2)
    have B2 := hide (below_trans W0.out b2)
    have r0 : w2.cell? ⟨w.heap.size + 1, 0, none⟩ = some (.int .i64 0) := HR.out.cell 0
    have r1 : w2.cell? ⟨w.heap.size + 1, 1, none⟩ = some (.int .i64 0) := HR.out.cell 1
    have r2 : w2.cell? ⟨w.heap.size + 1, 2, none⟩ = some (.int .i64 0) := HR.out.cell 2
    have r3 : w2.cell? ⟨w.heap.size + 1, 3, none⟩ = some (.slice none 0 0) := HR.out.cell 3
    have q0 := HR.out.frozen 0
    have q1 := HR.out.frozen 1
    have q2 := HR.out.frozen 2
    have q3 := HR.out.frozen 3
    clear b2
    go_wp2_with fail
    have fin := HR.out.put4 (.int .i64 0) (.int .i64 0) (.int .i64 0) (.slice none 0 0)
    have hB := below_set4 B2.out (g := w.heap.size + 1) (by omega) (.int .i64 0) (.int .i64 0) (.int .i64 0) (.slice none 0 0)
    have hres := fun (tmps : Array Value) (hp : tmps.getD 4 undef = .pointer (some ⟨w.heap.size + 1, 0, none⟩)) (hx : tmps.getD 5 undef = .int .i64 1) => results_scni (tmps := tmps) Try.results55 hp hx fin
    refine bodyPost_ret (hres _ rfl rfl) rfl ?_
    rw [scR_no e1]
    exact ⟨none, 0, 0, rfl, Own.nil _ _, hB, by omega⟩
  · go_wp2_with fail
    refine (sIsScan_c s A n c _ H0.out).mono ?_
    rintro e w2 ⟨rfl, b2⟩
    rw [e1]
    have HR := hide (R0.out.below b2)
    have HS := hide (S0.out.below b2)
    have B2 := hide (below_trans W0.out b2)
    have H2 := hide (H0.out.below b2)
    have y0 : w2.cell? ⟨w.heap.size, 0, none⟩ = some (.int .i64 s.ph) := HS.out.cell 0
    have y1 : w2.cell? ⟨w.heap.size, 1, none⟩ = some (.int .i64 s.ct) := HS.out.cell 1
    have y2 : w2.cell? ⟨w.heap.size, 2, none⟩ = some (.int .i64 s.vl) := HS.out.cell 2
    have y3 : w2.cell? ⟨w.heap.size, 3, none⟩ = some (.slice A n c) := HS.out.cell 3
    have f0 := HS.out.frozen 0
    have f1 := HS.out.frozen 1
    have f2 := HS.out.frozen 2
    have f3 := HS.out.frozen 3
    clear b2
    go_wp2_with fail
    refine (l19To_any _ _ _ _ _ _ A n c s.bs _ H2.out hn).mono ?_
    rintro e w3 ⟨A3, c3, rfl, own3, b3⟩
    have ba := (Below.refl w3.heap.size w3).alloc (Nat.le_refl _) (.cells #[.int .i64 s.ph, .int .i64 s.ct, .int .i64 s.vl, .slice A3 n c3] 30)
    have HR3 := hide ((HR.out.below b3).below ba)
    have HS3 := hide (ScnAt.fresh w3 #[.int .i64 s.ph, .int .i64 s.ct, .int .i64 s.vl, .slice A3 n c3])
    have B3 := hide (below_trans (below_trans B2.out b3) ba)
    have O3 := hide ((own3.mono (B' := w.heap.size) B2.out.size).below ba)
    have hm3 : n ≤ 1024 := by have := (scnB_get e1).2.1.1; have := h.len; omega
    have hl3 := (HR.out.below b3).lt
    have hz3 : w.heap.size ≤ w3.heap.size := Nat.le_trans B2.out.size b3.size
    clear b3 own3 ba y0 y1 y2 y3 f0 f1 f2 f3
    go_wp2_with fail
    go_loopw [7] (fun i wr => ∃ (k : Nat) (s2 : Scn) (A' : Option Addr) (m c' : Nat), k ≤ n1 ∧ i = .int .i64 k ∧ Hid (s2 = scanTo s zs k) ∧ Hid (OkTo s zs k) ∧ Hid (scnB s2 = true) ∧ Hid (ScnAt wr (w.heap.size + 1) #[.int .i64 0, .int .i64 0, .int .i64 0, .slice none 0 0]) ∧ Hid (ScnAt wr w3.heap.size #[.int .i64 s2.ph, .int .i64 s2.ct, .int .i64 s2.vl, .slice A' m c']) ∧ Own wr w.heap.size A' m c' s2.bs ∧ Below w.heap.size w wr) (fun i _ => n1 - (intOf i).toNat)
    case atStart =>
      exact ⟨0, s, A3, n, c3, by omega, rfl, rfl, OkTo.zero s zs, e1, HR3.out, HS3.out, O3.out, B3.out⟩
    case round =>
      obtain ⟨k, s2, A', m, c', hk, rfl, hsk, hok, hv, hR, hS, hown, hbel⟩ := hrel
      have hsz := hbel.size
      have hsl := hS.out.lt
      have hrl := hR.out.lt
      by_cases hlt : k < n1
      · obtain ⟨b, off, rfl, hbb, hc⟩ := h1.at_ (by omega)
        have hck := (hbel.cell (p := ⟨b, off + k, none⟩) hbb).trans (hc k hlt)
        have hbw : b < wr.heap.size := by omega
        obtain ⟨x, hxe⟩ : ∃ x, x = nth zs k := ⟨_, rfl⟩
        have hx : -9223372036854775808 ≤ x ∧ x ≤ 9223372036854775807 := by rw [hxe]; exact h1.i64.get k
        rw [← hxe] at hck
        have hst2 : Hid (scanTo s zs (k + 1) = stepS s2 x) := by
          show _ = _
          rw [scanTo_succ, hsk.out, hxe]
        have hXE := hide hxe
        obtain ⟨i1, ib, i2, i3⟩ := scnB_get hv.out
        have hml : m ≤ 1024 := by rw [← hown.len]; exact ib.1
        have z1 : (0 : Int) ≤ (k : Int) := by omega
        have z2 : (k : Int) < (n1 : Int) := by omega
        have c0 : wr.cell? ⟨w3.heap.size, 0, none⟩ = some (.int .i64 s2.ph) := hS.out.cell 0
        have c1 : wr.cell? ⟨w3.heap.size, 1, none⟩ = some (.int .i64 s2.ct) := hS.out.cell 1
        have c2 : wr.cell? ⟨w3.heap.size, 2, none⟩ = some (.int .i64 s2.vl) := hS.out.cell 2
        have c3 : wr.cell? ⟨w3.heap.size, 3, none⟩ = some ((.slice A' m c')) := hS.out.cell 3
        have b8 := (Below.refl wr.heap.size wr).alloc (Nat.le_refl _) (.cells #[.int .i64 0, .int .i64 0, .int .i64 0, .slice none 0 0] 30)
        have HS8 := hide (hS.out.below b8)
        have HR8 := hide (hR.out.below b8)
        have H88 := hide (ScnAt.fresh wr #[.int .i64 0, .int .i64 0, .int .i64 0, .slice none 0 0])
        have B8 := hide (below_trans hbel b8)
        have HO8 := hide (hown.below b8)
        have hck8 : (wr.alloc (.cells #[.int .i64 0, .int .i64 0, .int .i64 0, .slice none 0 0] 30)).cell? ⟨b, off + k, none⟩ = some (.int .i64 x) := (b8.cell (p := ⟨b, off + k, none⟩) hbw).trans hck
        have hbw8 : b < (wr.alloc (.cells #[.int .i64 0, .int .i64 0, .int .i64 0, .slice none 0 0] 30)).heap.size := by simp; omega
        have N0 := World.new_ne wr ⟨w3.heap.size, 0, none⟩ c0
        have N4 := World.new_ne wr ⟨b, off + k, none⟩ hck
        clear hc hxe ib b8
        by_cases hC : stepC s2 x = 0
        · have t0 : ((stR s2 x).2 != 0) = false := by rw [stR_ok hv.out hC]; rfl
          have hr : stepR s2 x = false := by
            cases e : stepR s2 x
            · rfl
            · simp [stepC, e] at hC
          have hl : stepL s2 = false := by
            cases e : stepL s2
            · rfl
            · simp [stepC, hr, e] at hC
          have hv3 : Hid (scnB (stepS s2 x) = true) := stepS_valid hv.out hr hl
          have hok3 : Hid (OkTo s zs (k + 1)) := hok.out.succ (by rw [← hsk.out, ← hXE.out]; exact hC)
          have hE := hide (stR_ok hv.out hC)
          clear hC hr hl
          go_wp2_with fail
          go_region_held3 (fun w' => w'.cell? ⟨w3.heap.size, 0, none⟩ = some (.int .i64 s2.ph) ∧ w'.cell? ⟨w3.heap.size, 1, none⟩ = some (.int .i64 s2.ct) ∧ w'.cell? ⟨w3.heap.size, 2, none⟩ = some (.int .i64 s2.vl) ∧ w'.cell? ⟨w3.heap.size, 3, none⟩ = some ((.slice A' m c')) ∧ w'.cell? ⟨b, off + k, none⟩ = some (.int .i64 x)) (go_keep) (first | (go_at_call 49; (with_reducible refine (sStepCell_c s2 x A' m c' _ hown.rd.drew (by omega) hx).mono ?_); rintro e w5 ⟨A5, m5, d5, rfl, own5, b5, hm5⟩; have bb := below_drewM b5; have HS5 := hide (hS.out.below bb); have HR5 := hide (hR.out.below bb); have B5 := hide (below_trans hbel bb); have O5 := hide (own5.mono (B' := w.heap.size) hsz); have e5 := bb.cell (p := ⟨b, off + k, none⟩) hbw; rw [hck] at e5; have lt5 := HS5.out.lt; have ltr5 := HR5.out.lt; have sz5 := bb.size; clear b5 bb own5; have y0 : w5.cell? ⟨w3.heap.size, 0, none⟩ = some (.int .i64 s2.ph) := HS5.out.cell 0; have y1 : w5.cell? ⟨w3.heap.size, 1, none⟩ = some (.int .i64 s2.ct) := HS5.out.cell 1; have y2 : w5.cell? ⟨w3.heap.size, 2, none⟩ = some (.int .i64 s2.vl) := HS5.out.cell 2; have y3 : w5.cell? ⟨w3.heap.size, 3, none⟩ = some ((.slice A' m c')) := HS5.out.cell 3; have f0 := HS5.out.frozen 0; have f1 := HS5.out.frozen 1; have f2 := HS5.out.frozen 2; have f3 := HS5.out.frozen 3; have r0 : w5.cell? ⟨w.heap.size + 1, 0, none⟩ = some (.int .i64 0) := HR5.out.cell 0; have r1 : w5.cell? ⟨w.heap.size + 1, 1, none⟩ = some (.int .i64 0) := HR5.out.cell 1; have r2 : w5.cell? ⟨w.heap.size + 1, 2, none⟩ = some (.int .i64 0) := HR5.out.cell 2; have r3 : w5.cell? ⟨w.heap.size + 1, 3, none⟩ = some (.slice none 0 0) := HR5.out.cell 3; have q0 := HR5.out.frozen 0; have q1 := HR5.out.frozen 1; have q2 := HR5.out.frozen 2; have q3 := HR5.out.frozen 3) | (go_at_call 49; (with_reducible refine (sStepCell_c s2 x A' m c' _ HO8.out.rd.drew (by omega) hx).mono ?_); rintro e w5 ⟨A5, m5, d5, rfl, own5, b5, hm5⟩; have bb := below_drewM b5; have HS5 := hide (HS8.out.below bb); have HR5 := hide (HR8.out.below bb); have H85 := hide (H88.out.below bb); have B5 := hide (below_trans B8.out bb); have O5 := hide (own5.mono (B' := w.heap.size) B8.out.size); have e5 := bb.cell (p := ⟨b, off + k, none⟩) hbw8; rw [hck8] at e5; have lt5 := H85.out.lt; have sz5 := bb.size; clear b5 bb own5; have k0 : w5.cell? ⟨wr.heap.size, 0, none⟩ = some (.int .i64 0) := H85.out.cell 0; have k1 : w5.cell? ⟨wr.heap.size, 1, none⟩ = some (.int .i64 0) := H85.out.cell 1; have k2 : w5.cell? ⟨wr.heap.size, 2, none⟩ = some (.int .i64 0) := H85.out.cell 2; have k3 : w5.cell? ⟨wr.heap.size, 3, none⟩ = some (.slice none 0 0) := H85.out.cell 3; have l0 := H85.out.frozen 0; have l1 := H85.out.frozen 1; have l2 := H85.out.frozen 2; have l3 := H85.out.frozen 3; have y0 : w5.cell? ⟨w3.heap.size, 0, none⟩ = some (.int .i64 s2.ph) := HS5.out.cell 0; have y1 : w5.cell? ⟨w3.heap.size, 1, none⟩ = some (.int .i64 s2.ct) := HS5.out.cell 1; have y2 : w5.cell? ⟨w3.heap.size, 2, none⟩ = some (.int .i64 s2.vl) := HS5.out.cell 2; have y3 : w5.cell? ⟨w3.heap.size, 3, none⟩ = some ((.slice A' m c')) := HS5.out.cell 3; have f0 := HS5.out.frozen 0; have f1 := HS5.out.frozen 1; have f2 := HS5.out.frozen 2; have f3 := HS5.out.frozen 3; have r0 : w5.cell? ⟨w.heap.size + 1, 0, none⟩ = some (.int .i64 0) := HR5.out.cell 0; have r1 : w5.cell? ⟨w.heap.size + 1, 1, none⟩ = some (.int .i64 0) := HR5.out.cell 1; have r2 : w5.cell? ⟨w.heap.size + 1, 2, none⟩ = some (.int .i64 0) := HR5.out.cell 2; have r3 : w5.cell? ⟨w.heap.size + 1, 3, none⟩ = some (.slice none 0 0) := HR5.out.cell 3; have q0 := HR5.out.frozen 0; have q1 := HR5.out.frozen 1; have q2 := HR5.out.frozen 2; have q3 := HR5.out.frozen 3))
          · go_wp2_with fail
            have hr1 := HR5.out.other4 (g := w3.heap.size) (by omega) (.int .i64 (stR s2 x).1.ph) (.int .i64 (stR s2 x).1.ct) (.int .i64 (stR s2 x).1.vl) ((.slice A5 m5 d5))
            have hs1 := HS5.out.put4 (.int .i64 (stR s2 x).1.ph) (.int .i64 (stR s2 x).1.ct) (.int .i64 (stR s2 x).1.vl) ((.slice A5 m5 d5))
            have ba := (Below.refl _ (((((w5.setCell ⟨w3.heap.size, 0, none⟩ (.int .i64 (stR s2 x).1.ph)).setCell ⟨w3.heap.size, 1, none⟩ (.int .i64 (stR s2 x).1.ct)).setCell ⟨w3.heap.size, 2, none⟩ (.int .i64 (stR s2 x).1.vl)).setCell ⟨w3.heap.size, 3, none⟩ ((.slice A5 m5 d5))))).alloc (Nat.le_refl _) (.cells #[.int .i64 (stR s2 x).1.ph, .int .i64 (stR s2 x).1.ct, .int .i64 (stR s2 x).1.vl, (.slice A5 m5 d5)] 30)
            have hO := (O5.out.set4 (g := w3.heap.size) ⟨_, HS5.out⟩ (.int .i64 (stR s2 x).1.ph) (.int .i64 (stR s2 x).1.ct) (.int .i64 (stR s2 x).1.vl) ((.slice A5 m5 d5))).below ba
            have hB := below_trans (below_set4 B5.out (g := w3.heap.size) hz3 (.int .i64 (stR s2 x).1.ph) (.int .i64 (stR s2 x).1.ct) (.int .i64 (stR s2 x).1.vl) ((.slice A5 m5 d5))) ba
            go_roundw
            case rel => exact ⟨k + 1, (stR s2 x).1, A5, m5, d5, by omega, by go_num, by show _ = _; rw [hE.out]; exact hst2.out.symm, hok3, by show _ = _; rw [hE.out]; exact hv3.out, hr1.below ba, hs1.below ba, hO, hB⟩
            case measure => simp [intOf]; omega
          · go_wp2_with fail
            have hr1 := (HR5.out.other4 (g := wr.heap.size) (by omega) (.int .i64 (stR s2 x).1.ph) (.int .i64 (stR s2 x).1.ct) (.int .i64 (stR s2 x).1.vl) ((.slice A5 m5 d5))).other4 (g := w3.heap.size) (by omega) (.int .i64 (stR s2 x).1.ph) (.int .i64 (stR s2 x).1.ct) (.int .i64 (stR s2 x).1.vl) ((.slice A5 m5 d5))
            have hs0 := HS5.out.other4 (g := wr.heap.size) (by omega) (.int .i64 (stR s2 x).1.ph) (.int .i64 (stR s2 x).1.ct) (.int .i64 (stR s2 x).1.vl) ((.slice A5 m5 d5))
            have hs1 := hs0.put4 (.int .i64 (stR s2 x).1.ph) (.int .i64 (stR s2 x).1.ct) (.int .i64 (stR s2 x).1.vl) ((.slice A5 m5 d5))
            have hO := (O5.out.set4 (g := wr.heap.size) ⟨_, H85.out⟩ (.int .i64 (stR s2 x).1.ph) (.int .i64 (stR s2 x).1.ct) (.int .i64 (stR s2 x).1.vl) ((.slice A5 m5 d5))).set4 (g := w3.heap.size) ⟨_, hs0⟩ (.int .i64 (stR s2 x).1.ph) (.int .i64 (stR s2 x).1.ct) (.int .i64 (stR s2 x).1.vl) ((.slice A5 m5 d5))
            have hB := below_set4 (below_set4 B5.out (g := wr.heap.size) hsz (.int .i64 (stR s2 x).1.ph) (.int .i64 (stR s2 x).1.ct) (.int .i64 (stR s2 x).1.vl) ((.slice A5 m5 d5))) (g := w3.heap.size) hz3 (.int .i64 (stR s2 x).1.ph) (.int .i64 (stR s2 x).1.ct) (.int .i64 (stR s2 x).1.vl) ((.slice A5 m5 d5))
            go_roundw
            case rel => exact ⟨k + 1, (stR s2 x).1, A5, m5, d5, by omega, by go_num, by show _ = _; rw [hE.out]; exact hst2.out.symm, hok3, by show _ = _; rw [hE.out]; exact hv3.out, hr1, hs1, hO, hB⟩
            case measure => simp [intOf]; omega
        · have t0 : ((stR s2 x).2 != 0) = true := by rw [stR_bad hv.out hC]; exact neqT hC
          have hE := hide (stR_bad hv.out hC)
          have hfin : Hid (scanR s zs = (zeroS, (stR s2 x).2)) := by
            show _ = _
            have := scanR_bad (cs := zs) (k := k) (by omega) hok.out (by rw [← hsk.out, ← hXE.out]; exact hC)
            rw [this, ← hsk.out, ← hXE.out, hE.out]
          clear hC
          go_wp2_with fail
          go_region_held3 (fun w' => w'.cell? ⟨w3.heap.size, 0, none⟩ = some (.int .i64 s2.ph) ∧ w'.cell? ⟨w3.heap.size, 1, none⟩ = some (.int .i64 s2.ct) ∧ w'.cell? ⟨w3.heap.size, 2, none⟩ = some (.int .i64 s2.vl) ∧ w'.cell? ⟨w3.heap.size, 3, none⟩ = some ((.slice A' m c')) ∧ w'.cell? ⟨b, off + k, none⟩ = some (.int .i64 x)) (go_keep) (first | (go_at_call 49; (with_reducible refine (sStepCell_c s2 x A' m c' _ hown.rd.drew (by omega) hx).mono ?_); rintro e w5 ⟨A5, m5, d5, rfl, own5, b5, hm5⟩; have bb := below_drewM b5; have HS5 := hide (hS.out.below bb); have HR5 := hide (hR.out.below bb); have B5 := hide (below_trans hbel bb); have O5 := hide (own5.mono (B' := w.heap.size) hsz); have e5 := bb.cell (p := ⟨b, off + k, none⟩) hbw; rw [hck] at e5; have lt5 := HS5.out.lt; have ltr5 := HR5.out.lt; have sz5 := bb.size; clear b5 bb own5; have y0 : w5.cell? ⟨w3.heap.size, 0, none⟩ = some (.int .i64 s2.ph) := HS5.out.cell 0; have y1 : w5.cell? ⟨w3.heap.size, 1, none⟩ = some (.int .i64 s2.ct) := HS5.out.cell 1; have y2 : w5.cell? ⟨w3.heap.size, 2, none⟩ = some (.int .i64 s2.vl) := HS5.out.cell 2; have y3 : w5.cell? ⟨w3.heap.size, 3, none⟩ = some ((.slice A' m c')) := HS5.out.cell 3; have f0 := HS5.out.frozen 0; have f1 := HS5.out.frozen 1; have f2 := HS5.out.frozen 2; have f3 := HS5.out.frozen 3; have r0 : w5.cell? ⟨w.heap.size + 1, 0, none⟩ = some (.int .i64 0) := HR5.out.cell 0; have r1 : w5.cell? ⟨w.heap.size + 1, 1, none⟩ = some (.int .i64 0) := HR5.out.cell 1; have r2 : w5.cell? ⟨w.heap.size + 1, 2, none⟩ = some (.int .i64 0) := HR5.out.cell 2; have r3 : w5.cell? ⟨w.heap.size + 1, 3, none⟩ = some (.slice none 0 0) := HR5.out.cell 3; have q0 := HR5.out.frozen 0; have q1 := HR5.out.frozen 1; have q2 := HR5.out.frozen 2; have q3 := HR5.out.frozen 3) | (go_at_call 49; (with_reducible refine (sStepCell_c s2 x A' m c' _ HO8.out.rd.drew (by omega) hx).mono ?_); rintro e w5 ⟨A5, m5, d5, rfl, own5, b5, hm5⟩; have bb := below_drewM b5; have HS5 := hide (HS8.out.below bb); have HR5 := hide (HR8.out.below bb); have H85 := hide (H88.out.below bb); have B5 := hide (below_trans B8.out bb); have O5 := hide (own5.mono (B' := w.heap.size) B8.out.size); have e5 := bb.cell (p := ⟨b, off + k, none⟩) hbw8; rw [hck8] at e5; have lt5 := H85.out.lt; have sz5 := bb.size; clear b5 bb own5; have k0 : w5.cell? ⟨wr.heap.size, 0, none⟩ = some (.int .i64 0) := H85.out.cell 0; have k1 : w5.cell? ⟨wr.heap.size, 1, none⟩ = some (.int .i64 0) := H85.out.cell 1; have k2 : w5.cell? ⟨wr.heap.size, 2, none⟩ = some (.int .i64 0) := H85.out.cell 2; have k3 : w5.cell? ⟨wr.heap.size, 3, none⟩ = some (.slice none 0 0) := H85.out.cell 3; have l0 := H85.out.frozen 0; have l1 := H85.out.frozen 1; have l2 := H85.out.frozen 2; have l3 := H85.out.frozen 3; have y0 : w5.cell? ⟨w3.heap.size, 0, none⟩ = some (.int .i64 s2.ph) := HS5.out.cell 0; have y1 : w5.cell? ⟨w3.heap.size, 1, none⟩ = some (.int .i64 s2.ct) := HS5.out.cell 1; have y2 : w5.cell? ⟨w3.heap.size, 2, none⟩ = some (.int .i64 s2.vl) := HS5.out.cell 2; have y3 : w5.cell? ⟨w3.heap.size, 3, none⟩ = some ((.slice A' m c')) := HS5.out.cell 3; have f0 := HS5.out.frozen 0; have f1 := HS5.out.frozen 1; have f2 := HS5.out.frozen 2; have f3 := HS5.out.frozen 3; have r0 : w5.cell? ⟨w.heap.size + 1, 0, none⟩ = some (.int .i64 0) := HR5.out.cell 0; have r1 : w5.cell? ⟨w.heap.size + 1, 1, none⟩ = some (.int .i64 0) := HR5.out.cell 1; have r2 : w5.cell? ⟨w.heap.size + 1, 2, none⟩ = some (.int .i64 0) := HR5.out.cell 2; have r3 : w5.cell? ⟨w.heap.size + 1, 3, none⟩ = some (.slice none 0 0) := HR5.out.cell 3; have q0 := HR5.out.frozen 0; have q1 := HR5.out.frozen 1; have q2 := HR5.out.frozen 2; have q3 := HR5.out.frozen 3))
          · go_wp2_with fail
            have ba := (Below.refl _ (((((w5.setCell ⟨w.heap.size + 1, 0, none⟩ (.int .i64 0)).setCell ⟨w.heap.size + 1, 1, none⟩ (.int .i64 0)).setCell ⟨w.heap.size + 1, 2, none⟩ (.int .i64 0)).setCell ⟨w.heap.size + 1, 3, none⟩ (.slice none 0 0)))).alloc (Nat.le_refl _) (.cells #[.int .i64 (stR s2 x).1.ph, .int .i64 (stR s2 x).1.ct, .int .i64 (stR s2 x).1.vl, (.slice A5 m5 d5)] 30)
            have fin := (HR5.out.put4 (.int .i64 0) (.int .i64 0) (.int .i64 0) (.slice none 0 0)).below ba
            have hB := below_trans (below_set4 B5.out (g := w.heap.size + 1) (by omega) (.int .i64 0) (.int .i64 0) (.int .i64 0) (.slice none 0 0)) ba
            have hres := fun (tmps : Array Value) (hp : tmps.getD 4 undef = .pointer (some ⟨w.heap.size + 1, 0, none⟩)) (hx : tmps.getD 5 undef = .int .i64 (stR s2 x).2) => results_scni (tmps := tmps) Try.results55 hp hx fin
            refine bodyPost_ret (hres _ rfl rfl) rfl ?_
            rw [scR_yes e1, hfin.out]
            exact ⟨none, 0, 0, rfl, Own.nil _ _, hB, by omega⟩
          · go_wp2_with fail
            have hr0 := HR5.out.other4 (g := wr.heap.size) (by omega) (.int .i64 (stR s2 x).1.ph) (.int .i64 (stR s2 x).1.ct) (.int .i64 (stR s2 x).1.vl) ((.slice A5 m5 d5))
            have fin := hr0.put4 (.int .i64 0) (.int .i64 0) (.int .i64 0) (.slice none 0 0)
            have hB := below_set4 (below_set4 B5.out (g := wr.heap.size) hsz (.int .i64 (stR s2 x).1.ph) (.int .i64 (stR s2 x).1.ct) (.int .i64 (stR s2 x).1.vl) ((.slice A5 m5 d5))) (g := w.heap.size + 1) (by omega) (.int .i64 0) (.int .i64 0) (.int .i64 0) (.slice none 0 0)
            have hres := fun (tmps : Array Value) (hp : tmps.getD 4 undef = .pointer (some ⟨w.heap.size + 1, 0, none⟩)) (hx : tmps.getD 5 undef = .int .i64 (stR s2 x).2) => results_scni (tmps := tmps) Try.results55 hp hx fin
            refine bodyPost_ret (hres _ rfl rfl) rfl ?_
            rw [scR_yes e1, hfin.out]
            exact ⟨none, 0, 0, rfl, Own.nil _ _, hB, by omega⟩
      · obtain rfl : k = n1 := by omega
        have hml : m ≤ 1024 := by rw [← hown.len]; exact (scnB_get hv.out).2.1.1
        have hfin : Hid (scanR s zs = (s2, 0)) := by
          show _ = _
          have hlz : zs.length = k := by omega
          have := scanR_ok (cs := zs) (s := s) (by rw [hlz]; exact hok.out)
          rw [this, hlz, ← hsk.out]
        have c0 : wr.cell? ⟨w3.heap.size, 0, none⟩ = some (.int .i64 s2.ph) := hS.out.cell 0
        have c1 : wr.cell? ⟨w3.heap.size, 1, none⟩ = some (.int .i64 s2.ct) := hS.out.cell 1
        have c2 : wr.cell? ⟨w3.heap.size, 2, none⟩ = some (.int .i64 s2.vl) := hS.out.cell 2
        have c3 : wr.cell? ⟨w3.heap.size, 3, none⟩ = some ((.slice A' m c')) := hS.out.cell 3
        have r0 : wr.cell? ⟨w.heap.size + 1, 0, none⟩ = some (.int .i64 0) := hR.out.cell 0
        have r1 : wr.cell? ⟨w.heap.size + 1, 1, none⟩ = some (.int .i64 0) := hR.out.cell 1
        have r2 : wr.cell? ⟨w.heap.size + 1, 2, none⟩ = some (.int .i64 0) := hR.out.cell 2
        have r3 : wr.cell? ⟨w.heap.size + 1, 3, none⟩ = some (.slice none 0 0) := hR.out.cell 3
        have q0 := hR.out.frozen 0
        have q1 := hR.out.frozen 1
        have q2 := hR.out.frozen 2
        have q3 := hR.out.frozen 3
        go_wp2_with fail
        have fin := hR.out.put4 (.int .i64 s2.ph) (.int .i64 s2.ct) (.int .i64 s2.vl) (.slice A' m c')
        have hO := hown.set4 (g := w.heap.size + 1) ⟨_, hR.out⟩ (.int .i64 s2.ph) (.int .i64 s2.ct) (.int .i64 s2.vl) (.slice A' m c')
        have hB := below_set4 hbel (g := w.heap.size + 1) (by omega) (.int .i64 s2.ph) (.int .i64 s2.ct) (.int .i64 s2.vl) (.slice A' m c')
        have hres := fun (tmps : Array Value) (hp : tmps.getD 4 undef = .pointer (some ⟨w.heap.size + 1, 0, none⟩)) (hx : tmps.getD 5 undef = .int .i64 0) => results_scni (tmps := tmps) Try.results55 hp hx fin
        refine bodyPost_ret (hres _ rfl rfl) rfl ?_
        rw [scR_yes e1, hfin.out]
        exact ⟨A', m, c', rfl, hO, hB, by omega⟩
end Go.Proofs.Ytdodhjahihfaiaa
