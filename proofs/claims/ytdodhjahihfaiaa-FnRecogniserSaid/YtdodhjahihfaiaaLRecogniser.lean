/- The walk of FnRecogniser: the recogniser finishes exactly on lines, with the bytes that are transmitted in them. -/
import Derived.Test.YtdodhjahihfaiaaLMissingCells
import Derived.Test.YtdodhjahihfaiaaScanPp
import Derived.Deep.RegionWith
namespace Go.Proofs.Ytdodhjahihfaiaa
open Go.RowKit
set_option linter.unusedVariables false
set_option linter.unusedSimpArgs false

theorem scR_zero {zs : List Int} (h8 : zs.length ≤ 8192) (hb : allB 0 1 zs = true) : scR zeroS zs = (scnEnd zs, 0) := by
  rw [scR_yes (by rfl), scan_zero hb h8]; rfl
theorem scnEnd_bytes {zs : List Int} (hb : allB 0 1 zs = true) (hl : lineB zs = true) : (scnEnd zs).bs = lineD zs := by
  rw [scnEnd, done_bytes hb hl]
theorem scnEnd_valid {zs : List Int} (h8 : zs.length ≤ 8192) (hb : allB 0 1 zs = true) : scnB (scnEnd zs) = true := by
  obtain ⟨a, b, c, d, e, _⟩ := (Inv.scan hb zs.length (Nat.le_refl _)).facts
  rw [List.length_take] at e
  exact scnB_mk a ⟨by show (scanTo zeroS zs zs.length).bs.length ≤ 1024; omega, d⟩ b c
theorem scnEnd_done {zs : List Int} (h8 : zs.length ≤ 8192) (hb : allB 0 1 zs = true) : (scnB (scnEnd zs) && ((scnEnd zs).ph == 6)) = lineB zs := by
  rw [scnEnd_valid h8 hb, Bool.true_and]
  have := done_iff hb
  cases h : lineB zs
  · have h6 : ¬ (scnEnd zs).ph = 6 := fun e => by rw [h] at this; exact absurd (this.1 e) (by decide)
    simpa using h6
  · have h6 : (scnEnd zs).ph = 6 := this.2 h
    rw [h6]; rfl
/-- a list of cells read by a new scan -/
theorem iScan_new (A1 : Option Addr) (n1 c1 : Nat) (zs : List Int) (w : World) (h1 : Rd w A1 n1 c1 zs) (h8 : zs.length ≤ 8192) (hb : allB 0 1 zs = true) :
    Calls Try.prog 56 #[.agg #[.int .i64 0, .int .i64 0, .int .i64 0, .slice none 0 0], .slice A1 n1 c1] w fun e w' => ∃ (A' : Option Addr) (m c' : Nat), e = .returned (.tuple #[.agg #[.int .i64 (scnEnd zs).ph, .int .i64 (scnEnd zs).ct, .int .i64 (scnEnd zs).vl, .slice A' m c'], .int .i64 0]) ∧ Own w' w.heap.size A' m c' (scnEnd zs).bs ∧ Below w.heap.size w w' := by
  have hl := h1.len
  refine (iScanCells_c zeroS none 0 0 A1 n1 c1 zs w (Rd.nil w) h1 (by omega) (by omega)).mono ?_
  rintro e w2 ⟨A2, m2, c2, he, own2, b2, _⟩
  rw [scR_zero h8 hb] at he own2
  exact ⟨A2, m2, c2, he, own2, b2⟩
theorem below_drewM2 {B : Nat} {a w : World} (h : Below B a.drew w) : Below B a w := ⟨h.os, h.tape, h.output, h.size, h.block⟩
theorem iNewScan_any (w : World) : Calls Try.prog 69 #[] w fun e w' => e = .returned (.agg #[.int .i64 0, .int .i64 0, .int .i64 0, .slice none 0 0]) ∧ Below w.heap.size w w' := by
  go_enter Try.func69, Try.ntmps69
  go_wp2
  refine bodyPost_ret (v := .agg #[.int .i64 0, .int .i64 0, .int .i64 0, .slice none 0 0]) (by simp [results, Try.results69, go_sem]) rfl ⟨rfl, (Below.refl _ _).alloc (Nat.le_refl _) _⟩
set_option maxHeartbeats 6400000 in
set_option maxRecDepth 100000 in
theorem walkRecogniser (A : Option Addr) (n c : Nat) (bs : List Int) (w : World) (h : Rd8 w A n c bs) :
    Calls Try.prog 20 #[.slice A n c] w fun e w' => e = .returned (.bool true) ∧ Below w.heap.size w w' := by
  by_cases hn : 4096 < n
  · have t : decide (4096 < n) = true := by simpa using hn
    go_enter Try.func20, Try.ntmps20
    go_wp2_with (go_at_call 57; refine (big_any _ _ _ _ _ h).mono ?_; rintro e w' ⟨rfl, rfl⟩)
    go_ret
    exact ⟨rfl, Below.refl _ _⟩
  · have t : decide (4096 < n) = false := by simpa using hn
    go_enter Try.func20, Try.ntmps20
    go_wp2_with (go_at_call 57; refine (big_any _ _ _ _ _ h).mono ?_; rintro e w' ⟨rfl, rfl⟩)
    refine (DrawFirstWrongCell_d _ _ _ _ _ h (by omega)).mono ?_
    rintro e w1 ⟨A1, m1, c1, zs, rfl, hm1, own1, b1⟩
    have B1 := hide b1
    have t1 : (fwC zs != fwC zs) = false := by simp
    have t3 : (fwV zs != fwV zs) = false := by simp
    clear b1
    go_wp2_with fail
    refine (iFirstWrongCell_c _ _ _ zs _ own1.rd (by omega)).mono ?_
    rintro e w2 ⟨rfl, b2⟩
    have B2 := hide (below_trans B1.out b2)
    have P2 := hide (own1.below b2)
    clear own1 b2
    go_wp2_with fail
    refine (sFirstWrongCell_c _ _ _ zs _ P2.out.rd (by omega)).mono ?_
    rintro e w3 ⟨rfl, b3⟩
    have B3 := hide (below_trans B2.out b3)
    have P3 := hide (P2.out.below b3)
    have lP := hide P3.out.len
    have cP := P3.out.cap
    clear b3
    by_cases hz : bitsB zs = true
    · obtain ⟨h8, hb⟩ := bitsB_get hz
      have E := hide (fw_good hz)
      have t2 : (fwC zs != 0) = false := by rw [E.out.2]; rfl
      go_wp2_with fail
      refine (iNewScan_any _).mono ?_
      rintro e w4 ⟨rfl, b4⟩
      have P4 := hide (P3.out.below b4)
      have B4 := hide (below_trans B3.out b4)
      clear b4
      go_wp2_with fail
      refine (iScan_new _ _ _ zs _ P4.out.rd h8 hb).mono ?_
      rintro e w5 ⟨A5, m5, c5, rfl, own5, b5⟩
      have P5 := hide (P4.out.below b5)
      have B5 := hide (below_trans B4.out b5)
      have O5 := hide own5
      have ba := (Below.refl w5.heap.size w5).alloc (Nat.le_refl _) (.cells #[.int .i64 (scnEnd zs).ph, .int .i64 (scnEnd zs).ct, .int .i64 (scnEnd zs).vl, .slice A5 m5 c5] 30)
      have F6 := hide (ScnAt.fresh w5 #[.int .i64 (scnEnd zs).ph, .int .i64 (scnEnd zs).ct, .int .i64 (scnEnd zs).vl, .slice A5 m5 c5])
      have P6 := hide (P5.out.below ba)
      have B6 := hide (below_trans B5.out ba)
      have O6 := hide (O5.out.below ba)
      clear b5 own5 ba
      go_wp2_with fail
      refine (iBytesOfLine_c _ _ _ zs _ P6.out.rd (by omega)).mono ?_
      rintro e w7 ⟨A7, m7, c7, rfl, own7, b7, hm7⟩
      have F7 := hide (F6.out.below b7)
      have P7 := hide (P6.out.below b7)
      have B7 := hide (below_trans B6.out b7)
      have O7 := hide (O6.out.below b7)
      have D7 := hide own7
      have l7 := F7.out.lt
      have y0 : w7.cell? ⟨w5.heap.size, 0, none⟩ = some (.int .i64 (scnEnd zs).ph) := F7.out.cell 0
      have y1 : w7.cell? ⟨w5.heap.size, 1, none⟩ = some (.int .i64 (scnEnd zs).ct) := F7.out.cell 1
      have y2 : w7.cell? ⟨w5.heap.size, 2, none⟩ = some (.int .i64 (scnEnd zs).vl) := F7.out.cell 2
      have y3 : w7.cell? ⟨w5.heap.size, 3, none⟩ = some (.slice A5 m5 c5) := F7.out.cell 3
      clear b7 own7
      go_wp2_with fail
      refine (iIsFinished_c (scnEnd zs) A5 m5 c5 _ O7.out.rd).mono ?_
      rintro e w8 ⟨rfl, b8⟩
      rw [scnEnd_done h8 hb]
      have F8 := hide (F7.out.below b8)
      have P8 := hide (P7.out.below b8)
      have B8 := hide (below_trans B7.out b8)
      have O8 := hide (O7.out.below b8)
      have D8 := hide (D7.out.below b8)
      have l8 := F8.out.lt
      have z0 : w8.cell? ⟨w5.heap.size, 0, none⟩ = some (.int .i64 (scnEnd zs).ph) := F8.out.cell 0
      have z3 : w8.cell? ⟨w5.heap.size, 3, none⟩ = some (.slice A5 m5 c5) := F8.out.cell 3
      clear b8 y0 y1 y2 y3
      have hk : fwR zs < 0 ∨ ∃ k : Nat, fwR zs = (k : Int) := by
        by_cases e : fwR zs < 0
        · exact .inl e
        · exact .inr ⟨(fwR zs).toNat, by omega⟩
      cases hl : lineB zs
      · have tl : (lnC zs == 0) = false := by rw [line_code h8 hb, hl]
        rcases hk with hk | ⟨k, hk⟩
        · have tm : decide (fwV zs < 0) = true := decide_eq_true (by rw [E.out.1]; exact hk)
          have tp : ((scnEnd zs).ph != 7) = true := by
            have : (scnEnd zs).ph ≠ 7 := fw_right hk
            simpa using this
          clear hk
          go_wp2_with fail
          go_ret
          exact ⟨rfl, B8.out⟩
        · have ev := hide (show fwV zs = (k : Int) from by rw [E.out.1]; exact hk)
          have tm : decide (fwV zs < 0) = false := decide_eq_false (by rw [ev.out]; omega)
          obtain ⟨f1, f2, f3⟩ := fw_wrong hk
          have km : k < m1 := by have := lP.out; omega
          have t7 : ((scnEnd zs).ph == 7) = true := by
            have : (scnEnd zs).ph = 7 := f3
            rw [this]; rfl
          have hph : (scnEnd (zs.take k)).ph ≠ 7 := by
            have e : scnEnd (zs.take k) = scanTo zeroS zs k := by
              rw [scnEnd, List.length_take, Nat.min_eq_left (by omega)]
              exact scan_take (Nat.le_refl _)
            rw [e]; exact f2
          have t8 : ((scnEnd (zs.take k)).ph != 7) = true := by simpa using hph
          have htk := hide (allB_take hb k)
          have ht8 : (zs.take k).length ≤ 8192 := by rw [List.length_take]; omega
          have HT8 := hide ht8
          clear hk f1 f2 f3 hph ht8
          have cP8 := P8.out.cap
          rcases P8.out.form with ⟨_, h0, _⟩ | ⟨gb, rfl, _, _⟩
          · omega
          have e1 := ev.out
          have z1 : (0 : Int) ≤ (k : Int) := by omega
          have z2 : (k : Int) ≤ (c1 : Int) := by omega
          go_wp2_with fail
          go_region_with (first | (go_at_call 69; (with_reducible refine (iNewScan_any _).mono ?_); rintro e wa ⟨rfl, ba⟩; have bb : Below w8.heap.size w8 wa := below_drewM2 ba; have PA := hide (P8.out.below bb); have FA := hide (F8.out.below bb); have BA := hide (below_trans B8.out bb); clear ba bb) | (go_at_call 69; (with_reducible refine (iNewScan_any _).mono ?_); rintro e wa ⟨rfl, ba⟩; have bb : Below (w8.alloc (.cells #[.int .i64 0, .int .i64 0, .int .i64 0, .slice none 0 0] 30)).heap.size (w8.alloc (.cells #[.int .i64 0, .int .i64 0, .int .i64 0, .slice none 0 0] 30)) wa := below_drewM2 ba; have bz := (Below.refl w8.heap.size w8).alloc (Nat.le_refl _) (.cells #[.int .i64 0, .int .i64 0, .int .i64 0, .slice none 0 0] 30); have PA := hide ((P8.out.below bz).below bb); have FA := hide ((F8.out.below bz).below bb); have BA := hide (below_trans (below_trans B8.out bz) bb); have G12 := hide ((ScnAt.fresh w8 #[.int .i64 0, .int .i64 0, .int .i64 0, .slice none 0 0]).below bb); clear ba bb bz) | (go_at_call 56; (with_reducible refine (iScan_new (some ⟨gb, 0, none⟩) k c1 (zs.take k) _ (PA.out.rd.take (by omega)) HT8.out htk.out).mono ?_); rintro e wb ⟨A9, m9, c9, rfl, own9, b9⟩; have g12 := G12.out; have la := FA.out.lt; have FA0 := FA.out; have BA0 := BA.out; have FB := hide (FA0.below b9); have BB := hide (below_trans BA0 b9); have lb := FB.out.lt; have v0 : wb.cell? ⟨w5.heap.size, 0, none⟩ = some (.int .i64 (scnEnd zs).ph) := FB.out.cell 0; have GB := hide (g12.below b9); have lg := GB.out.lt; have k0 : wb.cell? ⟨w8.heap.size, 0, none⟩ = some (.int .i64 0) := GB.out.cell 0; have k1 : wb.cell? ⟨w8.heap.size, 1, none⟩ = some (.int .i64 0) := GB.out.cell 1; have k2 : wb.cell? ⟨w8.heap.size, 2, none⟩ = some (.int .i64 0) := GB.out.cell 2; have k3 : wb.cell? ⟨w8.heap.size, 3, none⟩ = some (.slice none 0 0) := GB.out.cell 3; have j0 := GB.out.frozen 0; have j1 := GB.out.frozen 1; have j2 := GB.out.frozen 2; have j3 := GB.out.frozen 3; clear b9) | (go_at_call 56; (with_reducible refine (iScan_new (some ⟨gb, 0, none⟩) k c1 (zs.take k) _ (PA.out.rd.take (by omega)) HT8.out htk.out).mono ?_); rintro e wb ⟨A9, m9, c9, rfl, own9, b9⟩; have la := FA.out.lt; have FA0 := FA.out; have BA0 := BA.out; have FB := hide (FA0.below b9); have BB := hide (below_trans BA0 b9); have lb := FB.out.lt; have v0 : wb.cell? ⟨w5.heap.size, 0, none⟩ = some (.int .i64 (scnEnd zs).ph) := FB.out.cell 0; clear b9) | (go_at_call 56; have bz := (Below.refl wa.heap.size wa).alloc (Nat.le_refl _) (.cells #[.int .i64 0, .int .i64 0, .int .i64 0, .slice none 0 0] 30); (with_reducible refine (iScan_new (some ⟨gb, 0, none⟩) k c1 (zs.take k) _ ((PA.out.below bz).rd.take (by omega)) HT8.out htk.out).mono ?_); rintro e wb ⟨A9, m9, c9, rfl, own9, b9⟩; have la := FA.out.lt; have FA0 := FA.out.below bz; have BA0 := below_trans BA.out bz; have FB := hide (FA0.below b9); have BB := hide (below_trans BA0 b9); have lb := FB.out.lt; have v0 : wb.cell? ⟨w5.heap.size, 0, none⟩ = some (.int .i64 (scnEnd zs).ph) := FB.out.cell 0; have GB := hide ((ScnAt.fresh wa #[.int .i64 0, .int .i64 0, .int .i64 0, .slice none 0 0]).below b9); have lg := GB.out.lt; have k0 : wb.cell? ⟨wa.heap.size, 0, none⟩ = some (.int .i64 0) := GB.out.cell 0; have k1 : wb.cell? ⟨wa.heap.size, 1, none⟩ = some (.int .i64 0) := GB.out.cell 1; have k2 : wb.cell? ⟨wa.heap.size, 2, none⟩ = some (.int .i64 0) := GB.out.cell 2; have k3 : wb.cell? ⟨wa.heap.size, 3, none⟩ = some (.slice none 0 0) := GB.out.cell 3; have j0 := GB.out.frozen 0; have j1 := GB.out.frozen 1; have j2 := GB.out.frozen 2; have j3 := GB.out.frozen 3; clear b9))
          all_goals
            go_wp2_with fail
            go_ret
            refine ⟨rfl, ?_⟩
            first
              | exact below_trans BB.out ((Below.refl _ _).alloc (Nat.le_refl _) _)
              | exact below_set4 BB.out (by first | omega | (have := B8.out.size; omega) | (have := BA.out.size; omega)) _ _ _ _
      · have tl : (lnC zs == 0) = true := by rw [line_code h8 hb, hl]
        have eb : eqB (scnEnd zs).bs (lnD zs) = true := eqB_yes (by rw [scnEnd_bytes hb hl, (ln_yes hz hl).2.2.2.1])
        go_wp2_with fail
        refine (likeInts_b _ _ _ _ _ _ _ _ _ O8.out.rd D8.out.rd).mono ?_
        rintro e w9 ⟨rfl, b9⟩
        have F9 := hide (F8.out.below b9)
        have P9 := hide (P8.out.below b9)
        have B9 := hide (below_trans B8.out b9)
        have l9 := F9.out.lt
        have u0 : w9.cell? ⟨w5.heap.size, 0, none⟩ = some (.int .i64 (scnEnd zs).ph) := F9.out.cell 0
        clear b9 z0 z3
        rcases hk with hk | ⟨k, hk⟩
        · have tm : decide (fwV zs < 0) = true := decide_eq_true (by rw [E.out.1]; exact hk)
          have tp : ((scnEnd zs).ph != 7) = true := by
            have : (scnEnd zs).ph ≠ 7 := fw_right hk
            simpa using this
          clear hk
          go_wp2_with fail
          go_ret
          exact ⟨rfl, B9.out⟩
        · have ev := hide (show fwV zs = (k : Int) from by rw [E.out.1]; exact hk)
          have tm : decide (fwV zs < 0) = false := decide_eq_false (by rw [ev.out]; omega)
          obtain ⟨f1, f2, f3⟩ := fw_wrong hk
          have km : k < m1 := by have := lP.out; omega
          have t7 : ((scnEnd zs).ph == 7) = true := by
            have : (scnEnd zs).ph = 7 := f3
            rw [this]; rfl
          have hph : (scnEnd (zs.take k)).ph ≠ 7 := by
            have e : scnEnd (zs.take k) = scanTo zeroS zs k := by
              rw [scnEnd, List.length_take, Nat.min_eq_left (by omega)]
              exact scan_take (Nat.le_refl _)
            rw [e]; exact f2
          have t8 : ((scnEnd (zs.take k)).ph != 7) = true := by simpa using hph
          have htk := hide (allB_take hb k)
          have ht8 : (zs.take k).length ≤ 8192 := by rw [List.length_take]; omega
          have HT8 := hide ht8
          clear hk f1 f2 f3 hph ht8
          have cP9 := P9.out.cap
          rcases P9.out.form with ⟨_, h0, _⟩ | ⟨gb, rfl, _, _⟩
          · omega
          have e1 := ev.out
          have z1 : (0 : Int) ≤ (k : Int) := by omega
          have z2 : (k : Int) ≤ (c1 : Int) := by omega
          go_wp2_with fail
          go_region_with (first | (go_at_call 69; (with_reducible refine (iNewScan_any _).mono ?_); rintro e wa ⟨rfl, ba⟩; have bb : Below w9.heap.size w9 wa := below_drewM2 ba; have PA := hide (P9.out.below bb); have FA := hide (F9.out.below bb); have BA := hide (below_trans B9.out bb); clear ba bb) | (go_at_call 69; (with_reducible refine (iNewScan_any _).mono ?_); rintro e wa ⟨rfl, ba⟩; have bb : Below (w9.alloc (.cells #[.int .i64 0, .int .i64 0, .int .i64 0, .slice none 0 0] 30)).heap.size (w9.alloc (.cells #[.int .i64 0, .int .i64 0, .int .i64 0, .slice none 0 0] 30)) wa := below_drewM2 ba; have bz := (Below.refl w9.heap.size w9).alloc (Nat.le_refl _) (.cells #[.int .i64 0, .int .i64 0, .int .i64 0, .slice none 0 0] 30); have PA := hide ((P9.out.below bz).below bb); have FA := hide ((F9.out.below bz).below bb); have BA := hide (below_trans (below_trans B9.out bz) bb); have G12 := hide ((ScnAt.fresh w9 #[.int .i64 0, .int .i64 0, .int .i64 0, .slice none 0 0]).below bb); clear ba bb bz) | (go_at_call 56; (with_reducible refine (iScan_new (some ⟨gb, 0, none⟩) k c1 (zs.take k) _ (PA.out.rd.take (by omega)) HT8.out htk.out).mono ?_); rintro e wb ⟨A9, m9, c9, rfl, own9, b9⟩; have g12 := G12.out; have la := FA.out.lt; have FA0 := FA.out; have BA0 := BA.out; have FB := hide (FA0.below b9); have BB := hide (below_trans BA0 b9); have lb := FB.out.lt; have v0 : wb.cell? ⟨w5.heap.size, 0, none⟩ = some (.int .i64 (scnEnd zs).ph) := FB.out.cell 0; have GB := hide (g12.below b9); have lg := GB.out.lt; have k0 : wb.cell? ⟨w9.heap.size, 0, none⟩ = some (.int .i64 0) := GB.out.cell 0; have k1 : wb.cell? ⟨w9.heap.size, 1, none⟩ = some (.int .i64 0) := GB.out.cell 1; have k2 : wb.cell? ⟨w9.heap.size, 2, none⟩ = some (.int .i64 0) := GB.out.cell 2; have k3 : wb.cell? ⟨w9.heap.size, 3, none⟩ = some (.slice none 0 0) := GB.out.cell 3; have j0 := GB.out.frozen 0; have j1 := GB.out.frozen 1; have j2 := GB.out.frozen 2; have j3 := GB.out.frozen 3; clear b9) | (go_at_call 56; (with_reducible refine (iScan_new (some ⟨gb, 0, none⟩) k c1 (zs.take k) _ (PA.out.rd.take (by omega)) HT8.out htk.out).mono ?_); rintro e wb ⟨A9, m9, c9, rfl, own9, b9⟩; have la := FA.out.lt; have FA0 := FA.out; have BA0 := BA.out; have FB := hide (FA0.below b9); have BB := hide (below_trans BA0 b9); have lb := FB.out.lt; have v0 : wb.cell? ⟨w5.heap.size, 0, none⟩ = some (.int .i64 (scnEnd zs).ph) := FB.out.cell 0; clear b9) | (go_at_call 56; have bz := (Below.refl wa.heap.size wa).alloc (Nat.le_refl _) (.cells #[.int .i64 0, .int .i64 0, .int .i64 0, .slice none 0 0] 30); (with_reducible refine (iScan_new (some ⟨gb, 0, none⟩) k c1 (zs.take k) _ ((PA.out.below bz).rd.take (by omega)) HT8.out htk.out).mono ?_); rintro e wb ⟨A9, m9, c9, rfl, own9, b9⟩; have la := FA.out.lt; have FA0 := FA.out.below bz; have BA0 := below_trans BA.out bz; have FB := hide (FA0.below b9); have BB := hide (below_trans BA0 b9); have lb := FB.out.lt; have v0 : wb.cell? ⟨w5.heap.size, 0, none⟩ = some (.int .i64 (scnEnd zs).ph) := FB.out.cell 0; have GB := hide ((ScnAt.fresh wa #[.int .i64 0, .int .i64 0, .int .i64 0, .slice none 0 0]).below b9); have lg := GB.out.lt; have k0 : wb.cell? ⟨wa.heap.size, 0, none⟩ = some (.int .i64 0) := GB.out.cell 0; have k1 : wb.cell? ⟨wa.heap.size, 1, none⟩ = some (.int .i64 0) := GB.out.cell 1; have k2 : wb.cell? ⟨wa.heap.size, 2, none⟩ = some (.int .i64 0) := GB.out.cell 2; have k3 : wb.cell? ⟨wa.heap.size, 3, none⟩ = some (.slice none 0 0) := GB.out.cell 3; have j0 := GB.out.frozen 0; have j1 := GB.out.frozen 1; have j2 := GB.out.frozen 2; have j3 := GB.out.frozen 3; clear b9))
          all_goals
            go_wp2_with fail
            go_ret
            refine ⟨rfl, ?_⟩
            first
              | exact below_trans BB.out ((Below.refl _ _).alloc (Nat.le_refl _) _)
              | exact below_set4 BB.out (by first | omega | (have := B9.out.size; omega) | (have := BA.out.size; omega)) _ _ _ _
    · rw [Bool.not_eq_true] at hz
      have E := hide (fw_bad hz)
      have t2 : (fwC zs != 0) = true := by rw [E.out.2]; rfl
      go_wp2_with fail
      go_ret
      exact ⟨rfl, B3.out⟩
end Go.Proofs.Ytdodhjahihfaiaa
