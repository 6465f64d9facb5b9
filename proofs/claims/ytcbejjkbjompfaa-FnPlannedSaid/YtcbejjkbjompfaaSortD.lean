/- Sorting demands in place: the merge walked. Written by gen_sortd.py. -/
import Derived.Test.YtcbejjkbjompfaaSortC
import Derived.Deep.RegionWith
import Derived.Deep.RegionHeld3
import Derived.Deep.Cut
import Derived.Deep.CutRange
import Derived.Deep.DeepCutAuto
import Derived.IntWalk
namespace Go.Proofs.Ytcbejjkbjompfaa
open Go.RowKit
set_option linter.unusedVariables false
set_option linter.unusedSimpArgs false
set_option maxHeartbeats 6400000 in
set_option maxRecDepth 100000 in
theorem symL_any (B g n c a m b : Nat) (ds : List Dem) (w : World) (h : OwnF 38 3 w B (some ⟨g, 0, none⟩) n c (flatD ds)) (hs : Sml ds) (hm : m = a + 1) (hmb : m < b) (hbn : b ≤ n) (hn : n ≤ 1000) (h1 : Srt m b ds) :
    Calls Try.prog 43 #[.slice (some ⟨g, 0, none⟩) n c, .int .i64 (a : Int), .int .i64 (m : Int), .int .i64 (b : Int), .func (.func 24) #[] #[]] w (RowOut w B g n c fun es => SP a b ds es ∧ Srt a b es) := by
  have hcap := h.cap
  have hlen : ds.length = n := by have := h.len; rw [flatD_len] at this; omega
  have han : a < n := by omega
  have hm1 : (m : Int) - (a : Int) = 1 := by omega
  have HM := hide hm
  clear hm
  go_enter Try.func43, Try.ntmps43
  go_wp2
  go_loopw [10, 11] (fun p q wr => ∃ i j : Nat, p = .int .i64 i ∧ q = .int .i64 j ∧ i ≤ j ∧ j ≤ b ∧ Hid (BS (fun t => (dem ds t).ev < (dem ds a).ev) m b i j) ∧ OwnF 38 3 wr B (some ⟨g, 0, none⟩) n c (flatD ds) ∧ w.grownBy wr (some g)) (fun p q _ => (intOf q).toNat - (intOf p).toNat)
  case atStart => exact ⟨m, b, rfl, rfl, by omega, by omega, hide (BS.start _ (by omega)), h, grown_refl _ _⟩
  case round =>
    obtain ⟨i, j, rfl, rfl, hij, hjb, hbs, hown, hgr⟩ := hrel
    by_cases hlt : i < j
    · obtain ⟨t, ht⟩ : ∃ t, t = (i + j) / 2 := ⟨_, rfl⟩
      have htb : i ≤ t ∧ t < j := by omega
      have hsum : i + j ≤ 2000 := by omega
      obtain ⟨x, hx⟩ : ∃ x, x = dem ds t := ⟨_, rfl⟩
      obtain ⟨y, hy⟩ : ∃ y, y = dem ds a := ⟨_, rfl⟩
      have sx := hs x (by rw [hx]; exact dem_mem (by omega))
      have sy := hs y (by rw [hy]; exact dem_mem (by omega))
      obtain ⟨cn0, cn1, cn2⟩ := nth_flatD ds (k := t) (by omega)
      have c0 := hown.cell (j := t * 3) (by omega)
      have c1 := hown.cell (j := t * 3 + 1) (by omega)
      have c2 := hown.cell (j := t * 3 + 2) (by omega)
      rw [cn0, ← hx] at c0
      rw [cn1, ← hx] at c1
      rw [cn2, ← hx] at c2
      clear cn0 cn1 cn2
      obtain ⟨dn0, dn1, dn2⟩ := nth_flatD ds (k := a) (by omega)
      have d0 := hown.cell (j := a * 3) (by omega)
      have d1 := hown.cell (j := a * 3 + 1) (by omega)
      have d2 := hown.cell (j := a * 3 + 2) (by omega)
      rw [dn0, ← hy] at d0
      rw [dn1, ← hy] at d1
      rw [dn2, ← hy] at d2
      clear dn0 dn1 dn2
      have tz1 : (0 : Int) ≤ (t : Int) := by omega
      have tz2 : (t : Int) < (n : Int) := by omega
      have az1 : (0 : Int) ≤ (a : Int) := by omega
      have az2 : (a : Int) < (n : Int) := by omega
      have HX := hide hx
      have HY := hide hy
      have HO := hide hown
      have HG := hide hgr
      have gb := (hOb hown)
      clear hx hy hown hgr
      have htw : ((i : Int) + (j : Int)) / 2 = (t : Int) := by omega
      clear ht hlt
      go_upto_region 5 with (fail)
      go_region_held3 (fun w' => w'.cell? ⟨g, t * 3, none⟩ = some (.int .i64 x.nd) ∧ w'.cell? ⟨g, t * 3 + 1, none⟩ = some (.int .i64 x.ev) ∧ w'.cell? ⟨g, t * 3 + 2, none⟩ = some (.int .i64 x.sz) ∧ w'.cell? ⟨g, a * 3, none⟩ = some (.int .i64 y.nd) ∧ w'.cell? ⟨g, a * 3 + 1, none⟩ = some (.int .i64 y.ev) ∧ w'.cell? ⟨g, a * 3 + 2, none⟩ = some (.int .i64 y.sz)) (go_keep) ((go_at_call 24; (with_reducible refine (cmp_any x y _ sx sy).mono ?_); rintro e w2 ⟨rfl, b2'⟩; have b2 := below_drewS2 b2'; have e0 := (b2.cell (p := ⟨g, t * 3, none⟩) gb).trans c0; have e1 := (b2.cell (p := ⟨g, t * 3 + 1, none⟩) gb).trans c1; have e2 := (b2.cell (p := ⟨g, t * 3 + 2, none⟩) gb).trans c2; have f0 := (b2.cell (p := ⟨g, a * 3, none⟩) gb).trans d0; have f1 := (b2.cell (p := ⟨g, a * 3 + 1, none⟩) gb).trans d1; have f2 := (b2.cell (p := ⟨g, a * 3 + 2, none⟩) gb).trans d2; have HO2 := hide (HO.out.below b2); have HG2 := hide (grown_trans HG.out (grownBy_of_below b2 (some g))); clear b2 b2'))
      have ex := HX.out
      have ey := HY.out
      by_cases hc : x.ev - y.ev < 0
      · have tc : decide (x.ev - y.ev < 0) = true := decide_eq_true hc
        simp only [tc]
        go_wp2_with fail
        go_roundw
        case rel => exact ⟨t + 1, j, by go_num, rfl, by omega, by omega, hide (hbs.out.up htb.1 htb.2 (by rw [← ex, ← ey]; omega)), HO2.out, HG2.out⟩
        case measure => simp [intOf]; omega
      · have tc : decide (x.ev - y.ev < 0) = false := decide_eq_false hc
        simp only [tc]
        go_wp2_with fail
        go_roundw
        case rel => exact ⟨i, t, rfl, rfl, by omega, by omega, hide (hbs.out.down htb.1 htb.2 (by rw [← ex, ← ey]; omega)), HO2.out, HG2.out⟩
        case measure => simp [intOf]; omega
    · obtain rfl : j = i := by omega
      have hj := hbs.out
      obtain ⟨b1, b2, b3, b4, b5⟩ := hj
      have HB4 := hide b4
      have HB5 := hide b5
      clear b4 b5
      have HS := hide h1
      go_wp2
      go_loopw [13] (fun p wr => ∃ (k : Nat) (fs : List Dem), a ≤ k ∧ k + 1 ≤ j ∧ p = .int .i64 k ∧ Hid (SP a b ds fs) ∧ Hid (ShL a k ds fs) ∧ OwnF 38 3 wr B (some ⟨g, 0, none⟩) n c (flatD fs) ∧ w.grownBy wr (some g)) (fun p _ => j - (intOf p).toNat)
      case atStart => exact ⟨a, ds, by omega, by omega, rfl, hide (SP.refl _ _ _), hide (ShL.start _ _), hown, hgr⟩
      case round =>
        obtain ⟨k, fs, hak, hkj, rfl, hsp, hsh, hown, hgr⟩ := hrel
        have hfl : fs.length = n := hsp.out.len.trans hlen
        by_cases hlt2 : k + 1 < j
        · obtain ⟨t, ht⟩ : ∃ t, t = k + 1 := ⟨_, rfl⟩
          obtain ⟨x, hx⟩ : ∃ x, x = dem fs t := ⟨_, rfl⟩
          obtain ⟨y, hy⟩ : ∃ y, y = dem fs k := ⟨_, rfl⟩
          obtain ⟨cn0, cn1, cn2⟩ := nth_flatD fs (k := t) (by omega)
          have c0 := hown.cell (j := t * 3) (by omega)
          have c1 := hown.cell (j := t * 3 + 1) (by omega)
          have c2 := hown.cell (j := t * 3 + 2) (by omega)
          rw [cn0, ← hx] at c0
          rw [cn1, ← hx] at c1
          rw [cn2, ← hx] at c2
          clear cn0 cn1 cn2
          obtain ⟨dn0, dn1, dn2⟩ := nth_flatD fs (k := k) (by omega)
          have d0 := hown.cell (j := k * 3) (by omega)
          have d1 := hown.cell (j := k * 3 + 1) (by omega)
          have d2 := hown.cell (j := k * 3 + 2) (by omega)
          rw [dn0, ← hy] at d0
          rw [dn1, ← hy] at d1
          rw [dn2, ← hy] at d2
          clear dn0 dn1 dn2
          have q0 := hown.frozen (t * 3)
          have q1 := hown.frozen (t * 3 + 1)
          have q2 := hown.frozen (t * 3 + 2)
          have r0 := hown.frozen (k * 3)
          have r1 := hown.frozen (k * 3 + 1)
          have r2 := hown.frozen (k * 3 + 2)
          have kz1 : (0 : Int) ≤ (k : Int) := by omega
          have kz2 : (k : Int) < (n : Int) := by omega
          have tz1 : (0 : Int) ≤ (t : Int) := by omega
          have tz2 : (t : Int) < (n : Int) := by omega
          have HX := hide hx
          have HY := hide hy
          have HO := hide hown
          have HG := hide hgr
          clear hx hy hown hgr
          have tw : IntKind.i64.wrap ((k : Int) + 1) = (t : Int) := by
            rw [IntWalk.i64_in _ ⟨by omega, by omega⟩]; omega
          have HT := hide ht
          have hft : k < fs.length ∧ t < fs.length ∧ k ≠ t := by omega
          clear ht
          go_wp2_with fail
          go_region
          go_wp2_with fail
          go_roundw
          case rel =>
            obtain ⟨O3, G3⟩ := HO.out.swap2 hft.1 hft.2.1 HX.out HY.out
            have es3 : swp fs k t = swp fs k (k + 1) := by rw [HT.out]
            have hsp2 := hsp.out
            have hxe := hsh.out.2.2 t (by rw [HT.out]; omega)
            have hye := hsh.out.2.1
            have hev : (dem fs (k + 1)).ev ≠ (dem fs k).ev := by
              rw [← HT.out, hxe, hye]
              rcases HB4.out with h9 | h9
              · have := HT.out; omega
              · have h9' : (dem ds (j - 1)).ev < (dem ds a).ev := h9
                have h10 : (dem ds t).ev ≤ (dem ds (j - 1)).ev := by
                  rcases Nat.lt_or_eq_of_le (show t ≤ j - 1 by have := HT.out; omega) with h11 | h11
                  · exact HS.out t (j - 1) (by have := HT.out; omega) h11 (by omega)
                  · rw [h11]; exact Int.le_refl _
                omega
            have hsw : SP a b fs (swp fs k (k + 1)) := SP.swap hak (by omega) (by omega) hev
            rw [es3] at O3
            exact ⟨t, swp fs k (k + 1), by have := HT.out; omega, by have := HT.out; omega, rfl, hide (hsp2.trans hsw), (by rw [HT.out]; exact hide (hsh.out.step hak (by omega))), O3.drew, grown_drewS (grown_trans HG.out G3)⟩
          case measure => simp [intOf]; have := HT.out; omega
        · obtain rfl : j = k + 1 := by omega
          go_wp2
          go_end0
          exact ⟨rfl, fs, hown, ⟨hsp.out, hsh.out.done hak (by omega) (by rw [← HM.out]; exact HS.out) (by
            rcases HB4.out with h9 | h9
            · left; omega
            · right; exact h9) (by
            rcases HB5.out with h9 | h9
            · left; exact h9
            · right; exact Int.not_lt.2 h9)⟩, hgr⟩
set_option maxHeartbeats 6400000 in
set_option maxRecDepth 100000 in
theorem symR_any (B g n c a m b : Nat) (ds : List Dem) (w : World) (h : OwnF 38 3 w B (some ⟨g, 0, none⟩) n c (flatD ds)) (hs : Sml ds) (ham : a + 1 < m) (hmb : b = m + 1) (hbn : b ≤ n) (hn : n ≤ 1000) (h1 : Srt a m ds) :
    Calls Try.prog 43 #[.slice (some ⟨g, 0, none⟩) n c, .int .i64 (a : Int), .int .i64 (m : Int), .int .i64 (b : Int), .func (.func 24) #[] #[]] w (RowOut w B g n c fun es => SP a b ds es ∧ Srt a b es) := by
  have hcap := h.cap
  have hlen : ds.length = n := by have := h.len; rw [flatD_len] at this; omega
  have hmn : m < n := by omega
  have hm0 : ((m : Int) - (a : Int) == 1) = false := by
    rw [beq_eq_false_iff_ne]; omega
  have hm1 : (b : Int) - (m : Int) = 1 := by omega
  have HM := hide hmb
  clear hmb
  go_enter Try.func43, Try.ntmps43
  go_wp2
  go_loopw [14, 15] (fun p q wr => ∃ i j : Nat, p = .int .i64 i ∧ q = .int .i64 j ∧ a ≤ i ∧ i ≤ j ∧ j ≤ m ∧ Hid (BS (fun t => (dem ds t).ev ≤ (dem ds m).ev) a m i j) ∧ OwnF 38 3 wr B (some ⟨g, 0, none⟩) n c (flatD ds) ∧ w.grownBy wr (some g)) (fun p q _ => (intOf q).toNat - (intOf p).toNat)
  case atStart => exact ⟨a, m, rfl, rfl, by omega, by omega, by omega, hide (BS.start _ (by omega)), h, grown_refl _ _⟩
  case round =>
    obtain ⟨i, j, rfl, rfl, hai, hij, hjb, hbs, hown, hgr⟩ := hrel
    by_cases hlt : i < j
    · obtain ⟨t, ht⟩ : ∃ t, t = (i + j) / 2 := ⟨_, rfl⟩
      have htb : i ≤ t ∧ t < j := by omega
      have hsum : i + j ≤ 2000 := by omega
      obtain ⟨x, hx⟩ : ∃ x, x = dem ds m := ⟨_, rfl⟩
      obtain ⟨y, hy⟩ : ∃ y, y = dem ds t := ⟨_, rfl⟩
      have sx := hs x (by rw [hx]; exact dem_mem (by omega))
      have sy := hs y (by rw [hy]; exact dem_mem (by omega))
      obtain ⟨cn0, cn1, cn2⟩ := nth_flatD ds (k := m) (by omega)
      have c0 := hown.cell (j := m * 3) (by omega)
      have c1 := hown.cell (j := m * 3 + 1) (by omega)
      have c2 := hown.cell (j := m * 3 + 2) (by omega)
      rw [cn0, ← hx] at c0
      rw [cn1, ← hx] at c1
      rw [cn2, ← hx] at c2
      clear cn0 cn1 cn2
      obtain ⟨dn0, dn1, dn2⟩ := nth_flatD ds (k := t) (by omega)
      have d0 := hown.cell (j := t * 3) (by omega)
      have d1 := hown.cell (j := t * 3 + 1) (by omega)
      have d2 := hown.cell (j := t * 3 + 2) (by omega)
      rw [dn0, ← hy] at d0
      rw [dn1, ← hy] at d1
      rw [dn2, ← hy] at d2
      clear dn0 dn1 dn2
      have mz1 : (0 : Int) ≤ (m : Int) := by omega
      have mz2 : (m : Int) < (n : Int) := by omega
      have tz1 : (0 : Int) ≤ (t : Int) := by omega
      have tz2 : (t : Int) < (n : Int) := by omega
      have HX := hide hx
      have HY := hide hy
      have HO := hide hown
      have HG := hide hgr
      have gb := (hOb hown)
      clear hx hy hown hgr
      have htw : ((i : Int) + (j : Int)) / 2 = (t : Int) := by omega
      clear ht hlt
      go_upto_region 17 with (fail)
      go_region_held3 (fun w' => w'.cell? ⟨g, m * 3, none⟩ = some (.int .i64 x.nd) ∧ w'.cell? ⟨g, m * 3 + 1, none⟩ = some (.int .i64 x.ev) ∧ w'.cell? ⟨g, m * 3 + 2, none⟩ = some (.int .i64 x.sz) ∧ w'.cell? ⟨g, t * 3, none⟩ = some (.int .i64 y.nd) ∧ w'.cell? ⟨g, t * 3 + 1, none⟩ = some (.int .i64 y.ev) ∧ w'.cell? ⟨g, t * 3 + 2, none⟩ = some (.int .i64 y.sz)) (go_keep) ((go_at_call 24; (with_reducible refine (cmp_any x y _ sx sy).mono ?_); rintro e w2 ⟨rfl, b2'⟩; have b2 := below_drewS2 b2'; have e0 := (b2.cell (p := ⟨g, m * 3, none⟩) gb).trans c0; have e1 := (b2.cell (p := ⟨g, m * 3 + 1, none⟩) gb).trans c1; have e2 := (b2.cell (p := ⟨g, m * 3 + 2, none⟩) gb).trans c2; have f0 := (b2.cell (p := ⟨g, t * 3, none⟩) gb).trans d0; have f1 := (b2.cell (p := ⟨g, t * 3 + 1, none⟩) gb).trans d1; have f2 := (b2.cell (p := ⟨g, t * 3 + 2, none⟩) gb).trans d2; have HO2 := hide (HO.out.below b2); have HG2 := hide (grown_trans HG.out (grownBy_of_below b2 (some g))); clear b2 b2'))
      have ex := HX.out
      have ey := HY.out
      by_cases hc : x.ev - y.ev < 0
      · have tc : decide (x.ev - y.ev < 0) = true := decide_eq_true hc
        simp only [tc]
        go_wp2_with fail
        go_roundw
        case rel => exact ⟨i, t, rfl, rfl, by omega, by omega, by omega, hide (hbs.out.down htb.1 htb.2 (by rw [← ex, ← ey]; omega)), HO2.out, HG2.out⟩
        case measure => simp [intOf]; omega
      · have tc : decide (x.ev - y.ev < 0) = false := decide_eq_false hc
        simp only [tc]
        go_wp2_with fail
        go_roundw
        case rel => exact ⟨t + 1, j, by go_num, rfl, by omega, by omega, by omega, hide (hbs.out.up htb.1 htb.2 (by rw [← ex, ← ey]; omega)), HO2.out, HG2.out⟩
        case measure => simp [intOf]; omega
    · obtain rfl : j = i := by omega
      have hj := hbs.out
      obtain ⟨b1, b2, b3, b4, b5⟩ := hj
      have HB4 := hide b4
      have HB5 := hide b5
      clear b4 b5
      have HS := hide h1
      go_wp2
      go_loopw [17] (fun p wr => ∃ (k : Nat) (fs : List Dem), j ≤ k ∧ k ≤ m ∧ p = .int .i64 k ∧ Hid (SP a b ds fs) ∧ Hid (ShR m k ds fs) ∧ OwnF 38 3 wr B (some ⟨g, 0, none⟩) n c (flatD fs) ∧ w.grownBy wr (some g)) (fun p _ => (intOf p).toNat)
      case atStart => exact ⟨m, ds, by omega, by omega, rfl, hide (SP.refl _ _ _), hide (ShR.start _ _), hown, hgr⟩
      case round =>
        obtain ⟨k, fs, hjk, hkm, rfl, hsp, hsh, hown, hgr⟩ := hrel
        have hfl : fs.length = n := hsp.out.len.trans hlen
        by_cases hlt2 : j < k
        · obtain ⟨t, ht⟩ : ∃ t, t + 1 = k := ⟨k - 1, by omega⟩
          obtain ⟨x, hx⟩ : ∃ x, x = dem fs k := ⟨_, rfl⟩
          obtain ⟨y, hy⟩ : ∃ y, y = dem fs t := ⟨_, rfl⟩
          obtain ⟨cn0, cn1, cn2⟩ := nth_flatD fs (k := k) (by omega)
          have c0 := hown.cell (j := k * 3) (by omega)
          have c1 := hown.cell (j := k * 3 + 1) (by omega)
          have c2 := hown.cell (j := k * 3 + 2) (by omega)
          rw [cn0, ← hx] at c0
          rw [cn1, ← hx] at c1
          rw [cn2, ← hx] at c2
          clear cn0 cn1 cn2
          obtain ⟨dn0, dn1, dn2⟩ := nth_flatD fs (k := t) (by omega)
          have d0 := hown.cell (j := t * 3) (by omega)
          have d1 := hown.cell (j := t * 3 + 1) (by omega)
          have d2 := hown.cell (j := t * 3 + 2) (by omega)
          rw [dn0, ← hy] at d0
          rw [dn1, ← hy] at d1
          rw [dn2, ← hy] at d2
          clear dn0 dn1 dn2
          have q0 := hown.frozen (k * 3)
          have q1 := hown.frozen (k * 3 + 1)
          have q2 := hown.frozen (k * 3 + 2)
          have r0 := hown.frozen (t * 3)
          have r1 := hown.frozen (t * 3 + 1)
          have r2 := hown.frozen (t * 3 + 2)
          have tz1 : (0 : Int) ≤ (t : Int) := by omega
          have tz2 : (t : Int) < (n : Int) := by omega
          have kz1 : (0 : Int) ≤ (k : Int) := by omega
          have kz2 : (k : Int) < (n : Int) := by omega
          have HX := hide hx
          have HY := hide hy
          have HO := hide hown
          have HG := hide hgr
          clear hx hy hown hgr
          have tw : IntKind.i64.wrap ((k : Int) - 1) = (t : Int) := by
            rw [IntWalk.i64_in _ ⟨by omega, by omega⟩]; omega
          have HT := hide ht
          have hft : t < fs.length ∧ k < fs.length ∧ t ≠ k := by omega
          clear ht
          go_wp2_with fail
          go_region
          go_wp2_with fail
          go_roundw
          case rel =>
            obtain ⟨O3, G3⟩ := HO.out.swap1 hft.1 hft.2.1 hft.2.2 HX.out HY.out
            have es3 : swp fs t k = swp fs t (t + 1) := by rw [HT.out]
            have hsp2 := hsp.out
            have hsh2 := hsh.out
            rw [← HT.out] at hsh2
            have hxe := hsh2.2.2 t (by omega)
            have hye := hsh2.2.1
            have hev : (dem fs (t + 1)).ev ≠ (dem fs t).ev := by
              rw [hxe, hye]
              rcases HB5.out with h9 | h9
              · have := HT.out; omega
              · have h9' : (dem ds m).ev < (dem ds j).ev := h9
                have h10 : (dem ds j).ev ≤ (dem ds t).ev := by
                  rcases Nat.lt_or_eq_of_le (show j ≤ t by have := HT.out; omega) with h11 | h11
                  · exact HS.out j t (by omega) h11 (by have := HT.out; omega)
                  · rw [← h11]; exact Int.le_refl _
                omega
            have hsw : SP a b fs (swp fs t (t + 1)) := SP.swap (by have := HT.out; omega) (by have := HT.out; omega) (by omega) hev
            rw [es3] at O3
            exact ⟨t, swp fs t (t + 1), by have := HT.out; omega, by have := HT.out; omega, rfl, hide (hsp2.trans hsw), hide (hsh2.step (by have := HT.out; omega) (by omega)), O3.drew, grown_drewS (grown_trans HG.out G3)⟩
          case measure => simp [intOf]; have := HT.out; omega
        · obtain rfl : k = j := by omega
          go_wp2
          go_end0
          exact ⟨rfl, fs, hown, ⟨hsp.out, by
            rw [HM.out]
            exact hsh.out.done hai hkm HS.out (by
              rcases HB4.out with h9 | h9
              · left; exact h9
              · right; exact Int.not_lt.2 h9) (by
              rcases HB5.out with h9 | h9
              · left; exact h9
              · right; exact h9)⟩, hgr⟩
end Go.Proofs.Ytcbejjkbjompfaa
