/- The walk of FnMissingCells: with the missing cells some cells become a line, and no shorter beginning is enough. -/
import Derived.Test.YtdodhjahihfaiaaDrawY
import Derived.Test.YtdodhjahihfaiaaShape
namespace Go.Proofs.Ytdodhjahihfaiaa
open Go.RowKit
set_option linter.unusedVariables false
set_option linter.unusedSimpArgs false

theorem ms_len {zs : List Int} (hb : allB 0 1 zs = true) (h0 : ¬ 0 ≤ fwR zs) : (missing (scnEnd zs)).length ≤ 20 := missing_len (scnEnd_can hb h0)
theorem line_code {zs : List Int} (h8 : zs.length ≤ 8192) (hb : allB 0 1 zs = true) : (lnC zs == 0) = lineB zs := by
  have hz : bitsB zs = true := by simp [bitsB, upB, h8, hb]
  cases h : lineB zs
  · rw [(ln_no hz h).1]; rfl
  · rw [(ln_yes hz h).1]; rfl
theorem allB_take {lo hi : Int} {zs : List Int} (h : allB lo hi zs = true) (k : Nat) : allB lo hi (zs.take k) = true := by
  rw [allB, List.all_eq_true] at h ⊢
  exact fun x hx => h x (List.mem_of_mem_take hx)
theorem Rd.take {w : World} {b off n c : Nat} {zs : List Int} (h : Rd w (some ⟨b, off, none⟩) n c zs) {k : Nat} (hk : k ≤ n) : Rd w (some ⟨b, off, none⟩) k c (zs.take k) := by
  have := h.sub 0 k (by omega) hk
  simpa using this
theorem Rd.takeA {w : World} {A : Option Addr} {n c : Nat} {zs : List Int} (h : Rd w A n c zs) {k : Nat} (hk : k ≤ n) : Rd w A k c (zs.take k) := by
  refine ⟨by rw [List.length_take]; have := h.len; omega, by have := h.cap.1; omega, h.2.2.1, ⟨fun z hz => h.i64 z (List.mem_of_mem_take hz), h.none0⟩, fun hn => ?_⟩
  obtain ⟨b, off, hA, _, hc⟩ := h.at_ (by omega)
  exact ⟨b, off, hA, fun j hj => by rw [nth_take _ _ _ hj]; exact hc j (by omega)⟩
set_option maxHeartbeats 3200000 in
set_option maxRecDepth 100000 in
theorem walkMissingCells (A : Option Addr) (n c : Nat) (bs : List Int) (w : World) (h : Rd8 w A n c bs) :
    Calls Try.prog 19 #[.slice A n c] w fun e w' => e = .returned (.bool true) ∧ Below w.heap.size w w' := by
  by_cases hn : 4096 < n
  · have t : decide (4096 < n) = true := by simpa using hn
    go_enter Try.func19, Try.ntmps19
    go_wp2_with (go_at_call 57; refine (big_any _ _ _ _ _ h).mono ?_; rintro e w' ⟨rfl, rfl⟩)
    go_ret
    exact ⟨rfl, Below.refl _ _⟩
  · have t : decide (4096 < n) = false := by simpa using hn
    go_enter Try.func19, Try.ntmps19
    go_wp2_with (go_at_call 57; refine (big_any _ _ _ _ _ h).mono ?_; rintro e w' ⟨rfl, rfl⟩)
    refine (DrawCellsMissing_d _ _ _ _ _ h (by omega)).mono ?_
    rintro e w1 ⟨A1, m1, c1, zs, rfl, hm1, own1, b1⟩
    have B1 := hide b1
    have t1 : (msC zs != msC zs) = false := by simp
    have ez := eqB_self (msR zs)
    clear b1
    go_wp2_with fail
    refine (iCellsMissing_c _ _ _ zs _ own1.rd (by omega)).mono ?_
    rintro e w2 ⟨A2, m2, c2, rfl, own2, b2, hm2⟩
    have B2 := hide (below_trans B1.out b2)
    have P2 := hide (own1.below b2)
    clear own1 b2
    go_wp2_with fail
    refine (sCellsMissing_c _ _ _ zs _ P2.out.rd (by omega)).mono ?_
    rintro e w3 ⟨A3, m3, c3, rfl, own3, b3, hm3⟩
    have B3 := hide (below_trans B2.out b3)
    have P3 := hide (P2.out.below b3)
    have G3 := hide (own2.below b3)
    have e32 : m3 = m2 := by rw [← own3.len, ← own2.len]
    subst e32
    clear own2 b3
    go_wp2_with fail
    refine (likeInts_b _ _ _ _ _ _ _ _ _ G3.out.rd own3.rd).mono ?_
    rintro e w4 ⟨rfl, b4⟩
    have B4 := hide (below_trans B3.out b4)
    have P4 := hide (P3.out.below b4)
    have G4 := hide (G3.out.below b4)
    have lG := hide G4.out.len
    have lP := hide P4.out.len
    clear own3 b4
    by_cases hz : bitsB zs = true
    · obtain ⟨h8, hb⟩ := bitsB_get hz
      by_cases h0 : 0 ≤ fwR zs
      · have E := hide (ms_wrong hz h0)
        have t2 : (msC zs != 0) = true := by rw [E.out.1]; rfl
        clear h0
        go_wp2_with fail
        go_ret
        exact ⟨rfl, B4.out⟩
      · have E := hide (ms_yes hz h0)
        have t2 : (msC zs != 0) = false := by rw [E.out.1]; rfl
        have hl20 := ms_len hb h0
        have hm20 : m3 ≤ 20 := by rw [← lG.out, E.out.2]; exact hl20
        have H0 := hide h0
        clear h0 hl20
        by_cases hbig : 8192 < m1 + m3
        · have tb : decide ((8192 : Int) < (m1 : Int) + (m3 : Int)) = true := by simp; omega
          go_wp2_with fail
          go_ret
          exact ⟨rfl, B4.out⟩
        · have H7 : Hid ((scanTo zeroS zs zs.length).ph ≠ 7) := fw_right (by have := H0.out; simp only [fwR] at this; omega)
          have hO := hide (Own.empty w4 B4.out.size)
          have bl := (Below.refl w4.heap.size w4).alloc (Nat.le_refl _) (.cells #[] 2)
          have P5 := hide (P4.out.below bl)
          have G5 := hide (G4.out.below bl)
          have B5 := hide (below_trans B4.out bl)
          have G5e := hide (show Own (w4.alloc (.cells #[] 2)) w1.heap.size A2 m3 c2 (missing (scnEnd zs)) by rw [← E.out.2]; exact G5.out)
          clear bl
          have hE := hide (Own.empty w4 (Nat.le_refl _))
          have LG := hide (show ∀ g, (Value.slice A2 m3 c2).ownBlock = some g → g < w4.heap.size from fun g hg => (G4.out.row.lt g hg).2)
          go_wp2_with (at_builtin; first | ((with_reducible refine append_rd rfl _ _ rfl w.heap.size rfl hO.out P5.out.rd rfl (by omega) B5.out.size ?_); intro A6 c6 w6 own6 gr6; have G6 := hide (G5e.out.keepLo gr6 hE.out LG.out); have B6 := hide (below_own B5.out B5.out.size hO.out (Nat.le_refl _) gr6); (rw [Nat.zero_add, List.nil_append] at own6); clear gr6) | ((with_reducible refine append_rd rfl _ _ rfl w.heap.size rfl own6 G6.out.rd rfl (by omega) B6.out.size ?_); intro A7 c7 w7 own7 gr7; have B7 := hide (below_own B6.out B6.out.size own6 (Nat.le_refl _) gr7); have O7 := hide own7; clear gr7 own6))
          have hl1 := hide lP.out
          go_loopw [9] (fun i wr => ∃ j : Nat, j ≤ m3 ∧ i = .int .i64 ((m1 + j : Nat) : Int) ∧ Own wr w.heap.size A7 (m1 + m3) c7 (zs ++ missing (scnEnd zs)) ∧ Below w.heap.size w wr) (fun i _ => m1 + m3 - (intOf i).toNat)
          case atStart => exact ⟨0, by omega, rfl, O7.out, B7.out⟩
          case round =>
            obtain ⟨j, hj, rfl, hown, hbel⟩ := hrel
            have hcap := hown.cap
            by_cases hlt : j < m3
            · rcases hown.form with ⟨_, h0, _⟩ | ⟨g, rfl, _, _⟩
              · omega
              have hR := hide (hown.rd.take (k := m1 + j) (by omega))
              have hB2 := hide hbel
              have hO2 := hide hown
              have tB : (lnC ((zs ++ missing (scnEnd zs)).take (m1 + j)) == 0) = false := by
                rw [line_code (by rw [List.length_take]; omega) (allB_take (miss_bits hb _) _), ← lP.out]
                exact miss_not hb H7.out (by rw [← hl1.out] at *; have := lG.out; rw [E.out.2] at this; show j < (missing (scnEnd zs)).length; omega)
              have z1 : (0 : Int) ≤ ((m1 + j : Nat) : Int) := by omega
              have z2 : ((m1 + j : Nat) : Int) ≤ (c7 : Int) := by omega
              clear hown hbel
              go_wp2_with fail
              refine (iIsLine_c _ _ _ _ _ hR.out (by omega)).mono ?_
              rintro e w8 ⟨rfl, b8⟩
              have O8 := hide (hO2.out.below b8)
              have B8 := hide (below_trans hB2.out b8)
              clear b8
              go_wp2_with fail
              go_roundw
              case rel => exact ⟨j + 1, by omega, by go_num, O8.out, B8.out⟩
              case measure => simp [intOf]; omega
            · obtain rfl : j = m3 := by omega
              have tB : (lnC (zs ++ missing (scnEnd zs)) == 0) = true := by
                rw [line_code (by rw [List.length_append]; have := lG.out; rw [E.out.2] at this; have := lP.out; omega) (miss_bits hb _)]
                exact miss_line hb H7.out
              have hB2 := hide hbel
              clear hbel
              go_wp2_with fail
              refine (iIsLine_c _ _ _ _ _ hown.rd (by omega)).mono ?_
              rintro e w8 ⟨rfl, b8⟩
              go_wp2_with fail
              go_ret
              exact ⟨ret_bool (decide_eq_true (by omega)), below_trans hB2.out b8⟩
    · rw [Bool.not_eq_true] at hz
      have E := hide (ms_bad hz)
      have t2 : (msC zs != 0) = true := by rw [E.out.1]; rfl
      go_wp2_with fail
      go_ret
      exact ⟨rfl, B4.out⟩
end Go.Proofs.Ytdodhjahihfaiaa
