/- The walk of FnPadded: padding puts cells around a list that are all high. -/
import Derived.Test.YtdodhjahihfaiaaDrawP
import Derived.Test.YtdodhjahihfaiaaMoreMath
import Derived.Test.YtdodhjahihfaiaaConcat
import Derived.Test.YtdodhjahihfaiaaTrans
import Derived.Test.YtdodhjahihfaiaaShape
namespace Go.Proofs.Ytdodhjahihfaiaa
open Go.RowKit
set_option linter.unusedVariables false
set_option linter.unusedSimpArgs false

theorem lsum_any (A : Option Addr) (n c : Nat) (zs : List Int) (w : World) (h : Rd w A n c zs) (hn : n ≤ 16777216) (hz : allB 0 1 zs = true) :
    Calls Try.prog 61 #[.slice A n c] w fun e w' => e = .returned (.int .i64 (sm zs)) ∧ Below w.heap.size w w' := by
  have hlen := h.le
  have hcap := h.cap
  have HZ := hide hz
  clear hz
  go_enter Try.func61, Try.ntmps61
  go_wp2
  go_loop [3, 4] (fun s i => ∃ k : Nat, k ≤ n ∧ i = .int .i64 k ∧ s = .int .i64 (sm (zs.take k))) (fun _ i => n - (intOf i).toNat)
  case atStart => exact ⟨0, Nat.zero_le _, rfl, rfl⟩
  case round =>
    obtain ⟨k, hk, rfl, rfl⟩ := hrel
    have hb := sm_bounds HZ.out k (by omega)
    by_cases hlt : k < n
    · obtain ⟨b, off, rfl, hbb, hc⟩ := h.at_ (by omega)
      have hck := hc k hlt
      have hzk := allB_get HZ.out k (by omega)
      have hst := hide (sm_take zs k (by omega))
      clear hc
      obtain ⟨s, hs⟩ : ∃ s, s = sm (zs.take k) := ⟨_, rfl⟩
      have HS := hide hs
      rw [← hs] at hb ⊢
      clear hs
      go_wp2
      go_round
      case rel => exact ⟨k + 1, by omega, by go_num, by rw [hst.out, HS.out]⟩
      case measure => simp [intOf]; omega
    · obtain rfl : k = n := by omega
      have hfin := hide (List.take_of_length_le (l := zs) (i := k) (by omega))
      go_wp2
      go_ret
      exact ⟨ret_int (by rw [hfin.out]), Below.refl _ _⟩
theorem padC_zero {zs : List Int} {a b : Int} (h : padC zs a b = 0) : bitsB zs = true ∧ (0 ≤ a ∧ a ≤ 8192) ∧ (0 ≤ b ∧ b ≤ 8192) ∧ (zs.length : Int) + a + b ≤ 8192 ∧ padR zs a b = List.replicate a.toNat 1 ++ zs ++ List.replicate b.toNat 1 := by
  cases hz : bitsB zs
  · simp [padC, hz] at h
  · cases ha : inB 0 8192 a
    · simp [padC, hz, ha] at h
    · cases hb : inB 0 8192 b
      · simp [padC, hz, hb] at h
      · have ha' := inB_true ha
        have hb' := inB_true hb
        by_cases h8 : 8192 < (zs.length : Int) + a + b
        · simp [padC, hz, ha, hb, h8] at h
        · exact ⟨rfl, ha', hb', by omega, by rw [padR, if_pos h]⟩
theorem Rd.zero (w : World) (A : Option Addr) {c : Nat} (hc : c ≤ 9223372036854775807) (hA : A = none → c = 0) : Rd w A 0 c [] := ⟨rfl, Nat.zero_le _, hc, ⟨I64.nil, hA⟩, fun h => absurd h (by omega)⟩
set_option maxHeartbeats 1600000 in
set_option maxRecDepth 100000 in
theorem walkPadded (A : Option Addr) (n c : Nat) (bs : List Int) (w : World) (h : Rd8 w A n c bs) :
    Calls Try.prog 16 #[.slice A n c] w fun e w' => e = .returned (.bool true) ∧ Below w.heap.size w w' := by
  by_cases hn : 4096 < n
  · have t : decide (4096 < n) = true := by simpa using hn
    go_enter Try.func16, Try.ntmps16
    go_wp2_with (go_at_call 57; refine (big_any _ _ _ _ _ h).mono ?_; rintro e w' ⟨rfl, rfl⟩)
    go_ret
    exact ⟨rfl, Below.refl _ _⟩
  · have t : decide (4096 < n) = false := by simpa using hn
    go_enter Try.func16, Try.ntmps16
    go_wp2_with (go_at_call 57; refine (big_any _ _ _ _ _ h).mono ?_; rintro e w' ⟨rfl, rfl⟩)
    refine (DrawPadLine_d _ _ _ _ _ h (by omega)).mono ?_
    rintro e w1 ⟨A1, m1, c1, zs, a, b, rfl, hm1, ha, hb, own1, b1⟩
    have B1 := hide b1
    have t1 : (padC zs a b != padC zs a b) = false := by simp
    have ez := eqB_self (padR zs a b)
    clear b1
    go_wp2_with fail
    refine (iPadLine_c _ _ _ zs a b _ own1.rd ha hb (by omega)).mono ?_
    rintro e w2 ⟨A2, m2, c2, rfl, own2, b2, hm2⟩
    have B2 := hide (below_trans B1.out b2)
    have P2 := hide (own1.below b2)
    clear own1 b2
    go_wp2_with fail
    refine (sPadLine_c _ _ _ zs a b _ P2.out.rd ha hb (by omega)).mono ?_
    rintro e w3 ⟨A3, m3, c3, rfl, own3, b3, hm3⟩
    have B3 := hide (below_trans B2.out b3)
    have P3 := hide (P2.out.below b3)
    have G3 := hide (own2.below b3)
    have S3 := hide own3
    have e32 : m3 = m2 := by rw [← own3.len, ← own2.len]
    subst e32
    clear own2 own3 b3
    go_wp2_with fail
    refine (DrawTransmissionSize_d _ _ _ _ _ (h.below B3.out) (by omega)).mono ?_
    rintro e w4 ⟨q, p, rfl, hq, hp, b4⟩
    have B4 := hide (below_trans B3.out b4)
    have P4 := hide (P3.out.below b4)
    have G4 := hide (G3.out.below b4)
    have S4 := hide (S3.out.below b4)
    have t2 : (tsC q p != tsC q p) = false := by simp
    have t3 : (tsR q p != tsR q p) = false := by simp
    clear b4
    go_wp2_with fail
    refine (iTransmissionSize_c q p _ hq hp).mono ?_
    rintro e w5 ⟨rfl, b5⟩
    have B5 := hide (below_trans B4.out b5)
    have P5 := hide (P4.out.below b5)
    have G5 := hide (G4.out.below b5)
    have S5 := hide (S4.out.below b5)
    clear b5
    go_wp2_with fail
    refine (sTransmissionSize_c q p _ hq hp).mono ?_
    rintro e w6 ⟨rfl, b6⟩
    have B6 := hide (below_trans B5.out b6)
    have P6 := hide (P5.out.below b6)
    have G6 := hide (G5.out.below b6)
    have S6 := hide (S5.out.below b6)
    clear b6
    go_wp2_with fail
    refine (likeInts_b _ _ _ _ _ _ _ _ _ G6.out.rd S6.out.rd).mono ?_
    rintro e w7 ⟨rfl, b7⟩
    have B7 := hide (below_trans B6.out b7)
    have P7 := hide (P6.out.below b7)
    have G7 := hide (G6.out.below b7)
    have lG := hide G7.out.len
    have lP := hide P7.out.len
    clear b7
    by_cases hC : padC zs a b = 0
    · have t4 : (padC zs a b != 0) = false := by rw [hC]; rfl
      obtain ⟨k1, k2, k3, k4, k5⟩ := padC_zero hC
      have K1 := hide k1
      have K5 := hide k5
      clear hC k1 k5
      obtain ⟨a, rfl⟩ := Int.eq_ofNat_of_zero_le k2.1
      obtain ⟨b, rfl⟩ := Int.eq_ofNat_of_zero_le k3.1
      have hz8 := (bitsB_get K1.out)
      have Z8 := hide hz8.2
      have hml : m3 = a + m1 + b := by
        have := lG.out
        rw [K5.out] at this
        have := lP.out
        simp at *
        omega
      have hsm : sm (padR zs a b) = sm zs + a + b := by
        rw [K5.out, sm_append, sm_append, sm_rep, sm_rep]
        simp
        omega
      have hpb : allB 0 1 (padR zs a b) = true := by
        rw [K5.out, allB_append, allB_append, hz8.2]
        simp [allB]
      have PB := hide hpb
      have HS := hide hsm
      have hsub : ((padR zs a b).take (a + m1)).drop a = zs := by
        rw [K5.out]
        have := lP.out
        rw [List.append_assoc, List.take_append, List.length_replicate, List.drop_append]
        simp
        rw [List.take_append_of_le_length (by omega), List.take_of_length_le (by omega)]
      have HSUB := hide hsub
      subst hml
      clear hsub hsm hpb hz8
      have cG := G7.out.cap
      have z1 : (0 : Int) ≤ (a : Int) := by omega
      have z2 : (a : Int) ≤ (a : Int) + (m1 : Int) := by omega
      have z3 : (a : Int) + (m1 : Int) ≤ (c2 : Int) := by omega
      have tlen : (((a + m1 + b : Nat) : Int) == (m1 : Int) + (a : Int) + (b : Int)) = true := by simp; omega
      have hsb : 0 ≤ sm zs ∧ sm zs ≤ 8192 := by
        have := sm_bounds Z8.out zs.length (Nat.le_refl _)
        rw [List.take_of_length_le (Nat.le_refl _)] at this
        omega
      have tsum : (sm (padR zs (a : Int) (b : Int)) == sm zs + (a : Int) + (b : Int)) = true := by rw [HS.out]; simp
      have ezz := eqB_self zs
      rcases G7.out.form with ⟨rfl, f1, f2, f3⟩ | ⟨gb, rfl, gb1, gb2⟩
      · have hz0 : zs = [] := List.eq_nil_of_length_eq_zero (by rw [lP.out]; omega)
        have hm0 : m1 = 0 := by omega
        have R0 := hide (show Rd w7 none m1 0 zs by rw [hz0, hm0]; exact Rd.zero w7 none (by omega) (fun _ => rfl))
        have ea : a = 0 := by omega
        have eb : b = 0 := by omega
        clear hz0 f3 f1 tlen z1 z2 z3
        subst ea eb hm0 f2
        simp only [Nat.zero_add, Nat.add_zero] at G7 lG
        have tlen : ((0 : Int) == (0 : Int) + 0 + 0) = true := by decide
        replace t1 : (padC zs 0 0 != padC zs 0 0) = false := t1
        replace t4 : (padC zs 0 0 != 0) = false := t4
        replace ez : eqB (padR zs 0 0) (padR zs 0 0) = true := ez
        replace tsum : (sm (padR zs 0 0) == sm zs) = true := by simpa using tsum
        go_wp2_with fail
        have R := R0.out
        with_reducible refine (likeInts_b _ _ _ _ _ _ zs zs _ R P7.out.rd).mono ?_
        rintro e w8 ⟨rfl, b8⟩
        have B8 := hide (below_trans B7.out b8)
        have P8 := hide (P7.out.below b8)
        have G8 := hide (G7.out.below b8)
        clear b8 R
        go_wp2_with fail
        with_reducible refine (lsum_any _ _ _ _ _ G8.out.rd (by omega) PB.out).mono ?_
        rintro e w9 ⟨rfl, b9⟩
        have B9 := hide (below_trans B8.out b9)
        have P9 := hide (P8.out.below b9)
        clear b9
        go_wp2_with fail
        with_reducible refine (lsum_any _ _ _ _ _ P9.out.rd (by omega) Z8.out).mono ?_
        rintro e w10 ⟨rfl, b10⟩
        go_wp2_with fail
        go_ret
        exact ⟨rfl, below_trans B9.out b10⟩
      · by_cases hac : a < c2
        · have R0 := hide (show Rd w7 (some ⟨gb, a, none⟩) m1 (c2 - a) zs by
            have := G7.out.rd.sub a (a + m1) (by omega) (by omega)
            rw [HSUB.out, Nat.zero_add, show a + m1 - a = m1 by omega] at this
            exact this)
          go_wp2_with fail
          have R := R0.out
          with_reducible refine (likeInts_b _ _ _ _ _ _ zs zs _ R P7.out.rd).mono ?_
          rintro e w8 ⟨rfl, b8⟩
          have B8 := hide (below_trans B7.out b8)
          have P8 := hide (P7.out.below b8)
          have G8 := hide (G7.out.below b8)
          clear b8 R
          go_wp2_with fail
          with_reducible refine (lsum_any _ _ _ _ _ G8.out.rd (by omega) PB.out).mono ?_
          rintro e w9 ⟨rfl, b9⟩
          have B9 := hide (below_trans B8.out b9)
          have P9 := hide (P8.out.below b9)
          clear b9
          go_wp2_with fail
          with_reducible refine (lsum_any _ _ _ _ _ P9.out.rd (by omega) Z8.out).mono ?_
          rintro e w10 ⟨rfl, b10⟩
          go_wp2_with fail
          go_ret
          exact ⟨rfl, below_trans B9.out b10⟩
        · have hz0 : zs = [] := List.eq_nil_of_length_eq_zero (by rw [lP.out]; omega)
          have hm0 : m1 = 0 := by omega
          obtain rfl : c2 = a := by omega
          have R0 := hide (show Rd w7 (some ⟨gb, 0, none⟩) m1 0 zs by rw [hz0, hm0]; exact Rd.zero w7 _ (by omega) (fun e => by cases e))
          clear hz0 hm0
          go_wp2_with fail
          have R := R0.out
          with_reducible refine (likeInts_b _ _ _ _ _ _ zs zs _ R P7.out.rd).mono ?_
          rintro e w8 ⟨rfl, b8⟩
          have B8 := hide (below_trans B7.out b8)
          have P8 := hide (P7.out.below b8)
          have G8 := hide (G7.out.below b8)
          clear b8 R
          go_wp2_with fail
          with_reducible refine (lsum_any _ _ _ _ _ G8.out.rd (by omega) PB.out).mono ?_
          rintro e w9 ⟨rfl, b9⟩
          have B9 := hide (below_trans B8.out b9)
          have P9 := hide (P8.out.below b9)
          clear b9
          go_wp2_with fail
          with_reducible refine (lsum_any _ _ _ _ _ P9.out.rd (by omega) Z8.out).mono ?_
          rintro e w10 ⟨rfl, b10⟩
          go_wp2_with fail
          go_ret
          exact ⟨rfl, below_trans B9.out b10⟩
    · have t4 : (padC zs a b != 0) = true := by simpa using hC
      clear hC
      go_wp2_with fail
      go_ret
      exact ⟨rfl, B7.out⟩
end Go.Proofs.Ytdodhjahihfaiaa
