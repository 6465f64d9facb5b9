/- The walk of FnVoteFlips: flips that are apart by 6 leave the number of voted runs where all runs are long and the first sample is 1; the reference agrees. -/
import Derived.Test.YtopccpnkokdmiaaDrawF
import Derived.Test.YtopccpnkokdmiaaFlipMath
import Derived.Test.YtopccpnkokdmiaaLVoted
namespace Go.Proofs.Ytopccpnkokdmiaa
open Go.RowKit
set_option linter.unusedVariables false
set_option linter.unusedSimpArgs false

theorem below_quiet {w w' : World} {r : Nat} (h : w' = w.drewN r) : Below w.heap.size w w' := by rw [h]; exact below_drewN (Below.refl _ _) _
theorem iAreApart_b (A : Option Addr) (n c : Nat) (zs : List Int) (d : Int) (w : World) (h : Rd w A n c zs) :
    Calls Try.prog 33 #[.slice A n c, .int .i64 d] w fun e w' => e = .returned (.bool (areApartB zs d)) ∧ Below w.heap.size w w' :=
  (iAreApart_any A n c zs d w h).mono fun _ _ ⟨he, r, hr⟩ => ⟨he, below_quiet hr⟩
theorem sAreApart_b (A : Option Addr) (n c : Nat) (zs : List Int) (d : Int) (w : World) (h : Rd w A n c zs) :
    Calls Try.prog 31 #[.slice A n c, .int .i64 d] w fun e w' => e = .returned (.bool (areApartB zs d)) ∧ Below w.heap.size w w' :=
  (sAreApart_any A n c zs d w h).mono fun _ _ ⟨he, r, hr⟩ => ⟨he, below_quiet hr⟩
theorem flC_zero {zs ix : List Int} (h : flC zs ix = 0) : bitsB zs = true ∧ flR zs ix = flips zs ix := by
  rcases flC_cases zs ix with ⟨_, h1, h2⟩ | h1 | h1
  · exact ⟨h1, h2⟩
  · omega
  · omega
theorem flips_len (zs ix : List Int) : (flips zs ix).length = zs.length := flipTo_len zs ix _
theorem flips_bits {zs : List Int} (h : bitsB zs = true) (ix : List Int) : bitsB (flips zs ix) = true := by
  have h8 := bits_len h
  rw [bitsB, upB_yes (by rw [flips_len]; exact h8)]
  exact flipTo_bits (bits_all h) ix _
theorem flips_votes {zs ix : List Int} (hb : bitsB zs = true) (hn : 0 < zs.length) (hl : LongP zs) (h1 : nth zs 0 = 1) (ha : areApartB ix 6 = true) : veR (flips zs ix) = veR zs := by
  simp only [areApartB, Bool.and_eq_true] at ha
  obtain ⟨⟨hr, _⟩, hp⟩ := ha
  have hr' := riseB_true hr
  have hp' : ApartP 6 ix ix.length := of_decide_eq_true hp
  have hs : Sparse zs (flips zs ix) := sparse_flips hr' fun j h0 hj => hp' j hj h0
  rw [veR_yes hb, veR_yes (flips_bits hb ix), flip_count (flips_len zs ix) (bits_all hb) (bits_all (flips_bits hb ix)) hl h1 hs hn]
theorem bneq_self (b : Bool) : (b != b) = false := by cases b <;> rfl

set_option maxHeartbeats 3200000 in
set_option maxRecDepth 100000 in
theorem walkVoteFlips (A : Option Addr) (n c : Nat) (bs : List Int) (w : World) (h : Rd8 w A n c bs) :
    Calls Try.prog 24 #[.slice A n c] w fun e w' => e = .returned (.bool true) ∧ Below w.heap.size w w' := by
  by_cases hn : 4096 < n
  · have t : decide (4096 < n) = true := by simpa using hn
    go_enter Try.func24, Try.ntmps24
    go_wp2_with (go_at_call 67; refine (big_any _ _ _ _ _ h).mono ?_; rintro e w' ⟨rfl, rfl⟩)
    go_ret
    exact ⟨rfl, Below.refl _ _⟩
  · have t : decide (4096 < n) = false := by simpa using hn
    go_enter Try.func24, Try.ntmps24
    go_wp2_with (go_at_call 67; refine (big_any _ _ _ _ _ h).mono ?_; rintro e w' ⟨rfl, rfl⟩)
    refine (DrawChangedVotes_d _ _ _ _ _ h (by omega)).mono ?_
    rintro e w1 ⟨A1, m1, c1, zs, D1, l1, d1, ix, rfl, hm1, hl1, own1, fl1, b1⟩
    have B := b1
    go_wp2_with fail
    refine (iChangedVotes_c _ _ _ zs _ _ _ ix _ own1.rd fl1.rd (by omega) (by omega)).mono ?_
    rintro e w2 ⟨A2, m2, c2, rfl, own2, b2, hm2⟩
    replace B := below_trans B b2
    replace own1 := own1.below b2
    replace fl1 := fl1.below b2
    go_wp2_with fail
    refine (sChangedVotes_c _ _ _ zs _ _ _ ix _ own1.rd fl1.rd (by omega) (by omega)).mono ?_
    rintro e w3 ⟨A3, m3, c3, rfl, own3, b3, hm3⟩
    replace B := below_trans B b3
    replace own1 := own1.below b3
    replace fl1 := fl1.below b3
    replace own2 := own2.below b3
    go_wp2_with fail
    refine (DrawAreApart_d _ _ _ _ _ (h.below B) (by omega)).mono ?_
    rintro e w4 ⟨A4, m4, c4, ls, d, rfl, hm4, hd, own4, b4⟩
    replace B := below_trans B b4
    replace own1 := own1.below b4
    replace fl1 := fl1.below b4
    replace own2 := own2.below b4
    replace own3 := own3.below b4
    clear b1 b2 b3 b4
    have t1 := neq_same (flC zs ix)
    have e1 := eqB_self (cvR zs ix)
    have t2 := bneq_self (areApartB ls d)
    go_wp2_with fail
    refine (likeInts_b _ _ _ _ _ _ (cvR zs ix) (cvR zs ix) _ own2.rd own3.rd).mono ?_
    rintro e w5 ⟨rfl, b⟩
    replace B := below_trans B b
    replace own1 := own1.below b
    replace fl1 := fl1.below b
    replace own4 := own4.below b
    clear own2 own3 b
    go_wp2_with fail
    refine (iAreApart_b _ _ _ ls d _ own4.rd).mono ?_
    rintro e w6 ⟨rfl, b⟩
    replace B := below_trans B b
    replace own1 := own1.below b
    replace fl1 := fl1.below b
    replace own4 := own4.below b
    clear b
    go_wp2_with fail
    refine (sAreApart_b _ _ _ ls d _ own4.rd).mono ?_
    rintro e w7 ⟨rfl, b⟩
    replace B := hide (below_trans B b)
    replace own1 := hide (own1.below b)
    replace fl1 := hide (fl1.below b)
    clear own4 b
    by_cases h0 : flC zs ix = 0
    · have s1 := neq_false h0
      have s3 := hide (eql_true h0)
      obtain ⟨hb, hfl⟩ := flC_zero h0
      have hL := own1.out.len
      by_cases hm : m1 = 0
      · subst hm
        clear h0 hb hL hfl
        go_wp2_with fail
        go_ret
        exact ⟨rfl, B.out⟩
      · have sm : ((m1 : Int) == 0) = false := by simp; omega
        have H0 := hide ((bitsC_yes hb).symm)
        have HB := hide hb
        have HL := hide hL
        have HF := hide hfl
        have m0 : 0 < m1 := by omega
        have hmm : (0 : Int) < (m1 : Int) := by omega
        clear h0 hb hL hm hfl
        go_wp2_with fail
        refine (iRunLengths_c _ _ _ zs _ own1.out.rd (by omega)).mono ?_
        rintro e w8 ⟨A8, m8, c8, rfl, own8, b, hm8⟩
        replace B := hide (below_trans B.out b)
        have O1 := own1.out.below b
        have F1 := hide (fl1.out.below b)
        have O1h := hide O1
        rw [runR_yes HB.out] at own8
        rcases O1.form with ⟨_, hz, _⟩ | ⟨gb, rfl, _, _⟩
        · omega
        have hc0 := O1.cell (k := 0) m0
        have O8 := hide own8
        have hst : Hid ((nth zs 0 == 1) = longB zs 0) := by
          show _ = _
          simp [longB]
          rfl
        generalize hq : (nth zs 0 == 1) = q0 at hst
        have HC8 := O8.out.cap
        have HR8 : Hid (m8 = (runs zs).length) := by
          show _ = _
          rw [O8.out.len]
        clear own1 fl1 b O1 own8
        go_wp2_with fail
        go_loopw [13, 14] (fun s i wr => ∃ (k : Nat) (b : Bool), k ≤ m8 ∧ i = .int .i64 k ∧ s = .bool b ∧ Hid (b = longB zs k) ∧ wr = w8) (fun _ i _ => m8 - (intOf i).toNat)
        case atStart => exact ⟨0, q0, by omega, rfl, rfl, hst, rfl⟩
        case round =>
          obtain ⟨k, b, hk, rfl, rfl, hb, rfl⟩ := hrel
          have HS := hide (longB_succ zs k)
          by_cases hlt : k < m8
          · rcases O8.out.form with ⟨_, hz, _⟩ | ⟨g8, rfl, _, _⟩
            · omega
            have hck := O8.out.cell (k := k) hlt
            cases b with
            | false =>
              go_wp2_with fail
              go_roundw
              case rel => exact ⟨k + 1, false, by omega, by go_num, rfl, by rw [Hid, HS.out, ← hb.out]; rfl, trivial⟩
              case measure => simp [intOf]; omega
            | true =>
              by_cases h6 : 6 ≤ nth (runs zs) k
              · have d6 : decide (6 ≤ nth (runs zs) k) = true := by simpa using h6
                have HS2 := hide (HS.out.trans (by rw [← hb.out, d6]; rfl : _ = true))
                go_wp2_with fail
                go_roundw
                case rel => exact ⟨k + 1, true, by omega, by go_num, rfl, HS2.out.symm, trivial⟩
                case measure => simp [intOf]; omega
              · have d6 : decide (6 ≤ nth (runs zs) k) = false := by simpa using h6
                have HS2 := hide (HS.out.trans (by rw [← hb.out, d6]; rfl : _ = false))
                go_wp2_with fail
                go_roundw
                case rel => exact ⟨k + 1, false, by omega, by go_num, rfl, HS2.out.symm, trivial⟩
                case measure => simp [intOf]; omega
          · obtain rfl : k = m8 := by omega
            have s2 := eql_true H0.out
            have s4 := neq_false H0.out
            cases b with
            | false =>
              go_wp2_with fail
              go_ret
              exact ⟨rfl, B.out⟩
            | true =>
              have hL := hb.out.symm
              rw [HR8.out] at hL
              obtain ⟨l1', l2⟩ := longB_use hL
              have L1 := hide l1'
              have L2 := hide l2
              clear hL l1' l2
              go_wp2_with fail
              refine (iAreApart_b _ _ _ ix 6 _ F1.out.rd).mono ?_
              rintro e w9 ⟨rfl, b9⟩
              have B9 := hide (below_trans B.out b9)
              have O9 := hide (O1h.out.below b9)
              have F9 := hide (F1.out.below b9)
              clear b9
              by_cases ha : areApartB ix 6 = true
              · have hv := flips_votes HB.out (by have := HL.out; omega) L2.out L1.out ha
                have HV := hide hv
                have HA := hide ha
                clear hv
                go_wp2_with fail
                refine (iFlipBits_c _ _ _ zs _ _ _ ix _ O9.out.rd F9.out.rd (by omega) (by omega)).mono ?_
                rintro e w10 ⟨A10, m10, c10, rfl, own10, b10, hm10⟩
                have B10 := hide (below_trans B9.out b10)
                have O10 := hide (O9.out.below b10)
                rw [HF.out] at own10
                clear b10
                have u1 := s3.out
                go_wp2_with fail
                refine (iVoteEdges_c _ _ _ zs _ O10.out.rd (by omega)).mono ?_
                rintro e w11 ⟨rfl, b11⟩
                have B11 := hide (below_trans B10.out b11)
                have own11 := own10.below b11
                clear b11
                go_wp2_with fail
                refine (iVoteEdges_c _ _ _ (flips zs ix) _ own11.rd (by omega)).mono ?_
                rintro e w12 ⟨rfl, b12⟩
                have B12 := below_trans B11.out b12
                have u2 : (bitsC (flips zs ix) == 0) = true := eql_true (bitsC_yes (flips_bits HB.out ix)).symm
                have u3 : (veR zs == veR (flips zs ix)) = true := eql_true HV.out.symm
                go_wp2_with fail
                go_ret
                exact ⟨rfl, B12⟩
              · rw [Bool.not_eq_true] at ha
                go_wp2_with fail
                go_ret
                exact ⟨rfl, B9.out⟩
    · have s1 := neq_true h0
      clear h0
      go_wp2_with fail
      go_ret
      exact ⟨rfl, B.out⟩
end Go.Proofs.Ytopccpnkokdmiaa
