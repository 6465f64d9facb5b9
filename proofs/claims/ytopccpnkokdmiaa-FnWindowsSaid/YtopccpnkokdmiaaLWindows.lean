/- The walk of FnWindows: a voted sample is 1 exactly if at least three samples of its window are; the reference agrees. -/
import Derived.Test.YtopccpnkokdmiaaDrawX
import Derived.Test.YtopccpnkokdmiaaVote
import Derived.Test.YtopccpnkokdmiaaFlip
namespace Go.Proofs.Ytopccpnkokdmiaa
open Go.RowKit
set_option linter.unusedVariables false
set_option linter.unusedSimpArgs false

theorem neq_self (x : Int) : (x != x) = false := by simp
theorem onesC_zero {zs : List Int} {i : Int} (h : onesC zs i = 0) : bitsB zs = true ∧ 0 ≤ i ∧ i < zs.length ∧ onesR zs i = onesW zs i := by
  unfold onesC at h
  by_cases hb : bitsB zs = true
  · by_cases hi : inB 0 ((zs.length : Int) - 1) i = true
    · have := inB_true hi
      exact ⟨hb, this.1, by omega, by simp [onesR, hb, hi]⟩
    · rw [Bool.not_eq_true] at hi
      simp [hb, hi] at h
  · rw [Bool.not_eq_true] at hb
    simp [hb] at h
theorem votes_nth {zs : List Int} {k : Nat} (h : k < zs.length) : nth (votes zs) k = voteAt zs k := by
  rw [nth_eq (by rw [votes, votesTo_len]; exact h)]
  simp [votes, votesTo]

set_option maxHeartbeats 1600000 in
set_option maxRecDepth 100000 in
theorem walkWindows (A : Option Addr) (n c : Nat) (bs : List Int) (w : World) (h : Rd8 w A n c bs) :
    Calls Try.prog 20 #[.slice A n c] w fun e w' => e = .returned (.bool true) ∧ Below w.heap.size w w' := by
  by_cases hn : 4096 < n
  · have t : decide (4096 < n) = true := by simpa using hn
    go_enter Try.func20, Try.ntmps20
    go_wp2_with (go_at_call 67; refine (big_any _ _ _ _ _ h).mono ?_; rintro e w' ⟨rfl, rfl⟩)
    go_ret
    exact ⟨rfl, Below.refl _ _⟩
  · have t : decide (4096 < n) = false := by simpa using hn
    go_enter Try.func20, Try.ntmps20
    go_wp2_with (go_at_call 67; refine (big_any _ _ _ _ _ h).mono ?_; rintro e w' ⟨rfl, rfl⟩)
    refine (DrawOnesInWindow_d _ _ _ _ _ h (by omega)).mono ?_
    rintro e w1 ⟨A1, m1, c1, zs, i, rfl, hm1, hi, own1, b1⟩
    go_wp2_with fail
    refine (iOnesInWindow_c _ _ _ zs i _ own1.rd hi (by omega)).mono ?_
    rintro e w2 ⟨rfl, b2⟩
    have B2 := below_trans b1 b2
    go_wp2_with fail
    refine (sOnesInWindow_c _ _ _ zs i _ (own1.below b2).rd hi (by omega)).mono ?_
    rintro e w3 ⟨rfl, b3⟩
    have B3 := below_trans B2 b3
    go_wp2_with fail
    refine (DrawVoteEdges_d _ _ _ _ _ (h.below B3) (by omega)).mono ?_
    rintro e w4 ⟨A4, m4, c4, ys, rfl, hm4, own4, b4⟩
    have B4 := below_trans B3 b4
    go_wp2_with fail
    refine (iVoteEdges_c _ _ _ ys _ own4.rd (by omega)).mono ?_
    rintro e w5 ⟨rfl, b5⟩
    have B5 := below_trans B4 b5
    go_wp2_with fail
    refine (sVoteEdges_c _ _ _ ys _ (own4.below b5).rd (by omega)).mono ?_
    rintro e w6 ⟨rfl, b6⟩
    have B6 := below_trans B5 b6
    have own6 := hide (own1.below (below_trans (below_trans (below_trans (below_trans b2 b3) b4) b5) b6))
    have t1 := neq_self (onesC zs i)
    have t2 := neq_self (onesR zs i)
    have t3 := neq_self (bitsC ys)
    have t4 := neq_self (veR ys)
    clear own1 own4 b1 b2 b3 b4 b5 b6 B2 B3 B4 B5
    by_cases h0 : onesC zs i = 0
    · obtain ⟨hb, hi0, hi1, hr⟩ := onesC_zero h0
      have s1 : (onesC zs i != 0) = false := neq_false h0
      obtain ⟨k, rfl⟩ := Int.eq_ofNat_of_zero_le hi0
      have hbd := onesW_bounds (bits_all hb) (k : Int)
      rw [← hr] at hbd
      have hv := votes_nth (zs := zs) (k := k) (by omega)
      have hv3 : (3 ≤ onesR zs k ∧ nth (votes zs) k = 1) ∨ (onesR zs k < 3 ∧ nth (votes zs) k = 0) := by
        rw [hv, hr]
        by_cases h3 : 3 ≤ onesW zs k
        · exact .inl ⟨h3, voteAt_yes h3⟩
        · exact .inr ⟨by omega, voteAt_no h3⟩
      have hl := own6.out.len
      have km : k < m1 := by omega
      have hvr := hide (voteR_yes hb)
      have hvl := hide (votes_len zs)
      have hbc := hide (bitsC_yes hb)
      clear h0 hr hv hl hi1 hb
      generalize onesR zs (k : Int) = o at t2 hbd hv3 ⊢
      go_wp2_with fail
      refine (iVoteSamples_c _ _ _ zs _ own6.out.rd (by omega)).mono ?_
      rintro e w7 ⟨A7, m7, c7, rfl, own7, b7, hm7⟩
      rw [hvr.out] at own7
      have e7 : m7 = m1 := by rw [← own7.len, hvl.out, own6.out.len]
      subst e7
      rw [← hbc.out]
      rcases own7.form with ⟨_, hz, _⟩ | ⟨gb, rfl, _, _⟩
      · omega
      have hcell := own7.cell km
      have B7 := hide (below_trans B6 b7)
      clear own7 b7 B6
      rcases hv3 with ⟨h3, hv⟩ | ⟨h3, hv⟩
      · rw [hv] at hcell
        clear hv
        go_wp2_with fail
        go_ret
        exact ⟨rfl, B7.out⟩
      · rw [hv] at hcell
        clear hv
        go_wp2_with fail
        go_ret
        exact ⟨ret_bool (by simp; omega), B7.out⟩
    · have s1 : (onesC zs i != 0) = true := neq_true h0
      clear h0
      go_wp2_with fail
      go_ret
      exact ⟨rfl, B6⟩
end Go.Proofs.Ytopccpnkokdmiaa
