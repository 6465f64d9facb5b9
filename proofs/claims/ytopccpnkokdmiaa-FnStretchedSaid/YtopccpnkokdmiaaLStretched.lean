/- The walk of FnStretched: stretched samples are as long as all widths together; the reference agrees. -/
import Derived.Test.YtopccpnkokdmiaaDrawX
import Derived.Test.YtopccpnkokdmiaaLVoted
namespace Go.Proofs.Ytopccpnkokdmiaa
open Go.RowKit
set_option linter.unusedVariables false
set_option linter.unusedSimpArgs false

theorem strC_zero {cs ws : List Int} (h : strC cs ws = 0) : slipC ws = 0 ∧ ((strR cs ws).length : Int) = 8 * cs.length + slipR ws ∧ -8192 ≤ slipR ws ∧ slipR ws ≤ 8192 ∧ cs.length ≤ 8192 := by
  have h' := h
  unfold strC at h
  by_cases hb : bitsB cs = true
  · rw [if_pos hb] at h
    by_cases hw : ws.length = cs.length ∧ widthsB ws = true
    · rw [if_pos hw] at h
      by_cases hs : sm ws ≤ 8192
      · obtain ⟨s1, s2⟩ := slip_yes hw.2
        have h1 := strTo_fin (cs := cs) hw.1 hw.2
        have h2 := bits_len hb
        have h3 := sm_all (upB_true hw.2).2
        rw [strR, if_pos h', s1, h1, hw.1]
        refine ⟨s2, by omega, ?_, by omega, h2⟩
        rw [hw.1] at h3
        omega
      · rw [if_neg hs] at h
        exact absurd h (by decide)
    · rw [if_neg hw] at h
      exact absurd h (by decide)
  · rw [if_neg hb] at h
    exact absurd h (by decide)

set_option maxHeartbeats 3200000 in
set_option maxRecDepth 100000 in
theorem walkStretched (A : Option Addr) (n c : Nat) (bs : List Int) (w : World) (h : Rd8 w A n c bs) :
    Calls Try.prog 23 #[.slice A n c] w fun e w' => e = .returned (.bool true) ∧ Below w.heap.size w w' := by
  by_cases hn : 4096 < n
  · have t : decide (4096 < n) = true := by simpa using hn
    go_enter Try.func23, Try.ntmps23
    go_wp2_with (go_at_call 67; refine (big_any _ _ _ _ _ h).mono ?_; rintro e w' ⟨rfl, rfl⟩)
    go_ret
    exact ⟨rfl, Below.refl _ _⟩
  · have t : decide (4096 < n) = false := by simpa using hn
    go_enter Try.func23, Try.ntmps23
    go_wp2_with (go_at_call 67; refine (big_any _ _ _ _ _ h).mono ?_; rintro e w' ⟨rfl, rfl⟩)
    refine (DrawStretchedSamples_d _ _ _ _ _ h (by omega)).mono ?_
    rintro e w1 ⟨A1, m1, c1, cs, D1, l1, d1, ws, rfl, hm1, hl1, own1, wid1, b1⟩
    have B := b1
    go_wp2_with fail
    refine (iStretchedSamples_c _ _ _ cs _ _ _ ws _ own1.rd wid1.rd (by omega) (by omega)).mono ?_
    rintro e w2 ⟨A2, m2, c2, rfl, own2, b2, hm2⟩
    replace B := below_trans B b2
    replace own1 := own1.below b2
    replace wid1 := wid1.below b2
    go_wp2_with fail
    refine (sStretchedSamples_c _ _ _ cs _ _ _ ws _ own1.rd wid1.rd (by omega) (by omega)).mono ?_
    rintro e w3 ⟨A3, m3, c3, rfl, own3, b3, hm3⟩
    replace B := below_trans B b3
    replace own1 := own1.below b3
    replace wid1 := wid1.below b3
    replace own2 := own2.below b3
    go_wp2_with fail
    refine (DrawSlipOf_d _ _ _ _ _ (h.below B) (by omega)).mono ?_
    rintro e w4 ⟨A4, m4, c4, ls, rfl, hm4, own4, b4⟩
    replace B := below_trans B b4
    replace own1 := own1.below b4
    replace wid1 := wid1.below b4
    replace own2 := own2.below b4
    replace own3 := own3.below b4
    go_wp2_with fail
    refine (iSlipOf_c _ _ _ ls _ own4.rd (by omega)).mono ?_
    rintro e w5 ⟨rfl, b5⟩
    replace B := below_trans B b5
    replace own1 := own1.below b5
    replace wid1 := wid1.below b5
    replace own2 := own2.below b5
    replace own3 := own3.below b5
    replace own4 := own4.below b5
    go_wp2_with fail
    refine (sSlipOf_c _ _ _ ls _ own4.rd (by omega)).mono ?_
    rintro e w6 ⟨rfl, b6⟩
    replace B := below_trans B b6
    replace own1 := own1.below b6
    replace wid1 := wid1.below b6
    replace own2 := own2.below b6
    replace own3 := own3.below b6
    go_wp2_with fail
    refine (DrawMiddleSamples_d _ _ _ _ _ (h.below B) (by omega)).mono ?_
    rintro e w7 ⟨A7, m7, c7, ms, rfl, hm7, own7, b7⟩
    replace B := below_trans B b7
    replace own1 := own1.below b7
    replace wid1 := wid1.below b7
    replace own2 := own2.below b7
    replace own3 := own3.below b7
    go_wp2_with fail
    refine (iMiddleSamples_c _ _ _ ms _ own7.rd (by omega)).mono ?_
    rintro e w8 ⟨A8, m8, c8, rfl, own8, b8, hm8⟩
    replace B := below_trans B b8
    replace own1 := own1.below b8
    replace wid1 := wid1.below b8
    replace own2 := own2.below b8
    replace own3 := own3.below b8
    replace own7 := own7.below b8
    go_wp2_with fail
    refine (sMiddleSamples_c _ _ _ ms _ own7.rd (by omega)).mono ?_
    rintro e w9 ⟨A9, m9, c9, rfl, own9, b9, hm9⟩
    replace B := below_trans B b9
    replace own1 := own1.below b9
    replace wid1 := wid1.below b9
    replace own2 := own2.below b9
    replace own3 := own3.below b9
    replace own8 := own8.below b9
    clear b1 b2 b3 b4 b5 b6 b7 b8 b9
    have t1 := neq_same (strC cs ws)
    have t2 := neq_same (slipR ls)
    have t3 := neq_same (slipC ls)
    have t4 := neq_same (bitsC ms)
    have e1 := eqB_self (strR cs ws)
    have e2 := eqB_self (midR ms)
    go_wp2_with fail
    refine (likeInts_b _ _ _ _ _ _ (strR cs ws) (strR cs ws) _ own2.rd own3.rd).mono ?_
    rintro e w10 ⟨rfl, b⟩
    replace B := below_trans B b
    replace own1 := own1.below b
    replace wid1 := wid1.below b
    replace own2 := own2.below b
    replace own8 := own8.below b
    replace own9 := own9.below b
    clear own3 b
    go_wp2_with fail
    refine (likeInts_b _ _ _ _ _ _ (midR ms) (midR ms) _ own8.rd own9.rd).mono ?_
    rintro e w11 ⟨rfl, b⟩
    replace B := hide (below_trans B b)
    replace own1 := hide (own1.below b)
    replace wid1 := hide (wid1.below b)
    replace own2 := hide (own2.below b)
    clear own8 own9 b
    by_cases h0 : strC cs ws = 0
    · have s1 := neq_false h0
      obtain ⟨q1, q2, q3, q4, q5⟩ := strC_zero h0
      have u1 := eql_true q1
      have hl1' := own1.out.len
      have hl2' := own2.out.len
      have u2 : ((m2 : Int) == 8 * (m1 : Int) + slipR ws) = true := by
        rw [beq_iff_eq]
        omega
      have m8 : m1 ≤ 8192 := by omega
      clear h0 q1 q2 q5 hl1' hl2'
      go_wp2_with fail
      refine (iSlipOf_c _ _ _ ws _ wid1.out.rd (by omega)).mono ?_
      rintro e w12 ⟨rfl, b⟩
      have B' := below_trans B.out b
      generalize slipR ws = sl at u2 q3 q4 ⊢
      go_wp2_with fail
      go_ret
      exact ⟨rfl, B'⟩
    · have s1 := neq_true h0
      clear h0
      go_wp2_with fail
      go_ret
      exact ⟨rfl, B.out⟩
end Go.Proofs.Ytopccpnkokdmiaa
