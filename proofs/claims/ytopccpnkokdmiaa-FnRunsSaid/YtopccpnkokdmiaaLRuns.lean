/- The walk of FnRuns: samples are recovered from their first one and the lengths of their runs; the reference agrees. -/
import Derived.Test.YtopccpnkokdmiaaDrawX
import Derived.Test.YtopccpnkokdmiaaRunMath
import Derived.Test.YtopccpnkokdmiaaIdle
import Derived.Test.YtopccpnkokdmiaaLVoted
namespace Go.Proofs.Ytopccpnkokdmiaa
open Go.RowKit
set_option linter.unusedVariables false
set_option linter.unusedSimpArgs false

theorem fromTo_bits {f : Int} (h0 : 0 ≤ f) (h1 : f ≤ 1) (ls : List Int) (k : Nat) : allB 0 1 (fromTo f ls k) = true := by
  induction k with
  | zero => rfl
  | succ k ih =>
    have := runV_bit h0 h1 k
    rw [fromTo_succ, allB_append, ih]
    simp [allB, this.1, this.2]
theorem fr_back {f : Int} {ls : List Int} (h : frC f ls = 0) : bitsC (frR f ls) = 0 ∧ runR (frR f ls) = ls ∧ (frR f ls).length ≤ 8192 := by
  unfold frC at h
  by_cases ho : frOk f ls = true
  · rw [if_pos ho] at h
    by_cases hs : sm ls ≤ 8192
    · have hR : frR f ls = fromTo f ls ls.length := by simp [frR, ho, hs]
      have ho' := ho
      rw [frOk, Bool.and_eq_true] at ho'
      obtain ⟨hf, hl⟩ := ho'
      have hf' := inB_true hf
      have hlen := fromTo_len (f := f) hl ls.length (Nat.le_refl _)
      rw [List.take_length] at hlen
      have hb : bitsB (frR f ls) = true := by
        rw [hR, bitsB, upB_yes (by omega)]
        exact fromTo_bits hf'.1 hf'.2 ls _
      refine ⟨(bitsC_yes hb).symm, ?_, by rw [hR]; omega⟩
      rw [runR_yes hb, hR, (runs_fromTo hf'.1 hf'.2 hl ls.length (Nat.le_refl _)).1, List.take_length]
    · rw [if_neg hs] at h
      exact absurd h (by decide)
  · rw [if_neg ho] at h
    exact absurd h (by decide)
theorem run_back {zs : List Int} (hb : bitsB zs = true) (hn : 0 < zs.length) : frC (nth zs 0) (runR zs) = 0 ∧ frR (nth zs 0) (runR zs) = zs := by
  have hall := bits_all hb
  have h8 := bits_len hb
  have h0 := allB_get hall 0 hn
  have e := fromTo_runs hall hn
  have hr : allB 1 8192 (runs zs) = true := by
    rw [allB, List.all_eq_true]
    intro x hx
    have := runsTo_bounds zs zs.length x hx
    simp
    omega
  have hlen := fromTo_len (f := nth zs 0) hr (runs zs).length (Nat.le_refl _)
  rw [e, List.take_length] at hlen
  have hs : sm (runs zs) ≤ 8192 := by omega
  have ho : frOk (nth zs 0) (runs zs) = true := by rw [frOk, inB_yes h0.1 h0.2, hr]; rfl
  rw [runR_yes hb]
  exact ⟨by simp [frC, ho, hs], by rw [frR, ho, decide_eq_true hs]; exact e⟩

set_option maxHeartbeats 3200000 in
set_option maxRecDepth 100000 in
theorem walkRuns (A : Option Addr) (n c : Nat) (bs : List Int) (w : World) (h : Rd8 w A n c bs) :
    Calls Try.prog 22 #[.slice A n c] w fun e w' => e = .returned (.bool true) ∧ Below w.heap.size w w' := by
  by_cases hn : 4096 < n
  · have t : decide (4096 < n) = true := by simpa using hn
    go_enter Try.func22, Try.ntmps22
    go_wp2_with (go_at_call 67; refine (big_any _ _ _ _ _ h).mono ?_; rintro e w' ⟨rfl, rfl⟩)
    go_ret
    exact ⟨rfl, Below.refl _ _⟩
  · have t : decide (4096 < n) = false := by simpa using hn
    go_enter Try.func22, Try.ntmps22
    go_wp2_with (go_at_call 67; refine (big_any _ _ _ _ _ h).mono ?_; rintro e w' ⟨rfl, rfl⟩)
    refine (DrawRunLengths_d _ _ _ _ _ h (by omega)).mono ?_
    rintro e w1 ⟨A1, m1, c1, zs, rfl, hm1, own1, b1⟩
    have B := b1
    go_wp2_with fail
    refine (iRunLengths_c _ _ _ zs _ own1.rd (by omega)).mono ?_
    rintro e w2 ⟨A2, m2, c2, rfl, own2, b2, hm2⟩
    replace B := below_trans B b2
    replace own1 := own1.below b2
    go_wp2_with fail
    refine (sRunLengths_c _ _ _ zs _ own1.rd (by omega)).mono ?_
    rintro e w3 ⟨A3, m3, c3, rfl, own3, b3, hm3⟩
    replace B := below_trans B b3
    replace own1 := own1.below b3
    replace own2 := own2.below b3
    go_wp2_with fail
    refine (DrawFromRuns_d _ _ _ _ _ (h.below B) (by omega)).mono ?_
    rintro e w4 ⟨A4, m4, c4, ls, f, rfl, hm4, hf, own4, b4⟩
    replace B := below_trans B b4
    replace own1 := own1.below b4
    replace own2 := own2.below b4
    replace own3 := own3.below b4
    go_wp2_with fail
    refine (iFromRuns_c f _ _ _ ls _ hf own4.rd (by omega)).mono ?_
    rintro e w5 ⟨A5, m5, c5, rfl, own5, b5, hm5⟩
    replace B := below_trans B b5
    replace own1 := own1.below b5
    replace own2 := own2.below b5
    replace own3 := own3.below b5
    replace own4 := own4.below b5
    go_wp2_with fail
    refine (sFromRuns_c f _ _ _ ls _ hf own4.rd (by omega)).mono ?_
    rintro e w6 ⟨A6, m6, c6, rfl, own6, b6, hm6⟩
    replace B := below_trans B b6
    replace own1 := own1.below b6
    replace own2 := own2.below b6
    replace own3 := own3.below b6
    replace own4 := own4.below b6
    replace own5 := own5.below b6
    go_wp2_with fail
    refine (DrawIdleSamples_d _ _ _ _ _ (h.below B) (by omega)).mono ?_
    rintro e w7 ⟨x, rfl, hx, b7⟩
    replace B := below_trans B b7
    replace own1 := own1.below b7
    replace own2 := own2.below b7
    replace own3 := own3.below b7
    replace own4 := own4.below b7
    replace own5 := own5.below b7
    replace own6 := own6.below b7
    go_wp2_with fail
    refine (iIdleSamples_c x _ hx).mono ?_
    rintro e w8 ⟨A8, m8, c8, rfl, own8, b8, hm8⟩
    replace B := below_trans B b8
    replace own1 := own1.below b8
    replace own2 := own2.below b8
    replace own3 := own3.below b8
    replace own4 := own4.below b8
    replace own5 := own5.below b8
    replace own6 := own6.below b8
    go_wp2_with fail
    refine (sIdleSamples_c x _ hx).mono ?_
    rintro e w9 ⟨A9, m9, c9, rfl, own9, b9, hm9⟩
    replace B := below_trans B b9
    replace own1 := own1.below b9
    replace own2 := own2.below b9
    replace own3 := own3.below b9
    replace own4 := own4.below b9
    replace own5 := own5.below b9
    replace own6 := own6.below b9
    replace own8 := own8.below b9
    clear b1 b2 b3 b4 b5 b6 b7 b8 b9
    have t1 := neq_same (bitsC zs)
    have t2 := neq_same (frC f ls)
    have t3 := neq_same (idleC x)
    have e1 := eqB_self (runR zs)
    have e2 := eqB_self (frR f ls)
    have e3 := eqB_self (idleR x)
    go_wp2_with fail
    refine (likeInts_b _ _ _ _ _ _ (runR zs) (runR zs) _ own2.rd own3.rd).mono ?_
    rintro e w10 ⟨rfl, b⟩
    replace B := below_trans B b
    replace own1 := own1.below b
    replace own2 := own2.below b
    replace own4 := own4.below b
    replace own5 := own5.below b
    replace own6 := own6.below b
    replace own8 := own8.below b
    replace own9 := own9.below b
    clear own3 b
    go_wp2_with fail
    refine (likeInts_b _ _ _ _ _ _ (frR f ls) (frR f ls) _ own5.rd own6.rd).mono ?_
    rintro e w11 ⟨rfl, b⟩
    replace B := below_trans B b
    replace own1 := own1.below b
    replace own2 := own2.below b
    replace own4 := own4.below b
    replace own5 := own5.below b
    replace own8 := own8.below b
    replace own9 := own9.below b
    clear own6 b
    go_wp2_with fail
    refine (likeInts_b _ _ _ _ _ _ (idleR x) (idleR x) _ own8.rd own9.rd).mono ?_
    rintro e w12 ⟨rfl, b⟩
    replace B := hide (below_trans B b)
    replace own1 := hide (own1.below b)
    replace own2 := hide (own2.below b)
    replace own4 := hide (own4.below b)
    replace own5 := hide (own5.below b)
    clear own8 own9 b
    by_cases hfr : frC f ls = 0
    · obtain ⟨f1, f2, f3⟩ := fr_back hfr
      have q1 := eql_true hfr
      have q2 := neq_false f1
      have q3 : eqB (runR (frR f ls)) ls = true := by rw [f2]; exact eqB_self ls
      have Q3 := hide q3
      clear hfr f1 f2 f3 q3
      go_wp2_with fail
      refine (iRunLengths_c _ _ _ (frR f ls) _ own5.out.rd (by omega)).mono ?_
      rintro e w13 ⟨A13, m13, c13, rfl, own13, b, hm13⟩
      replace B := hide (below_trans B.out b)
      replace own1 := hide (own1.out.below b)
      replace own2 := hide (own2.out.below b)
      replace own4 := hide (own4.out.below b)
      clear own5 b
      have q3 := Q3.out
      go_wp2_with fail
      refine (likeInts_b _ _ _ _ _ _ (runR (frR f ls)) ls _ own13.rd own4.out.rd).mono ?_
      rintro e w14 ⟨rfl, b⟩
      replace B := hide (below_trans B.out b)
      replace own1 := hide (own1.out.below b)
      replace own2 := hide (own2.out.below b)
      clear own4 own13 b q1 q2
      by_cases h0 : bitsC zs = 0
      · have s1 := neq_false h0
        have hb := bitsC_get h0
        have hL := own1.out.len
        by_cases hm : m1 = 0
        · subst hm
          clear h0 hb hL
          go_wp2_with fail
          go_ret
          exact ⟨rfl, B.out⟩
        · have sm : ((m1 : Int) == 0) = false := by simp; omega
          have m0 : 0 < m1 := by omega
          have hmm : (0 : Int) < (m1 : Int) := by omega
          obtain ⟨r1, r2⟩ := run_back hb (by omega)
          have R2 := hide r2
          have u1 := eql_true r1
          have O1 := own1.out
          rcases O1.form with ⟨_, hz, _⟩ | ⟨gb, rfl, _, _⟩
          · omega
          have hc0 := O1.cell (k := 0) m0
          have hi := O1.i64.get 0
          clear h0 hb hL hm r1 r2 O1
          go_wp2_with fail
          refine (iFromRuns_c (nth zs 0) _ _ _ (runR zs) _ hi own2.out.rd (by omega)).mono ?_
          rintro e w15 ⟨A15, m15, c15, rfl, own15, b, hm15⟩
          replace B := hide (below_trans B.out b)
          replace own1 := own1.out.below b
          rw [R2.out] at own15
          have e4 := eqB_self zs
          clear b
          go_wp2_with fail
          refine (likeInts_b _ _ _ _ _ _ zs zs _ own15.rd own1.rd).mono ?_
          rintro e w16 ⟨rfl, b⟩
          have B' := below_trans B.out b
          go_wp2_with fail
          go_ret
          exact ⟨rfl, B'⟩
      · have s1 := neq_true h0
        clear h0
        go_wp2_with fail
        go_ret
        exact ⟨rfl, B.out⟩
    · have q1 := eql_false hfr
      clear hfr
      by_cases h0 : bitsC zs = 0
      · have s1 := neq_false h0
        have hb := bitsC_get h0
        have hL := own1.out.len
        by_cases hm : m1 = 0
        · subst hm
          clear h0 hb hL
          go_wp2_with fail
          go_ret
          exact ⟨rfl, B.out⟩
        · have sm : ((m1 : Int) == 0) = false := by simp; omega
          have m0 : 0 < m1 := by omega
          have hmm : (0 : Int) < (m1 : Int) := by omega
          obtain ⟨r1, r2⟩ := run_back hb (by omega)
          have R2 := hide r2
          have u1 := eql_true r1
          have O1 := own1.out
          rcases O1.form with ⟨_, hz, _⟩ | ⟨gb, rfl, _, _⟩
          · omega
          have hc0 := O1.cell (k := 0) m0
          have hi := O1.i64.get 0
          clear h0 hb hL hm r1 r2 O1
          go_wp2_with fail
          refine (iFromRuns_c (nth zs 0) _ _ _ (runR zs) _ hi own2.out.rd (by omega)).mono ?_
          rintro e w15 ⟨A15, m15, c15, rfl, own15, b, hm15⟩
          replace B := hide (below_trans B.out b)
          replace own1 := own1.out.below b
          rw [R2.out] at own15
          have e4 := eqB_self zs
          clear b
          go_wp2_with fail
          refine (likeInts_b _ _ _ _ _ _ zs zs _ own15.rd own1.rd).mono ?_
          rintro e w16 ⟨rfl, b⟩
          have B' := below_trans B.out b
          go_wp2_with fail
          go_ret
          exact ⟨rfl, B'⟩
      · have s1 := neq_true h0
        clear h0
        go_wp2_with fail
        go_ret
        exact ⟨rfl, B.out⟩
end Go.Proofs.Ytopccpnkokdmiaa
