/- The walk of FnVoted: where all runs are long and the first sample is 1, voting delays the samples; the reference agrees. -/
import Derived.Test.YtopccpnkokdmiaaDrawX
import Derived.Test.YtopccpnkokdmiaaRunMath
import Derived.Test.YtopccpnkokdmiaaFlip
namespace Go.Proofs.Ytopccpnkokdmiaa
open Go.RowKit
set_option linter.unusedVariables false
set_option linter.unusedSimpArgs false

/-- the first sample is 1 and the first k runs are long -/
def longB (zs : List Int) (k : Nat) : Bool := decide (nth zs 0 = 1) && (List.range k).all fun (j : Nat) => decide (6 ≤ nth (runs zs) j)
theorem longB_succ (zs : List Int) (k : Nat) : longB zs (k + 1) = (longB zs k && decide (6 ≤ nth (runs zs) k)) := by
  simp [longB, List.range_succ, Bool.and_assoc]
theorem longB_use {zs : List Int} (h : longB zs (runs zs).length = true) : nth zs 0 = 1 ∧ LongP zs := by
  simp only [longB, Bool.and_eq_true, decide_eq_true_eq, List.all_eq_true, List.mem_range] at h
  refine ⟨h.1, long_of_runs fun x hx => ?_⟩
  obtain ⟨k, hk, rfl⟩ := List.getElem_of_mem hx
  have := h.2 k hk
  rwa [nth_eq hk] at this
theorem runs_len (zs : List Int) : (runs zs).length ≤ zs.length := (runsTo_len zs zs.length).1
theorem neq_same (x : Int) : (x != x) = false := by simp
theorem eql_true {a b : Int} (h : a = b) : (a == b) = true := by simp [h]
theorem eql_false {a b : Int} (h : ¬ a = b) : (a == b) = false := by simpa using h
theorem bitsC_get {zs : List Int} (h : bitsC zs = 0) : bitsB zs = true := by
  by_cases hb : bitsB zs = true
  · exact hb
  · rw [Bool.not_eq_true] at hb
    simp [bitsC, hb] at h

set_option maxHeartbeats 1600000 in
set_option maxRecDepth 100000 in
theorem walkVoted (A : Option Addr) (n c : Nat) (bs : List Int) (w : World) (h : Rd8 w A n c bs) :
    Calls Try.prog 21 #[.slice A n c] w fun e w' => e = .returned (.bool true) ∧ Below w.heap.size w w' := by
  by_cases hn : 4096 < n
  · have t : decide (4096 < n) = true := by simpa using hn
    go_enter Try.func21, Try.ntmps21
    go_wp2_with (go_at_call 67; refine (big_any _ _ _ _ _ h).mono ?_; rintro e w' ⟨rfl, rfl⟩)
    go_ret
    exact ⟨rfl, Below.refl _ _⟩
  · have t : decide (4096 < n) = false := by simpa using hn
    go_enter Try.func21, Try.ntmps21
    go_wp2_with (go_at_call 67; refine (big_any _ _ _ _ _ h).mono ?_; rintro e w' ⟨rfl, rfl⟩)
    refine (DrawVoteSamples_d _ _ _ _ _ h (by omega)).mono ?_
    rintro e w1 ⟨A1, m1, c1, zs, rfl, hm1, own1, b1⟩
    go_wp2_with fail
    refine (iVoteSamples_c _ _ _ zs _ own1.rd (by omega)).mono ?_
    rintro e w2 ⟨A2, m2, c2, rfl, own2, b2, hm2⟩
    have B2 := below_trans b1 b2
    have own1' := own1.below b2
    clear own1 b1 b2
    go_wp2_with fail
    refine (sVoteSamples_c _ _ _ zs _ own1'.rd (by omega)).mono ?_
    rintro e w3 ⟨A3, m3, c3, rfl, own3, b3, hm3⟩
    have B3 := below_trans B2 b3
    have own2' := own2.below b3
    have own1 := own1'.below b3
    clear own1' own2 B2 b3
    go_wp2_with fail
    refine (iDelaySamples_c _ _ _ zs _ own1.rd (by omega)).mono ?_
    rintro e w4 ⟨A4, m4, c4, rfl, own4, b4, hm4⟩
    have B4 := below_trans B3 b4
    have own1' := own1.below b4
    have own2 := own2'.below b4
    have own3' := own3.below b4
    clear own1 own2' own3 B3 b4
    go_wp2_with fail
    refine (sDelaySamples_c _ _ _ zs _ own1'.rd (by omega)).mono ?_
    rintro e w5 ⟨A5, m5, c5, rfl, own5, b5, hm5⟩
    have B5 := below_trans B4 b5
    have own1 := own1'.below b5
    have own2' := own2.below b5
    have own3 := own3'.below b5
    have own4' := own4.below b5
    clear own1' own2 own3' own4 B4 b5
    have t1 := neq_same (bitsC zs)
    have e1 := eqB_self (voteR zs)
    have e2 := eqB_self (delayR zs)
    go_wp2_with fail
    refine (likeInts_b _ _ _ _ _ _ (voteR zs) (voteR zs) _ own2'.rd own3.rd).mono ?_
    rintro e w6 ⟨rfl, b6⟩
    have B6 := below_trans B5 b6
    have own1' := own1.below b6
    have own2 := own2'.below b6
    have own4 := own4'.below b6
    have own5' := own5.below b6
    clear own1 own2' own3 own4' own5 B5 b6
    go_wp2_with fail
    refine (likeInts_b _ _ _ _ _ _ (delayR zs) (delayR zs) _ own4.rd own5'.rd).mono ?_
    rintro e w7 ⟨rfl, b7⟩
    have B7 := below_trans B6 b7
    have own1 := hide (own1'.below b7)
    have own2' := hide (own2.below b7)
    have own4' := hide (own4.below b7)
    clear own1' own2 own4 own5' B6 b7
    by_cases h0 : bitsC zs = 0
    · have s1 := neq_false h0
      have hb := bitsC_get h0
      have hL := own1.out.len
      by_cases hm : m1 = 0
      · subst hm
        clear h0 hb hL
        go_wp2_with fail
        go_ret
        exact ⟨rfl, B7⟩
      · have sm : ((m1 : Int) == 0) = false := by simp; omega
        have H0 := hide h0
        have HB := hide hb
        have HL := hide hL
        have m0 : 0 < m1 := by omega
        have hmm : (0 : Int) < (m1 : Int) := by omega
        clear h0 hb hL hm
        go_wp2_with fail
        refine (iRunLengths_c _ _ _ zs _ own1.out.rd (by omega)).mono ?_
        rintro e w8 ⟨A8, m8, c8, rfl, own8, b8, hm8⟩
        have B8 := below_trans B7 b8
        have O1 := own1.out.below b8
        have O2 := hide (own2'.out.below b8)
        have O4 := hide (own4'.out.below b8)
        rw [runR_yes HB.out] at own8
        rcases O1.form with ⟨_, hz, _⟩ | ⟨gb, rfl, _, _⟩
        · omega
        have hc0 := O1.cell (k := 0) m0
        have O8 := hide own8
        have hst : Hid ((nth zs 0 == 1) = longB zs 0) := by
          show _ = _
          simp [longB]
          rfl
        generalize hq : (nth zs 0 == 1) = q0 at hst
        have HC8 := O8.out.cap
        have r8 : m8 = (runs zs).length := by rw [O8.out.len]
        have HR8 := hide r8
        clear own1 own2' own4' B7 b8 O1 own8 r8
        go_wp2_with fail
        go_loopw [14, 15] (fun s i wr => ∃ (k : Nat) (b : Bool), k ≤ m8 ∧ i = .int .i64 k ∧ s = .bool b ∧ Hid (b = longB zs k) ∧ wr = w8) (fun _ i _ => m8 - (intOf i).toNat)
        case atStart => exact ⟨0, q0, by omega, rfl, rfl, hst, rfl⟩
        case round =>
          obtain ⟨k, b, hk, rfl, rfl, hb, rfl⟩ := hrel
          have HS := hide (longB_succ zs k)
          by_cases hlt : k < m8
          · rcases O8.out.form with ⟨_, hz, _⟩ | ⟨g8, rfl, _, _⟩
            · omega
            have hck := O8.out.cell (k := k) hlt
            cases b with
            | false =>
              go_wp2_with fail
              go_roundw
              case rel => exact ⟨k + 1, false, by omega, by go_num, rfl, by rw [Hid, HS.out, ← hb.out]; rfl, trivial⟩
              case measure => simp [intOf]; omega
            | true =>
              by_cases h6 : 6 ≤ nth (runs zs) k
              · have d6 : decide (6 ≤ nth (runs zs) k) = true := by simpa using h6
                have HS2 := hide (HS.out.trans (by rw [← hb.out, d6]; rfl : _ = true))
                go_wp2_with fail
                go_roundw
                case rel => exact ⟨k + 1, true, by omega, by go_num, rfl, HS2.out.symm, trivial⟩
                case measure => simp [intOf]; omega
              · have d6 : decide (6 ≤ nth (runs zs) k) = false := by simpa using h6
                have HS2 := hide (HS.out.trans (by rw [← hb.out, d6]; rfl : _ = false))
                go_wp2_with fail
                go_roundw
                case rel => exact ⟨k + 1, false, by omega, by go_num, rfl, HS2.out.symm, trivial⟩
                case measure => simp [intOf]; omega
          · obtain rfl : k = m8 := by omega
            have s2 := eql_true H0.out
            cases b with
            | false =>
              go_wp2_with fail
              go_ret
              exact ⟨rfl, B8⟩
            | true =>
              have hL := hb.out.symm
              rw [HR8.out] at hL
              obtain ⟨l1, l2⟩ := longB_use hL
              have hv := votes_long (bits_all HB.out) l2 l1
              have e3 : eqB (voteR zs) (delayR zs) = true := by
                rw [voteR_yes HB.out, delayR_yes HB.out, hv]
                exact eqB_self _
              clear hL l1 l2 hv
              go_wp2_with fail
              refine (likeInts_b _ _ _ _ _ _ (voteR zs) (delayR zs) _ O2.out.rd O4.out.rd).mono ?_
              rintro e w9 ⟨rfl, b9⟩
              have B9 := below_trans B8 b9
              go_wp2_with fail
              go_ret
              exact ⟨rfl, B9⟩
    · have s1 := neq_true h0
      clear h0
      go_wp2_with fail
      go_ret
      exact ⟨rfl, B7⟩
end Go.Proofs.Ytopccpnkokdmiaa
