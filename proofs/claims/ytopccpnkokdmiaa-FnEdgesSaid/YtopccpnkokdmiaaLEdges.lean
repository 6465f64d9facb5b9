/- The walk of FnEdges: edges fall and rise in turn, and there is one less than runs; the reference agrees. -/
import Derived.Test.YtopccpnkokdmiaaDrawX
import Derived.Test.YtopccpnkokdmiaaEdgeDrift
import Derived.Test.YtopccpnkokdmiaaLVoted
namespace Go.Proofs.Ytopccpnkokdmiaa
open Go.RowKit
set_option linter.unusedVariables false
set_option linter.unusedSimpArgs false

/-- where the i-th run begins -/
def startOf (zs : List Int) (i : Nat) : Int := sm ((runs zs).take i)
theorem hasInt_b (A : Option Addr) (n c : Nat) (zs : List Int) (x : Int) (w : World) (h : Rd w A n c zs) :
    Calls Try.prog 88 #[.slice A n c, .int .i64 x] w fun e w' => e = .returned (.bool (hasB zs x)) ∧ w = w' := hasInt_any A n c zs x w h
theorem edge_step {zs : List Int} (hb : bitsB zs = true) (hn : 0 < zs.length) {i : Nat} (hi : i + 1 < (runs zs).length) :
    neC zs (startOf zs i) = 0 ∧ neR zs (startOf zs i) = startOf zs (i + 1) ∧ startOf zs (i + 1) = startOf zs i + nth (runs zs) i ∧ (hasB (edgV zs 0) (startOf zs (i + 1)) == hasB (edgV zs 1) (startOf zs (i + 1))) = false ∧ 0 ≤ startOf zs i ∧ startOf zs i ≤ 8192 ∧ 0 ≤ startOf zs (i + 1) ∧ startOf zs (i + 1) ≤ 8192 := by
  have h8 := bits_len hb
  have hall := bits_all hb
  have hc := runs_count hn
  have hik : i < (edgA zs).length := by omega
  have e1 := edgA_nth hn i hi
  have b1 := edgA_bounds zs i hik
  have hs : startOf zs (i + 1) = startOf zs i + nth (runs zs) i := sm_take (runs zs) i (by omega)
  have hprev : ∀ j, j < i → nth (edgA zs) j ≤ startOf zs i := by
    intro j hj
    have e0 := edgA_nth hn (i - 1) (by omega)
    rw [show i - 1 + 1 = i by omega] at e0
    have : nth (edgA zs) j ≤ nth (edgA zs) (i - 1) := by
      by_cases e : j = i - 1
      · subst e; exact Int.le_refl _
      · exact Int.le_of_lt (sorted_nth (edgG_sorted (pA zs) zs.length) (by omega) (by unfold edgA at hik; omega))
    rw [e0] at this
    exact this
  have hnext : startOf zs i < nth (edgA zs) i := by
    by_cases e : i = 0
    · subst e
      have hm := nth_mem hik
      obtain ⟨j, hj, hp, he⟩ := mem_edgG.1 hm
      rw [he]
      show sm [] < _
      rw [sm_nil]
      simp [pA] at hp
      omega
    · have e0 := edgA_nth hn (i - 1) (by omega)
      rw [show i - 1 + 1 = i by omega] at e0
      have := sorted_nth (edgG_sorted (pA zs) zs.length) (i := i - 1) (j := i) (by omega) (by unfold edgA at hik; omega)
      show sm ((runs zs).take i) < _
      rw [← e0]
      exact this
  have h0 : 0 ≤ startOf zs i := by
    by_cases e : i = 0
    · subst e; exact Int.le_refl _
    · have e0 := edgA_nth hn (i - 1) (by omega)
      rw [show i - 1 + 1 = i by omega] at e0
      show 0 ≤ sm ((runs zs).take i)
      rw [← e0]
      exact (edgA_bounds zs (i - 1) (by omega)).1
  obtain ⟨n1, n2⟩ := next_at hprev hik hnext
  have hin : inB 0 zs.length (startOf zs i) = true := inB_yes h0 (by omega)
  obtain ⟨y1, y2⟩ := ne_yes hb hin
  have e1' : nth (edgA zs) i = startOf zs (i + 1) := e1
  refine ⟨y2.trans n2, (y1.trans n1).trans e1', hs, ?_, h0, by omega, by omega, by omega⟩
  obtain ⟨j, hj, hp, he⟩ := mem_edgG.1 (nth_mem hik)
  replace he : nth (edgA zs) i = (j : Int) := he
  rw [← e1', he]
  have hp' : 0 < j ∧ nth zs (j - 1) ≠ nth zs j := by simpa [pA] using hp
  have c1 := bit_cases hall j
  have c2 := bit_cases hall (j - 1)
  rcases c1 with c | c
  · have y : hasB (edgV zs 0) (j : Int) = true := decide_eq_true (mem_edgG.2 ⟨j, hj, pV_yes hp'.1 (by omega) c, rfl⟩)
    have n : hasB (edgV zs 1) (j : Int) = false := by
      refine decide_eq_false fun hm => ?_
      obtain ⟨q, _, hq, e⟩ := mem_edgG.1 hm
      obtain rfl : j = q := by omega
      simp [pV, c] at hq
    rw [y, n]; rfl
  · have y : hasB (edgV zs 1) (j : Int) = true := decide_eq_true (mem_edgG.2 ⟨j, hj, pV_yes hp'.1 (by omega) c, rfl⟩)
    have n : hasB (edgV zs 0) (j : Int) = false := by
      refine decide_eq_false fun hm => ?_
      obtain ⟨q, _, hq, e⟩ := mem_edgG.1 hm
      obtain rfl : j = q := by omega
      simp [pV, c] at hq
    rw [y, n]; rfl
theorem edge_count {zs : List Int} (hb : bitsB zs = true) (hn : 0 < zs.length) : (edgV zs 0).length + (edgV zs 1).length + 1 = (runs zs).length := by
  rw [runs_count hn]
  have := edg_parts (bits_all hb) zs.length
  unfold edgV edgA
  omega

set_option maxHeartbeats 3200000 in
set_option maxRecDepth 100000 in
theorem walkEdges (A : Option Addr) (n c : Nat) (bs : List Int) (w : World) (h : Rd8 w A n c bs) :
    Calls Try.prog 28 #[.slice A n c] w fun e w' => e = .returned (.bool true) ∧ Below w.heap.size w w' := by
  by_cases hn : 4096 < n
  · have t : decide (4096 < n) = true := by simpa using hn
    go_enter Try.func28, Try.ntmps28
    go_wp2_with (go_at_call 67; refine (big_any _ _ _ _ _ h).mono ?_; rintro e w' ⟨rfl, rfl⟩)
    go_ret
    exact ⟨rfl, Below.refl _ _⟩
  · have t : decide (4096 < n) = false := by simpa using hn
    go_enter Try.func28, Try.ntmps28
    go_wp2_with (go_at_call 67; refine (big_any _ _ _ _ _ h).mono ?_; rintro e w' ⟨rfl, rfl⟩)
    refine (DrawFallingEdges_d _ _ _ _ _ h (by omega)).mono ?_
    rintro e w1 ⟨A1, m1, c1, zs, rfl, hm1, own1, b1⟩
    have B := b1
    go_wp2_with fail
    refine (iFallingEdges_c _ _ _ zs _ own1.rd (by omega)).mono ?_
    rintro e w2 ⟨A2, m2, c2, rfl, own2, b, hm2⟩
    replace B := below_trans B b
    replace own1 := own1.below b
    clear b
    go_wp2_with fail
    refine (sFallingEdges_c _ _ _ zs _ own1.rd (by omega)).mono ?_
    rintro e w3 ⟨A3, m3, c3, rfl, own3, b, hm3⟩
    replace B := below_trans B b
    replace own1 := own1.below b
    replace own2 := own2.below b
    clear b
    go_wp2_with fail
    refine (iRisingEdges_c _ _ _ zs _ own1.rd (by omega)).mono ?_
    rintro e w4 ⟨A4, m4, c4, rfl, own4, b, hm4⟩
    replace B := below_trans B b
    replace own1 := own1.below b
    replace own2 := own2.below b
    replace own3 := own3.below b
    clear b
    go_wp2_with fail
    refine (sRisingEdges_c _ _ _ zs _ own1.rd (by omega)).mono ?_
    rintro e w5 ⟨A5, m5, c5, rfl, own5, b, hm5⟩
    replace B := below_trans B b
    replace own1 := own1.below b
    replace own2 := own2.below b
    replace own3 := own3.below b
    replace own4 := own4.below b
    clear b
    go_wp2_with fail
    refine (iWorstDriftOf_c _ _ _ zs _ own1.rd (by omega)).mono ?_
    rintro e w6 ⟨rfl, b⟩
    replace B := below_trans B b
    replace own1 := own1.below b
    replace own2 := own2.below b
    replace own3 := own3.below b
    replace own4 := own4.below b
    replace own5 := own5.below b
    clear b
    go_wp2_with fail
    refine (sWorstDriftOf_c _ _ _ zs _ own1.rd (by omega)).mono ?_
    rintro e w7 ⟨rfl, b⟩
    replace B := below_trans B b
    replace own1 := own1.below b
    replace own2 := own2.below b
    replace own3 := own3.below b
    replace own4 := own4.below b
    replace own5 := own5.below b
    clear b
    have t1 := neq_same (bitsC zs)
    have t2 := neq_same (wdR zs)
    have e1 := eqB_self (fallR zs)
    have e2 := eqB_self (riseR zs)
    go_wp2_with fail
    refine (likeInts_b _ _ _ _ _ _ (fallR zs) (fallR zs) _ own2.rd own3.rd).mono ?_
    rintro e w8 ⟨rfl, b⟩
    replace B := below_trans B b
    replace own1 := own1.below b
    replace own2 := own2.below b
    replace own4 := own4.below b
    replace own5 := own5.below b
    clear own3 b
    go_wp2_with fail
    refine (likeInts_b _ _ _ _ _ _ (riseR zs) (riseR zs) _ own4.rd own5.rd).mono ?_
    rintro e w9 ⟨rfl, b⟩
    replace B := hide (below_trans B b)
    replace own1 := hide (own1.below b)
    replace own2 := hide (own2.below b)
    replace own4 := hide (own4.below b)
    clear own5 b
    by_cases h0 : bitsC zs = 0
    · have s1 := neq_false h0
      have s2 := eql_true h0
      have hb := bitsC_get h0
      have hL := own1.out.len
      by_cases hm : m1 = 0
      · subst hm
        clear h0 hb hL
        go_wp2_with fail
        go_ret
        exact ⟨rfl, B.out⟩
      · have sm : ((m1 : Int) == 0) = false := by simp; omega
        have HB := hide hb
        have HL := hide hL
        have m0 : 0 < m1 := by omega
        have S2 := hide s2
        clear h0 hb hL hm s2
        go_wp2_with fail
        refine (iRunLengths_c _ _ _ zs _ own1.out.rd (by omega)).mono ?_
        rintro e w10 ⟨A10, m10, c10, rfl, own10, b, hm10⟩
        replace B := hide (below_trans B.out b)
        replace own1 := hide (own1.out.below b)
        replace own2 := own2.out.below b
        replace own4 := own4.out.below b
        rw [runR_yes HB.out] at own10
        rw [fallR_yes HB.out] at own2
        rw [riseR_yes HB.out] at own4
        have l10 : Hid (m10 = (runs zs).length) := by
          show _ = _
          rw [own10.len]
        have l2 : Hid (m2 = (edgV zs 0).length) := by
          show _ = _
          rw [own2.len]
        have l4 : Hid (m4 = (edgV zs 1).length) := by
          show _ = _
          rw [own4.len]
        have hcap := own10.cap
        clear b
        have s2 := S2.out
        go_wp2_with fail
        go_loopw [18, 19] (fun a i wr => ∃ k : Nat, (k + 1 ≤ m10 ∨ k = 0) ∧ i = .int .i64 k ∧ a = .int .i64 (startOf zs k) ∧ Below w10.heap.size w10 wr) (fun _ i _ => m10 - (intOf i).toNat)
        case atStart => exact ⟨0, by omega, rfl, rfl, Below.refl _ _⟩
        case round =>
          obtain ⟨k, hk, rfl, rfl, hbel⟩ := hrel
          by_cases hlt : k + 1 < m10
          · have hst := edge_step (zs := zs) HB.out (by have := HL.out; omega) (i := k) (by have := l10.out; omega)
            obtain ⟨q1, q2, q3, q4, q5, q6, q7, q8⟩ := hst
            have q1' := neq_false q1
            have Q2 := hide q2
            have q3' : (startOf zs (k + 1) != startOf zs k + nth (runs zs) k) = false := neq_false q3
            rcases own10.form with ⟨_, hz, _⟩ | ⟨gb, rfl, _, _⟩
            · omega
            have hck := (hbel.cell (p := ⟨gb, k, none⟩) (own10.rd.block (by omega))).trans (own10.cell (k := k) (by omega))
            have hi := own10.i64.get k
            have ltb : ((k : Int) + 1 < (m10 : Int)) := by omega
            have nb : nth (runs zs) k ≤ 8192 ∧ -8192 ≤ nth (runs zs) k := by omega
            clear q1 q2 q3
            go_wp2_with fail
            refine (iNextEdge_c _ _ _ zs (startOf zs k) _ (own1.out.below hbel).rd (by omega) (by omega)).mono ?_
            rintro e w11 ⟨rfl, b11⟩
            have hck2 := (b11.cell (p := ⟨gb, k, none⟩) (Nat.lt_of_lt_of_le (own10.rd.block (by omega)) hbel.size)).trans hck
            have hb2 := below_trans hbel b11
            rw [Q2.out]
            clear hck b11 hbel
            have o2 := hide (own2.below hb2)
            have o4 := hide (own4.below hb2)
            go_wp2_with fail
            refine (hasInt_any _ _ _ (edgV zs 0) _ _ o2.out.rd).mono ?_
            rintro e w' ⟨rfl, rfl⟩
            go_wp2_with fail
            refine (hasInt_any _ _ _ (edgV zs 1) _ _ o4.out.rd).mono ?_
            rintro e w' ⟨rfl, rfl⟩
            go_wp2_with fail
            go_roundw
            case rel => exact ⟨k + 1, by omega, by go_num, rfl, hb2⟩
            case measure => simp [intOf]; omega
          · have hend : ((m2 : Int) + (m4 : Int) + 1 == (m10 : Int)) = true := by
              have := edge_count (zs := zs) HB.out (by have := HL.out; omega)
              rw [beq_iff_eq]
              have h1 := l10.out
              have h2 := l2.out
              have h4 := l4.out
              omega
            have ltb : ¬ ((k : Int) + 1 < (m10 : Int)) := by omega
            have hBel := below_trans B.out hbel
            go_wp2_with fail
            go_ret
            exact ⟨rfl, hBel⟩
    · have s1 := neq_true h0
      clear h0
      go_wp2_with fail
      go_ret
      exact ⟨rfl, B.out⟩
end Go.Proofs.Ytopccpnkokdmiaa
