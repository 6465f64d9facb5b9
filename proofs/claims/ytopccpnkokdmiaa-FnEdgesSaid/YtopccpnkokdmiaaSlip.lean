/- Contracts: widths, sums, SlipOf. -/
import Derived.Test.YtopccpnkokdmiaaBits
import Derived.Test.YtopccpnkokdmiaaCopy
namespace Go.Proofs.Ytopccpnkokdmiaa
open Go.RowKit
set_option linter.unusedVariables false
set_option linter.unusedSimpArgs false

/-- the sum of numbers -/
def sm (zs : List Int) : Int := zs.sum
theorem sm_nil : sm [] = 0 := rfl
theorem sm_append (a b : List Int) : sm (a ++ b) = sm a + sm b := by simp [sm, List.sum_append]
theorem sm_one (x : Int) : sm [x] = x := by simp [sm]
theorem sm_take (zs : List Int) (k : Nat) (h : k < zs.length) : sm (zs.take (k + 1)) = sm (zs.take k) + nth zs k := by rw [take_snoc zs k h, sm_append, sm_one]
theorem sm_bounds {lo hi : Int} {zs : List Int} (h : allB lo hi zs = true) (k : Nat) (hk : k ≤ zs.length) : lo * k ≤ sm (zs.take k) ∧ sm (zs.take k) ≤ hi * k := by
  induction k with
  | zero => simp [sm]
  | succ k ih =>
    have := ih (by omega)
    have hb := allB_get h k (by omega)
    rw [sm_take zs k (by omega), Int.natCast_add, Int.mul_add, Int.mul_add]
    omega
theorem upB_true {m : Nat} {lo hi : Int} {zs : List Int} (h : upB m lo hi zs = true) : zs.length ≤ m ∧ allB lo hi zs = true := by simpa [upB] using h
/-- at most 8192 numbers, each 7 to 9 -/
def widthsB (zs : List Int) : Bool := upB 8192 7 9 zs

theorem l20Widths_any (A : Option Addr) (n c : Nat) (zs : List Int) (w : World) (h : Rd w A n c zs) :
    Calls Try.prog 96 #[.slice A n c] w fun e w' => e = .returned (.bool (widthsB zs)) ∧ w = w' := by
  have hlen := h.le
  have hcap := h.cap
  go_enter Try.func96, Try.ntmps96
  go_wp2
  go_loop [3] (fun i => ∃ k : Nat, k ≤ n ∧ i = .int .i64 k ∧ Hid (allB 7 9 (zs.take k) = true)) (fun i => n - (intOf i).toNat)
  case atStart => exact ⟨0, Nat.zero_le _, rfl, rfl⟩
  case round =>
    obtain ⟨k, hk, rfl, hall⟩ := hrel
    by_cases hlt : k < n
    · obtain ⟨b, off, rfl, hb, hc⟩ := h.at_ (by omega)
      have hck := hc k hlt
      clear hc
      by_cases h1 : 7 ≤ nth zs k ∧ nth zs k ≤ 9
      · have hstep := hide (allB_step 7 9 zs k (by omega) hall.out h1.1 h1.2)
        have hin := inB_yes h1.1 h1.2
        clear h1
        go_wp2_with (go_at_call 89; refine (l01In_any _ _ _ _).mono ?_; rintro e w' ⟨rfl, rfl⟩)
        go_round
        case rel => exact ⟨k + 1, by omega, by go_num, hstep⟩
        case measure => simp [intOf]; omega
      · have hbad : Hid (widthsB zs = false) := by
          show _ = _
          rw [widthsB, upB, allB_bad 7 9 zs k (by omega) (by omega), Bool.and_false]
        have hin := inB_no (lo := 7) (hi := 9) (x := nth zs k) (by omega)
        clear h1
        go_wp2_with (go_at_call 89; refine (l01In_any _ _ _ _).mono ?_; rintro e w' ⟨rfl, rfl⟩)
        go_ret
        exact ⟨ret_bool hbad.out.symm, rfl⟩
    · obtain rfl : k = n := by omega
      have hfin : Hid (allB 7 9 zs = true) := by
        have := hall.out
        rwa [List.take_of_length_le (by omega)] at this
      by_cases h8 : k ≤ 8192
      · have hend : Hid (decide ((k : Int) ≤ 8192) = widthsB zs) := by
          show _ = _
          rw [widthsB, upB_yes (by omega), hfin.out]
          exact decide_eq_true (by omega)
        go_wp2
        go_ret
        exact ⟨ret_bool hend.out, rfl⟩
      · have hend : Hid (decide ((k : Int) ≤ 8192) = widthsB zs) := by
          show _ = _
          rw [widthsB, upB_no (by omega)]
          exact decide_eq_false (by omega)
        go_wp2
        go_ret
        exact ⟨ret_bool hend.out, rfl⟩

theorem l20Sum_any (A : Option Addr) (n c : Nat) (zs : List Int) (w : World) (h : Rd w A n c zs) (hn : n ≤ 16777216) (hz : allB (-16777216) 16777216 zs = true) :
    Calls Try.prog 97 #[.slice A n c] w fun e w' => e = .returned (.int .i64 (sm zs)) ∧ w = w' := by
  have hlen := h.le
  have hcap := h.cap
  have HZ := hide hz
  clear hz
  go_enter Try.func97, Try.ntmps97
  go_wp2
  go_loop [3, 4] (fun s i => ∃ k : Nat, k ≤ n ∧ i = .int .i64 k ∧ s = .int .i64 (sm (zs.take k))) (fun _ i => n - (intOf i).toNat)
  case atStart => exact ⟨0, Nat.zero_le _, rfl, rfl⟩
  case round =>
    obtain ⟨k, hk, rfl, rfl⟩ := hrel
    have hb := sm_bounds HZ.out k (by omega)
    by_cases hlt : k < n
    · obtain ⟨b, off, rfl, hbb, hc⟩ := h.at_ (by omega)
      have hck := hc k hlt
      have hzk := allB_get HZ.out k (by omega)
      have hst := hide (sm_take zs k (by omega))
      clear hc
      obtain ⟨s, hs⟩ : ∃ s, s = sm (zs.take k) := ⟨_, rfl⟩
      have HS := hide hs
      rw [← hs] at hb ⊢
      clear hs
      go_wp2
      go_round
      case rel => exact ⟨k + 1, by omega, by go_num, by rw [hst.out, HS.out]⟩
      case measure => simp [intOf]; omega
    · obtain rfl : k = n := by omega
      have hfin := hide (List.take_of_length_le (l := zs) (i := k) (by omega))
      go_wp2
      go_ret
      exact ⟨ret_int (by rw [hfin.out]), rfl⟩

theorem areWidths_any (A : Option Addr) (n c : Nat) (zs : List Int) (w : World) (h : Rd w A n c zs) :
    Calls Try.prog 98 #[.slice A n c] w fun e w' => e = .returned (.bool (allB 7 9 zs)) ∧ w = w' := by
  go_enter Try.func98, Try.ntmps98
  go_wp2_with (go_at_call 108; refine (allWithin_any _ _ _ zs _ _ _ h).mono ?_; rintro e w' ⟨rfl, rfl⟩)
  go_ret
  exact ⟨rfl, rfl⟩

/-- what SlipOf returns -/
def slipR (zs : List Int) : Int := if widthsB zs then sm zs - 8 * zs.length else 0
def slipC (zs : List Int) : Int := if widthsB zs then 0 else 2
theorem slip_yes {zs : List Int} (h : widthsB zs = true) : slipR zs = sm zs - 8 * zs.length ∧ slipC zs = 0 := by simp [slipR, slipC, h]
theorem slip_no {zs : List Int} (h : widthsB zs = false) : slipR zs = 0 ∧ slipC zs = 2 := by simp [slipR, slipC, h]
theorem allB_wide {lo hi lo' hi' : Int} {zs : List Int} (h : allB lo hi zs = true) (h1 : lo' ≤ lo) (h2 : hi ≤ hi') : allB lo' hi' zs = true := by
  rw [allB, List.all_eq_true] at h ⊢
  intro z hz
  have := h z hz
  simp at this ⊢
  omega

theorem sSlipOf_c (A : Option Addr) (n c : Nat) (zs : List Int) (w : World) (h : Rd w A n c zs) (hn : n ≤ 1048576) :
    Calls Try.prog 35 #[.slice A n c] w fun e w' => e = .returned (.tuple #[.int .i64 (slipR zs), .int .i64 (slipC zs)]) ∧ Below w.heap.size w w' := by
  have hlen := h.le
  have hcap := h.cap
  by_cases hw : widthsB zs = true
  · obtain ⟨h8, ha⟩ := upB_true hw
    have hf := slip_yes hw
    have HF := hide hf
    have HA := hide ha
    have hb := sm_bounds ha zs.length (Nat.le_refl _)
    rw [List.take_of_length_le (Nat.le_refl _)] at hb
    have hl := hide h.len
    clear hf ha
    go_enter Try.func35, Try.ntmps35
    go_wp2_with (first | (go_at_call 96; refine (l20Widths_any _ _ _ zs _ h).mono ?_; rintro e w' ⟨rfl, rfl⟩) | (go_at_call 97; refine (l20Sum_any _ _ _ zs _ h (by omega) (allB_wide HA.out (by omega) (by omega))).mono ?_; rintro e w' ⟨rfl, rfl⟩))
    go_ret2
    exact ⟨ret_pair (by rw [HF.out.1, hl.out]) (by rw [HF.out.2]), Below.refl _ _⟩
  · have hw : widthsB zs = false := by simpa using hw
    have hf := slip_no hw
    have HF := hide hf
    clear hf
    go_enter Try.func35, Try.ntmps35
    go_wp2_with (first | (go_at_call 96; refine (l20Widths_any _ _ _ zs _ h).mono ?_; rintro e w' ⟨rfl, rfl⟩))
    go_ret2
    exact ⟨ret_pair (by rw [HF.out.1]) (by rw [HF.out.2]), Below.refl _ _⟩

theorem iSlipOf_c (A : Option Addr) (n c : Nat) (zs : List Int) (w : World) (h : Rd w A n c zs) (hn : n ≤ 1048576) :
    Calls Try.prog 36 #[.slice A n c] w fun e w' => e = .returned (.tuple #[.int .i64 (slipR zs), .int .i64 (slipC zs)]) ∧ Below w.heap.size w w' := by
  have hlen := h.le
  have hcap := h.cap
  by_cases h8 : n ≤ 8192
  · have t0 : decide (8192 < n) = false := by simp; omega
    by_cases ha : allB 7 9 zs = true
    · have hw : widthsB zs = true := by rw [widthsB, upB_yes (by omega), ha]
      have HF := hide (slip_yes hw)
      have HA := hide ha
      clear hw
      go_enter Try.func36, Try.ntmps36
      go_wp2_with (first | (go_at_call 98; refine (areWidths_any _ _ _ zs _ h).mono ?_; rintro e w' ⟨rfl, rfl⟩))
      go_loop [4, 17] (fun s i => ∃ k : Nat, k ≤ n ∧ i = .int .i64 k ∧ s = .int .i64 (sm (zs.take k) - 8 * k)) (fun _ i => n - (intOf i).toNat)
      case atStart => exact ⟨0, Nat.zero_le _, rfl, by simp [sm]⟩
      case round =>
        obtain ⟨k, hk, rfl, rfl⟩ := hrel
        have hb := sm_bounds HA.out k (by omega)
        by_cases hlt : k < n
        · obtain ⟨b, off, rfl, hbb, hc⟩ := h.at_ (by omega)
          have hck := hc k hlt
          have hzk := allB_get HA.out k (by omega)
          have hst := hide (sm_take zs k (by omega))
          clear hc
          obtain ⟨s, hs⟩ : ∃ s, s = sm (zs.take k) := ⟨_, rfl⟩
          have HS := hide hs
          rw [← hs] at hb ⊢
          clear hs
          go_wp2
          go_round
          case rel => exact ⟨k + 1, by omega, by go_num, by rw [hst.out, ← HS.out]; go_num⟩
          case measure => simp [intOf]; omega
        · obtain rfl : k = n := by omega
          have hl := hide h.len
          have hfin := hide (List.take_of_length_le (l := zs) (i := k) (by omega))
          go_wp2
          go_ret2
          exact ⟨ret_pair (by rw [HF.out.1, hl.out, hfin.out]) (by rw [HF.out.2]), Below.refl _ _⟩
    · have ha : allB 7 9 zs = false := by simpa using ha
      have hw : widthsB zs = false := by rw [widthsB, upB_yes (by omega), ha]
      have HF := hide (slip_no hw)
      clear hw
      go_enter Try.func36, Try.ntmps36
      go_wp2_with (first | (go_at_call 98; refine (areWidths_any _ _ _ zs _ h).mono ?_; rintro e w' ⟨rfl, rfl⟩))
      go_ret2
      exact ⟨ret_pair (by rw [HF.out.1]) (by rw [HF.out.2]), Below.refl _ _⟩
  · have hw : widthsB zs = false := by rw [widthsB, upB_no (by omega)]
    have HF := hide (slip_no hw)
    clear hw
    go_enter Try.func36, Try.ntmps36
    go_wp2
    go_ret2
    exact ⟨ret_pair (by rw [HF.out.1]) (by rw [HF.out.2]), Below.refl _ _⟩
end Go.Proofs.Ytopccpnkokdmiaa
