/- Contracts: the ones in a window, the delayed samples. -/
import Derived.Test.YtopccpnkokdmiaaMiddle
namespace Go.Proofs.Ytopccpnkokdmiaa
open Go.RowKit
set_option linter.unusedVariables false
set_option linter.unusedSimpArgs false

/-- the sample at an index; those ahead of the first one are 1 -/
def winAt (zs : List Int) (k : Int) : Int := if k < 0 then 1 else nth zs k.toNat
theorem winAt_neg {zs : List Int} {k : Int} (h : k < 0) : winAt zs k = 1 := by simp [winAt, h]
theorem winAt_nat (zs : List Int) (k : Nat) : winAt zs (k : Int) = nth zs k := by
  have : ¬ ((k : Int) < 0) := by omega
  simp [winAt, this]
def onesTo (zs : List Int) (i : Int) : Nat → Int
  | 0 => 0
  | m + 1 => onesTo zs i m + winAt zs (i - 4 + m)
/-- the ones from i - 4 up to k - 1 -/
def onesK (zs : List Int) (i k : Int) : Int := onesTo zs i (k - (i - 4)).toNat
theorem onesK_start (zs : List Int) (i : Int) : onesK zs i (i - 5 + 1) = 0 := by
  have : (i - 5 + 1 - (i - 4)).toNat = 0 := by omega
  rw [onesK, this]; rfl
theorem onesK_step (zs : List Int) (i k : Int) (h : i - 4 ≤ k) : onesK zs i (k + 1) = onesK zs i k + winAt zs k := by
  have h1 : (k + 1 - (i - 4)).toNat = (k - (i - 4)).toNat + 1 := by omega
  have h2 : i - 4 + ((k - (i - 4)).toNat : Int) = k := by omega
  rw [onesK, h1, onesTo, h2]; rfl
theorem bit_nth {zs : List Int} (hb : allB 0 1 zs = true) (k : Nat) : 0 ≤ nth zs k ∧ nth zs k ≤ 1 := by
  by_cases h : k < zs.length
  · exact allB_get hb k h
  · rw [nth_out (by omega)]; exact ⟨by decide, by decide⟩
theorem bit_cases {zs : List Int} (hb : allB 0 1 zs = true) (k : Nat) : nth zs k = 0 ∨ nth zs k = 1 := by
  have := bit_nth hb k; omega
theorem winAt_bit {zs : List Int} (hb : allB 0 1 zs = true) (k : Int) : 0 ≤ winAt zs k ∧ winAt zs k ≤ 1 := by
  unfold winAt
  split
  · exact ⟨by decide, by decide⟩
  · exact bit_nth hb _
theorem onesTo_bounds {zs : List Int} (hb : allB 0 1 zs = true) (i : Int) (m : Nat) : 0 ≤ onesTo zs i m ∧ onesTo zs i m ≤ m := by
  induction m with
  | zero => exact ⟨Int.le_refl _, Int.le_refl _⟩
  | succ m ih =>
    have := winAt_bit hb (i - 4 + m)
    rw [onesTo]
    omega
theorem onesK_bounds {zs : List Int} (hb : allB 0 1 zs = true) (i k : Int) (h : k ≤ i + 1) : 0 ≤ onesK zs i k ∧ onesK zs i k ≤ 5 := by
  have := onesTo_bounds hb i (k - (i - 4)).toNat
  unfold onesK
  omega
def onesW (zs : List Int) (i : Int) : Int := onesK zs i (i + 1)

theorem l21Ones_any (A : Option Addr) (n c : Nat) (zs : List Int) (i : Int) (w : World) (h : Rd w A n c zs) (hb : allB 0 1 zs = true) (h0 : 0 ≤ i) (h1 : i < n) (hn : n ≤ 1048576) :
    Calls Try.prog 101 #[.slice A n c, .int .i64 i] w fun e w' => e = .returned (.int .i64 (onesW zs i)) ∧ w = w' := by
  have hlen := h.le
  have hcap := h.cap
  have HB := hide hb
  clear hb
  go_enter Try.func101, Try.ntmps101
  go_wp2
  go_loop [5, 6] (fun s k => ∃ k' : Int, i - 4 ≤ k' ∧ k' ≤ i + 1 ∧ k = .int .i64 k' ∧ s = .int .i64 (onesK zs i k')) (fun _ k => (i + 1 - intOf k).toNat)
  case atStart => exact ⟨i - 5 + 1, by omega, by omega, rfl, by rw [onesK_start]⟩
  case round =>
    obtain ⟨k, hk1, hk2, rfl, rfl⟩ := hrel
    have hs := onesK_bounds HB.out i k hk2
    have hst := hide (onesK_step zs i k hk1)
    by_cases hlt : k ≤ i
    · obtain ⟨s, he⟩ : ∃ s, s = onesK zs i k := ⟨_, rfl⟩
      have HS := hide he
      rw [← he] at hs ⊢
      clear he
      by_cases hneg : k < 0
      · have hw := hide (winAt_neg (zs := zs) hneg)
        go_wp2
        go_round
        case rel => exact ⟨k + 1, by omega, by omega, rfl, by rw [hst.out, hw.out, HS.out]⟩
        case measure => simp [intOf]; omega
      · obtain ⟨t, rfl⟩ := Int.eq_ofNat_of_zero_le (show 0 ≤ k by omega)
        obtain ⟨b, off, rfl, hbb, hc⟩ := h.at_ (by omega)
        have hck := hc t (by omega)
        have hbit := bit_nth HB.out t
        have hw := hide (winAt_nat zs t)
        clear hc
        go_wp2
        go_round
        case rel => exact ⟨t + 1, by omega, by omega, rfl, by rw [hst.out, hw.out, HS.out]⟩
        case measure => simp [intOf]; omega
    · obtain rfl : k = i + 1 := by omega
      go_wp2
      go_ret
      exact ⟨rfl, rfl⟩

theorem onesInWindow_any (A : Option Addr) (n c : Nat) (zs : List Int) (i : Int) (w : World) (h : Rd w A n c zs) (hb : allB 0 1 zs = true) (h0 : 0 ≤ i) (h1 : i < n) (hn : n ≤ 1048576) :
    Calls Try.prog 102 #[.slice A n c, .int .i64 i] w fun e w' => e = .returned (.int .i64 (onesW zs i)) ∧ w = w' := by
  have hlen := h.le
  have hcap := h.cap
  have HB := hide hb
  clear hb
  go_enter Try.func102, Try.ntmps102
  go_wp2
  go_loop [5, 6] (fun s k => ∃ k' : Int, i - 4 ≤ k' ∧ k' ≤ i + 1 ∧ k = .int .i64 k' ∧ s = .int .i64 (onesK zs i k')) (fun _ k => (i + 1 - intOf k).toNat)
  case atStart => exact ⟨i - 5 + 1, by omega, by omega, rfl, by rw [onesK_start]⟩
  case round =>
    obtain ⟨k, hk1, hk2, rfl, rfl⟩ := hrel
    have hs := onesK_bounds HB.out i k hk2
    have hst := hide (onesK_step zs i k hk1)
    by_cases hlt : k ≤ i
    · obtain ⟨s, he⟩ : ∃ s, s = onesK zs i k := ⟨_, rfl⟩
      have HS := hide he
      rw [← he] at hs ⊢
      clear he
      by_cases hneg : k < 0
      · have hw := hide (winAt_neg (zs := zs) hneg)
        go_wp2
        go_round
        case rel => exact ⟨k + 1, by omega, by omega, rfl, by rw [hst.out, hw.out, HS.out]⟩
        case measure => simp [intOf]; omega
      · obtain ⟨t, rfl⟩ := Int.eq_ofNat_of_zero_le (show 0 ≤ k by omega)
        obtain ⟨b, off, rfl, hbb, hc⟩ := h.at_ (by omega)
        have hck := hc t (by omega)
        have hw := hide (winAt_nat zs t)
        clear hc
        rcases bit_cases HB.out t with hbit | hbit
        · rw [hbit] at hck
          have HBt := hide hbit
          clear hbit
          go_wp2
          go_round
          case rel => exact ⟨t + 1, by omega, by omega, rfl, by rw [hst.out, hw.out, HBt.out, Int.add_zero, HS.out]⟩
          case measure => simp [intOf]; omega
        · rw [hbit] at hck
          have HBt := hide hbit
          clear hbit
          go_wp2
          go_round
          case rel => exact ⟨t + 1, by omega, by omega, rfl, by rw [hst.out, hw.out, HBt.out, HS.out]⟩
          case measure => simp [intOf]; omega
    · obtain rfl : k = i + 1 := by omega
      go_wp2
      go_ret
      exact ⟨rfl, rfl⟩

/-- what OnesInWindow returns -/
def onesR (zs : List Int) (i : Int) : Int := if bitsB zs && inB 0 (zs.length - 1) i then onesW zs i else 0
def onesC (zs : List Int) (i : Int) : Int := if bitsB zs then (if inB 0 (zs.length - 1) i then 0 else 2) else 1

theorem iOnesInWindow_c (A : Option Addr) (n c : Nat) (zs : List Int) (i : Int) (w : World) (h : Rd w A n c zs) (hi : -9223372036854775808 ≤ i ∧ i ≤ 9223372036854775807) (hn : n ≤ 1048576) :
    Calls Try.prog 42 #[.slice A n c, .int .i64 i] w fun e w' => e = .returned (.tuple #[.int .i64 (onesR zs i), .int .i64 (onesC zs i)]) ∧ Below w.heap.size w w' := by
  have hlen := h.le
  have hcap := h.cap
  by_cases hb : bitsB zs = true
  · by_cases hin : 0 ≤ i ∧ i ≤ (n : Int) - 1
    · have hy := inB_yes hin.1 hin.2
      have hR : Hid (onesW zs i = onesR zs i) := by
        show _ = _
        rw [onesR, hb, h.len, hy]; rfl
      have hC : Hid (0 = onesC zs i) := by
        show _ = _
        rw [onesC, if_pos hb, h.len, if_pos hy]
      go_enter Try.func42, Try.ntmps42
      go_wp2_with (first | (go_at_call 100; refine (iIsBits_any _ _ _ zs _ h).mono ?_; rintro e w' ⟨rfl, rfl⟩) | (go_at_call 91; refine (within_any _ _ _ _).mono ?_; rintro e w' ⟨rfl, rfl⟩) | (go_at_call 102; refine (onesInWindow_any _ _ _ zs _ _ h (bits_all hb) hin.1 (by omega) hn).mono ?_; rintro e w' ⟨rfl, rfl⟩))
      go_ret2
      exact ⟨ret_pair hR.out hC.out, Below.refl _ _⟩
    · have hy := inB_no (lo := 0) (hi := (n : Int) - 1) (x := i) (by omega)
      have hR : Hid (0 = onesR zs i) := by
        show _ = _
        rw [onesR, hb, h.len, hy]; rfl
      have hC : Hid (2 = onesC zs i) := by
        show _ = _
        rw [onesC, if_pos hb, h.len, hy]; rfl
      go_enter Try.func42, Try.ntmps42
      go_wp2_with (first | (go_at_call 100; refine (iIsBits_any _ _ _ zs _ h).mono ?_; rintro e w' ⟨rfl, rfl⟩) | (go_at_call 91; refine (within_any _ _ _ _).mono ?_; rintro e w' ⟨rfl, rfl⟩))
      go_ret2
      exact ⟨ret_pair hR.out hC.out, Below.refl _ _⟩
  · have hb : bitsB zs = false := by simpa using hb
    have hR : Hid (0 = onesR zs i) := by
      show _ = _
      rw [onesR, hb]; rfl
    have hC : Hid (1 = onesC zs i) := by
      show _ = _
      rw [onesC, hb]; rfl
    go_enter Try.func42, Try.ntmps42
    go_wp2_with (first | (go_at_call 100; refine (iIsBits_any _ _ _ zs _ h).mono ?_; rintro e w' ⟨rfl, rfl⟩))
    go_ret2
    exact ⟨ret_pair hR.out hC.out, Below.refl _ _⟩
theorem sOnesInWindow_c (A : Option Addr) (n c : Nat) (zs : List Int) (i : Int) (w : World) (h : Rd w A n c zs) (hi : -9223372036854775808 ≤ i ∧ i ≤ 9223372036854775807) (hn : n ≤ 1048576) :
    Calls Try.prog 41 #[.slice A n c, .int .i64 i] w fun e w' => e = .returned (.tuple #[.int .i64 (onesR zs i), .int .i64 (onesC zs i)]) ∧ Below w.heap.size w w' := by
  have hlen := h.le
  have hcap := h.cap
  by_cases hb : bitsB zs = true
  · by_cases hin : 0 ≤ i ∧ i ≤ (n : Int) - 1
    · have hy := inB_yes hin.1 hin.2
      have hR : Hid (onesW zs i = onesR zs i) := by
        show _ = _
        rw [onesR, hb, h.len, hy]; rfl
      have hC : Hid (0 = onesC zs i) := by
        show _ = _
        rw [onesC, if_pos hb, h.len, if_pos hy]
      go_enter Try.func41, Try.ntmps41
      go_wp2_with (first | (go_at_call 99; refine (sIsBits_any _ _ _ zs _ h).mono ?_; rintro e w' ⟨rfl, rfl⟩) | (go_at_call 89; refine (l01In_any _ _ _ _).mono ?_; rintro e w' ⟨rfl, rfl⟩) | (go_at_call 101; refine (l21Ones_any _ _ _ zs _ _ h (bits_all hb) hin.1 (by omega) hn).mono ?_; rintro e w' ⟨rfl, rfl⟩))
      go_ret2
      exact ⟨ret_pair hR.out hC.out, Below.refl _ _⟩
    · have hy := inB_no (lo := 0) (hi := (n : Int) - 1) (x := i) (by omega)
      have hR : Hid (0 = onesR zs i) := by
        show _ = _
        rw [onesR, hb, h.len, hy]; rfl
      have hC : Hid (2 = onesC zs i) := by
        show _ = _
        rw [onesC, if_pos hb, h.len, hy]; rfl
      go_enter Try.func41, Try.ntmps41
      go_wp2_with (first | (go_at_call 99; refine (sIsBits_any _ _ _ zs _ h).mono ?_; rintro e w' ⟨rfl, rfl⟩) | (go_at_call 89; refine (l01In_any _ _ _ _).mono ?_; rintro e w' ⟨rfl, rfl⟩))
      go_ret2
      exact ⟨ret_pair hR.out hC.out, Below.refl _ _⟩
  · have hb : bitsB zs = false := by simpa using hb
    have hR : Hid (0 = onesR zs i) := by
      show _ = _
      rw [onesR, hb]; rfl
    have hC : Hid (1 = onesC zs i) := by
      show _ = _
      rw [onesC, hb]; rfl
    go_enter Try.func41, Try.ntmps41
    go_wp2_with (first | (go_at_call 99; refine (sIsBits_any _ _ _ zs _ h).mono ?_; rintro e w' ⟨rfl, rfl⟩))
    go_ret2
    exact ⟨ret_pair hR.out hC.out, Below.refl _ _⟩

/-- the first k delayed samples -/
def delays (zs : List Int) (k : Nat) : List Int := (List.range k).map (fun (j : Nat) => if j < 2 then 1 else nth zs (j - 2))
theorem delays_succ (zs : List Int) (k : Nat) : delays zs (k + 1) = delays zs k ++ [if k < 2 then 1 else nth zs (k - 2)] := by simp [delays, List.range_succ]
def delayR (zs : List Int) : List Int := if bitsB zs then delays zs zs.length else []
theorem delayR_yes {zs : List Int} (h : bitsB zs = true) : delayR zs = delays zs zs.length := by simp [delayR, h]
theorem delayR_no {zs : List Int} (h : bitsB zs = false) : delayR zs = [] := by simp [delayR, h]

theorem iDelaySamples_c (A : Option Addr) (n c : Nat) (zs : List Int) (w : World) (h : Rd w A n c zs) (hn : n ≤ 1048576) :
    Calls Try.prog 44 #[.slice A n c] w fun e w' => ∃ A' n' c', e = .returned (.tuple #[.slice A' n' c', .int .i64 (bitsC zs)]) ∧ Own w' w.heap.size A' n' c' (delayR zs) ∧ Below w.heap.size w w' ∧ n' ≤ 1048576 := by
  have hlen := h.le
  have hcap := h.cap
  by_cases hb : bitsB zs = true
  · have h8 := bits_len hb
    have hC := hide (bitsC_yes hb)
    have hR := hide (delayR_yes hb)
    go_enter Try.func44, Try.ntmps44
    go_wp2_with (go_at_call 100; refine (iIsBits_any _ _ _ zs _ h).mono ?_; rintro e w' ⟨rfl, rfl⟩)
    go_loopw [4, 12] (fun v i wr => ∃ (k : Nat) (A' : Option Addr) (c' : Nat), k ≤ n ∧ v = .slice A' k c' ∧ i = .int .i64 k ∧ Own wr w.heap.size A' k c' (delays zs k) ∧ Below w.heap.size w wr) (fun _ i _ => n - (intOf i).toNat)
    case atStart => exact ⟨0, _, _, by omega, rfl, rfl, Own.empty w (Nat.le_refl _), (Below.refl _ _).alloc (Nat.le_refl _) _⟩
    case round =>
      obtain ⟨k, A', c', hk, rfl, rfl, hown, hbel⟩ := hrel
      have hd := hide (delays_succ zs k)
      have hsz := hbel.size
      by_cases hlt : k < n
      · by_cases h2 : k < 2
        · have he := hd.out
          rw [if_pos h2] at he
          have hd2 := hide he
          clear he
          go_wp2_with (at_builtin; refine append_new rfl _ _ rfl w.heap.size rfl hown _ [1] 1 rfl (I64.one (by decide) (by decide)) rfl rfl (by omega) hsz ?_; intro A2 c2 w2 own2 gr2)
          have hb2 := below_mark hbel hown (Nat.le_refl _) gr2
          rw [← hd2.out] at own2
          go_roundw
          case rel => exact ⟨k + 1, A2, c2, by omega, rfl, by go_num, own2, hb2⟩
          case measure => simp [intOf]; omega
        · have he := hd.out
          rw [if_neg h2] at he
          have hd2 := hide he
          clear he
          obtain ⟨b, off, rfl, hbb, hc⟩ := h.at_ (by omega)
          have hck := (hbel.cell (p := ⟨b, off + (k - 2), none⟩) hbb).trans (hc (k - 2) (by omega))
          have hi := h.i64.get (k - 2)
          clear hc
          go_wp2_with (at_builtin; refine append_new rfl _ _ rfl w.heap.size rfl hown _ [nth zs (k - 2)] 1 rfl (I64.one hi.1 hi.2) rfl rfl (by omega) hsz ?_; intro A2 c2 w2 own2 gr2)
          have hb2 := below_mark hbel hown (Nat.le_refl _) gr2
          rw [← hd2.out] at own2
          go_roundw
          case rel => exact ⟨k + 1, A2, c2, by omega, rfl, by go_num, own2, hb2⟩
          case measure => simp [intOf]; omega
      · obtain rfl : k = n := by omega
        have hfin : Own wr w.heap.size A' k c' (delayR zs) := by rw [hR.out, h.len]; exact hown
        go_wp2
        go_ret2
        exact ⟨A', k, c', ret_sc hC.out, hfin, hbel, by omega⟩
  · have hb : bitsB zs = false := by simpa using hb
    have hC := hide (bitsC_no hb)
    have hR := hide (delayR_no hb)
    go_enter Try.func44, Try.ntmps44
    go_wp2_with (go_at_call 100; refine (iIsBits_any _ _ _ zs _ h).mono ?_; rintro e w' ⟨rfl, rfl⟩)
    go_ret2
    exact ⟨none, 0, 0, ret_sc hC.out, by rw [hR.out]; exact Own.nil _ _, Below.refl _ _, by omega⟩
theorem sDelaySamples_c (A : Option Addr) (n c : Nat) (zs : List Int) (w : World) (h : Rd w A n c zs) (hn : n ≤ 1048576) :
    Calls Try.prog 43 #[.slice A n c] w fun e w' => ∃ A' n' c', e = .returned (.tuple #[.slice A' n' c', .int .i64 (bitsC zs)]) ∧ Own w' w.heap.size A' n' c' (delayR zs) ∧ Below w.heap.size w w' ∧ n' ≤ 1048576 := by
  have hlen := h.le
  have hcap := h.cap
  by_cases hb : bitsB zs = true
  · have h8 := bits_len hb
    have hC := hide (bitsC_yes hb)
    have hR := hide (delayR_yes hb)
    go_enter Try.func43, Try.ntmps43
    go_wp2_with (go_at_call 99; refine (sIsBits_any _ _ _ zs _ h).mono ?_; rintro e w' ⟨rfl, rfl⟩)
    go_loopw [4, 5] (fun v i wr => ∃ (k : Nat) (A' : Option Addr) (c' : Nat), k ≤ n ∧ v = .slice A' k c' ∧ i = .int .i64 k ∧ Own wr w.heap.size A' k c' (delays zs k) ∧ Below w.heap.size w wr) (fun _ i _ => n - (intOf i).toNat)
    case atStart => exact ⟨0, _, _, by omega, rfl, rfl, Own.empty w (Nat.le_refl _), (Below.refl _ _).alloc (Nat.le_refl _) _⟩
    case round =>
      obtain ⟨k, A', c', hk, rfl, rfl, hown, hbel⟩ := hrel
      have hd := hide (delays_succ zs k)
      have hsz := hbel.size
      by_cases hlt : k < n
      · by_cases h2 : k < 2
        · have he := hd.out
          rw [if_pos h2] at he
          have hd2 := hide he
          clear he
          go_wp2_with (at_builtin; refine append_new rfl _ _ rfl w.heap.size rfl hown _ [1] 1 rfl (I64.one (by decide) (by decide)) rfl rfl (by omega) hsz ?_; intro A2 c2 w2 own2 gr2)
          have hb2 := below_mark hbel hown (Nat.le_refl _) gr2
          rw [← hd2.out] at own2
          go_roundw
          case rel => exact ⟨k + 1, A2, c2, by omega, rfl, by go_num, own2, hb2⟩
          case measure => simp [intOf]; omega
        · have he := hd.out
          rw [if_neg h2] at he
          have hd2 := hide he
          clear he
          obtain ⟨b, off, rfl, hbb, hc⟩ := h.at_ (by omega)
          have hck := (hbel.cell (p := ⟨b, off + (k - 2), none⟩) hbb).trans (hc (k - 2) (by omega))
          have hi := h.i64.get (k - 2)
          clear hc
          go_wp2_with (at_builtin; refine append_new rfl _ _ rfl w.heap.size rfl hown _ [nth zs (k - 2)] 1 rfl (I64.one hi.1 hi.2) rfl rfl (by omega) hsz ?_; intro A2 c2 w2 own2 gr2)
          have hb2 := below_mark hbel hown (Nat.le_refl _) gr2
          rw [← hd2.out] at own2
          go_roundw
          case rel => exact ⟨k + 1, A2, c2, by omega, rfl, by go_num, own2, hb2⟩
          case measure => simp [intOf]; omega
      · obtain rfl : k = n := by omega
        have hfin : Own wr w.heap.size A' k c' (delayR zs) := by rw [hR.out, h.len]; exact hown
        go_wp2
        go_ret2
        exact ⟨A', k, c', ret_sc hC.out, hfin, hbel, by omega⟩
  · have hb : bitsB zs = false := by simpa using hb
    have hC := hide (bitsC_no hb)
    have hR := hide (delayR_no hb)
    go_enter Try.func43, Try.ntmps43
    go_wp2_with (go_at_call 99; refine (sIsBits_any _ _ _ zs _ h).mono ?_; rintro e w' ⟨rfl, rfl⟩)
    go_ret2
    exact ⟨none, 0, 0, ret_sc hC.out, by rw [hR.out]; exact Own.nil _ _, Below.refl _ _, by omega⟩
end Go.Proofs.Ytopccpnkokdmiaa
