/- Contracts: strictly increasing lists, lists whose elements are apart. -/
import Derived.Test.YtopccpnkokdmiaaBits
import Derived.Test.YtopccpnkokdmiaaCopy
namespace Go.Proofs.Ytopccpnkokdmiaa
open Go.RowKit
set_option linter.unusedVariables false
set_option linter.unusedSimpArgs false

/-- the first k numbers lie in 0 .. n - 1 and increase strictly -/
def RiseP (n : Int) (zs : List Int) (k : Nat) : Prop := ∀ j, j < k → 0 ≤ nth zs j ∧ nth zs j < n ∧ (0 < j → nth zs (j - 1) < nth zs j)
instance (n : Int) (zs : List Int) (k : Nat) : Decidable (RiseP n zs k) := by unfold RiseP; infer_instance
def riseB (n : Int) (zs : List Int) : Bool := decide (RiseP n zs zs.length)
theorem riseB_yes {n : Int} {zs : List Int} (h : RiseP n zs zs.length) : riseB n zs = true := decide_eq_true h
theorem riseB_no {n : Int} {zs : List Int} {k : Nat} (hk : k < zs.length) (h : ¬ (0 ≤ nth zs k ∧ nth zs k < n ∧ (0 < k → nth zs (k - 1) < nth zs k))) : riseB n zs = false :=
  decide_eq_false fun hh => h (hh k hk)
theorem riseB_true {n : Int} {zs : List Int} (h : riseB n zs = true) : RiseP n zs zs.length := of_decide_eq_true h
theorem RiseP.succ {n : Int} {zs : List Int} {k : Nat} (h : RiseP n zs k) (hk : 0 ≤ nth zs k ∧ nth zs k < n ∧ (0 < k → nth zs (k - 1) < nth zs k)) : RiseP n zs (k + 1) := by
  intro j hj
  rcases Nat.lt_or_ge j k with h1 | h1
  · exact h j h1
  · obtain rfl : j = k := by omega
    exact hk

theorem l01Rises_any (A : Option Addr) (n c : Nat) (zs : List Int) (m : Int) (w : World) (h : Rd w A n c zs) (hm0 : 0 ≤ m) (hm : m ≤ 9223372036854775807) :
    Calls Try.prog 93 #[.slice A n c, .int .i64 m] w fun e w' => e = .returned (.bool (riseB m zs)) ∧ ∃ d, w' = w.drewN d := by
  have hlen := h.le
  have hcap := h.cap
  go_enter Try.func93, Try.ntmps93
  go_wp2
  go_loopw [5] (fun i wr => ∃ k r : Nat, k ≤ n ∧ i = .int .i64 k ∧ wr = w.drewN r ∧ Hid (RiseP m zs k)) (fun i _ => n - (intOf i).toNat)
  case atStart => exact ⟨0, 0, Nat.zero_le _, rfl, rfl, fun j hj => absurd hj (by omega)⟩
  case round =>
    obtain ⟨k, r, hk, rfl, rfl, hh⟩ := hrel
    by_cases hlt : k < n
    · obtain ⟨b, off, rfl, hb, hc⟩ := h.at_ (by omega)
      have hck := hc k hlt
      have z1 : (0 : Int) ≤ (k : Int) := by omega
      have z2 : (k : Int) < (n : Int) := by omega
      by_cases hr : 0 ≤ nth zs k ∧ nth zs k ≤ m - 1
      · have hin := inB_yes hr.1 hr.2
        by_cases h0 : 0 < k
        · have hcp := hc (k - 1) (by omega)
          have t0 : decide (0 < k) = true := by simpa using h0
          have z3 : (0 : Int) ≤ (k : Int) - 1 := by omega
          have z4 : (k : Int) - 1 < (n : Int) := by omega
          clear hc
          by_cases hle : nth zs k ≤ nth zs (k - 1)
          · have tl : decide (nth zs k ≤ nth zs (k - 1)) = true := by simpa using hle
            have hfin : Hid (riseB m zs = false) := riseB_no (k := k) (by omega) (fun x => absurd (x.2.2 h0) (by omega))
            clear hr hle
            go_wp2
            go_quiet ((go_at_call 89; first | exact quiet_add_left (l01In_any _ _ _ _) | exact quiet_left (l01In_any _ _ _ _)))
            go_wp2
            go_ret
            exact ⟨ret_bool hfin.out.symm, _, by first | rfl | exact World.drewN_drewN _ _ _⟩
          · have tl : decide (nth zs k ≤ nth zs (k - 1)) = false := by simpa using hle
            have hstep : Hid (RiseP m zs (k + 1)) := hh.out.succ ⟨hr.1, by omega, fun _ => by omega⟩
            clear hr hle
            go_wp2
            go_quiet ((go_at_call 89; first | exact quiet_add_left (l01In_any _ _ _ _) | exact quiet_left (l01In_any _ _ _ _)))
            go_wp2
            go_roundw
            case rel => exact ⟨k + 1, _, by omega, by go_num, rfl, hstep⟩
            case measure => simp [intOf]; omega
        · have t0 : decide (0 < k) = false := by simpa using h0
          have hstep : Hid (RiseP m zs (k + 1)) := hh.out.succ ⟨hr.1, by omega, fun x => absurd x h0⟩
          clear hc hr
          go_wp2
          go_quiet ((go_at_call 89; first | exact quiet_add_left (l01In_any _ _ _ _) | exact quiet_left (l01In_any _ _ _ _)))
          go_wp2
          go_roundw
          case rel => exact ⟨k + 1, _, by omega, by go_num, rfl, hstep⟩
          case measure => simp [intOf]; omega
      · have hin := inB_no (lo := 0) (hi := m - 1) (x := nth zs k) (by omega)
        have hfin : Hid (riseB m zs = false) := riseB_no (k := k) (by omega) (fun x => by omega)
        clear hc hr
        go_wp2
        go_quiet ((go_at_call 89; first | exact quiet_add_left (l01In_any _ _ _ _) | exact quiet_left (l01In_any _ _ _ _)))
        go_wp2
        go_ret
        exact ⟨ret_bool hfin.out.symm, _, by first | rfl | exact World.drewN_drewN _ _ _⟩
    · obtain rfl : k = n := by omega
      have hfin : Hid (riseB m zs = true) := riseB_yes (by rw [h.len]; exact hh.out)
      go_wp2
      go_ret
      exact ⟨ret_bool hfin.out.symm, _, rfl⟩

theorem isRising_any (A : Option Addr) (n c : Nat) (zs : List Int) (m : Int) (w : World) (h : Rd w A n c zs) (hm0 : 0 ≤ m) (hm : m ≤ 9223372036854775807) :
    Calls Try.prog 95 #[.slice A n c, .int .i64 m] w fun e w' => e = .returned (.bool (riseB m zs)) ∧ w = w' := by
  have hlen := h.le
  have hcap := h.cap
  go_enter Try.func95, Try.ntmps95
  go_wp2
  go_loop [9] (fun i => ∃ k : Nat, k ≤ n ∧ i = .int .i64 k ∧ Hid (RiseP m zs k)) (fun i => n - (intOf i).toNat)
  case atStart => exact ⟨0, Nat.zero_le _, rfl, fun j hj => absurd hj (by omega)⟩
  case round =>
    obtain ⟨k, hk, rfl, hh⟩ := hrel
    by_cases hlt : k < n
    · obtain ⟨b, off, rfl, hb, hc⟩ := h.at_ (by omega)
      have hck := hc k hlt
      by_cases h1 : nth zs k < 0
      · have hfin : Hid (riseB m zs = false) := riseB_no (k := k) (by omega) (fun x => by omega)
        clear hc
        go_wp2
        go_ret
        exact ⟨ret_bool hfin.out.symm, rfl⟩
      · by_cases h2 : m ≤ nth zs k
        · have hfin : Hid (riseB m zs = false) := riseB_no (k := k) (by omega) (fun x => by omega)
          clear hc
          go_wp2
          go_ret
          exact ⟨ret_bool hfin.out.symm, rfl⟩
        · by_cases h0 : 0 < k
          · have hcp := hc (k - 1) (by omega)
            have t0 : decide (0 < k) = true := by simpa using h0
            clear hc
            by_cases hle : nth zs k ≤ nth zs (k - 1)
            · have hfin : Hid (riseB m zs = false) := riseB_no (k := k) (by omega) (fun x => absurd (x.2.2 h0) (by omega))
              go_wp2
              go_ret
              exact ⟨ret_bool hfin.out.symm, rfl⟩
            · have hstep : Hid (RiseP m zs (k + 1)) := hh.out.succ ⟨by omega, by omega, fun _ => by omega⟩
              go_wp2
              go_round
              case rel => exact ⟨k + 1, by omega, by go_num, hstep⟩
              case measure => simp [intOf]; omega
          · have t0 : decide (0 < k) = false := by simpa using h0
            have hstep : Hid (RiseP m zs (k + 1)) := hh.out.succ ⟨by omega, by omega, fun x => absurd x h0⟩
            clear hc
            go_wp2
            go_round
            case rel => exact ⟨k + 1, by omega, by go_num, hstep⟩
            case measure => simp [intOf]; omega
    · obtain rfl : k = n := by omega
      have hfin : Hid (riseB m zs = true) := riseB_yes (by rw [h.len]; exact hh.out)
      go_wp2
      go_ret
      exact ⟨ret_bool hfin.out.symm, rfl⟩

/-- neighbours among the first k numbers are apart by d -/
def ApartP (d : Int) (zs : List Int) (k : Nat) : Prop := ∀ j, j < k → 0 < j → d ≤ nth zs j - nth zs (j - 1)
instance (d : Int) (zs : List Int) (k : Nat) : Decidable (ApartP d zs k) := by unfold ApartP; infer_instance
def apartB (d : Int) (zs : List Int) : Bool := decide (ApartP d zs zs.length)
theorem apartB_yes {d : Int} {zs : List Int} (h : ApartP d zs zs.length) : apartB d zs = true := decide_eq_true h
theorem apartB_no {d : Int} {zs : List Int} {k : Nat} (hk : k < zs.length) (h0 : 0 < k) (h : nth zs k - nth zs (k - 1) < d) : apartB d zs = false :=
  decide_eq_false fun hh => absurd (hh k hk h0) (by omega)
theorem ApartP.succ {d : Int} {zs : List Int} {k : Nat} (h : ApartP d zs k) (hk : 0 < k → d ≤ nth zs k - nth zs (k - 1)) : ApartP d zs (k + 1) := by
  intro j hj h0
  rcases Nat.lt_or_ge j k with h1 | h1
  · exact h j h1 h0
  · obtain rfl : j = k := by omega
    exact hk h0
/-- rising below 8192, a distance of 1 to 8192, apart by it -/
def areApartB (zs : List Int) (d : Int) : Bool := riseB 8192 zs && inB 1 8192 d && apartB d zs

theorem l21Apart_any (A : Option Addr) (n c : Nat) (zs : List Int) (d : Int) (w : World) (h : Rd w A n c zs) (hr : RiseP 8192 zs zs.length) :
    Calls Try.prog 94 #[.slice A n c, .int .i64 d] w fun e w' => e = .returned (.bool (apartB d zs)) ∧ ∃ r, w' = w.drewN r := by
  have hlen := h.le
  have hcap := h.cap
  have HR := hide hr
  clear hr
  go_enter Try.func94, Try.ntmps94
  go_wp2
  go_loopw [5] (fun i wr => ∃ k r : Nat, 1 ≤ k ∧ (k ≤ n ∨ k = 1) ∧ i = .int .i64 k ∧ wr = w.drewN r ∧ Hid (ApartP d zs k)) (fun i _ => n - (intOf i).toNat)
  case atStart => exact ⟨1, 0, Nat.le_refl _, .inr rfl, rfl, rfl, fun j hj h0 => absurd hj (by omega)⟩
  case round =>
    obtain ⟨k, r, h1, hk, rfl, rfl, hh⟩ := hrel
    have hk' : k ≤ 9223372036854775807 := by omega
    by_cases hlt : k < n
    · obtain ⟨b, off, rfl, hb, hc⟩ := h.at_ (by omega)
      have hck := hc k hlt
      have hcp := hc (k - 1) (by omega)
      have z1 : (0 : Int) ≤ (k : Int) := by omega
      have z2 : (k : Int) < (n : Int) := by omega
      have z3 : (0 : Int) ≤ (k : Int) - 1 := by omega
      have z4 : (k : Int) - 1 < (n : Int) := by omega
      have r1 := HR.out k (by omega)
      have r2 := HR.out (k - 1) (by omega)
      have b1 : 0 ≤ nth zs k ∧ nth zs k < 8192 := ⟨r1.1, r1.2.1⟩
      have b2 : 0 ≤ nth zs (k - 1) ∧ nth zs (k - 1) < 8192 := ⟨r2.1, r2.2.1⟩
      have ew : IntKind.i64.wrap (nth zs k - nth zs (k - 1)) = nth zs k - nth zs (k - 1) := IntWalk.i64_in _ (by omega)
      clear hc r1 r2 hk
      by_cases hle : nth zs k - nth zs (k - 1) < d
      · have tl : decide (nth zs k - nth zs (k - 1) < d) = true := by simpa using hle
        have hfin : Hid (apartB d zs = false) := apartB_no (k := k) (by omega) (by omega) hle
        clear hle
        go_wp2
        go_quiet (fail)
        go_wp2
        go_ret
        exact ⟨ret_bool hfin.out.symm, _, by first | rfl | exact World.drewN_drewN _ _ _⟩
      · have tl : decide (nth zs k - nth zs (k - 1) < d) = false := by simpa using hle
        have hstep : Hid (ApartP d zs (k + 1)) := hh.out.succ (fun _ => by omega)
        clear hle
        go_wp2
        go_quiet (fail)
        go_wp2
        go_roundw
        case rel => exact ⟨k + 1, _, by omega, by omega, by go_num, rfl, hstep⟩
        case measure => simp [intOf]; omega
    · have hfin : Hid (apartB d zs = true) := apartB_yes (fun j hj h0 => hh.out j (by omega) h0)
      clear hk
      go_wp2
      go_ret
      exact ⟨ret_bool hfin.out.symm, _, rfl⟩

theorem sAreApart_any (A : Option Addr) (n c : Nat) (zs : List Int) (d : Int) (w : World) (h : Rd w A n c zs) :
    Calls Try.prog 31 #[.slice A n c, .int .i64 d] w fun e w' => e = .returned (.bool (areApartB zs d)) ∧ ∃ r, w' = w.drewN r := by
  by_cases h1 : riseB 8192 zs = true
  · by_cases h2 : inB 1 8192 d = true
    · have hfin : Hid (areApartB zs d = apartB d zs) := by
        show _ = _
        rw [areApartB, h1, h2]; rfl
      go_enter Try.func31, Try.ntmps31
      go_wp2_with fail
      refine (l01Rises_any _ _ _ zs _ _ h (by omega) (by omega)).mono ?_
      rintro e w' ⟨rfl, r, rfl⟩
      go_wp2_with (first | (go_at_call 89; refine (l01In_any _ _ _ _).mono ?_; rintro e w' ⟨rfl, rfl⟩) | (go_at_call 94; refine (l21Apart_any _ _ _ zs _ _ (h.drewN r) (riseB_true h1)).mono ?_; rintro e w' ⟨rfl, r2, rfl⟩))
      go_ret
      exact ⟨ret_bool hfin.out.symm, _, by first | rfl | exact World.drewN_drewN _ _ _⟩
    · have h2 : inB 1 8192 d = false := by simpa using h2
      have hfin : Hid (areApartB zs d = false) := by
        show _ = _
        rw [areApartB, h1, h2]; rfl
      go_enter Try.func31, Try.ntmps31
      go_wp2_with fail
      refine (l01Rises_any _ _ _ zs _ _ h (by omega) (by omega)).mono ?_
      rintro e w' ⟨rfl, r, rfl⟩
      go_wp2_with (first | (go_at_call 89; refine (l01In_any _ _ _ _).mono ?_; rintro e w' ⟨rfl, rfl⟩))
      go_ret
      exact ⟨ret_bool hfin.out.symm, _, rfl⟩
  · have h1 : riseB 8192 zs = false := by simpa using h1
    have hfin : Hid (areApartB zs d = false) := by
      show _ = _
      rw [areApartB, h1]; rfl
    go_enter Try.func31, Try.ntmps31
    go_wp2_with fail
    refine (l01Rises_any _ _ _ zs _ _ h (by omega) (by omega)).mono ?_
    rintro e w' ⟨rfl, r, rfl⟩
    go_wp2_with fail
    go_ret
    exact ⟨ret_bool hfin.out.symm, _, rfl⟩

theorem iAreApart_any (A : Option Addr) (n c : Nat) (zs : List Int) (d : Int) (w : World) (h : Rd w A n c zs) :
    Calls Try.prog 33 #[.slice A n c, .int .i64 d] w fun e w' => e = .returned (.bool (areApartB zs d)) ∧ ∃ r, w' = w.drewN r := by
  have hlen := h.le
  have hcap := h.cap
  by_cases h1 : riseB 8192 zs = true
  · by_cases h2 : inB 1 8192 d = true
    · have hfin : Hid (areApartB zs d = apartB d zs) := by
        show _ = _
        rw [areApartB, h1, h2]; rfl
      have HR := hide (riseB_true h1)
      go_enter Try.func33, Try.ntmps33
      go_wp2_with fail
      refine (isRising_any _ _ _ zs _ _ h (by omega) (by omega)).mono ?_
      rintro e w' ⟨rfl, rfl⟩
      go_wp2_with (first | (go_at_call 91; refine (within_any _ _ _ _).mono ?_; rintro e w' ⟨rfl, rfl⟩))
      go_loopw [5] (fun i wr => ∃ k r : Nat, 1 ≤ k ∧ (k ≤ n ∨ k = 1) ∧ i = .int .i64 k ∧ wr = w.drewN r ∧ Hid (ApartP d zs k)) (fun i _ => n - (intOf i).toNat)
      case atStart => exact ⟨1, 0, Nat.le_refl _, .inr rfl, rfl, rfl, fun j hj h0 => absurd hj (by omega)⟩
      case round =>
        obtain ⟨k, r, h1, hk, rfl, rfl, hh⟩ := hrel
        have hk' : k ≤ 9223372036854775807 := by omega
        by_cases hlt : k < n
        · obtain ⟨b, off, rfl, hb, hc⟩ := h.at_ (by omega)
          have hck := hc k hlt
          have hcp := hc (k - 1) (by omega)
          have z1 : (0 : Int) ≤ (k : Int) := by omega
          have z2 : (k : Int) < (n : Int) := by omega
          have z3 : (0 : Int) ≤ (k : Int) - 1 := by omega
          have z4 : (k : Int) - 1 < (n : Int) := by omega
          have r1 := HR.out k (by omega)
          have r2 := HR.out (k - 1) (by omega)
          have b1 : 0 ≤ nth zs k ∧ nth zs k < 8192 := ⟨r1.1, r1.2.1⟩
          have b2 : 0 ≤ nth zs (k - 1) ∧ nth zs (k - 1) < 8192 := ⟨r2.1, r2.2.1⟩
          have ew : IntKind.i64.wrap (nth zs k - nth zs (k - 1)) = nth zs k - nth zs (k - 1) := IntWalk.i64_in _ (by omega)
          clear hc r1 r2 hk
          by_cases hle : nth zs k - nth zs (k - 1) < d
          · have tl : decide (nth zs k - nth zs (k - 1) < d) = true := by simpa using hle
            have hbad : Hid (areApartB zs d = false) := by
              show _ = _
              rw [hfin.out, apartB_no (k := k) (by omega) (by omega) hle]
            clear hle
            go_wp2
            go_quiet (fail)
            go_wp2
            go_ret
            exact ⟨ret_bool hbad.out.symm, _, by first | rfl | exact World.drewN_drewN _ _ _⟩
          · have tl : decide (nth zs k - nth zs (k - 1) < d) = false := by simpa using hle
            have hstep : Hid (ApartP d zs (k + 1)) := hh.out.succ (fun _ => by omega)
            clear hle
            go_wp2
            go_quiet (fail)
            go_wp2
            go_roundw
            case rel => exact ⟨k + 1, _, by omega, by omega, by go_num, rfl, hstep⟩
            case measure => simp [intOf]; omega
        · have hend : Hid (areApartB zs d = true) := by
            show _ = _
            rw [hfin.out]
            exact apartB_yes (fun j hj h0 => hh.out j (by omega) h0)
          clear hk
          go_wp2
          go_ret
          exact ⟨ret_bool hend.out.symm, _, rfl⟩
    · have h2 : inB 1 8192 d = false := by simpa using h2
      have hfin : Hid (areApartB zs d = false) := by
        show _ = _
        rw [areApartB, h1, h2]; rfl
      go_enter Try.func33, Try.ntmps33
      go_wp2_with fail
      refine (isRising_any _ _ _ zs _ _ h (by omega) (by omega)).mono ?_
      rintro e w' ⟨rfl, rfl⟩
      go_wp2_with (first | (go_at_call 91; refine (within_any _ _ _ _).mono ?_; rintro e w' ⟨rfl, rfl⟩))
      go_ret
      exact ⟨ret_bool hfin.out.symm, 0, rfl⟩
  · have h1 : riseB 8192 zs = false := by simpa using h1
    have hfin : Hid (areApartB zs d = false) := by
      show _ = _
      rw [areApartB, h1]; rfl
    go_enter Try.func33, Try.ntmps33
    go_wp2_with fail
    refine (isRising_any _ _ _ zs _ _ h (by omega) (by omega)).mono ?_
    rintro e w' ⟨rfl, rfl⟩
    go_wp2_with fail
    go_ret
    exact ⟨ret_bool hfin.out.symm, 0, rfl⟩

theorem areApart_walk (A : Option Addr) (n c : Nat) (zs : List Int) (d : Int) (w : World) (h : Rd w A n c zs) :
    Calls Try.prog 4 #[.slice A n c, .int .i64 d] w fun e w' => e = .returned (.bool true) ∧ Below w.heap.size w w' := by
  have hlen := h.le
  have hcap := h.cap
  by_cases hn : 1048576 < n
  · go_enter Try.func4, Try.ntmps4
    go_wp2
    go_ret
    exact ⟨rfl, Below.refl _ _⟩
  · go_enter Try.func4, Try.ntmps4
    go_wp2_with fail
    refine (toInt64S_any _ _ _ zs _ h (by omega)).mono ?_
    rintro e w1 ⟨g1, rfl, o1, b1⟩
    have h1 := h.below b1
    go_wp2_with fail
    refine (sAreApart_any _ _ _ zs _ _ o1.rd).mono ?_
    rintro e w2 ⟨rfl, r2, rfl⟩
    go_wp2_with fail
    refine (toInt64S_any _ _ _ zs _ (h1.below (below_drewN (Below.refl _ _) _)) (by omega)).mono ?_
    rintro e w3 ⟨g3, rfl, o3, b3⟩
    have b13 := below_trans b1 (below_trans (below_drewN (Below.refl _ _) r2) b3)
    have h3 := h.below b13
    go_wp2_with fail
    refine (iAreApart_any _ _ _ zs _ _ o3.rd).mono ?_
    rintro e w4 ⟨rfl, r4, rfl⟩
    have t1 : (areApartB zs d != areApartB zs d) = false := by simp
    go_wp2_with fail
    refine (toInt64S_any _ _ _ zs _ (h3.below (below_drewN (Below.refl _ _) _)) (by omega)).mono ?_
    rintro e w5 ⟨g5, rfl, o5, b5⟩
    have b35 := below_trans (below_drewN (Below.refl w3.heap.size w3) r4) b5
    have o35 := o3.below b35
    have e1 := eqB_self zs
    go_wp2_with fail
    refine (eqInt64S_any _ _ _ _ _ _ zs zs _ o35.rd o5.rd).mono ?_
    rintro e w6 ⟨rfl, r6, rfl⟩
    go_wp2_with fail
    go_ret
    exact ⟨rfl, below_drewN (below_trans b13 b35) _⟩
end Go.Proofs.Ytopccpnkokdmiaa
