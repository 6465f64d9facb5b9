/- Contracts of the functions that only read a list of int64: ranges of the elements, equality. -/
import Derived.Test.YtdodhjahihfaiaaBase
namespace Go.Proofs.Ytdodhjahihfaiaa
open Go.RowKit
set_option linter.unusedVariables false
set_option linter.unusedSimpArgs false

/-- all numbers lie in lo .. hi -/
def allB (lo hi : Int) (zs : List Int) : Bool := zs.all (fun z => decide (lo ≤ z) && decide (z ≤ hi))
theorem allB_snoc (lo hi x : Int) (zs : List Int) : allB lo hi (zs ++ [x]) = (allB lo hi zs && (decide (lo ≤ x) && decide (x ≤ hi))) := by
  simp [allB, List.all_append]
theorem allB_bad (lo hi : Int) (zs : List Int) (k : Nat) (hk : k < zs.length) (h : nth zs k < lo ∨ hi < nth zs k) : allB lo hi zs = false := by
  rw [allB, List.all_eq_false]
  refine ⟨nth zs k, nth_mem hk, ?_⟩
  simp
  omega
theorem allB_step (lo hi : Int) (zs : List Int) (k : Nat) (hk : k < zs.length) (h : allB lo hi (zs.take k) = true) (h1 : lo ≤ nth zs k) (h2 : nth zs k ≤ hi) : allB lo hi (zs.take (k + 1)) = true := by
  rw [take_snoc zs k hk, allB_snoc, h]
  simp [h1, h2]
theorem allB_get {lo hi : Int} {zs : List Int} (h : allB lo hi zs = true) (k : Nat) (hk : k < zs.length) : lo ≤ nth zs k ∧ nth zs k ≤ hi := by
  rw [allB, List.all_eq_true] at h
  have := h (nth zs k) (nth_mem hk)
  simpa using this

theorem allWithin_any (A : Option Addr) (n c : Nat) (zs : List Int) (lo hi : Int) (w : World) (h : Rd w A n c zs) :
    Calls Try.prog 105 #[.slice A n c, .int .i64 lo, .int .i64 hi] w fun e w' => e = .returned (.bool (allB lo hi zs)) ∧ w = w' := by
  have hlen := h.le
  have hcap := h.cap
  go_enter Try.func105, Try.ntmps105
  go_wp2
  go_loop [11] (fun i => ∃ k : Nat, k ≤ n ∧ i = .int .i64 k ∧ Hid (allB lo hi (zs.take k) = true)) (fun i => n - (intOf i).toNat)
  case atStart => exact ⟨0, Nat.zero_le _, rfl, rfl⟩
  case round =>
    obtain ⟨k, hk, rfl, hall⟩ := hrel
    by_cases hlt : k < n
    · obtain ⟨b, off, rfl, hb, hc⟩ := h.at_ (by omega)
      have hck := hc k hlt
      clear hc
      by_cases h1 : nth zs k < lo
      · have hbad := hide (allB_bad lo hi zs k (by omega) (.inl h1))
        go_wp2
        go_ret
        exact ⟨ret_bool hbad.out.symm, rfl⟩
      · by_cases h2 : hi < nth zs k
        · have hbad := hide (allB_bad lo hi zs k (by omega) (.inr h2))
          go_wp2
          go_ret
          exact ⟨ret_bool hbad.out.symm, rfl⟩
        · have hstep := hide (allB_step lo hi zs k (by omega) hall.out (by omega) (by omega))
          go_wp2
          go_round
          case rel => exact ⟨k + 1, by omega, by go_num, hstep⟩
          case measure => simp [intOf]; omega
    · obtain rfl : k = n := by omega
      have hfin : Hid (allB lo hi zs = true) := by
        have := hall.out
        rwa [List.take_of_length_le (by omega)] at this
      go_wp2
      go_ret
      exact ⟨ret_bool hfin.out.symm, rfl⟩

/-- a list of at most m numbers in lo .. hi -/
def upB (m : Nat) (lo hi : Int) (zs : List Int) : Bool := decide (zs.length ≤ m) && allB lo hi zs
theorem upB_yes {m : Nat} {lo hi : Int} {zs : List Int} (h : zs.length ≤ m) : upB m lo hi zs = allB lo hi zs := by simp [upB, h]
theorem upB_no {m : Nat} {lo hi : Int} {zs : List Int} (h : m < zs.length) : upB m lo hi zs = false := by
  have : ¬ zs.length ≤ m := by omega
  simp [upB, this]
def bitsB (zs : List Int) : Bool := upB 8192 0 1 zs
def bytesB (zs : List Int) : Bool := upB 1024 0 255 zs

theorem iIsBits_any (A : Option Addr) (n c : Nat) (zs : List Int) (w : World) (h : Rd w A n c zs) :
    Calls Try.prog 83 #[.slice A n c] w fun e w' => e = .returned (.bool (bitsB zs)) ∧ w = w' := by
  have hlen := h.le
  have hcap := h.cap
  by_cases hn : n ≤ 8192
  · have hfin := hide (upB_yes (m := 8192) (lo := 0) (hi := 1) (zs := zs) (by omega))
    go_enter Try.func83, Try.ntmps83
    go_wp2_with (go_at_call 105; refine (allWithin_any _ _ _ _ _ _ _ h).mono ?_; rintro e w' ⟨rfl, rfl⟩)
    go_ret
    exact ⟨ret_bool hfin.out.symm, rfl⟩
  · have hfin := hide (upB_no (m := 8192) (lo := 0) (hi := 1) (zs := zs) (by omega))
    go_enter Try.func83, Try.ntmps83
    go_wp2
    go_ret
    exact ⟨ret_bool hfin.out.symm, rfl⟩

/-- lo ≤ x ≤ hi -/
def inB (lo hi x : Int) : Bool := decide (lo ≤ x) && decide (x ≤ hi)
theorem inB_yes {lo hi x : Int} (h1 : lo ≤ x) (h2 : x ≤ hi) : inB lo hi x = true := by simp [inB, h1, h2]
theorem inB_no {lo hi x : Int} (h : x < lo ∨ hi < x) : inB lo hi x = false := by
  rw [inB, Bool.and_eq_false_iff]
  simp
  omega
theorem inB_true {lo hi x : Int} (h : inB lo hi x = true) : lo ≤ x ∧ x ≤ hi := by simpa [inB] using h
theorem inB_false {lo hi x : Int} (h : inB lo hi x = false) : x < lo ∨ hi < x := by
  rcases Int.lt_or_le x lo with h1 | h1
  · exact .inl h1
  · rcases Int.lt_or_le hi x with h2 | h2
    · exact .inr h2
    · rw [inB_yes h1 h2] at h; cases h
theorem l01In_any (x lo hi : Int) (w : World) : Calls Try.prog 72 #[.int .i64 x, .int .i64 lo, .int .i64 hi] w fun e w' => e = .returned (.bool (inB lo hi x)) ∧ w = w' := by
  by_cases h1 : lo ≤ x
  · by_cases h2 : x ≤ hi
    · have hf := hide (inB_yes h1 h2)
      go_enter Try.func72, Try.ntmps72
      go_wp2
      go_ret
      exact ⟨ret_bool hf.out.symm, rfl⟩
    · have hf := hide (inB_no (lo := lo) (hi := hi) (x := x) (by omega))
      go_enter Try.func72, Try.ntmps72
      go_wp2
      go_ret
      exact ⟨ret_bool hf.out.symm, rfl⟩
  · have hf := hide (inB_no (lo := lo) (hi := hi) (x := x) (by omega))
    go_enter Try.func72, Try.ntmps72
    go_wp2
    go_ret
    exact ⟨ret_bool hf.out.symm, rfl⟩
theorem within_any (x lo hi : Int) (w : World) : Calls Try.prog 74 #[.int .i64 x, .int .i64 lo, .int .i64 hi] w fun e w' => e = .returned (.bool (inB lo hi x)) ∧ w = w' := by
  by_cases h1 : lo ≤ x
  · by_cases h2 : x ≤ hi
    · have hf := hide (inB_yes h1 h2)
      go_enter Try.func74, Try.ntmps74
      go_wp2
      go_ret
      exact ⟨ret_bool hf.out.symm, rfl⟩
    · have hf := hide (inB_no (lo := lo) (hi := hi) (x := x) (by omega))
      go_enter Try.func74, Try.ntmps74
      go_wp2
      go_ret
      exact ⟨ret_bool hf.out.symm, rfl⟩
  · have hf := hide (inB_no (lo := lo) (hi := hi) (x := x) (by omega))
    go_enter Try.func74, Try.ntmps74
    go_wp2
    go_ret
    exact ⟨ret_bool hf.out.symm, rfl⟩

theorem l01All_any (A : Option Addr) (n c : Nat) (zs : List Int) (m : Nat) (hi : Int) (w : World) (hm : m ≤ 1000000) (h : Rd w A n c zs) :
    Calls Try.prog 104 #[.slice A n c, .int .i64 m, .int .i64 hi] w fun e w' => e = .returned (.bool (upB m 0 hi zs)) ∧ w = w' := by
  have hlen := h.le
  have hcap := h.cap
  by_cases hn : n ≤ m
  · have t1 : decide (m < n) = false := by simp; omega
    have hyes := hide (upB_yes (m := m) (lo := 0) (hi := hi) (zs := zs) (by omega))
    go_enter Try.func104, Try.ntmps104
    go_wp2
    go_loop [7] (fun i => ∃ k : Nat, k ≤ n ∧ i = .int .i64 k ∧ Hid (allB 0 hi (zs.take k) = true)) (fun i => n - (intOf i).toNat)
    case atStart => exact ⟨0, Nat.zero_le _, rfl, rfl⟩
    case round =>
      obtain ⟨k, hk, rfl, hall⟩ := hrel
      by_cases hlt : k < n
      · obtain ⟨b, off, rfl, hb, hc⟩ := h.at_ (by omega)
        have hck := hc k hlt
        clear hc
        by_cases h1 : 0 ≤ nth zs k ∧ nth zs k ≤ hi
        · have hstep := hide (allB_step 0 hi zs k (by omega) hall.out h1.1 h1.2)
          have hin := inB_yes h1.1 h1.2
          clear h1
          go_wp2_with (go_at_call 72; refine (l01In_any _ _ _ _).mono ?_; rintro e w' ⟨rfl, rfl⟩)
          go_round
          case rel => exact ⟨k + 1, by omega, by go_num, hstep⟩
          case measure => simp [intOf]; omega
        · have hbad := hide (allB_bad 0 hi zs k (by omega) (by omega))
          have hin := inB_no (lo := 0) (hi := hi) (x := nth zs k) (by omega)
          clear h1
          go_wp2_with (go_at_call 72; refine (l01In_any _ _ _ _).mono ?_; rintro e w' ⟨rfl, rfl⟩)
          go_ret
          exact ⟨ret_bool (hyes.out.trans hbad.out).symm, rfl⟩
      · obtain rfl : k = n := by omega
        have hfin : Hid (allB 0 hi zs = true) := by
          have := hall.out
          rwa [List.take_of_length_le (by omega)] at this
        go_wp2
        go_ret
        exact ⟨ret_bool (hyes.out.trans hfin.out).symm, rfl⟩
  · have hfin := hide (upB_no (m := m) (lo := 0) (hi := hi) (zs := zs) (by omega))
    go_enter Try.func104, Try.ntmps104
    go_wp2
    go_ret
    exact ⟨ret_bool hfin.out.symm, rfl⟩

theorem sIsBits_any (A : Option Addr) (n c : Nat) (zs : List Int) (w : World) (h : Rd w A n c zs) :
    Calls Try.prog 82 #[.slice A n c] w fun e w' => e = .returned (.bool (bitsB zs)) ∧ w = w' := by
  go_enter Try.func82, Try.ntmps82
  go_wp2_with (go_at_call 104; refine (l01All_any _ _ _ _ 8192 _ _ (by omega) h).mono ?_; rintro e w' ⟨rfl, rfl⟩)
  go_ret
  exact ⟨rfl, rfl⟩
end Go.Proofs.Ytdodhjahihfaiaa
