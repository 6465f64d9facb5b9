/- Contracts of the functions that only read a list of int64: ranges of the elements, equality. -/
import Derived.Test.YtdkhldebnpmiiaaGreatDoorBase
namespace Go.Proofs.YtdkhldebnpmiiaaGreatDoor
open Go.RowKit
set_option linter.unusedVariables false
set_option linter.unusedSimpArgs false

/-- all numbers lie in lo .. hi -/
def allB (lo hi : Int) (zs : List Int) : Bool := zs.all (fun z => decide (lo ≤ z) && decide (z ≤ hi))
theorem allB_snoc (lo hi x : Int) (zs : List Int) : allB lo hi (zs ++ [x]) = (allB lo hi zs && (decide (lo ≤ x) && decide (x ≤ hi))) := by
  simp [allB, List.all_append]
theorem allB_bad (lo hi : Int) (zs : List Int) (k : Nat) (hk : k < zs.length) (h : nth zs k < lo ∨ hi < nth zs k) : allB lo hi zs = false := by
  rw [allB, List.all_eq_false]
  refine ⟨nth zs k, nth_mem hk, ?_⟩
  simp
  omega
theorem allB_step (lo hi : Int) (zs : List Int) (k : Nat) (hk : k < zs.length) (h : allB lo hi (zs.take k) = true) (h1 : lo ≤ nth zs k) (h2 : nth zs k ≤ hi) : allB lo hi (zs.take (k + 1)) = true := by
  rw [take_snoc zs k hk, allB_snoc, h]
  simp [h1, h2]
theorem allB_get {lo hi : Int} {zs : List Int} (h : allB lo hi zs = true) (k : Nat) (hk : k < zs.length) : lo ≤ nth zs k ∧ nth zs k ≤ hi := by
  rw [allB, List.all_eq_true] at h
  have := h (nth zs k) (nth_mem hk)
  simpa using this


/-- a list of at most m numbers in lo .. hi -/
def upB (m : Nat) (lo hi : Int) (zs : List Int) : Bool := decide (zs.length ≤ m) && allB lo hi zs
theorem upB_yes {m : Nat} {lo hi : Int} {zs : List Int} (h : zs.length ≤ m) : upB m lo hi zs = allB lo hi zs := by simp [upB, h]
theorem upB_no {m : Nat} {lo hi : Int} {zs : List Int} (h : m < zs.length) : upB m lo hi zs = false := by
  have : ¬ zs.length ≤ m := by omega
  simp [upB, this]
def bitsB (zs : List Int) : Bool := upB 8192 0 1 zs
def bytesB (zs : List Int) : Bool := upB 1024 0 255 zs


/-- lo ≤ x ≤ hi -/
def inB (lo hi x : Int) : Bool := decide (lo ≤ x) && decide (x ≤ hi)
theorem inB_yes {lo hi x : Int} (h1 : lo ≤ x) (h2 : x ≤ hi) : inB lo hi x = true := by simp [inB, h1, h2]
theorem inB_no {lo hi x : Int} (h : x < lo ∨ hi < x) : inB lo hi x = false := by
  rw [inB, Bool.and_eq_false_iff]
  simp
  omega
theorem inB_true {lo hi x : Int} (h : inB lo hi x = true) : lo ≤ x ∧ x ≤ hi := by simpa [inB] using h
theorem inB_false {lo hi x : Int} (h : inB lo hi x = false) : x < lo ∨ hi < x := by
  rcases Int.lt_or_le x lo with h1 | h1
  · exact .inl h1
  · rcases Int.lt_or_le hi x with h2 | h2
    · exact .inr h2
    · rw [inB_yes h1 h2] at h; cases h
theorem l01In_any (x lo hi : Int) (w : World) : Calls Tryz.prog 122 #[.int .i64 x, .int .i64 lo, .int .i64 hi] w fun e w' => e = .returned (.bool (inB lo hi x)) ∧ w = w' := by
  by_cases h1 : lo ≤ x
  · by_cases h2 : x ≤ hi
    · have hf := hide (inB_yes h1 h2)
      go_enter Tryz.func122, Tryz.ntmps122
      go_wp2
      go_ret
      exact ⟨ret_bool hf.out.symm, rfl⟩
    · have hf := hide (inB_no (lo := lo) (hi := hi) (x := x) (by omega))
      go_enter Tryz.func122, Tryz.ntmps122
      go_wp2
      go_ret
      exact ⟨ret_bool hf.out.symm, rfl⟩
  · have hf := hide (inB_no (lo := lo) (hi := hi) (x := x) (by omega))
    go_enter Tryz.func122, Tryz.ntmps122
    go_wp2
    go_ret
    exact ⟨ret_bool hf.out.symm, rfl⟩
theorem within_any (x lo hi : Int) (w : World) : Calls Tryz.prog 101 #[.int .i64 x, .int .i64 lo, .int .i64 hi] w fun e w' => e = .returned (.bool (inB lo hi x)) ∧ w = w' := by
  by_cases h1 : lo ≤ x
  · by_cases h2 : x ≤ hi
    · have hf := hide (inB_yes h1 h2)
      go_enter Tryz.func101, Tryz.ntmps101
      go_wp2
      go_ret
      exact ⟨ret_bool hf.out.symm, rfl⟩
    · have hf := hide (inB_no (lo := lo) (hi := hi) (x := x) (by omega))
      go_enter Tryz.func101, Tryz.ntmps101
      go_wp2
      go_ret
      exact ⟨ret_bool hf.out.symm, rfl⟩
  · have hf := hide (inB_no (lo := lo) (hi := hi) (x := x) (by omega))
    go_enter Tryz.func101, Tryz.ntmps101
    go_wp2
    go_ret
    exact ⟨ret_bool hf.out.symm, rfl⟩


end Go.Proofs.YtdkhldebnpmiiaaGreatDoor
