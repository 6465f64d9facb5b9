/- Contracts: a node's entry, by the program and by the reference. -/
import Derived.Test.YtdkhldebnpmiiaaGreatDoorSt
import Derived.Test.YtdkhldebnpmiiaaGreatDoorTrim
import Derived.BigQuiet
namespace Go.Proofs.YtdkhldebnpmiiaaGreatDoor
open Go.RowKit
set_option linter.unusedVariables false
set_option linter.unusedSimpArgs false

theorem iisNode_any (x : Int) (w : World) : Calls Tryz.prog 108 #[.int .i64 x] w fun e w' => e = .returned (.bool (inB 0 31 x)) ∧ w = w' := by
  go_enter Tryz.func108, Tryz.ntmps108
  go_wp2_with fail
  refine (within_any x 0 31 _).mono ?_
  rintro e w1 ⟨rfl, rfl⟩
  go_wp2
  go_ret
  exact ⟨rfl, rfl⟩
theorem l05Node_any (x : Int) (w : World) : Calls Tryz.prog 168 #[.int .i64 x] w fun e w' => e = .returned (.bool (inB 0 31 x)) ∧ w = w' := by
  go_enter Tryz.func168, Tryz.ntmps168
  go_wp2_with fail
  refine (l01In_any x 0 31 _).mono ?_
  rintro e w1 ⟨rfl, rfl⟩
  go_wp2
  go_ret
  exact ⟨rfl, rfl⟩
/-- a letter or a digit -/
def letB (b : UInt8) : Bool := (decide (97 ≤ b.toNat) && decide (b.toNat ≤ 122)) || (decide (48 ≤ b.toNat) && decide (b.toNat ≤ 57))
def lets : List UInt8 := [97, 98, 99, 100, 101, 102, 103, 104, 105, 106, 107, 108, 109, 110, 111, 112, 113, 114, 115, 116, 117, 118, 119, 120, 121, 122, 48, 49, 50, 51, 52, 53, 54, 55, 56, 57]
theorem lets_all : ((List.range 256).all fun n => lets.contains (UInt8.ofNat n) == letB (UInt8.ofNat n)) = true := by decide +kernel
theorem lets_is (b : UInt8) : lets.contains b = letB b := by
  have h := List.all_eq_true.1 lets_all b.toNat (List.mem_range.2 (UInt8.toNat_lt b))
  rw [UInt8.ofNat_toNat] at h
  simpa using h
def nameB (s : ByteArray) : Bool := decide (1 ≤ s.size) && (decide (s.size ≤ 6) && s.data.toList.all letB)
theorem trim_nil (l : List UInt8) : (Lib.trimS l lets).isEmpty = l.all letB := by
  have e : (fun b => lets.contains b) = letB := funext lets_is
  have drop_nil : ∀ l : List UInt8, (l.dropWhile letB).isEmpty = l.all letB := fun l => by
    induction l with
    | nil => rfl
    | cons b l ih =>
      rw [List.dropWhile_cons, List.all_cons]
      cases h : letB b
      · simp
      · simpa using ih
  have drop_all : ∀ l : List UInt8, (l.dropWhile letB).all letB = l.all letB := fun l => by
    induction l with
    | nil => rfl
    | cons b l ih =>
      rw [List.dropWhile_cons, List.all_cons]
      cases h : letB b
      · simp [h]
      · simpa using ih
  unfold Lib.trimS Lib.trimLeftS Lib.trimRightS
  rw [e, drop_nil, List.all_reverse, drop_all, List.all_reverse]
def nodeB (x : Nod) : Bool := nameB x.nm && (inB 0 31 x.id && inB 0 1000 x.dr)
theorem trim_any (s : ByteArray) (w : World) (hs : s.size ≤ 9223372036854775807) :
    Calls Tryz.prog 170 #[.string s, .string ⟨#[97, 98, 99, 100, 101, 102, 103, 104, 105, 106, 107, 108, 109, 110, 111, 112, 113, 114, 115, 116, 117, 118, 119, 120, 121, 122, 48, 49, 50, 51, 52, 53, 54, 55, 56, 57]⟩] w
      fun e w' => ∃ r : ByteArray, e = .returned (.string r) ∧ r.toList.isEmpty = s.data.toList.all letB ∧ (s.data.toList.all letB = true → r = ⟨#[]⟩) ∧ Below w.heap.size w w' := by
  refine (Tryz.strings_Trim_set s _ w hs (by decide) (ascii_of_all (by decide))).mono ?_
  rintro e w1 ⟨rfl, b1⟩
  refine ⟨_, rfl, ?_, fun h => ?_, b1⟩
  · rw [Lib.toList_data]
    exact trim_nil _
  · rw [← trim_nil] at h
    have : Lib.trimS s.data.toList lets = [] := List.isEmpty_iff.1 h
    show (⟨(Lib.trimS s.data.toList lets).toArray⟩ : ByteArray) = _
    rw [this]
set_option maxHeartbeats 3200000 in
theorem iIsNodeInfo_any (x : Nod) (w : World) : Calls Tryz.prog 154 #[.agg #[.int .i64 x.id, .string x.nm, .int .i64 x.dr, .bool x.pas]] w fun e w' => e = .returned (.bool (nodeB x)) ∧ Below w.heap.size w w' := by
  have B0 : Below w.heap.size w (w.alloc (.cells #[.int .i64 x.id, .string x.nm, .int .i64 x.dr, .bool x.pas] 68)) := by (repeat (first | exact Below.refl _ _ | (refine Below.alloc ?_ (by simp <;> omega) _) | (refine Below.setCell ?_ (by simp <;> omega) _)))
  have A0 := At.fresh w 68 #[.int .i64 x.id, .string x.nm, .int .i64 x.dr, .bool x.pas]
  have HN := hide (show nodeB x = (nameB x.nm && (inB 0 31 x.id && inB 0 1000 x.dr)) from rfl)
  by_cases h1 : 1 ≤ x.nm.size
  · have t1 : decide ((1 : Int) ≤ (x.nm.size : Int)) = true := decide_eq_true (by omega)
    by_cases h2 : x.nm.size ≤ 6
    · have t2 : decide ((x.nm.size : Int) ≤ 6) = true := decide_eq_true (by omega)
      have hb : nameB x.nm = x.nm.data.toList.all letB := by rw [nameB, decide_eq_true h1, decide_eq_true h2]; rfl
      have hk := trim_any x.nm (w.alloc (.cells #[.int .i64 x.id, .string x.nm, .int .i64 x.dr, .bool x.pas] 68)) (by omega)
      rw [← hb] at hk
      cases hall : nameB x.nm
      · rw [hall] at hk HN
        have e0 : nodeB x = false := HN.out
        go_enter Tryz.func154, Tryz.ntmps154
        go_wp2_with (go_at_call 170; refine hk.mono ?_; rintro e w1 ⟨r, rfl, hr, _, b1⟩)
        go_ret
        exact ⟨by rw [e0]; rfl, B0.trans (b1.mono (by simp))⟩
      · rw [hall] at hk HN
        have e0 : nodeB x = (inB 0 31 x.id && inB 0 1000 x.dr) := HN.out
        go_enter Tryz.func154, Tryz.ntmps154
        cases hi : inB 0 31 x.id
        · go_wp2_with (first | (go_at_call 170; refine hk.mono ?_; rintro e w1 ⟨r, rfl, _, hr, b1⟩; obtain rfl := hr rfl; have A1 := A0.keep b1; have c0 := A1.cell 0; have c2 := A1.cell 2; simp at c0 c2) | (go_at_call 108; refine (iisNode_any _ _).mono ?_; rintro e w2 ⟨rfl, rfl⟩; rw [hi]))
          go_ret
          exact ⟨by rw [e0, hi]; rfl, B0.trans (b1.mono (by simp))⟩
        · go_wp2_with (first | (go_at_call 170; refine hk.mono ?_; rintro e w1 ⟨r, rfl, _, hr, b1⟩; obtain rfl := hr rfl; have A1 := A0.keep b1; have c0 := A1.cell 0; have c2 := A1.cell 2; simp at c0 c2) | (go_at_call 108; refine (iisNode_any _ _).mono ?_; rintro e w2 ⟨rfl, rfl⟩; rw [hi]) | (go_at_call 101; refine (within_any _ _ _ _).mono ?_; rintro e w3 ⟨rfl, rfl⟩))
          go_ret
          exact ⟨by rw [e0, hi]; rfl, B0.trans (b1.mono (by simp))⟩
    · have t2 : decide ((x.nm.size : Int) ≤ 6) = false := decide_eq_false (by omega)
      have e0 : nodeB x = false := by rw [HN.out, nameB, decide_eq_false h2, Bool.false_and, Bool.and_false, Bool.false_and]
      go_enter Tryz.func154, Tryz.ntmps154
      go_wp2
      go_ret
      exact ⟨by rw [e0]; rfl, B0⟩
  · have t1 : decide ((1 : Int) ≤ (x.nm.size : Int)) = false := decide_eq_false (by omega)
    have e0 : nodeB x = false := by rw [HN.out, nameB, decide_eq_false h1, Bool.false_and, Bool.false_and]
    go_enter Tryz.func154, Tryz.ntmps154
    go_wp2
    go_ret
    exact ⟨by rw [e0]; rfl, B0⟩
end Go.Proofs.YtdkhldebnpmiiaaGreatDoor
