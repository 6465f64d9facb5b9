/- Contracts: an entry of a slot table, the order of slots. -/
import Derived.Test.YtdkhldebnpmiiaaGreatDoorDesc
import Derived.Test.YtdkhldebnpmiiaaGreatDoorFind
namespace Go.Proofs.YtdkhldebnpmiiaaGreatDoor
open Go.RowKit
set_option linter.unusedVariables false
set_option linter.unusedSimpArgs false

def sltB (x : Slt) : Bool := inB 0 15 x.md && (inB 0 7 x.rd && (inB 0 15 x.sl && descB x))
set_option maxHeartbeats 1600000 in
theorem islot_any (x : Slt) (w : World) : Calls Tryz.prog 159 #[.agg #[.int .i64 x.md, .int .i64 x.rd, .int .i64 x.sl, .int .i64 x.nd, .int .i64 x.kd, .int .i64 x.sz, .int .i64 x.du, .bool x.ch]] w (BoolOut (sltB x) w) := by
  have HB := hide ((Below.refl w.heap.size w).alloc (Nat.le_refl _) (.cells #[.int .i64 x.md, .int .i64 x.rd, .int .i64 x.sl, .int .i64 x.nd, .int .i64 x.kd, .int .i64 x.sz, .int .i64 x.du, .bool x.ch] 61))
  have D := hide (show sltB x = (inB 0 15 x.md && (inB 0 7 x.rd && (inB 0 15 x.sl && descB x))) from rfl)
  cases h1 : inB 0 15 x.md
  · have E := hide (show sltB x = false by rw [D.out, h1]; rfl)
    have H1 := hide h1
    have H2 := H1
    have H3 := H1
    clear h1
    go_enter Tryz.func159, Tryz.ntmps159
    go_wp2_with (first | (go_at_call 101; refine (within_any _ _ _ _).mono ?_; rintro ee w2 ⟨rfl, rfl⟩; first | rw [H1.out] | rw [H2.out] | rw [H3.out]))
    go_ret
    exact ⟨by rw [E.out]; rfl, HB.out⟩
  · have H1 := hide h1
    cases h2 : inB 0 7 x.rd
    · have E := hide (show sltB x = false by rw [D.out, h1, h2]; rfl)
      have H2 := hide h2
      have H3 := H2
      clear h1 h2
      go_enter Tryz.func159, Tryz.ntmps159
      go_wp2_with (first | (go_at_call 101; refine (within_any _ _ _ _).mono ?_; rintro ee w2 ⟨rfl, rfl⟩; first | rw [H1.out] | rw [H2.out] | rw [H3.out]))
      go_ret
      exact ⟨by rw [E.out]; rfl, HB.out⟩
    · have H2 := hide h2
      cases h3 : inB 0 15 x.sl
      · have E := hide (show sltB x = false by rw [D.out, h1, h2, h3]; rfl)
        have H3 := hide h3
        clear h1 h2 h3
        go_enter Tryz.func159, Tryz.ntmps159
        go_wp2_with (first | (go_at_call 101; refine (within_any _ _ _ _).mono ?_; rintro ee w2 ⟨rfl, rfl⟩; first | rw [H1.out] | rw [H2.out] | rw [H3.out]))
        go_ret
        exact ⟨by rw [E.out]; rfl, HB.out⟩
      · have E := hide (show sltB x = descB x by rw [D.out, h1, h2, h3]; rfl)
        have H3 := hide h3
        clear h1 h2 h3
        go_enter Tryz.func159, Tryz.ntmps159
        go_wp2_with (first | (go_at_call 101; refine (within_any _ _ _ _).mono ?_; rintro ee w2 ⟨rfl, rfl⟩; first | rw [H1.out] | rw [H2.out] | rw [H3.out]) | (go_at_call 80; refine (iIsDescriptor_any x _).mono ?_; rintro ee w3 ⟨rfl, b3⟩))
        go_ret
        exact ⟨by rw [E.out]; rfl, HB.out.trans (b3.mono (by simp))⟩
set_option maxHeartbeats 1600000 in
theorem sslot_any (x : Slt) (w : World) : Calls Tryz.prog 165 #[.agg #[.int .i64 x.md, .int .i64 x.rd, .int .i64 x.sl, .int .i64 x.nd, .int .i64 x.kd, .int .i64 x.sz, .int .i64 x.du, .bool x.ch]] w (BoolOut (sltB x) w) := by
  have HB := hide ((Below.refl w.heap.size w).alloc (Nat.le_refl _) (.cells #[.int .i64 x.md, .int .i64 x.rd, .int .i64 x.sl, .int .i64 x.nd, .int .i64 x.kd, .int .i64 x.sz, .int .i64 x.du, .bool x.ch] 61))
  have D := hide (show sltB x = (inB 0 15 x.md && (inB 0 7 x.rd && (inB 0 15 x.sl && descB x))) from rfl)
  cases h1 : inB 0 15 x.md
  · have E := hide (show sltB x = false by rw [D.out, h1]; rfl)
    have H1 := hide h1
    have H2 := H1
    have H3 := H1
    clear h1
    go_enter Tryz.func165, Tryz.ntmps165
    go_wp2_with (first | (go_at_call 122; refine (l01In_any _ _ _ _).mono ?_; rintro ee w2 ⟨rfl, rfl⟩; first | rw [H1.out] | rw [H2.out] | rw [H3.out]))
    go_ret
    exact ⟨by rw [E.out]; rfl, HB.out⟩
  · have H1 := hide h1
    cases h2 : inB 0 7 x.rd
    · have E := hide (show sltB x = false by rw [D.out, h1, h2]; rfl)
      have H2 := hide h2
      have H3 := H2
      clear h1 h2
      go_enter Tryz.func165, Tryz.ntmps165
      go_wp2_with (first | (go_at_call 122; refine (l01In_any _ _ _ _).mono ?_; rintro ee w2 ⟨rfl, rfl⟩; first | rw [H1.out] | rw [H2.out] | rw [H3.out]))
      go_ret
      exact ⟨by rw [E.out]; rfl, HB.out⟩
    · have H2 := hide h2
      cases h3 : inB 0 15 x.sl
      · have E := hide (show sltB x = false by rw [D.out, h1, h2, h3]; rfl)
        have H3 := hide h3
        clear h1 h2 h3
        go_enter Tryz.func165, Tryz.ntmps165
        go_wp2_with (first | (go_at_call 122; refine (l01In_any _ _ _ _).mono ?_; rintro ee w2 ⟨rfl, rfl⟩; first | rw [H1.out] | rw [H2.out] | rw [H3.out]))
        go_ret
        exact ⟨by rw [E.out]; rfl, HB.out⟩
      · have E := hide (show sltB x = descB x by rw [D.out, h1, h2, h3]; rfl)
        have H3 := hide h3
        clear h1 h2 h3
        go_enter Tryz.func165, Tryz.ntmps165
        go_wp2_with (first | (go_at_call 122; refine (l01In_any _ _ _ _).mono ?_; rintro ee w2 ⟨rfl, rfl⟩; first | rw [H1.out] | rw [H2.out] | rw [H3.out]) | (go_at_call 174; refine (sIsDescriptor_any x _).mono ?_; rintro ee w3 ⟨rfl, b3⟩))
        go_ret
        exact ⟨by rw [E.out]; rfl, HB.out.trans (b3.mono (by simp))⟩
def cmpI (a b : Int) : Int := if a < b then -1 else if b < a then 1 else 0
def cmpS (x y : Slt) : Int := if x.md ≠ y.md then cmpI x.md y.md else if x.rd ≠ y.rd then cmpI x.rd y.rd else cmpI x.sl y.sl
theorem compare_any (a b : Int) (w : World) : Calls Tryz.prog 172 #[.int .i64 a, .int .i64 b] w (SameI (cmpI a b) w) := by
  by_cases h1 : a < b
  · have E := hide (show cmpI a b = -1 by rw [cmpI, if_pos h1])
    have t1 : decide (a < b) = true := decide_eq_true h1
    clear h1
    go_enter Tryz.func172, Tryz.ntmps172
    go_wp2
    go_ret
    exact ⟨by rw [E.out]; rfl, rfl⟩
  · have t1 : decide (a < b) = false := decide_eq_false h1
    by_cases h2 : b < a
    · have E := hide (show cmpI a b = 1 by rw [cmpI, if_neg h1, if_pos h2])
      have t2 : decide (b < a) = true := decide_eq_true h2
      clear h1 h2
      go_enter Tryz.func172, Tryz.ntmps172
      go_wp2
      go_ret
      exact ⟨by rw [E.out]; rfl, rfl⟩
    · have E := hide (show cmpI a b = 0 by rw [cmpI, if_neg h1, if_neg h2])
      have t2 : decide (b < a) = false := decide_eq_false h2
      clear h1 h2
      go_enter Tryz.func172, Tryz.ntmps172
      go_wp2
      go_ret
      exact ⟨by rw [E.out]; rfl, rfl⟩
set_option maxHeartbeats 1600000 in
theorem icmpS_any (x y : Slt) (w : World) : Calls Tryz.prog 160 #[.agg #[.int .i64 x.md, .int .i64 x.rd, .int .i64 x.sl, .int .i64 x.nd, .int .i64 x.kd, .int .i64 x.sz, .int .i64 x.du, .bool x.ch], .agg #[.int .i64 y.md, .int .i64 y.rd, .int .i64 y.sl, .int .i64 y.nd, .int .i64 y.kd, .int .i64 y.sz, .int .i64 y.du, .bool y.ch]] w (IntOut (cmpS x y) w) := by
  have HB := hide (show Below w.heap.size w ((w.alloc (.cells #[.int .i64 x.md, .int .i64 x.rd, .int .i64 x.sl, .int .i64 x.nd, .int .i64 x.kd, .int .i64 x.sz, .int .i64 x.du, .bool x.ch] 61)).alloc (.cells #[.int .i64 y.md, .int .i64 y.rd, .int .i64 y.sl, .int .i64 y.nd, .int .i64 y.kd, .int .i64 y.sz, .int .i64 y.du, .bool y.ch] 61)) by (repeat (first | exact Below.refl _ _ | (refine Below.alloc ?_ (by simp <;> omega) _) | (refine Below.setCell ?_ (by simp <;> omega) _))))
  by_cases h1 : x.md = y.md
  · have t1 : (x.md != y.md) = false := by simpa using h1
    by_cases h2 : x.rd = y.rd
    · have t2 : (x.rd != y.rd) = false := by simpa using h2
      have E := hide (show cmpS x y = cmpI x.sl y.sl by rw [cmpS, if_neg (by simpa using h1), if_neg (by simpa using h2)])
      clear h1 h2
      go_enter Tryz.func160, Tryz.ntmps160
      go_wp2_with (go_at_call 172; refine (compare_any _ _ _).mono ?_; rintro ee w2 ⟨rfl, rfl⟩)
      go_ret
      exact ⟨by rw [E.out]; rfl, HB.out⟩
    · have t2 : (x.rd != y.rd) = true := by simpa using h2
      have E := hide (show cmpS x y = cmpI x.rd y.rd by rw [cmpS, if_neg (by simpa using h1), if_pos h2])
      clear h1 h2
      go_enter Tryz.func160, Tryz.ntmps160
      go_wp2_with (go_at_call 172; refine (compare_any _ _ _).mono ?_; rintro ee w2 ⟨rfl, rfl⟩)
      go_ret
      exact ⟨by rw [E.out]; rfl, HB.out⟩
  · have t1 : (x.md != y.md) = true := by simpa using h1
    have E := hide (show cmpS x y = cmpI x.md y.md by rw [cmpS, if_pos h1])
    clear h1
    go_enter Tryz.func160, Tryz.ntmps160
    go_wp2_with (go_at_call 172; refine (compare_any _ _ _).mono ?_; rintro ee w2 ⟨rfl, rfl⟩)
    go_ret
    exact ⟨by rw [E.out]; rfl, HB.out⟩
end Go.Proofs.YtdkhldebnpmiiaaGreatDoor
