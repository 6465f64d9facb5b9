/- Contracts: an entry of a slot table, the order of slots. Contracts: the order of slots, by the reference. -/
import Derived.Test.YtdkhldebnpmiiaaGreatDoorZDesc
import Derived.Test.YtdkhldebnpmiiaaGreatDoorZBkB
import Derived.BigRegion
import Derived.BigQuiet
import Derived.Deep.Cut
import Derived.Deep.CutRange
import Derived.Deep.DeepCutAuto
namespace Go.Proofs.YtdkhldebnpmiiaaGreatDoor
open Go.RowKit
set_option linter.unusedVariables false
set_option linter.unusedSimpArgs false
def sltB (x : Slt) : Bool := inB 0 15 x.md && (inB 0 7 x.rd && (inB 0 15 x.sl && descB x))
set_option maxHeartbeats 1600000 in
theorem islot_any (x : Slt) (w : World) : Calls Tryz.prog 159 #[.agg #[.int .i64 x.md, .int .i64 x.rd, .int .i64 x.sl, .int .i64 x.nd, .int .i64 x.kd, .int .i64 x.sz, .int .i64 x.du, .bool x.ch]] w (BoolOut (sltB x) w) := by
  have HB := hide ((Below.refl w.heap.size w).alloc (Nat.le_refl _) (.cells #[.int .i64 x.md, .int .i64 x.rd, .int .i64 x.sl, .int .i64 x.nd, .int .i64 x.kd, .int .i64 x.sz, .int .i64 x.du, .bool x.ch] 61))
  have D := hide (show sltB x = (inB 0 15 x.md && (inB 0 7 x.rd && (inB 0 15 x.sl && descB x))) from rfl)
  cases h1 : inB 0 15 x.md
  · have E := hide (show sltB x = false by rw [D.out, h1]; rfl)
    have H1 := hide h1
    have H2 := H1
    have H3 := H1
    clear h1
    go_enter Tryz.func159, Tryz.ntmps159
    go_wp2_with (first | (go_at_call 101; refine (within_any _ _ _ _).mono ?_; rintro ee w2 ⟨rfl, rfl⟩; first | rw [H1.out] | rw [H2.out] | rw [H3.out]))
    go_ret
    exact ⟨by rw [E.out]; rfl, HB.out⟩
  · have H1 := hide h1
    cases h2 : inB 0 7 x.rd
    · have E := hide (show sltB x = false by rw [D.out, h1, h2]; rfl)
      have H2 := hide h2
      have H3 := H2
      clear h1 h2
      go_enter Tryz.func159, Tryz.ntmps159
      go_wp2_with (first | (go_at_call 101; refine (within_any _ _ _ _).mono ?_; rintro ee w2 ⟨rfl, rfl⟩; first | rw [H1.out] | rw [H2.out] | rw [H3.out]))
      go_ret
      exact ⟨by rw [E.out]; rfl, HB.out⟩
    · have H2 := hide h2
      cases h3 : inB 0 15 x.sl
      · have E := hide (show sltB x = false by rw [D.out, h1, h2, h3]; rfl)
        have H3 := hide h3
        clear h1 h2 h3
        go_enter Tryz.func159, Tryz.ntmps159
        go_wp2_with (first | (go_at_call 101; refine (within_any _ _ _ _).mono ?_; rintro ee w2 ⟨rfl, rfl⟩; first | rw [H1.out] | rw [H2.out] | rw [H3.out]))
        go_ret
        exact ⟨by rw [E.out]; rfl, HB.out⟩
      · have E := hide (show sltB x = descB x by rw [D.out, h1, h2, h3]; rfl)
        have H3 := hide h3
        clear h1 h2 h3
        go_enter Tryz.func159, Tryz.ntmps159
        go_wp2_with (first | (go_at_call 101; refine (within_any _ _ _ _).mono ?_; rintro ee w2 ⟨rfl, rfl⟩; first | rw [H1.out] | rw [H2.out] | rw [H3.out]) | (go_at_call 80; refine (iIsDescriptor_any x _).mono ?_; rintro ee w3 ⟨rfl, b3⟩))
        go_ret
        exact ⟨by rw [E.out]; rfl, HB.out.trans (b3.mono (by simp))⟩
set_option maxHeartbeats 1600000 in
theorem sslot_any (x : Slt) (w : World) : Calls Tryz.prog 165 #[.agg #[.int .i64 x.md, .int .i64 x.rd, .int .i64 x.sl, .int .i64 x.nd, .int .i64 x.kd, .int .i64 x.sz, .int .i64 x.du, .bool x.ch]] w (BoolOut (sltB x) w) := by
  have HB := hide ((Below.refl w.heap.size w).alloc (Nat.le_refl _) (.cells #[.int .i64 x.md, .int .i64 x.rd, .int .i64 x.sl, .int .i64 x.nd, .int .i64 x.kd, .int .i64 x.sz, .int .i64 x.du, .bool x.ch] 61))
  have D := hide (show sltB x = (inB 0 15 x.md && (inB 0 7 x.rd && (inB 0 15 x.sl && descB x))) from rfl)
  cases h1 : inB 0 15 x.md
  · have E := hide (show sltB x = false by rw [D.out, h1]; rfl)
    have H1 := hide h1
    have H2 := H1
    have H3 := H1
    clear h1
    go_enter Tryz.func165, Tryz.ntmps165
    go_wp2_with (first | (go_at_call 122; refine (l01In_any _ _ _ _).mono ?_; rintro ee w2 ⟨rfl, rfl⟩; first | rw [H1.out] | rw [H2.out] | rw [H3.out]))
    go_ret
    exact ⟨by rw [E.out]; rfl, HB.out⟩
  · have H1 := hide h1
    cases h2 : inB 0 7 x.rd
    · have E := hide (show sltB x = false by rw [D.out, h1, h2]; rfl)
      have H2 := hide h2
      have H3 := H2
      clear h1 h2
      go_enter Tryz.func165, Tryz.ntmps165
      go_wp2_with (first | (go_at_call 122; refine (l01In_any _ _ _ _).mono ?_; rintro ee w2 ⟨rfl, rfl⟩; first | rw [H1.out] | rw [H2.out] | rw [H3.out]))
      go_ret
      exact ⟨by rw [E.out]; rfl, HB.out⟩
    · have H2 := hide h2
      cases h3 : inB 0 15 x.sl
      · have E := hide (show sltB x = false by rw [D.out, h1, h2, h3]; rfl)
        have H3 := hide h3
        clear h1 h2 h3
        go_enter Tryz.func165, Tryz.ntmps165
        go_wp2_with (first | (go_at_call 122; refine (l01In_any _ _ _ _).mono ?_; rintro ee w2 ⟨rfl, rfl⟩; first | rw [H1.out] | rw [H2.out] | rw [H3.out]))
        go_ret
        exact ⟨by rw [E.out]; rfl, HB.out⟩
      · have E := hide (show sltB x = descB x by rw [D.out, h1, h2, h3]; rfl)
        have H3 := hide h3
        clear h1 h2 h3
        go_enter Tryz.func165, Tryz.ntmps165
        go_wp2_with (first | (go_at_call 122; refine (l01In_any _ _ _ _).mono ?_; rintro ee w2 ⟨rfl, rfl⟩; first | rw [H1.out] | rw [H2.out] | rw [H3.out]) | (go_at_call 174; refine (sIsDescriptor_any x _).mono ?_; rintro ee w3 ⟨rfl, b3⟩))
        go_ret
        exact ⟨by rw [E.out]; rfl, HB.out.trans (b3.mono (by simp))⟩
def cmpI (a b : Int) : Int := if a < b then -1 else if b < a then 1 else 0
def cmpS (x y : Slt) : Int := if x.md ≠ y.md then cmpI x.md y.md else if x.rd ≠ y.rd then cmpI x.rd y.rd else cmpI x.sl y.sl
theorem compare_any (a b : Int) (w : World) : Calls Tryz.prog 172 #[.int .i64 a, .int .i64 b] w (SameI (cmpI a b) w) := by
  by_cases h1 : a < b
  · have E := hide (show cmpI a b = -1 by rw [cmpI, if_pos h1])
    have t1 : decide (a < b) = true := decide_eq_true h1
    clear h1
    go_enter Tryz.func172, Tryz.ntmps172
    go_wp2
    go_ret
    exact ⟨by rw [E.out]; rfl, rfl⟩
  · have t1 : decide (a < b) = false := decide_eq_false h1
    by_cases h2 : b < a
    · have E := hide (show cmpI a b = 1 by rw [cmpI, if_neg h1, if_pos h2])
      have t2 : decide (b < a) = true := decide_eq_true h2
      clear h1 h2
      go_enter Tryz.func172, Tryz.ntmps172
      go_wp2
      go_ret
      exact ⟨by rw [E.out]; rfl, rfl⟩
    · have E := hide (show cmpI a b = 0 by rw [cmpI, if_neg h1, if_neg h2])
      have t2 : decide (b < a) = false := decide_eq_false h2
      clear h1 h2
      go_enter Tryz.func172, Tryz.ntmps172
      go_wp2
      go_ret
      exact ⟨by rw [E.out]; rfl, rfl⟩
set_option maxHeartbeats 1600000 in
theorem icmpS_any (x y : Slt) (w : World) : Calls Tryz.prog 160 #[.agg #[.int .i64 x.md, .int .i64 x.rd, .int .i64 x.sl, .int .i64 x.nd, .int .i64 x.kd, .int .i64 x.sz, .int .i64 x.du, .bool x.ch], .agg #[.int .i64 y.md, .int .i64 y.rd, .int .i64 y.sl, .int .i64 y.nd, .int .i64 y.kd, .int .i64 y.sz, .int .i64 y.du, .bool y.ch]] w (IntOut (cmpS x y) w) := by
  have HB := hide (show Below w.heap.size w ((w.alloc (.cells #[.int .i64 x.md, .int .i64 x.rd, .int .i64 x.sl, .int .i64 x.nd, .int .i64 x.kd, .int .i64 x.sz, .int .i64 x.du, .bool x.ch] 61)).alloc (.cells #[.int .i64 y.md, .int .i64 y.rd, .int .i64 y.sl, .int .i64 y.nd, .int .i64 y.kd, .int .i64 y.sz, .int .i64 y.du, .bool y.ch] 61)) by (repeat (first | exact Below.refl _ _ | (refine Below.alloc ?_ (by simp <;> omega) _) | (refine Below.setCell ?_ (by simp <;> omega) _))))
  by_cases h1 : x.md = y.md
  · have t1 : (x.md != y.md) = false := by simpa using h1
    by_cases h2 : x.rd = y.rd
    · have t2 : (x.rd != y.rd) = false := by simpa using h2
      have E := hide (show cmpS x y = cmpI x.sl y.sl by rw [cmpS, if_neg (by simpa using h1), if_neg (by simpa using h2)])
      clear h1 h2
      go_enter Tryz.func160, Tryz.ntmps160
      go_wp2_with (go_at_call 172; refine (compare_any _ _ _).mono ?_; rintro ee w2 ⟨rfl, rfl⟩)
      go_ret
      exact ⟨by rw [E.out]; rfl, HB.out⟩
    · have t2 : (x.rd != y.rd) = true := by simpa using h2
      have E := hide (show cmpS x y = cmpI x.rd y.rd by rw [cmpS, if_neg (by simpa using h1), if_pos h2])
      clear h1 h2
      go_enter Tryz.func160, Tryz.ntmps160
      go_wp2_with (go_at_call 172; refine (compare_any _ _ _).mono ?_; rintro ee w2 ⟨rfl, rfl⟩)
      go_ret
      exact ⟨by rw [E.out]; rfl, HB.out⟩
  · have t1 : (x.md != y.md) = true := by simpa using h1
    have E := hide (show cmpS x y = cmpI x.md y.md by rw [cmpS, if_pos h1])
    clear h1
    go_enter Tryz.func160, Tryz.ntmps160
    go_wp2_with (go_at_call 172; refine (compare_any _ _ _).mono ?_; rintro ee w2 ⟨rfl, rfl⟩)
    go_ret
    exact ⟨by rw [E.out]; rfl, HB.out⟩
end Go.Proofs.YtdkhldebnpmiiaaGreatDoor
namespace Go.Proofs.YtdkhldebnpmiiaaGreatDoor
open Go.RowKit
set_option linter.unusedVariables false
set_option linter.unusedSimpArgs false
section
variable {x y : Slt}
theorem cmpS_0lt (h : x.md < y.md) : cmpS x y = -1 := by rw [cmpS, if_pos (by omega), cmpI, if_pos h]
theorem cmpS_0gt (h : y.md < x.md) : cmpS x y = 1 := by rw [cmpS, if_pos (by omega), cmpI, if_neg (by omega), if_pos h]
theorem cmpS_1lt (h0 : x.md = y.md) (h : x.rd < y.rd) : cmpS x y = -1 := by rw [cmpS, if_neg (by omega), if_pos (by omega), cmpI, if_pos h]
theorem cmpS_1gt (h0 : x.md = y.md) (h : y.rd < x.rd) : cmpS x y = 1 := by rw [cmpS, if_neg (by omega), if_pos (by omega), cmpI, if_neg (by omega), if_pos h]
theorem cmpS_2lt (h0 : x.md = y.md) (h1 : x.rd = y.rd) (h : x.sl < y.sl) : cmpS x y = -1 := by rw [cmpS, if_neg (by omega), if_neg (by omega), cmpI, if_pos h]
theorem cmpS_2gt (h0 : x.md = y.md) (h1 : x.rd = y.rd) (h : y.sl < x.sl) : cmpS x y = 1 := by rw [cmpS, if_neg (by omega), if_neg (by omega), cmpI, if_neg (by omega), if_pos h]
theorem cmpS_eq (h0 : x.md = y.md) (h1 : x.rd = y.rd) (h : x.sl = y.sl) : cmpS x y = 0 := by rw [cmpS, if_neg (by omega), if_neg (by omega), cmpI, if_neg (by omega), if_neg (by omega)]
end
set_option maxHeartbeats 6400000 in
theorem scmpS_any (x y : Slt) (w : World) : Calls Tryz.prog 166 #[.agg #[.int .i64 x.md, .int .i64 x.rd, .int .i64 x.sl, .int .i64 x.nd, .int .i64 x.kd, .int .i64 x.sz, .int .i64 x.du, .bool x.ch], .agg #[.int .i64 y.md, .int .i64 y.rd, .int .i64 y.sl, .int .i64 y.nd, .int .i64 y.kd, .int .i64 y.sz, .int .i64 y.du, .bool y.ch]] w (IntOut (cmpS x y) w) := by
  go_enter Tryz.func166, Tryz.ntmps166
  go_upto_region 1 with (fail)
  go_cut [5, 6] (fun p q wx => ∃ gx gy : Nat, p = .slice (some ⟨gx, 0, none⟩) 3 3 ∧ q = .slice (some ⟨gy, 0, none⟩) 3 3 ∧ Hid (Below w.heap.size w wx) ∧ Hid (wx.cell? ⟨gx, 0, none⟩ = some (.int .i64 x.md) ∧ wx.cell? ⟨gx, 1, none⟩ = some (.int .i64 x.rd) ∧ wx.cell? ⟨gx, 2, none⟩ = some (.int .i64 x.sl)) ∧ Hid (wx.cell? ⟨gy, 0, none⟩ = some (.int .i64 y.md) ∧ wx.cell? ⟨gy, 1, none⟩ = some (.int .i64 y.rd) ∧ wx.cell? ⟨gy, 2, none⟩ = some (.int .i64 y.sl)))
  case first =>
    go_region
    all_goals
      go_wp2_with fail
      go_meet
      exact ⟨_, _, rfl, rfl, hide (by repeat (first | exact Below.refl _ _ | (refine Below.drew ?_) | (refine Below.alloc ?_ (by simp <;> omega) _))), hide (by refine ⟨?_, ?_, ?_⟩ <;> simp [go_sem]), hide (by refine ⟨?_, ?_, ?_⟩ <;> simp [go_sem])⟩
  case rest =>
    obtain ⟨gx, gy, rfl, rfl, HB, HC, HD⟩ := hcut
    go_wp2_with fail
    go_loopw [7] (fun i wr => ∃ k : Nat, k ≤ 3 ∧ i = .int .i64 k ∧ Hid ((1 ≤ k → x.md = y.md) ∧ (2 ≤ k → x.rd = y.rd) ∧ (3 ≤ k → x.sl = y.sl)) ∧ Hid (Below w.heap.size w wr) ∧ Hid (wr.cell? ⟨gx, 0, none⟩ = some (.int .i64 x.md) ∧ wr.cell? ⟨gx, 1, none⟩ = some (.int .i64 x.rd) ∧ wr.cell? ⟨gx, 2, none⟩ = some (.int .i64 x.sl)) ∧ Hid (wr.cell? ⟨gy, 0, none⟩ = some (.int .i64 y.md) ∧ wr.cell? ⟨gy, 1, none⟩ = some (.int .i64 y.rd) ∧ wr.cell? ⟨gy, 2, none⟩ = some (.int .i64 y.sl))) (fun i _ => 3 - (intOf i).toNat)
    case atStart => exact ⟨0, by omega, by go_num, hide ⟨fun h => by omega, fun h => by omega, fun h => by omega⟩, HB, HC, HD⟩
    case round =>
      obtain ⟨k, hk, rfl, hpre, hbel, hc, hd⟩ := hrel
      rcases Nat.lt_or_ge k 3 with h3 | h3
      · rcases (show k = 0 ∨ k = 1 ∨ k = 2 by omega) with rfl | rfl | rfl
        · have _u := h3
          have c0 := hc.out.1
          have d0 := hd.out.1
          by_cases h1 : x.md < y.md
          · have E := hide (cmpS_0lt  h1)
            have t1 : decide (x.md < y.md) = true := decide_eq_true h1
            clear h1
            go_wp2_with fail
            go_quiet (fail)
            go_wp2_with fail
            go_ret
            exact ⟨by rw [E.out]; rfl, below_drewN hbel.out _⟩
          · have t1 : decide (x.md < y.md) = false := decide_eq_false h1
            by_cases h2 : y.md < x.md
            · have E := hide (cmpS_0gt  h2)
              have t2 : decide (y.md < x.md) = true := decide_eq_true h2
              clear h1 h2
              go_wp2_with fail
              go_quiet (fail)
              go_wp2_with fail
              go_quiet (fail)
              go_wp2_with fail
              go_ret
              exact ⟨by rw [E.out]; rfl, below_drewN (below_drewN hbel.out _) _⟩
            · have t2 : decide (y.md < x.md) = false := decide_eq_false h2
              have NN := hide (show (1 ≤ 1 → x.md = y.md) ∧ (2 ≤ 1 → x.rd = y.rd) ∧ (3 ≤ 1 → x.sl = y.sl) by refine ⟨?_, ?_, ?_⟩ <;> omega)
              clear h1 h2
              go_wp2_with fail
              go_quiet (fail)
              go_wp2_with fail
              go_quiet (fail)
              go_wp2_with fail
              go_roundw
              case rel => exact ⟨1, by omega, by go_num, NN, hide (below_drewN hbel.out _), hc, hd⟩
              case measure => simp [intOf]
        · have _u := h3
          have hp0 := hpre.out.1 (by omega)
          have c0 := hc.out.2.1
          have d0 := hd.out.2.1
          by_cases h1 : x.rd < y.rd
          · have E := hide (cmpS_1lt (hp0) h1)
            have t1 : decide (x.rd < y.rd) = true := decide_eq_true h1
            clear h1 hp0
            go_wp2_with fail
            go_quiet (fail)
            go_wp2_with fail
            go_ret
            exact ⟨by rw [E.out]; rfl, below_drewN hbel.out _⟩
          · have t1 : decide (x.rd < y.rd) = false := decide_eq_false h1
            by_cases h2 : y.rd < x.rd
            · have E := hide (cmpS_1gt (hp0) h2)
              have t2 : decide (y.rd < x.rd) = true := decide_eq_true h2
              clear h1 h2 hp0
              go_wp2_with fail
              go_quiet (fail)
              go_wp2_with fail
              go_quiet (fail)
              go_wp2_with fail
              go_ret
              exact ⟨by rw [E.out]; rfl, below_drewN (below_drewN hbel.out _) _⟩
            · have t2 : decide (y.rd < x.rd) = false := decide_eq_false h2
              have NN := hide (show (1 ≤ 2 → x.md = y.md) ∧ (2 ≤ 2 → x.rd = y.rd) ∧ (3 ≤ 2 → x.sl = y.sl) by refine ⟨?_, ?_, ?_⟩ <;> omega)
              clear h1 h2 hp0
              go_wp2_with fail
              go_quiet (fail)
              go_wp2_with fail
              go_quiet (fail)
              go_wp2_with fail
              go_roundw
              case rel => exact ⟨2, by omega, by go_num, NN, hide (below_drewN hbel.out _), hc, hd⟩
              case measure => simp [intOf]
        · have _u := h3
          have hp0 := hpre.out.1 (by omega)
          have hp1 := hpre.out.2.1 (by omega)
          have c0 := hc.out.2.2
          have d0 := hd.out.2.2
          by_cases h1 : x.sl < y.sl
          · have E := hide (cmpS_2lt (hp0) (hp1) h1)
            have t1 : decide (x.sl < y.sl) = true := decide_eq_true h1
            clear h1 hp0 hp1
            go_wp2_with fail
            go_quiet (fail)
            go_wp2_with fail
            go_ret
            exact ⟨by rw [E.out]; rfl, below_drewN hbel.out _⟩
          · have t1 : decide (x.sl < y.sl) = false := decide_eq_false h1
            by_cases h2 : y.sl < x.sl
            · have E := hide (cmpS_2gt (hp0) (hp1) h2)
              have t2 : decide (y.sl < x.sl) = true := decide_eq_true h2
              clear h1 h2 hp0 hp1
              go_wp2_with fail
              go_quiet (fail)
              go_wp2_with fail
              go_quiet (fail)
              go_wp2_with fail
              go_ret
              exact ⟨by rw [E.out]; rfl, below_drewN (below_drewN hbel.out _) _⟩
            · have t2 : decide (y.sl < x.sl) = false := decide_eq_false h2
              have NN := hide (show (1 ≤ 3 → x.md = y.md) ∧ (2 ≤ 3 → x.rd = y.rd) ∧ (3 ≤ 3 → x.sl = y.sl) by refine ⟨?_, ?_, ?_⟩ <;> omega)
              clear h1 h2 hp0 hp1
              go_wp2_with fail
              go_quiet (fail)
              go_wp2_with fail
              go_quiet (fail)
              go_wp2_with fail
              go_roundw
              case rel => exact ⟨3, by omega, by go_num, NN, hide (below_drewN hbel.out _), hc, hd⟩
              case measure => simp [intOf]
      · obtain rfl : k = 3 := by omega
        have E := hide (cmpS_eq (hpre.out.1 (by omega)) (hpre.out.2.1 (by omega)) (hpre.out.2.2 (by omega)))
        go_wp2
        go_ret
        exact ⟨by rw [E.out]; rfl, hbel.out⟩
end Go.Proofs.YtdkhldebnpmiiaaGreatDoor
