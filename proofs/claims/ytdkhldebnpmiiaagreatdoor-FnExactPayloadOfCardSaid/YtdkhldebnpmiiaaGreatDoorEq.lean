/- The laws' own comparison of two schedules that read alike. -/
import Derived.Test.YtdkhldebnpmiiaaGreatDoorTo2
import Derived.Deep.RegionWith
namespace Go.Proofs.YtdkhldebnpmiiaaGreatDoor
open Go.RowKit
set_option linter.unusedVariables false
set_option linter.unusedSimpArgs false

theorem neqI (x : Int) : (x != x) = false := by simp
theorem neqB (x : Bool) : (x != x) = false := by simp
theorem not_true : (!true) = false := rfl
def TrueOut (w : World) (e : Ending) (w' : World) : Prop := e = .returned (.bool true) ∧ Below w.heap.size w w'
set_option maxHeartbeats 1600000 in
theorem eqNodeInfo_same (x : Nod) (w : World) : Calls Tryz.prog 96 #[.agg #[.int .i64 x.id, .string x.nm, .int .i64 x.dr, .bool x.pas], .agg #[.int .i64 x.id, .string x.nm, .int .i64 x.dr, .bool x.pas]] w (TrueOut w) := by
  go_enter Tryz.func96, Tryz.ntmps96
  go_wp2
  go_ret
  exact ⟨rfl, by (repeat (first | exact Below.refl _ _ | (refine Below.alloc ?_ (by simp <;> omega) _) | (refine Below.setCell ?_ (by simp <;> omega) _)))⟩
set_option maxHeartbeats 1600000 in
theorem eqDescriptor_same (x : Slt) (w : World) : Calls Tryz.prog 119 #[.agg #[.int .i64 x.nd, .int .i64 x.kd, .int .i64 x.sz, .int .i64 x.du, .bool x.ch], .agg #[.int .i64 x.nd, .int .i64 x.kd, .int .i64 x.sz, .int .i64 x.du, .bool x.ch]] w (TrueOut w) := by
  go_enter Tryz.func119, Tryz.ntmps119
  go_wp2
  go_ret
  exact ⟨rfl, by (repeat (first | exact Below.refl _ _ | (refine Below.alloc ?_ (by simp <;> omega) _) | (refine Below.setCell ?_ (by simp <;> omega) _)))⟩
set_option maxHeartbeats 1600000 in
theorem eqSlotInfo_same (x : Slt) (w : World) : Calls Tryz.prog 98 #[.agg #[.int .i64 x.md, .int .i64 x.rd, .int .i64 x.sl, .int .i64 x.nd, .int .i64 x.kd, .int .i64 x.sz, .int .i64 x.du, .bool x.ch], .agg #[.int .i64 x.md, .int .i64 x.rd, .int .i64 x.sl, .int .i64 x.nd, .int .i64 x.kd, .int .i64 x.sz, .int .i64 x.du, .bool x.ch]] w (TrueOut w) := by
  have B0 : Below w.heap.size w ((w.alloc (.cells #[.int .i64 x.md, .int .i64 x.rd, .int .i64 x.sl, .int .i64 x.nd, .int .i64 x.kd, .int .i64 x.sz, .int .i64 x.du, .bool x.ch] 61)).alloc (.cells #[.int .i64 x.md, .int .i64 x.rd, .int .i64 x.sl, .int .i64 x.nd, .int .i64 x.kd, .int .i64 x.sz, .int .i64 x.du, .bool x.ch] 61)) := by (repeat (first | exact Below.refl _ _ | (refine Below.alloc ?_ (by simp <;> omega) _) | (refine Below.setCell ?_ (by simp <;> omega) _)))
  go_enter Tryz.func98, Tryz.ntmps98
  go_wp2_with fail
  refine (eqDescriptor_same x _).mono ?_
  rintro e w1 ⟨rfl, b1⟩
  go_wp2
  go_ret
  exact ⟨rfl, B0.trans (b1.mono (by simp <;> omega))⟩
set_option maxHeartbeats 1600000 in
theorem eqModeInfo_same (x y : Mod) (w : World) (hp : Mod.p x = Mod.p y) (hx : Rd w x.A x.n x.c x.nx) (hy : Rd w y.A y.n y.c y.nx) : Calls Tryz.prog 97 #[.agg #[.int .i64 x.rd, .int .i64 x.sl, .slice x.A x.n x.c], .agg #[.int .i64 y.rd, .int .i64 y.sl, .slice y.A y.n y.c]] w (TrueOut w) := by
  have B0 : Below w.heap.size w ((w.alloc (.cells #[.int .i64 x.rd, .int .i64 x.sl, .slice x.A x.n x.c] 107)).alloc (.cells #[.int .i64 y.rd, .int .i64 y.sl, .slice y.A y.n y.c] 107)) := by (repeat (first | exact Below.refl _ _ | (refine Below.alloc ?_ (by simp <;> omega) _) | (refine Below.setCell ?_ (by simp <;> omega) _)))
  obtain ⟨a, b, A, n, c, nx⟩ := x
  obtain ⟨a', b', A', n', c', nx'⟩ := y
  simp only [Mod.p, PMod.mk.injEq] at hp
  obtain ⟨rfl, rfl, rfl⟩ := hp
  have HX := hide (hx.below B0)
  have HY := hide (hy.below B0)
  have e1 := eqB_self nx
  clear hx hy
  go_enter Tryz.func97, Tryz.ntmps97
  go_wp2_with fail
  refine (eqInt64S_b _ _ _ _ _ _ nx nx _ HX.out HY.out).mono ?_
  rintro e w1 ⟨rfl, b1⟩
  rw [e1]
  go_wp2
  go_ret
  exact ⟨rfl, B0.trans (b1.mono (by simp <;> omega))⟩
theorem below_drewR {w0 w w' : World} {k : Nat} (h : Below w.heap.size (w.drewN k) w') (hb : w0.heap.size ≤ w.heap.size) : Below w0.heap.size w w' := (⟨h.os, h.tape, h.output, h.size, h.block⟩ : Below w.heap.size w w').mono hb
set_option maxHeartbeats 3200000 in
theorem eqNodeInfoS_same (A A' : Option Addr) (n c n' c' : Nat) (l : List Nod) (w : World) (h : RdR Nod.v 4 w A n c l) (h' : RdR Nod.v 4 w A' n' c' l) : Calls Tryz.prog 64 #[.slice A n c, .slice A' n' c'] w (TrueOut w) := by
  have hcap := h.cap
  have hcap' := h'.cap
  obtain rfl : n = n' := by have := h.len; have := h'.len; omega
  have t0 := neqI (n : Int)
  go_enter Tryz.func64, Tryz.ntmps64
  go_wp2
  go_loopw [5] (fun i wr => ∃ k : Nat, k ≤ n ∧ i = .int .i64 k ∧ Hid (Below w.heap.size w wr)) (fun i _ => n - (intOf i).toNat)
  case atStart => exact ⟨0, by omega, rfl, hide (Below.refl _ _)⟩
  case round =>
    obtain ⟨k, hk, rfl, hbel⟩ := hrel
    by_cases hlt : k < n
    · obtain ⟨b, off, x, rfl, hb, hx, c0, c1, c2, c3⟩ := nod_at (h.below hbel.out) hlt
      obtain ⟨b', off', y, rfl, hb', hy, d0, d1, d2, d3⟩ := nod_at (h'.below hbel.out) hlt
      obtain rfl := Option.some.inj (hx.symm.trans hy)
      clear hx hy
      go_wp2_with fail
      go_region_with (go_at_call 96; (with_reducible refine (eqNodeInfo_same x _).mono ?_); rintro e w1 ⟨rfl, b1⟩)
      all_goals
        have BB := hide (hbel.out.trans (below_drewR b1 hbel.out.size))
        clear b1
        go_wp2
        go_roundw
        case rel => exact ⟨k + 1, by omega, by go_num, BB⟩
        case measure => simp [intOf]; omega
    · obtain rfl : k = n := by omega
      go_wp2
      go_ret
      exact ⟨rfl, hbel.out⟩
set_option maxHeartbeats 3200000 in
theorem eqSlotInfoS_same (A A' : Option Addr) (n c n' c' : Nat) (l : List Slt) (w : World) (h : RdR Slt.v 8 w A n c l) (h' : RdR Slt.v 8 w A' n' c' l) : Calls Tryz.prog 66 #[.slice A n c, .slice A' n' c'] w (TrueOut w) := by
  have hcap := h.cap
  have hcap' := h'.cap
  obtain rfl : n = n' := by have := h.len; have := h'.len; omega
  have t0 := neqI (n : Int)
  go_enter Tryz.func66, Tryz.ntmps66
  go_wp2
  go_loopw [5] (fun i wr => ∃ k : Nat, k ≤ n ∧ i = .int .i64 k ∧ Hid (Below w.heap.size w wr)) (fun i _ => n - (intOf i).toNat)
  case atStart => exact ⟨0, by omega, rfl, hide (Below.refl _ _)⟩
  case round =>
    obtain ⟨k, hk, rfl, hbel⟩ := hrel
    by_cases hlt : k < n
    · obtain ⟨b, off, x, rfl, hb, hx, c0, c1, c2, c3, c4, c5, c6, c7⟩ := slt_at (h.below hbel.out) hlt
      obtain ⟨b', off', y, rfl, hb', hy, d0, d1, d2, d3, d4, d5, d6, d7⟩ := slt_at (h'.below hbel.out) hlt
      obtain rfl := Option.some.inj (hx.symm.trans hy)
      clear hx hy
      go_wp2_with fail
      go_region_with (go_at_call 98; (with_reducible refine (eqSlotInfo_same x _).mono ?_); rintro e w1 ⟨rfl, b1⟩)
      all_goals
        have BB := hide (hbel.out.trans (below_drewR b1 hbel.out.size))
        clear b1
        go_wp2
        go_roundw
        case rel => exact ⟨k + 1, by omega, by go_num, BB⟩
        case measure => simp [intOf]; omega
    · obtain rfl : k = n := by omega
      go_wp2
      go_ret
      exact ⟨rfl, hbel.out⟩
set_option maxHeartbeats 3200000 in
theorem eqModeInfoS_same (A A' : Option Addr) (n c n' c' : Nat) (l : List PMod) (w : World) (h : RdMs w A n c l) (h' : RdMs w A' n' c' l) : Calls Tryz.prog 65 #[.slice A n c, .slice A' n' c'] w (TrueOut w) := by
  have hcap := h.cap
  have hcap' := h'.cap
  obtain rfl : n = n' := by have := h.len; have := h'.len; omega
  have t0 := neqI (n : Int)
  go_enter Tryz.func65, Tryz.ntmps65
  go_wp2
  go_loopw [5] (fun i wr => ∃ k : Nat, k ≤ n ∧ i = .int .i64 k ∧ Hid (Below w.heap.size w wr)) (fun i _ => n - (intOf i).toNat)
  case atStart => exact ⟨0, by omega, rfl, hide (Below.refl _ _)⟩
  case round =>
    obtain ⟨k, hk, rfl, hbel⟩ := hrel
    by_cases hlt : k < n
    · obtain ⟨b, off, x, rfl, hb, hx, rx, c0, c1, c2⟩ := mod_at (h.below hbel.out) hlt
      obtain ⟨b', off', y, rfl, hb', hy, ry, d0, d1, d2⟩ := mod_at (h'.below hbel.out) hlt
      have hp := hide (Option.some.inj (hx.symm.trans hy))
      have RX := hide rx
      have RY := hide ry
      clear hx hy rx ry
      go_wp2_with fail
      go_region_with (go_at_call 97; (with_reducible refine (eqModeInfo_same x y _ hp.out RX.out.drew RY.out.drew).mono ?_); rintro e w1 ⟨rfl, b1⟩)
      all_goals
        have BB := hide (hbel.out.trans (below_drewR b1 hbel.out.size))
        clear b1
        go_wp2
        go_roundw
        case rel => exact ⟨k + 1, by omega, by go_num, BB⟩
        case measure => simp [intOf]; omega
    · obtain rfl : k = n := by omega
      go_wp2
      go_ret
      exact ⟨rfl, hbel.out⟩
set_option maxHeartbeats 3200000 in
theorem eqMedl_same (v v' : Value) (m : Mdl) (w : World) (h : RdM w v m) (h' : RdM w v' m) : Calls Tryz.prog 23 #[v, v'] w (TrueOut w) := by
  obtain ⟨A1, n1, c1, A2, n2, c2, A3, n3, c3, rfl, h1, h2, h3⟩ := h
  obtain ⟨D1, m1, d1, D2, m2, d2, D3, m3, d3, rfl, k1, k2, k3⟩ := h'
  obtain ⟨W1, hW1⟩ : ∃ x, x = (w.alloc (.cells #[.int .i64 m.id, .slice A1 n1 c1, .slice A2 n2 c2, .slice A3 n3 c3] 28)).alloc (.cells #[.int .i64 m.id, .slice D1 m1 d1, .slice D2 m2 d2, .slice D3 m3 d3] 28) := ⟨_, rfl⟩
  have B0 : Below w.heap.size w W1 := by rw [hW1]; (repeat (first | exact Below.refl _ _ | (refine Below.alloc ?_ (by simp <;> omega) _) | (refine Below.setCell ?_ (by simp <;> omega) _)))
  have F1 : At W1 w.heap.size 28 #[.int .i64 m.id, .slice A1 n1 c1, .slice A2 n2 c2, .slice A3 n3 c3] := by rw [hW1]; exact (At.fresh w _ _).alloc _
  have F2 : At W1 (w.heap.size + 1) 28 #[.int .i64 m.id, .slice D1 m1 d1, .slice D2 m2 d2, .slice D3 m3 d3] := by rw [hW1]; exact At.fresh1 w _ _ _
  have H1 := hide h1
  have H2 := hide h2
  have H3 := hide h3
  have K1 := hide k1
  have K2 := hide k2
  have K3 := hide k3
  have HW := hide hW1
  clear h1 h2 h3 k1 k2 k3 hW1
  go_enter Tryz.func23, Tryz.ntmps23
  go_wp2_with fail
  rw [← HW.out]
  refine (eqNodeInfoS_same _ _ _ _ _ _ m.ns _ (H1.out.below B0) (K1.out.below B0)).mono ?_
  rintro e w1 ⟨rfl, b1⟩
  have B1 := hide (below_trans B0 b1)
  have G1 := F1.keep b1
  have G2 := F2.keep b1
  have e1 := G1.cell 2
  have e2 := G2.cell 2
  simp at e1 e2
  clear B0 F1 F2 b1
  go_wp2_with fail
  refine (eqModeInfoS_same _ _ _ _ _ _ m.ms _ (H2.out.below B1.out) (K2.out.below B1.out)).mono ?_
  rintro e w2 ⟨rfl, b2⟩
  have B2 := hide (below_trans B1.out b2)
  have F1 := G1.keep b2
  have F2 := G2.keep b2
  have e3 := F1.cell 3
  have e4 := F2.cell 3
  simp at e3 e4
  clear B1 G1 G2 b2 e1 e2
  go_wp2_with fail
  refine (eqSlotInfoS_same _ _ _ _ _ _ m.ss _ (H3.out.below B2.out) (K3.out.below B2.out)).mono ?_
  rintro e w3 ⟨rfl, b3⟩
  have B3 := hide (below_trans B2.out b3)
  clear B2 F1 F2 b3 e3 e4
  go_wp2
  go_ret
  exact ⟨rfl, B3.out⟩
end Go.Proofs.YtdkhldebnpmiiaaGreatDoor
