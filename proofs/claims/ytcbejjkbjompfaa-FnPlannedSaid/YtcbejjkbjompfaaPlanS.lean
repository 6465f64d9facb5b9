/- Contracts: planning, by the reference. -/
import Derived.Test.YtcbejjkbjompfaaPlanK
import Derived.Deep.RegionWith
namespace Go.Proofs.Ytcbejjkbjompfaa
open Go.RowKit
set_option linter.unusedVariables false
set_option linter.unusedSimpArgs false

def PlanOut (ds : List Dem) (n m : Nat) (w : World) (x : Ending) (w' : World) : Prop :=
  ∃ (A' : Option Addr) (j c' : Nat), x = .returned (.tuple #[.slice A' j c', .bool (planB ds n m)]) ∧ OwnF 31 2 w' w.heap.size A' j c' (planL ds n m) ∧ Below w.heap.size w w'
theorem ret_bt {v : Value} {a b : Bool} (h : a = b) : Ending.returned (.tuple #[v, .bool a]) = .returned (.tuple #[v, .bool b]) := by rw [h]
theorem first_end_none {T : Nat → Nat → Int} {n m e : Nat} {x : Ending} (hf : firstI T n m e = none) (hx : (∃ i, firstI T n m e = some i ∧ x = .returned (.tuple #[.agg #[.int .i64 ((i / e : Nat) : Int), .int .i64 ((i % e : Nat) : Int)], .bool true])) ∨ (firstI T n m e = none ∧ x = .returned (.tuple #[.agg #[.int .i64 0, .int .i64 0], .bool false]))) :
    x = .returned (.tuple #[.agg #[.int .i64 0, .int .i64 0], .bool false]) := by
  rcases hx with ⟨i, h, _⟩ | ⟨_, h⟩
  · rw [hf] at h; cases h
  · exact h
theorem first_end_some {T : Nat → Nat → Int} {n m e i u v : Nat} {x : Ending} (hf : firstI T n m e = some i) (hu : u = i / e) (hv : v = i % e) (hx : (∃ i, firstI T n m e = some i ∧ x = .returned (.tuple #[.agg #[.int .i64 ((i / e : Nat) : Int), .int .i64 ((i % e : Nat) : Int)], .bool true])) ∨ (firstI T n m e = none ∧ x = .returned (.tuple #[.agg #[.int .i64 0, .int .i64 0], .bool false]))) :
    x = .returned (.tuple #[.agg #[.int .i64 (u : Int), .int .i64 (v : Int)], .bool true]) := by
  rcases hx with ⟨j, h, hx⟩ | ⟨h, _⟩
  · rw [hf] at h
    cases h
    rw [hu, hv]; exact hx
  · rw [hf] at h; cases h
set_option maxHeartbeats 6400000 in
set_option maxRecDepth 100000 in
theorem l16Plan_any (A : Option Addr) (q c : Nat) (ds : List Dem) (n m : Nat) (w : World) (h : RdF 3 w A q c (flatD ds)) (ha : areB ds = true) (hn : 1 ≤ n ∧ n ≤ 8) (hm : 1 ≤ m ∧ m ≤ 16) :
    Calls Try.prog 19 #[.slice A q c, .int .i64 (n : Int), .int .i64 (m : Int)] w (PlanOut ds n m w) := by
  have hl : ds.length = q := by have := h.len; rw [flatD_len] at this; omega
  have hq := are_len ha
  have hcap := h.cap
  go_enter Try.func19, Try.ntmps19
  go_wp2_with (go_at_call 32; refine (l16Free_any n m _ hn.2 hm).mono ?_; rintro x w1 ⟨hs, A1, c1, rfl, T1, b1⟩)
  have hbase := hide (fun p hp => (T1.base p hp).1)
  go_loopw [9, 10] (fun s i wr => ∃ (k : Nat) (T : Nat → Nat → Int) (bs : List Int) (A2 : Option Addr) (c2 : Nat), k ≤ q ∧ i = .int .i64 k ∧ s = .slice A2 k c2 ∧ Hid (planK ds n m k = some (T, bs)) ∧ TabH wr w.heap.size hs A1 n c1 m T ∧ OwnF 31 2 wr w.heap.size A2 k c2 bs ∧ Below w.heap.size w wr) (fun _ i _ => q - (intOf i).toNat)
  case atStart => exact ⟨0, T0, [], _, _, by omega, rfl, rfl, hide rfl, T1.below ((Below.refl _ _).alloc (Nat.le_refl _) _), OwnF.empty w1 b1.size, b1.alloc b1.size _⟩
  case round =>
    obtain ⟨k, T, bs, A2, c2, hk, rfl, rfl, hpl, htab, hown, hbel⟩ := hrel
    have hsz := hbel.size
    by_cases hlt : k < q
    · obtain ⟨b, off, rfl, hbb, hc⟩ := h.at_ (by omega)
      obtain ⟨d0, d1, d2⟩ := dem_cells hc hl hbel hbb hlt
      obtain ⟨e1, e2, e3, e4⟩ := ev_nat ha (k := k) (by omega)
      rw [e1] at d1
      obtain ⟨e, he⟩ : ∃ e, e = evN ds k := ⟨_, rfl⟩
      rw [← he] at d1 e2 e3
      have HC := hide hc
      have HE := hide he
      have E1 := hide e1
      clear hc e1 e4 he
      cases hf : firstI T n m e with
      | none =>
        have hfin := hide (plan_none (planK_bad hpl.out (by rw [← HE.out]; exact hf)) (by omega))
        go_wp2_with (go_at_call 33; refine (l16First_any w.heap.size hs A1 n c1 m T _ htab _ _ e ⟨e2, e3⟩ hn hm).mono ?_; rintro x w2 ⟨hx, b2⟩; obtain rfl := first_end_none hf hx)
        go_ret2
        exact ⟨none, 0, 0, ret_bt hfin.out.1.symm, by rw [hfin.out.2]; exact OwnF.nil _ _, (below_trans hbel b2).alloc (Nat.le_trans hsz b2.size) _⟩
      | some i =>
        obtain ⟨i1, i2⟩ := first_get hf
        have hi1 : i / e < m := Nat.div_lt_of_lt_mul (by rw [Nat.mul_comm]; exact i1)
        have hi2 : i % e < e := Nat.mod_lt _ (by omega)
        have hpl2 := hide (planK_good hpl.out (by rw [← HE.out]; exact hf))
        rw [← HE.out] at hpl2
        obtain ⟨u, hu⟩ : ∃ u, u = i / e := ⟨_, rfl⟩
        obtain ⟨v, hv⟩ : ∃ v, v = i % e := ⟨_, rfl⟩
        rw [← hu] at hi1 hpl2
        rw [← hv] at hi2 hpl2
        have UV := hide (And.intro hu hv)
        clear hu hv i1 i2
        go_wp2_with (go_at_call 33; refine (l16First_any w.heap.size hs A1 n c1 m T _ htab _ _ e ⟨e2, e3⟩ hn hm).mono ?_; rintro x w2 ⟨hx, b2⟩; obtain rfl := first_end_some hf UV.out.1 UV.out.2 hx; have ba2 := b2.alloc b2.size (.cells #[.int .i64 (u : Int), .int .i64 (v : Int)] 31))
        obtain ⟨W, hW⟩ : ∃ W, w2.alloc (.cells #[.int .i64 (u : Int), .int .i64 (v : Int)] 31) = W := ⟨_, rfl⟩
        have K0 := BkAt.fresh w2 (.int .i64 (u : Int)) (.int .i64 (v : Int))
        have hz2 : wr.heap.size ≤ w2.heap.size := b2.size
        rw [hW] at ba2 K0 ⊢
        have TW := hide (htab.below ba2)
        have OW := hide (hown.below ba2)
        have BW := hide (below_trans hbel ba2)
        have KW := hide K0
        have k0 : W.cell? ⟨w2.heap.size, 0, none⟩ = some (.int .i64 (u : Int)) := K0.cell 0
        have k1 : W.cell? ⟨w2.heap.size, 1, none⟩ = some (.int .i64 (v : Int)) := K0.cell 1
        obtain ⟨f0, f1, f2⟩ := dem_cells HC.out hl BW.out hbb hlt
        rw [E1.out, ← HE.out] at f1
        have HNW := hide (fun p hp => Nat.lt_of_lt_of_le (htab.base p hp).2 hz2)
        clear K0 hW ba2 htab hown hbel b2 d0 d1 d2
        go_region_with (go_at_call 34; (with_reducible refine (l16Put_any w.heap.size hs A1 n c1 m T _ TW.out.drew _ _ e u v k ⟨e2, e3⟩ hn hm.2 hi1 hi2 (by omega)).mono ?_); rintro x w3 ⟨rfl, T3, k3⟩)
        all_goals
          have k4 : Tk W w3 hs := ⟨k3.os, k3.tape, k3.output, k3.size, k3.block⟩
          have O3 := OW.out.keepT (by decide) TW.out k4
          have B3 := k4.below BW.out hbase.out
          have hz3 : w.heap.size ≤ w3.heap.size := B3.size
          have k5 := (k4.cell KW.out.lt (fun p hp e => by have := HNW.out p hp; omega) 0).trans k0
          have k6 := (k4.cell KW.out.lt (fun p hp e => by have := HNW.out p hp; omega) 1).trans k1
          have iy : I64 [(u : Int), (v : Int)] := I64.append (a := [(u : Int)]) (I64.one (by omega) (by omega)) (I64.one (by omega) (by omega))
          have IY := hide iy
          clear k3 k0 k1 f0 f1 f2 iy
          go_wp2_with (at_builtin; refine append_bk rfl _ _ rfl w.heap.size rfl O3 (u : Int) (v : Int) IY.out rfl (by omega) hz3 ?_; intro A4 c4 w4 O4 g4)
          have T4 := T3.keepF O3 (by decide) (by decide) g4
          have B4 := B3.grown g4 hz3 (fun j hj => (O3.1.lt j hj).1)
          go_roundw
          case rel => exact ⟨k + 1, _, _, A4, c4, by omega, by go_num, rfl, hpl2, T4, O4, B4⟩
          case measure => simp [intOf]; omega
    · obtain rfl : k = q := by omega
      have hfin := hide (plan_some (by rw [hl]; exact hpl.out))
      go_wp2
      go_ret2
      exact ⟨A2, k, c2, ret_bt hfin.out.1.symm, by rw [hfin.out.2]; exact hown, hbel⟩
end Go.Proofs.Ytcbejjkbjompfaa
