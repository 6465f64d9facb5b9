/- Contracts: planning, by the program. -/
import Derived.Test.YtcbejjkbjompfaaPlanS
namespace Go.Proofs.Ytcbejjkbjompfaa
open Go.RowKit
set_option linter.unusedVariables false
set_option linter.unusedSimpArgs false

theorem DemAt.cells (w : World) (a b d : Value) : (w.alloc (.cells #[a, b, d] 38)).cell? ⟨w.heap.size, 0, none⟩ = some a ∧ (w.alloc (.cells #[a, b, d] 38)).cell? ⟨w.heap.size, 1, none⟩ = some b ∧ (w.alloc (.cells #[a, b, d] 38)).cell? ⟨w.heap.size, 2, none⟩ = some d := by simp
set_option maxHeartbeats 6400000 in
set_option maxRecDepth 100000 in
theorem planDemands_any (A : Option Addr) (q c : Nat) (ds : List Dem) (n m : Nat) (w : World) (h : RdF 3 w A q c (flatD ds)) (ha : areB ds = true) (hn : 1 ≤ n ∧ n ≤ 8) (hm : 1 ≤ m ∧ m ≤ 16) :
    Calls Try.prog 17 #[.slice A q c, .int .i64 (n : Int), .int .i64 (m : Int)] w (PlanOut ds n m w) := by
  have hl : ds.length = q := by have := h.len; rw [flatD_len] at this; omega
  have hq := are_len ha
  have hcap := h.cap
  go_enter Try.func17, Try.ntmps17
  go_wp2_with (go_at_call 29; refine (emptyTable_any n m _ hn.2 hm).mono ?_; rintro x w1 ⟨hs, A1, c1, rfl, T1, b1⟩)
  have hbase := hide (fun p hp => (T1.base p hp).1)
  go_loopw [9, 20] (fun s i wr => ∃ (k : Nat) (T : Nat → Nat → Int) (bs : List Int) (A2 : Option Addr) (c2 : Nat), k ≤ q ∧ i = .int .i64 k ∧ s = .slice A2 k c2 ∧ Hid (planK ds n m k = some (T, bs)) ∧ TabH wr w.heap.size hs A1 n c1 m T ∧ OwnF 31 2 wr w.heap.size A2 k c2 bs ∧ Below w.heap.size w wr) (fun _ i _ => q - (intOf i).toNat)
  case atStart => exact ⟨0, T0, [], _, _, by omega, rfl, rfl, hide rfl, T1.below ((Below.refl _ _).alloc (Nat.le_refl _) _), OwnF.empty w1 b1.size, b1.alloc b1.size _⟩
  case round =>
    obtain ⟨k, T, bs, A2, c2, hk, rfl, rfl, hpl, htab, hown, hbel⟩ := hrel
    have hsz := hbel.size
    by_cases hlt : k < q
    · obtain ⟨b, off, rfl, hbb, hc⟩ := h.at_ (by omega)
      obtain ⟨d0, d1, d2⟩ := dem_cells hc hl hbel hbb hlt
      obtain ⟨e1, e2, e3, e4⟩ := ev_nat ha (k := k) (by omega)
      rw [e1] at d1
      obtain ⟨e, he⟩ : ∃ e, e = evN ds k := ⟨_, rfl⟩
      rw [← he] at d1 e2 e3
      have HE := hide he
      obtain ⟨nd, hnd⟩ : ∃ x, x = (dem ds k).nd := ⟨_, rfl⟩
      obtain ⟨sz, hsz'⟩ : ∃ x, x = (dem ds k).sz := ⟨_, rfl⟩
      rw [← hnd] at d0
      rw [← hsz'] at d2
      clear hc e1 e4 he hnd hsz'
      obtain ⟨z, hz⟩ : ∃ z, z = m * e := ⟨_, rfl⟩
      have hz128 : z ≤ 128 := by have := Nat.mul_le_mul hm.2 e3; omega
      have hme : (m : Int) * (e : Int) = (z : Int) := by rw [hz]; simp
      have hb1 : (0 : Int) ≤ (m : Int) * (e : Int) := by omega
      have hb2 : (m : Int) * (e : Int) ≤ 128 := by omega
      have HZ := hide hz
      have HM := hide hme
      clear hz hme
      go_wp2
      rw [HM.out]
      obtain ⟨wo, rfl⟩ : ∃ wo, wo = wr := ⟨_, rfl⟩
      obtain ⟨W1, hW1⟩ : ∃ W1, wo.alloc (.cells #[.int .i64 nd, .int .i64 (e : Int), .int .i64 sz] 38) = W1 := ⟨_, rfl⟩
      have bW : Below wo.heap.size wo W1 := by rw [← hW1]; exact (Below.refl _ _).alloc (Nat.le_refl _) _
      have dc := DemAt.cells wo (.int .i64 nd) (.int .i64 (e : Int)) (.int .i64 sz)
      have hwz : W1.heap.size = wo.heap.size + 1 := by rw [← hW1]; simp
      rw [hW1] at dc ⊢
      have DC := hide dc
      have TW := hide (htab.below bW)
      have OW := hide (hown.below bW)
      have BW := hide (below_trans hbel bW)
      have HNW := hide (fun p hp => (htab.base p hp).2)
      clear dc bW hW1 htab hown hbel d0 d1 d2 hb1 hb2
      go_loopw [9, 29] (fun s i wr => ∃ i' : Nat, i' ≤ z ∧ i = .int .i64 i' ∧ s = .slice A2 k c2 ∧ Hid (∀ j, j < i' → fitN T n e (j / e) (j % e) = false) ∧ TabH wr w.heap.size hs A1 n c1 m T ∧ Hid (Tk W1 wr hs)) (fun _ i _ => z - (intOf i).toNat)
      case atStart => exact ⟨0, by omega, rfl, rfl, hide (fun j hj => absurd hj (by omega)), TW.out, hide (Tk.refl _ _)⟩
      case round =>
        obtain ⟨i, hiz, rfl, rfl, hall, htab, hkk⟩ := hrel
        have HB := hide (hkk.out.below BW.out hbase.out)
        have HO := hide (OW.out.keepT (by decide) TW.out hkk.out)
        have hzr : wo.heap.size < wr.heap.size := by have := hkk.out.size; omega
        by_cases hlti : i < z
        · have d0 := (hkk.out.cell (b := wo.heap.size) (by omega) (fun p hp e => by have := HNW.out p hp; omega) 0).trans DC.out.1
          have d1 := (hkk.out.cell (b := wo.heap.size) (by omega) (fun p hp e => by have := HNW.out p hp; omega) 1).trans DC.out.2.1
          have d2 := (hkk.out.cell (b := wo.heap.size) (by omega) (fun p hp e => by have := HNW.out p hp; omega) 2).trans DC.out.2.2
          obtain ⟨u, hu⟩ : ∃ u, u = i / e := ⟨_, rfl⟩
          obtain ⟨v, hv⟩ : ∃ v, v = i % e := ⟨_, rfl⟩
          have hi1 : u < m := by rw [hu]; exact Nat.div_lt_of_lt_mul (by rw [Nat.mul_comm, ← HZ.out]; exact hlti)
          have hi2 : v < e := by rw [hv]; exact Nat.mod_lt _ (by omega)
          have qu : (i : Int) / (e : Int) = (u : Int) := by rw [hu]; rfl
          have qv : (i : Int) % (e : Int) = (v : Int) := by rw [hv]; rfl
          have QU := hide qu
          have QV := hide qv
          have UV := hide (And.intro hu hv)
          have q1 : (0 : Int) ≤ (i : Int) / (e : Int) := by omega
          have q2 : (i : Int) / (e : Int) ≤ 128 := by omega
          clear qu qv hu hv
          go_wp2
          go_region
          all_goals
            go_wp2_with fail
            rw [QU.out, QV.out]
            clear q1 q2
            have ba := (Below.refl wr.heap.size wr).alloc (Nat.le_refl _) (.cells #[.int .i64 (u : Int), .int .i64 (v : Int)] 31)
            have K0 := BkAt.fresh wr (.int .i64 (u : Int)) (.int .i64 (v : Int))
            obtain ⟨W2, hW2⟩ : ∃ W2, (wr.alloc (.cells #[.int .i64 (u : Int), .int .i64 (v : Int)] 31)).drew = W2 := ⟨_, rfl⟩
            have ba2 : Below wr.heap.size wr W2 := by rw [← hW2]; exact below_drewN ba 1
            have K2 : BkAt W2 wr.heap.size (.int .i64 (u : Int)) (.int .i64 (v : Int)) := by rw [← hW2]; exact K0
            rw [hW2]
            have T2 := hide (htab.below ba2)
            have KK2 := hide (hkk.out.trans (Tk.of_below (hs := hs) ba2))
            have O2 := hide (HO.out.below ba2)
            have B2 := hide (below_trans HB.out ba2)
            have KB := hide K2
            have HN2 := hide (fun p hp => (htab.base p hp).2)
            clear ba K0 hW2 ba2 K2 htab hkk HB HO d0 d1 d2
            cases hf : fitN T n e u v
            · refine (book_any w.heap.size hs A1 n c1 m T W2 T2.out nd sz e u v k ⟨e2, e3⟩ hn hm.2 hi1 hi2 (by omega)).mono ?_
              rintro x w3 ⟨rfl, T3, k3⟩
              rw [bookT_no k hf] at T3
              rw [hf]
              have hall2 : Hid (∀ j, j < i + 1 → fitN T n e (j / e) (j % e) = false) := hide (fun j hj => by
                by_cases ej : j = i
                · rw [ej, ← UV.out.1, ← UV.out.2]; exact hf
                · exact hall.out j (by omega))
              have KK3 := hide (KK2.out.trans k3)
              go_wp2_with fail
              go_roundw
              case rel => exact ⟨i + 1, by omega, by go_num, rfl, hall2, T3, KK3⟩
              case measure => simp [intOf]; omega
            · have hpl2 := hide (planK_good hpl.out (by rw [← HE.out]; exact first_some (i := i) (by rw [← HZ.out]; exact hlti) (by rw [← UV.out.1, ← UV.out.2]; exact hf) hall.out))
              rw [← HE.out, ← UV.out.1, ← UV.out.2] at hpl2
              refine (book_any w.heap.size hs A1 n c1 m T W2 T2.out nd sz e u v k ⟨e2, e3⟩ hn hm.2 hi1 hi2 (by omega)).mono ?_
              rintro x w3 ⟨rfl, T3, k3⟩
              rw [bookT_yes k hf] at T3
              rw [hf]
              have O3 := O2.out.keepT (by decide) T2.out k3
              have B3 := k3.below B2.out hbase.out
              have hz3 : w.heap.size ≤ w3.heap.size := B3.size
              have k5 := (k3.cell KB.out.lt (fun p hp e => by have := HN2.out p hp; omega) 0).trans (KB.out.cell 0)
              have k6 := (k3.cell KB.out.lt (fun p hp e => by have := HN2.out p hp; omega) 1).trans (KB.out.cell 1)
              have k7 : w3.cell? ⟨wr.heap.size, 0, none⟩ = some (.int .i64 (u : Int)) := k5
              have k8 : w3.cell? ⟨wr.heap.size, 1, none⟩ = some (.int .i64 (v : Int)) := k6
              have IY := hide (I64.append (a := [(u : Int)]) (b := [(v : Int)]) (I64.one (by omega) (by omega)) (I64.one (by omega) (by omega)))
              have tk : ((k + 1 : Nat) == k) = false := by simp
              clear k3 k5 k6
              go_wp2_with (at_builtin; refine append_bk rfl _ _ rfl w.heap.size rfl O3 (u : Int) (v : Int) IY.out rfl (by omega) hz3 ?_; intro A4 c4 w4 O4 g4)
              have T4 := T3.keepF O3 (by decide) (by decide) g4
              have B4 := B3.grown g4 hz3 (fun j hj => (O3.1.lt j hj).1)
              go_roundw
              case rel => exact ⟨k + 1, _, _, A4, c4, by omega, by go_num, rfl, hpl2, T4, O4, B4⟩
              case measure => simp [intOf]; omega
        · obtain rfl : i = z := by omega
          have hfin := hide (plan_none (planK_bad hpl.out (by rw [← HE.out]; exact first_none (by rw [← HZ.out]; exact hall.out))) (by omega))
          go_wp2
          go_ret2
          exact ⟨none, 0, 0, ret_bt hfin.out.1.symm, by rw [hfin.out.2]; exact OwnF.nil _ _, HB.out⟩
    · obtain rfl : k = q := by omega
      have hfin := hide (plan_some (by rw [hl]; exact hpl.out))
      go_wp2
      go_ret2
      exact ⟨A2, k, c2, ret_bt hfin.out.1.symm, by rw [hfin.out.2]; exact hown, hbel⟩
end Go.Proofs.Ytcbejjkbjompfaa
