/- Words and contracts for laws on drawn schedules: the code, likeness, sums; the cycle time. -/
import Derived.Test.YtdkhldebnpmiiaaGreatDoorZDrawB
import Derived.Test.YtdkhldebnpmiiaaGreatDoorZBkG
import Derived.Test.YtdkhldebnpmiiaaGreatDoorZWorstG
namespace Go.Proofs.YtdkhldebnpmiiaaGreatDoor
open Go.RowKit
set_option linter.unusedVariables false
set_option linter.unusedSimpArgs false
theorem wf_u8_bounds {n : Int} (h : (Lit.int .u8 n).wf = true) : 0 ≤ n ∧ n ≤ 255 := by
  simpa [Lit.wf, IntKind.min, IntKind.max, IntKind.signed, IntKind.bits] using h
theorem rd8_of_isRow {w : World} {a : Option Addr} {len cap : Nat} {zs : List Int} (h : IsRow .u8 w a len cap zs) : Rd8 w a len cap (zs.take len) := by
  rcases h with ⟨rfl, rfl, rfl, rfl⟩ | ⟨x, rfl, hl, hm, hz, hcell, hwz⟩
  · exact ⟨rfl, Nat.le_refl _, by simp [maxLen], fun j => by simp [nth], fun h => absurd h (by omega)⟩
  · refine ⟨by rw [List.length_take]; omega, hl, hm, fun j => ?_, fun hn => ?_⟩
    · by_cases hj : j < (zs.take len).length
      · exact wf_u8_bounds (hwz _ (List.mem_of_mem_take (nth_mem hj)))
      · rw [nth_out (by omega)]; omega
    obtain ⟨b, off, spot⟩ := x
    have hc := hcell 0 (by omega)
    have hspot : spot = none := by simpa [Addr.add] using World.cell?_spot hc
    subst hspot
    refine ⟨b, off, rfl, fun j hj => ?_⟩
    have hcj := hcell j (by omega)
    rw [nth_take zs len j hj]
    rw [show (⟨b, off, none⟩ : Addr).add j = ⟨b, off + j, none⟩ from ?_] at hcj
    · exact hcj
    · unfold Addr.add
      split
      · rename_i h0
        subst h0
        rfl
      · rfl
theorem from_d (A : Option Addr) (n c : Nat) (bs : List Int) (w : World) (h : Rd8 w A n c bs) (hn : n ≤ 4096) :
    Calls Tryz.prog 45 #[.slice A n c] w fun e w' => ∃ g, e = .returned (.pointer (some ⟨g, 0, none⟩)) ∧ w.heap.size ≤ g ∧ Sd w' g A n c bs ∧ Below w.heap.size w w' :=
  (l01From_any A n c bs w h hn).mono fun _ _ ⟨g, he, hg, hs, hb⟩ => ⟨g, he, hg, ⟨h.below hb, hs⟩, hb⟩
theorem below_src {w w1 w2 : World} {g : Nat} (h : Below w.heap.size w w1) (hg : w1.grownBy w2 (some g)) (hl : w.heap.size ≤ g) : Below w.heap.size w w2 :=
  h.grown hg h.size (fun k hk => by simp at hk; omega)
theorem likeInts_any (A B : Option Addr) (n m c d : Nat) (xs ys : List Int) (w : World) (hx : Rd w A n c xs) (hy : Rd w B m d ys) :
    Calls Tryz.prog 31 #[.slice A n c, .slice B m d] w fun e w' => e = .returned (.bool (eqB xs ys)) ∧ ∃ k, w' = w.drewN k := by
  have hlx := hx.le
  have hly := hy.le
  have hcx := hx.cap
  have hcy := hy.cap
  by_cases hnm : n = m
  · subst hnm
    have t1 : ((n : Int) != (n : Int)) = false := by simp
    go_enter Tryz.func31, Tryz.ntmps31
    go_wp2
    go_loopw [5] (fun i wr => ∃ k r : Nat, k ≤ n ∧ i = .int .i64 k ∧ wr = w.drewN r ∧ Hid (xs.take k = ys.take k)) (fun i _ => n - (intOf i).toNat)
    case atStart => exact ⟨0, 0, Nat.zero_le _, rfl, rfl, rfl⟩
    case round =>
      obtain ⟨k, r, hk, rfl, rfl, hh⟩ := hrel
      by_cases hlt : k < n
      · obtain ⟨b, off, rfl, hb, hc⟩ := hx.at_ (by omega)
        obtain ⟨b', off', rfl, hb', hc'⟩ := hy.at_ (by omega)
        have hck := hc k hlt
        have hck' := hc' k hlt
        have z1 : (0 : Int) ≤ (k : Int) := by omega
        have z2 : (k : Int) < (n : Int) := by omega
        clear hc hc'
        by_cases he : nth xs k = nth ys k
        · have ht : (nth xs k != nth ys k) = false := by simp [he]
          have hstep : Hid (xs.take (k + 1) = ys.take (k + 1)) := by
            show _ = _
            rw [take_snoc xs k (by omega), take_snoc ys k (by omega), hh.out, he]
          clear he
          go_wp2
          go_quiet (fail)
          go_wp2
          go_roundw
          case rel => exact ⟨k + 1, _, by omega, by go_num, rfl, hstep⟩
          case measure => simp [intOf]; omega
        · have ht : (nth xs k != nth ys k) = true := by simp [he]
          have hfin : Hid (eqB xs ys = false) := eqB_no (fun e => he (by rw [e]))
          clear he
          go_wp2
          go_quiet (fail)
          go_wp2
          go_ret
          exact ⟨ret_bool hfin.out.symm, _, by first | rfl | exact World.drewN_drewN _ _ _⟩
      · obtain rfl : k = n := by omega
        have hfin : Hid (eqB xs ys = true) := by
          have e := hh.out
          rw [List.take_of_length_le (by omega), List.take_of_length_le (by omega)] at e
          exact eqB_yes e
        clear hh
        go_wp2
        go_ret
        exact ⟨ret_bool hfin.out.symm, _, rfl⟩
  · have t1 : ((n : Int) != (m : Int)) = true := by simp; omega
    have hfin : Hid (eqB xs ys = false) := eqB_no (fun e => hnm (by have := congrArg List.length e; omega))
    clear hnm
    go_enter Tryz.func31, Tryz.ntmps31
    go_wp2
    go_ret
    exact ⟨ret_bool hfin.out.symm, 0, rfl⟩
theorem likeInts_b (A B : Option Addr) (n m c d : Nat) (xs ys : List Int) (w : World) (hx : Rd w A n c xs) (hy : Rd w B m d ys) :
    Calls Tryz.prog 31 #[.slice A n c, .slice B m d] w fun e w' => e = .returned (.bool (eqB xs ys)) ∧ Below w.heap.size w w' :=
  (likeInts_any A B n m c d xs ys w hx hy).mono fun _ _ ⟨he, k, hk⟩ => ⟨he, by rw [hk]; exact below_drewN (Below.refl _ _) _⟩
theorem big_any (A : Option Addr) (n c : Nat) (bs : List Int) (w : World) (h : Rd8 w A n c bs) :
    Calls Tryz.prog 13 #[.slice A n c] w fun e w' => e = .returned (.bool (decide (4096 < n))) ∧ w = w' := by
  have hc := h.cap
  go_enter Tryz.func13, Tryz.ntmps13
  by_cases hb : 4096 < n
  · have t : decide (4096 < n) = true := by simpa using hb
    go_wp2
    go_ret
    exact ⟨by simp [go_sem, t]; omega, rfl⟩
  · have t : decide (4096 < n) = false := by simpa using hb
    go_wp2
    go_ret
    exact ⟨by simp [go_sem, t]; omega, rfl⟩
set_option maxHeartbeats 1600000 in
theorem lsum_any (A : Option Addr) (n c : Nat) (zs : List Int) (w : World) (h : Rd w A n c zs) (hn : n ≤ 1000) (hz : ∀ z ∈ zs, -1000000 ≤ z ∧ z ≤ 1000000) :
    Calls Tryz.prog 33 #[.slice A n c] w (fun e w' => e = .returned (.int .i64 zs.sum) ∧ w' = w) := by
  have hlen := hide h.len
  have hcap := h.cap
  have HZ := hide hz
  go_enter Tryz.func33, Tryz.ntmps33
  go_wp2
  go_loop [3, 4] (fun q i => ∃ (k : Nat) (u : Int), k ≤ n ∧ i = .int .i64 k ∧ q = .int .i64 u ∧ Hid (u = (zs.take k).sum) ∧ -1000000 * (k : Int) ≤ u ∧ u ≤ 1000000 * (k : Int)) (fun _ i => n - (intOf i).toNat)
  case atStart => exact ⟨0, 0, by omega, rfl, rfl, hide (by simp), by omega, by omega⟩
  case round =>
    obtain ⟨k, u, hk, rfl, rfl, hu, u0, u1⟩ := hrel
    by_cases hlt : k < n
    · obtain ⟨b, off, rfl, hb, hc⟩ := h.at_ (by omega)
      have ck := hc k hlt
      have hkl : k < zs.length := by rw [hlen.out]; exact hlt
      have hb2 := HZ.out (nth zs k) (nth_mem hkl)
      have NN := hide (show u + nth zs k = (zs.take (k + 1)).sum by
        rw [List.take_add_one, List.getElem?_eq_getElem hkl, ← nth_eq, List.sum_append, hu.out]
        simp)
      obtain ⟨y, hy⟩ : ∃ y, y = nth zs k := ⟨_, rfl⟩
      rw [← hy] at ck hb2 NN
      clear hy hc hz
      go_wp2
      go_round
      case rel => exact ⟨k + 1, u + y, by omega, by go_num, by go_num, NN, by omega, by omega⟩
      case measure => simp [intOf]; omega
    · obtain rfl : k = n := by omega
      have E := hide (show u = zs.sum by rw [hu.out, ← hlen.out, List.take_length])
      go_wp2
      go_ret
      exact ⟨by rw [E.out]; rfl, rfl⟩
set_option maxHeartbeats 1600000 in
theorem hasInt_any (A : Option Addr) (n c : Nat) (zs : List Int) (x : Int) (w : World) (h : Rd w A n c zs) :
    Calls Tryz.prog 34 #[.slice A n c, .int .i64 x] w (fun e w' => e = .returned (.bool (zs.any (fun z => z == x))) ∧ w' = w) := by
  have hlen := hide h.len
  have hcap := h.cap
  go_enter Tryz.func34, Tryz.ntmps34
  go_wp2
  go_loop [5] (fun i => ∃ k : Nat, k ≤ n ∧ i = .int .i64 k ∧ Hid (∀ j, j < k → (nth zs j == x) = false)) (fun i => n - (intOf i).toNat)
  case atStart => exact ⟨0, by omega, rfl, hide (fun j hj => by omega)⟩
  case round =>
    obtain ⟨k, hk, rfl, hall⟩ := hrel
    by_cases hlt : k < n
    · obtain ⟨b, off, rfl, hb, hc⟩ := h.at_ (by omega)
      have ck := hc k hlt
      have hkl := hide (show k < zs.length by rw [hlen.out]; exact hlt)
      clear hc
      cases t : (nth zs k == x)
      · have NN := hide (show ∀ j, j < k + 1 → (nth zs j == x) = false from fun j hj => by
          rcases Nat.lt_succ_iff_lt_or_eq.1 hj with q | q
          · exact hall.out j q
          · subst q; exact t)
        go_wp2
        go_round
        case rel => exact ⟨k + 1, by omega, by go_num, NN⟩
        case measure => simp [intOf]; omega
      · have E := hide (show zs.any (fun z => z == x) = true from List.any_eq_true.2 ⟨_, nth_mem hkl.out, t⟩)
        go_wp2
        go_ret
        exact ⟨by rw [E.out]; rfl, rfl⟩
    · obtain rfl : k = n := by omega
      have E := hide (show zs.any (fun z => z == x) = false from List.any_eq_false.2 (fun z hz => by
        obtain ⟨j, hj, rfl⟩ := List.getElem_of_mem hz
        have := hall.out j (by rw [← hlen.out]; exact hj)
        rw [nth_eq hj] at this
        rw [this]; simp))
      go_wp2
      go_ret
      exact ⟨by rw [E.out]; rfl, rfl⟩
set_option maxHeartbeats 3200000 in
theorem iCycleTime_any (v : Value) (m : Mdl) (mode : Int) (w : World) (h : RdM w v m) :
    Calls Tryz.prog 32 #[v, .int .i64 mode] w (TwoOut (bif mcB m mode == 0 then durs (modeL mode m.ss) else 0) (mcB m mode) w) := by
  have HM := hide h
  obtain ⟨A1, n1, c1, A2, n2, c2, A3, n3, q3, rfl, h1, h2, h3⟩ := h
  have hlen2 := hide h2.len
  have hlen := hide h3.len
  have hcap2 := h2.cap
  have hcap := h3.cap
  obtain ⟨W0, hW0⟩ : ∃ W0, W0 = w.alloc (.cells #[.int .i64 m.id, .slice A1 n1 c1, .slice A2 n2 c2, .slice A3 n3 q3] 28) := ⟨_, rfl⟩
  have F0 : At W0 w.heap.size 28 #[.int .i64 m.id, .slice A1 n1 c1, .slice A2 n2 c2, .slice A3 n3 q3] := by rw [hW0]; exact At.fresh _ _ _
  have BA := hide (show Below w.heap.size w W0 by rw [hW0]; exact (Below.refl _ _).alloc (Nat.le_refl _) _)
  have B0 := hide (Below.refl W0.heap.size W0)
  have H1 := hide (h1.below BA.out)
  have H2 := hide (h2.below BA.out)
  have H3 := hide (h3.below BA.out)
  have HM0 := hide (HM.out.below BA.out)
  have HF := hide F0
  have d0 := F0.cell 0
  have d1 := F0.cell 1
  have d2 := F0.cell 2
  have d3 := F0.cell 3
  simp at d0 d1 d2 d3
  have HW := hide hW0
  clear hW0 F0 h1 h2 h3 HM
  go_enter Tryz.func32, Tryz.ntmps32
  go_wp2_with fail
  rw [← HW.out]
  go_at_call 72
  (with_reducible refine (modeCode_any _ m mode _ HM0.out).mono ?_)
  rintro ee w1 ⟨rfl, b1⟩
  clear d0 d1 d2 d3
  have B1 := hide b1
  have F := HF.out.keep B1.out
  have d0 := F.cell 0
  have d1 := F.cell 1
  have d2 := F.cell 2
  have d3 := F.cell 3
  simp at d0 d1 d2 d3
  clear F b1
  obtain ⟨cz, hcz⟩ : ∃ cz, cz = mcB m mode := ⟨_, rfl⟩
  rw [← hcz]
  have HCZ := hide hcz
  by_cases hc0 : cz = 0
  · subst hc0
    have hst := (mdB_iff.1 (mcB_zero HCZ.out.symm).1).2.2.2.1
    have HDu := hide (durs_of hst)
    have HLn := hide (len_of hst)
    clear hcz hst
    go_wp2_with fail
    go_at_call 50
    (with_reducible refine (cycleTime_any _ m mode _ (HM0.out.below B1.out) HLn.out HDu.out).mono ?_)
    rintro ee w2 ⟨rfl, b2⟩
    have B2 := hide (below_trans B1.out b2)
    clear b2 d0 d1 d2 d3
    go_wp2
    go_ret2
    exact ⟨ret_pair (by rw [← HCZ.out]; rfl) HCZ.out, below_trans BA.out B2.out⟩
  · have t1 : (cz == 0) = false := by simpa using hc0
    have HT1 := hide t1
    clear hcz hc0
    go_wp2
    go_ret2
    exact ⟨ret_pair (by rw [← HCZ.out, HT1.out]; rfl) HCZ.out, below_trans BA.out B1.out⟩
end Go.Proofs.YtdkhldebnpmiiaaGreatDoor
