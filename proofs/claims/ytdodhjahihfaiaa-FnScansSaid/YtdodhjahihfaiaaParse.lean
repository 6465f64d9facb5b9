/- Contracts: a line is read by the reference. -/
import Derived.Test.YtdodhjahihfaiaaRead
import Derived.Test.YtdodhjahihfaiaaCells
namespace Go.Proofs.Ytdodhjahihfaiaa
open Go.RowKit
set_option linter.unusedVariables false
set_option linter.unusedSimpArgs false

set_option maxHeartbeats 6400000 in
set_option maxRecDepth 100000 in
theorem l18Parse_any (A : Option Addr) (n c : Nat) (zs : List Int) (w : World) (h : Rd w A n c zs) (hn : n ≤ 8192) (hb : allB 0 1 zs = true) :
    Calls Try.prog 111 #[.slice A n c] w fun e w' => ∃ A' m c', e = .returned (.tuple #[.int .i64 (rlA zs), .int .i64 (rlP zs), .slice A' m c', .bool (lineB zs)]) ∧ Own w' w.heap.size A' m c' (rlD zs) ∧ Below w.heap.size w w' ∧ m ≤ 1048576 := by
  have hlen := h.le
  have hcap := h.cap
  have hbd := line_bounds (zs := zs)
  have sw : (lineS zs : Int) = (lineA zs : Int) + (lineP zs : Int) + 1 := by
    have : lineS zs = lineA zs + lineP zs + 1 := rfl
    omega
  have SW := hide sw
  have HF := hide (line_found zs)
  have HK := hide (lineK_le (zs := zs))
  clear sw
  go_enter Try.func111, Try.ntmps111
  go_wp2_with fail
  refine (l18Run_A _ _ _ zs _ h (by omega)).mono ?_
  rintro e w' ⟨rfl, rfl⟩
  go_wp2_with fail
  refine (l18Run_P _ _ _ zs _ h (by omega)).mono ?_
  rintro e w' ⟨rfl, rfl⟩
  by_cases hp : inB 3 15 (lineP zs : Int) = true
  · have hpb := inB_true hp
    by_cases hS : lineA zs + lineP zs < n
    · have tS : decide ((lineA zs : Int) + (lineP zs : Int) ≥ (n : Int)) = false := by simp; omega
      obtain ⟨b, off, rfl, hbb, hc0⟩ := h.at_ (by omega)
      have HC := hide hc0
      clear hc0
      have sb : lineS zs ≤ n := by have := SW.out; omega
      go_wp2_with (go_at_call 73; refine (l18Preamble_any _ _).mono ?_; rintro e w' ⟨rfl, rfl⟩)
      go_loopw [8, 10] (fun i s wr => ∃ (k q : Nat) (A' : Option Addr) (c' : Nat), i = .int .i64 q ∧ s = .slice A' k c' ∧ q ≤ n ∧ k ≤ 8192 ∧ Hid (q = lineS zs + 10 * k) ∧ Hid (∀ i, i < k → byteAt zs (lineS zs + 10 * i) = true) ∧ Own wr w.heap.size A' k c' (datas zs (lineS zs) k) ∧ Below w.heap.size w wr) (fun i _ _ => n + 10 - (intOf i).toNat)
      case atStart =>
        refine ⟨0, lineS zs, _, _, ?_, rfl, sb, by omega, rfl, fun i hi => by omega, Own.empty w (Nat.le_refl _), (Below.refl _ _).alloc (Nat.le_refl _) _⟩
        rw [SW.out]
      case round =>
        obtain ⟨k, q, A', c', rfl, rfl, hq, hk, hqe, hall, hown, hbel⟩ := hrel
        have hsz := hbel.size
        by_cases hyes : byteAt zs q = true
        · obtain ⟨g1, hA1, hA0⟩ := byteAt_get hyes
          have h10 : q + 10 ≤ n := by omega
          have hc := HC.out
          have hcq := (hbel.cell (p := ⟨b, off + q, none⟩) hbb).trans (hc q (by omega))
          have hcq1 := (hbel.cell (p := ⟨b, off + (q + 1), none⟩) hbb).trans (hc (q + 1) (by omega))
          have t1 : decide ((q : Int) + 10 ≤ (n : Int)) = true := by simp; omega
          have z1 : (0 : Int) ≤ (q : Int) := by omega
          have z2 : (q : Int) < (n : Int) := by omega
          have z3 : (0 : Int) ≤ (q : Int) + 1 := by omega
          have z4 : (q : Int) + 1 < (n : Int) := by omega
          have u1 : (nth zs q == 1) = true := by simpa using hA1
          have u2 : (nth zs (q + 1) == 0) = true := by simpa using hA0
          have hby : Hid (∀ i, i < k + 1 → byteAt zs (lineS zs + 10 * i) = true) := by
            intro i hi
            by_cases e : i = k
            · subst e
              rw [← hqe.out]
              exact hyes
            · exact hall.out i (by omega)
          have hsub := hide (h.below hbel)
          have hst := hide (datas_succ zs (lineS zs) k)
          have hnb := numTo_256 hb (q + 2) (by omega)
          clear hA1 hA0 hc hyes g1
          go_wp2_with fail
          refine (l01Number_any _ _ _ zs _ (q + 2) _ (by omega) hsub.out hb (by omega) (by omega)).mono ?_
          rintro e w' ⟨rfl, rfl⟩
          have hq2 : Hid (numTo zs (q + 2) 8 = numTo zs (lineS zs + 10 * k + 2) 8) := by
            show _ = _
            rw [hqe.out]
          generalize numTo zs (q + 2) 8 = x at hnb hq2 ⊢
          have hk9 : k ≤ 900 := by have := hqe.out; omega
          go_wp2_with (at_builtin; refine append_new rfl _ _ rfl w.heap.size rfl hown _ [x] 1 rfl (I64.one (by omega) (by omega)) rfl rfl (by omega) hsz ?_; intro A2 c2 w2 own2 gr2)
          have hb2 := below_own hbel hsz hown (Nat.le_refl _) gr2
          rw [hq2.out, ← hst.out] at own2
          go_roundw
          case rel => exact ⟨k + 1, q + 10, A2, c2, by go_num, rfl, by omega, by omega, by have := hqe.out; show _ = _; omega, hby, own2, hb2⟩
          case measure => simp [intOf]; omega
        · rw [Bool.not_eq_true] at hyes
          have hkk : k = lineK zs := by
            have g : Found zs (lineS zs) k := ⟨hall.out, by rw [← hqe.out]; exact hyes⟩
            exact g.unique HF.out
          have hqE : q = lineE zs := by rw [hqe.out, hkk]; rfl
          have key : n < q + 10 ∨ (q + 10 ≤ n ∧ nth zs q ≠ 1) ∨ (q + 10 ≤ n ∧ nth zs q = 1 ∧ nth zs (q + 1) ≠ 0) := by
            by_cases k1 : q + 10 ≤ n
            · by_cases k2 : nth zs q = 1
              · by_cases k3 : nth zs (q + 1) = 0
                · rw [byteAt_yes (by omega) k2 k3] at hyes
                  cases hyes
                · exact .inr (.inr ⟨k1, k2, k3⟩)
              · exact .inr (.inl ⟨k1, k2⟩)
            · exact .inl (by omega)
          have own0 : Own wr w.heap.size A' k c' (lineD zs) := by
            have : lineD zs = datas zs (lineS zs) (lineK zs) := rfl
            rw [this, ← hkk]; exact hown
          have HB := hide (show lineB zs = decide (3 ≤ lineP zs ∧ lineP zs ≤ 15 ∧ lineS zs ≤ zs.length ∧ q + 2 ≤ zs.length ∧ nth zs q = 0 ∧ runAt zs (q + 1) 1 = zs.length - q - 1) by rw [hqE]; rfl)
          have hcq := fun (hqn : q < n) => (hbel.cell (p := ⟨b, off + q, none⟩) hbb).trans (HC.out q hqn)
          have HCQ := hide hcq
          have HBEL := hide (h.below hbel)
          clear hkk hown hyes hall hqE hcq
          have last : (n < q + 2 ∧ Hid (lineB zs = false)) ∨ (q + 2 ≤ n ∧ nth zs q ≠ 0 ∧ Hid (lineB zs = false)) ∨ (q + 2 ≤ n ∧ nth zs q = 0 ∧ (runAt zs (q + 1) 1 : Int) ≠ (n : Int) - (q : Int) - 1 ∧ Hid (lineB zs = false)) ∨ (q + 2 ≤ n ∧ nth zs q = 0 ∧ (runAt zs (q + 1) 1 : Int) = (n : Int) - (q : Int) - 1 ∧ Hid (lineB zs = true)) := by
            by_cases k1 : q + 2 ≤ n
            · by_cases k2 : nth zs q = 0
              · by_cases k3 : (runAt zs (q + 1) 1 : Int) = (n : Int) - (q : Int) - 1
                · exact .inr (.inr (.inr ⟨k1, k2, k3, show _ = _ by rw [HB.out]; exact decide_eq_true ⟨by omega, by omega, by omega, by omega, k2, by omega⟩⟩))
                · exact .inr (.inr (.inl ⟨k1, k2, k3, show _ = _ by rw [HB.out]; exact decide_eq_false fun g => k3 (by have := g.2.2.2.2.2; omega)⟩))
              · exact .inr (.inl ⟨k1, k2, show _ = _ by rw [HB.out]; exact decide_eq_false fun g => k2 g.2.2.2.2.1⟩)
            · exact .inl ⟨by omega, show _ = _ by rw [HB.out]; exact decide_eq_false fun g => k1 (by have := g.2.2.2.1; omega)⟩
          have key2 : (n < q + 10 ∧ Hid (q < n → nth zs q = nth zs q)) ∨ (q + 10 ≤ n ∧ Hid (nth zs q ≠ 1)) ∨ (q + 10 ≤ n ∧ Hid (nth zs q = 1) ∧ Hid (nth zs (q + 1) ≠ 0)) := by
            rcases key with a | ⟨a, b⟩ | ⟨a, b, c⟩
            · exact .inl ⟨a, fun _ => rfl⟩
            · exact .inr (.inl ⟨a, b⟩)
            · exact .inr (.inr ⟨a, b, c⟩)
          clear key HB
          rcases last with ⟨l1, LB⟩ | ⟨l1, l2, LB⟩ | ⟨l1, l2, l3, LB⟩ | ⟨l1, l2, l3, LB⟩
          · -- too short
            rcases key2 with ⟨kA, _⟩ | ⟨kB, _⟩ | ⟨kC, _, _⟩
            · have t1 : decide ((q : Int) + 10 ≤ (n : Int)) = false := by simp; omega
              have t2 : decide ((q : Int) + 2 > (n : Int)) = true := by simp; omega
              have e1 := hide (rl_no LB.out)
              go_wp2_with fail
              refine bodyPost_ret (results_tmp4 rfl _ _ _) rfl ?_
              refine ⟨none, 0, 0, ?_, by rw [e1.out.2.2]; exact Own.nil _ _, hbel, by omega⟩
              rw [e1.out.1, e1.out.2.1, LB.out]
              rfl
            · omega
            · omega
          · have hcq := HCQ.out (by omega)
            have t2 : decide ((q : Int) + 2 > (n : Int)) = false := by simp; omega
            have z1 : (0 : Int) ≤ (q : Int) := by omega
            have z2 : (q : Int) < (n : Int) := by omega
            have z3 : (0 : Int) ≤ (q : Int) + 1 := by omega
            have z4 : (q : Int) + 1 < (n : Int) := by omega
            have v1 : (nth zs q != 0) = true := by simpa using l2
            have e1 := hide (rl_no LB.out)
            have hcq1 := (hbel.cell (p := ⟨b, off + (q + 1), none⟩) hbb).trans (HC.out (q + 1) (by omega))
            clear l2
            rcases key2 with ⟨kA, _⟩ | ⟨kB, k2⟩ | ⟨kC, k2, k3⟩
            · have t1 : decide ((q : Int) + 10 ≤ (n : Int)) = false := by simp; omega
              clear hcq1
              go_wp2_with fail
              refine bodyPost_ret (results_tmp4 rfl _ _ _) rfl ?_
              refine ⟨none, 0, 0, ?_, by rw [e1.out.2.2]; exact Own.nil _ _, hbel, by omega⟩
              rw [e1.out.1, e1.out.2.1, LB.out]
              rfl
            · have t1 : decide ((q : Int) + 10 ≤ (n : Int)) = true := by simp; omega
              have u1 : (nth zs q == 1) = false := by simpa using k2.out
              clear hcq1
              go_wp2_with fail
              refine bodyPost_ret (results_tmp4 rfl _ _ _) rfl ?_
              refine ⟨none, 0, 0, ?_, by rw [e1.out.2.2]; exact Own.nil _ _, hbel, by omega⟩
              rw [e1.out.1, e1.out.2.1, LB.out]
              rfl
            · have t1 : decide ((q : Int) + 10 ≤ (n : Int)) = true := by simp; omega
              have u1 : (nth zs q == 1) = true := by simpa using k2.out
              have u2 : (nth zs (q + 1) == 0) = false := by simpa using k3.out
              go_wp2_with fail
              refine bodyPost_ret (results_tmp4 rfl _ _ _) rfl ?_
              refine ⟨none, 0, 0, ?_, by rw [e1.out.2.2]; exact Own.nil _ _, hbel, by omega⟩
              rw [e1.out.1, e1.out.2.1, LB.out]
              rfl
          · have hcq := HCQ.out (by omega)
            have t2 : decide ((q : Int) + 2 > (n : Int)) = false := by simp; omega
            have z1 : (0 : Int) ≤ (q : Int) := by omega
            have z2 : (q : Int) < (n : Int) := by omega
            have v1 : (nth zs q != 0) = false := by simpa using l2
            have e1 := hide (rl_no LB.out)
            have v3 : ((runAt zs (q + 1) 1 : Int) != (n : Int) - (q : Int) - 1) = true := by simpa using l3
            have hru := runAt_le zs (q + 1) 1
            rcases key2 with ⟨kA, _⟩ | ⟨kB, k2⟩ | ⟨kC, k2, k3⟩
            · have t1 : decide ((q : Int) + 10 ≤ (n : Int)) = false := by simp; omega
              clear l2 l3
              go_wp2_with fail
              refine (l18Run_any _ _ _ zs _ (q + 1) 1 _ (by omega) HBEL.out (by omega) (by omega)).mono ?_
              rintro e w' ⟨rfl, rfl⟩
              go_wp2_with fail
              refine bodyPost_ret (results_tmp4 rfl _ _ _) rfl ?_
              refine ⟨none, 0, 0, ?_, by rw [e1.out.2.2]; exact Own.nil _ _, hbel, by omega⟩
              rw [e1.out.1, e1.out.2.1, LB.out]
              rfl
            · have t1 : decide ((q : Int) + 10 ≤ (n : Int)) = true := by simp; omega
              have u1 : (nth zs q == 1) = false := by simpa using k2.out
              clear l2 l3
              go_wp2_with fail
              refine (l18Run_any _ _ _ zs _ (q + 1) 1 _ (by omega) HBEL.out (by omega) (by omega)).mono ?_
              rintro e w' ⟨rfl, rfl⟩
              go_wp2_with fail
              refine bodyPost_ret (results_tmp4 rfl _ _ _) rfl ?_
              refine ⟨none, 0, 0, ?_, by rw [e1.out.2.2]; exact Own.nil _ _, hbel, by omega⟩
              rw [e1.out.1, e1.out.2.1, LB.out]
              rfl
            · exact absurd (k2.out.symm.trans l2) (by decide)
          · have hcq := HCQ.out (by omega)
            have t2 : decide ((q : Int) + 2 > (n : Int)) = false := by simp; omega
            have z1 : (0 : Int) ≤ (q : Int) := by omega
            have z2 : (q : Int) < (n : Int) := by omega
            have v1 : (nth zs q != 0) = false := by simpa using l2
            have e1 := hide (rl_yes LB.out)
            have v3 : ((runAt zs (q + 1) 1 : Int) != (n : Int) - (q : Int) - 1) = false := by simpa using l3
            have hru := runAt_le zs (q + 1) 1
            rcases key2 with ⟨kA, _⟩ | ⟨kB, k2⟩ | ⟨kC, k2, k3⟩
            · have t1 : decide ((q : Int) + 10 ≤ (n : Int)) = false := by simp; omega
              clear l2 l3
              go_wp2_with fail
              refine (l18Run_any _ _ _ zs _ (q + 1) 1 _ (by omega) HBEL.out (by omega) (by omega)).mono ?_
              rintro e w' ⟨rfl, rfl⟩
              go_wp2_with fail
              refine bodyPost_ret (results_tmp4 rfl _ _ _) rfl ?_
              refine ⟨A', k, c', ?_, by rw [e1.out.2.2]; exact own0, hbel, by omega⟩
              rw [e1.out.1, e1.out.2.1, LB.out]
              rfl
            · have t1 : decide ((q : Int) + 10 ≤ (n : Int)) = true := by simp; omega
              have u1 : (nth zs q == 1) = false := by simpa using k2.out
              clear l2 l3
              go_wp2_with fail
              refine (l18Run_any _ _ _ zs _ (q + 1) 1 _ (by omega) HBEL.out (by omega) (by omega)).mono ?_
              rintro e w' ⟨rfl, rfl⟩
              go_wp2_with fail
              refine bodyPost_ret (results_tmp4 rfl _ _ _) rfl ?_
              refine ⟨A', k, c', ?_, by rw [e1.out.2.2]; exact own0, hbel, by omega⟩
              rw [e1.out.1, e1.out.2.1, LB.out]
              rfl
            · exact absurd (k2.out.symm.trans l2) (by decide)
    · have tS : decide ((lineA zs : Int) + (lineP zs : Int) ≥ (n : Int)) = true := by simp; omega
      have hB : Hid (lineB zs = false) := decide_eq_false fun g => by
        have h1 := g.2.2.1
        have h2 : lineS zs = lineA zs + lineP zs + 1 := rfl
        omega
      have e1 := hide (rl_no hB.out)
      go_wp2_with (go_at_call 73; refine (l18Preamble_any _ _).mono ?_; rintro e w' ⟨rfl, rfl⟩)
      refine bodyPost_ret (results_tmp4 rfl _ _ _) rfl ?_
      refine ⟨none, 0, 0, ?_, by rw [e1.out.2.2]; exact Own.nil _ _, Below.refl _ _, by omega⟩
      rw [e1.out.1, e1.out.2.1, hB.out]
      rfl
  · rw [Bool.not_eq_true] at hp
    have hB : Hid (lineB zs = false) := lineB_range (fun hh => by
      have := inB_yes (lo := 3) (hi := 15) (x := (lineP zs : Int)) (by omega) (by omega)
      rw [this] at hp; cases hp)
    have e1 := hide (rl_no hB.out)
    go_wp2_with (go_at_call 73; refine (l18Preamble_any _ _).mono ?_; rintro e w' ⟨rfl, rfl⟩)
    refine bodyPost_ret (results_tmp4 rfl _ _ _) rfl ?_
    refine ⟨none, 0, 0, ?_, by rw [e1.out.2.2]; exact Own.nil _ _, Below.refl _ _, by omega⟩
    rw [e1.out.1, e1.out.2.1, hB.out]
    rfl
end Go.Proofs.Ytdodhjahihfaiaa
