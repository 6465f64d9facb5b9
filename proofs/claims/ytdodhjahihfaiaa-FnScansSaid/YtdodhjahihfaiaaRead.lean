/- Contracts: a line is read, by the program and by the reference. -/
import Derived.Test.YtdodhjahihfaiaaLine
import Derived.Test.YtdodhjahihfaiaaCopy
namespace Go.Proofs.Ytdodhjahihfaiaa
open Go.RowKit
set_option linter.unusedVariables false
set_option linter.unusedSimpArgs false

/-- what comes out of reading a line -/
def rlA (zs : List Int) : Int := if lineB zs then (lineA zs : Int) else 0
def rlP (zs : List Int) : Int := if lineB zs then (lineP zs : Int) else 0
def rlD (zs : List Int) : List Int := if lineB zs then lineD zs else []
theorem rl_yes {zs : List Int} (h : lineB zs = true) : rlA zs = lineA zs ∧ rlP zs = lineP zs ∧ rlD zs = lineD zs := by simp [rlA, rlP, rlD, h]
theorem rl_no {zs : List Int} (h : lineB zs = false) : rlA zs = 0 ∧ rlP zs = 0 ∧ rlD zs = [] := by simp [rlA, rlP, rlD, h]
theorem rlD_len (zs : List Int) : 10 * (rlD zs).length ≤ zs.length := by
  rw [rlD]
  split
  · rename_i h
    obtain ⟨_, _, _, h4, _, _⟩ := of_decide_eq_true h
    unfold lineE at h4
    rw [lineD, datas_len]
    omega
  · simp
theorem Rd.empty0 (w : World) (A : Option Addr) (c : Nat) (hc : c ≤ maxLen) (h0 : A = none → c = 0) : Rd w A 0 c [] := ⟨rfl, Nat.zero_le _, hc, ⟨I64.nil, h0⟩, fun h => absurd h (by omega)⟩
theorem Rd.upto {w : World} {A : Option Addr} {n c : Nat} {zs : List Int} (h : Rd w A n c zs) (k : Nat) (hk : k ≤ n) : Rd w A k c (zs.take k) := by
  have hl := h.len
  refine ⟨by simp; omega, by have := h.cap; omega, h.2.2.1, ⟨fun z hz => h.i64 z (List.mem_of_mem_take hz), h.none0⟩, fun hn => ?_⟩
  obtain ⟨b, off, hA, _, hc⟩ := h.at_ (by omega)
  exact ⟨b, off, hA, fun j hj => by rw [nth_take _ _ _ hj]; exact hc j (by omega)⟩
theorem line_bounds {zs : List Int} : lineA zs + lineP zs ≤ zs.length := by
  have h1 := runAt_le zs 0 1
  have h2 := runAt_le zs (lineA zs) 0
  unfold lineP lineA at *
  omega
theorem lineK_le {zs : List Int} : lineS zs + 10 * lineK zs ≤ zs.length ∨ lineK zs = 0 := by
  by_cases h : lineK zs = 0
  · exact .inr h
  · have := (byteAt_get ((line_found zs).1 (lineK zs - 1) (by omega))).1
    omega
theorem lineD_bytes {zs : List Int} (hb : allB 0 1 zs = true) : allB 0 255 (lineD zs) = true := datas_bytes hb (line_found zs).1
theorem lineB_range {zs : List Int} (h : ¬ (3 ≤ lineP zs ∧ lineP zs ≤ 15)) : lineB zs = false := decide_eq_false fun g => h ⟨g.1, g.2.1⟩

theorem num_sub {zs : List Int} {q : Nat} : numTo ((zs.take (q + 10)).drop (q + 2)) 0 8 = numTo zs (q + 2) 8 :=
  numTo_shift 8 fun j hj => by rw [nth_drop, nth_take _ _ _ (by omega), Nat.zero_add]
theorem bits_sub {zs : List Int} (hb : allB 0 1 zs = true) (i j : Nat) : allB 0 1 ((zs.take j).drop i) = true := by
  rw [allB, List.all_eq_true] at hb ⊢
  exact fun x hx => hb x (List.mem_of_mem_take (List.mem_of_mem_drop hx))
theorem bits_drop {zs : List Int} (hb : allB 0 1 zs = true) (i : Nat) : allB 0 1 (zs.drop i) = true := by
  rw [allB, List.all_eq_true] at hb ⊢
  exact fun x hx => hb x (List.mem_of_mem_drop hx)
theorem Rd.from {w : World} {b off n c : Nat} {zs : List Int} (h : Rd w (some ⟨b, off, none⟩) n c zs) (k : Nat) (hk : k ≤ n) : Rd w (some ⟨b, off + k, none⟩) (n - k) (c - k) (zs.drop k) := by
  have := h.sub k n hk (Nat.le_refl _)
  rwa [List.take_of_length_le (by have := h.le; omega)] at this
theorem runOf_A (A : Option Addr) (n c : Nat) (zs : List Int) (w : World) (h : Rd w A n c zs) (hn : n ≤ 1048576) :
    Calls Try.prog 112 #[.slice A n c, .int .i64 0, .int .i64 1] w fun e w' => e = .returned (.int .i64 (lineA zs : Nat)) ∧ w = w' := runOf_any A n c zs 0 1 w h (Nat.zero_le _) hn
theorem runOf_P (A : Option Addr) (n c : Nat) (zs : List Int) (w : World) (h : Rd w A n c zs) (hn : n ≤ 1048576) :
    Calls Try.prog 112 #[.slice A n c, .int .i64 (lineA zs : Nat), .int .i64 0] w fun e w' => e = .returned (.int .i64 (lineP zs : Nat)) ∧ w = w' := runOf_any A n c zs (lineA zs) 0 w h (by have := line_bounds (zs := zs); have := h.le; omega) hn
theorem l18Run_A (A : Option Addr) (n c : Nat) (zs : List Int) (w : World) (h : Rd w A n c zs) (hn : n ≤ 1048576) :
    Calls Try.prog 121 #[.slice A n c, .int .i64 0, .int .i64 1] w fun e w' => e = .returned (.int .i64 (lineA zs : Nat)) ∧ w = w' := l18Run_any A n c zs 0 0 1 w rfl h (Nat.zero_le _) hn
theorem l18Run_P (A : Option Addr) (n c : Nat) (zs : List Int) (w : World) (h : Rd w A n c zs) (hn : n ≤ 1048576) :
    Calls Try.prog 121 #[.slice A n c, .int .i64 (lineA zs : Nat), .int .i64 0] w fun e w' => e = .returned (.int .i64 (lineP zs : Nat)) ∧ w = w' := l18Run_any A n c zs (lineA zs : Nat) (lineA zs) 0 w rfl h (by have := line_bounds (zs := zs); have := h.le; omega) hn
set_option maxHeartbeats 6400000 in
set_option maxRecDepth 100000 in
theorem readLine_any (A : Option Addr) (n c : Nat) (zs : List Int) (w : World) (h : Rd w A n c zs) (hn : n ≤ 8192) (hb : allB 0 1 zs = true) :
    Calls Try.prog 90 #[.slice A n c] w fun e w' => ∃ A' m c', e = .returned (.tuple #[.slice A' m c', .int .i64 (rlA zs), .int .i64 (rlP zs), .bool (lineB zs)]) ∧ Own w' w.heap.size A' m c' (rlD zs) ∧ Below w.heap.size w w' ∧ m ≤ 1048576 := by
  have hlen := h.le
  have hcap := h.cap
  have hbd := line_bounds (zs := zs)
  have sw : (lineS zs : Int) = (lineA zs : Int) + (lineP zs : Int) + 1 := by
    have : lineS zs = lineA zs + lineP zs + 1 := rfl
    omega
  have SW := hide sw
  have HF := hide (line_found zs)
  have HK := hide (lineK_le (zs := zs))
  have HDB := hide (lineD_bytes hb)
  have sb : lineS zs ≤ n + 1 := by omega
  clear sw
  go_enter Try.func90, Try.ntmps90
  go_wp2_with fail
  refine (runOf_A _ _ _ zs _ h (by omega)).mono ?_
  rintro e w' ⟨rfl, rfl⟩
  go_wp2_with fail
  refine (runOf_P _ _ _ zs _ h (by omega)).mono ?_
  rintro e w' ⟨rfl, rfl⟩
  by_cases hp : inB 3 15 (lineP zs : Int) = true
  · have hpb := inB_true hp
    have HRB := hide (line_rebuilt hb (by omega) (by omega))
    obtain ⟨b, off, rfl, hbb, hc0⟩ := h.at_ (by omega)
    have HC := hide hc0
    clear hc0
    go_wp2_with (go_at_call 75; refine (isPreamble_any _ _).mono ?_; rintro e w' ⟨rfl, rfl⟩)
    go_loopw [8, 9] (fun s i wr => ∃ (k q : Nat) (A' : Option Addr) (c' : Nat), i = .int .i64 q ∧ s = .slice A' k c' ∧ q ≤ n + 1 ∧ k ≤ 8192 ∧ Hid (q = lineS zs + 10 * k) ∧ Hid (∀ i, i < k → byteAt zs (lineS zs + 10 * i) = true) ∧ Own wr w.heap.size A' k c' (datas zs (lineS zs) k) ∧ Below w.heap.size w wr) (fun _ i _ => n + 10 - (intOf i).toNat)
    case atStart =>
      refine ⟨0, lineS zs, _, _, ?_, rfl, sb, by omega, rfl, fun i hi => by omega, Own.empty w (Nat.le_refl _), (Below.refl _ _).alloc (Nat.le_refl _) _⟩
      rw [SW.out]
    case round =>
      obtain ⟨k, q, A', c', rfl, rfl, hq, hk, hqe, hall, hown, hbel⟩ := hrel
      have hsz := hbel.size
      by_cases hyes : byteAt zs q = true
      · obtain ⟨g1, hA1, hA0⟩ := byteAt_get hyes
        have h10 : q + 10 ≤ n := by omega
        have hc := HC.out
        have hcq := (hbel.cell (p := ⟨b, off + q, none⟩) hbb).trans (hc q (by omega))
        have hcq1 := (hbel.cell (p := ⟨b, off + (q + 1), none⟩) hbb).trans (hc (q + 1) (by omega))
        have t1 : decide ((q : Int) + 10 ≤ (n : Int)) = true := by simp; omega
        have z1 : (0 : Int) ≤ (q : Int) := by omega
        have z2 : (q : Int) < (n : Int) := by omega
        have z3 : (0 : Int) ≤ (q : Int) + 1 := by omega
        have z4 : (q : Int) + 1 < (n : Int) := by omega
        have u1 : (nth zs q == 1) = true := by simpa using hA1
        have u2 : (nth zs (q + 1) == 0) = true := by simpa using hA0
        have hby : Hid (∀ i, i < k + 1 → byteAt zs (lineS zs + 10 * i) = true) := by
          intro i hi
          by_cases e : i = k
          · subst e
            rw [← hqe.out]
            exact hyes
          · exact hall.out i (by omega)
        have hsub0 := h.sub (q + 2) (q + 10) (by omega) (by omega)
        rw [show q + 10 - (q + 2) = 8 by omega] at hsub0
        have hsub := hide (hsub0.below hbel)
        have hst := hide (datas_succ zs (lineS zs) k)
        have hns := hide (num_sub (zs := zs) (q := q))
        have hbs := hide (bits_sub hb (q + 2) (q + 10))
        have hnb := numTo_256 hb (q + 2) (by omega)
        clear hA1 hA0 hc hsub0 hyes g1
        go_wp2_with fail
        refine (numberOf_any _ _ _ _ hsub.out hbs.out).mono ?_
        rintro e w' ⟨rfl, rfl⟩
        rw [hns.out]
        have hq2 : Hid (numTo zs (q + 2) 8 = numTo zs (lineS zs + 10 * k + 2) 8) := by
          show _ = _
          rw [hqe.out]
        generalize numTo zs (q + 2) 8 = x at hnb hq2 ⊢
        have hk9 : k ≤ 900 := by have := hqe.out; omega
        go_wp2_with (at_builtin; refine append_new rfl _ _ rfl w.heap.size rfl hown _ [x] 1 rfl (I64.one (by omega) (by omega)) rfl rfl (by omega) hsz ?_; intro A2 c2 w2 own2 gr2)
        have hb2 := below_own hbel hsz hown (Nat.le_refl _) gr2
        rw [hq2.out, ← hst.out] at own2
        go_roundw
        case rel => exact ⟨k + 1, q + 10, A2, c2, by go_num, rfl, by omega, by omega, by have := hqe.out; show _ = _; omega, hby, own2, hb2⟩
        case measure => simp [intOf]; omega
      · rw [Bool.not_eq_true] at hyes
        have hkk : k = lineK zs := by
          have g : Found zs (lineS zs) k := ⟨hall.out, by rw [← hqe.out]; exact hyes⟩
          exact g.unique HF.out
        have key : n < q + 10 ∨ (q + 10 ≤ n ∧ nth zs q ≠ 1) ∨ (q + 10 ≤ n ∧ nth zs q = 1 ∧ nth zs (q + 1) ≠ 0) := by
          by_cases k1 : q + 10 ≤ n
          · by_cases k2 : nth zs q = 1
            · by_cases k3 : nth zs (q + 1) = 0
              · rw [byteAt_yes (by omega) k2 k3] at hyes
                cases hyes
              · exact .inr (.inr ⟨k1, k2, k3⟩)
            · exact .inr (.inl ⟨k1, k2⟩)
          · exact .inl (by omega)
        have own0 : Own wr w.heap.size A' k c' (lineD zs) := by
          have : lineD zs = datas zs (lineS zs) (lineK zs) := rfl
          rw [this, ← hkk]; exact hown
        have HKK := hide hkk
        have hk10 : 10 * k ≤ n := by
          have := HK.out
          have := hqe.out
          omega
        have lit := hide (Own.lit wr (Nat.le_refl wr.heap.size) #[.int .i64 1] [1] rfl (I64.one (by omega) (by omega)) 1 rfl (by omega))
        have hTX := hide (tx_len (lineD zs) (lineP zs))
        have hDL := hide own0.len
        clear hkk hown hyes hall
        rcases key with kA | ⟨kB, k2⟩ | ⟨kC, k2, k3⟩
        all_goals first
          | (have t1 : decide ((q : Int) + 10 ≤ (n : Int)) = false := by (have := kA; simp; omega)
             go_wp2_with fail)
          | (have hpos : 0 < n := by (have := kB; omega)
             have hc := HC.out
             have hcq := (hbel.cell (p := ⟨b, off + q, none⟩) hbb).trans (hc q (by omega))
             have t1 : decide ((q : Int) + 10 ≤ (n : Int)) = true := by (simp; omega)
             have z1 : (0 : Int) ≤ (q : Int) := by omega
             have z2 : (q : Int) < (n : Int) := by omega
             have u1 : (nth zs q == 1) = false := by simpa using k2
             clear hc k2
             go_wp2_with fail)
          | (have hpos : 0 < n := by (have := kC; omega)
             have hc := HC.out
             have hcq := (hbel.cell (p := ⟨b, off + q, none⟩) hbb).trans (hc q (by omega))
             have hcq1 := (hbel.cell (p := ⟨b, off + (q + 1), none⟩) hbb).trans (hc (q + 1) (by omega))
             have t1 : decide ((q : Int) + 10 ≤ (n : Int)) = true := by (simp; omega)
             have z1 : (0 : Int) ≤ (q : Int) := by omega
             have z2 : (q : Int) < (n : Int) := by omega
             have z3 : (0 : Int) ≤ (q : Int) + 1 := by omega
             have z4 : (q : Int) + 1 < (n : Int) := by omega
             have u1 : (nth zs q == 1) = true := by simpa using k2
             have u2 : (nth zs (q + 1) == 0) = false := by simpa using k3
             clear hc k2 k3
             go_wp2_with fail)
        all_goals
          refine (repeatLib_any _ _ 1 ((lineA zs : Nat) : Int) _ lit.out.rd (by omega) (by omega)).mono ?_
          rintro e w2 ⟨A2, c2, rfl, own2, bel2⟩
          simp only [Int.toNat_natCast] at own2 ⊢
          have ba := (Below.refl wr.heap.size wr).alloc (Nat.le_refl _) (.cells #[.int .i64 1] 2)
          have own1 := (own0.below ba).below bel2
          have B2 := hide (below_trans (below_trans hbel ba) bel2)
          clear bel2 ba
          go_wp2_with fail
          refine (cellsOf_any _ _ _ (lineD zs) (lineP zs) _ own1.rd (by omega) HDB.out (by omega)).mono ?_
          rintro e w3 ⟨A3, c3, rfl, own3, bel3⟩
          have B3 := hide (below_trans B2.out bel3)
          have own2b := hide (own2.below bel3)
          have own2' := (own2.mono (B' := w.heap.size) (by have := hbel.size; simp; omega)).below bel3
          have own1' := hide (own1.below bel3)
          have hsz3 := B3.out.size
          clear own2 own1 bel3
          have hLl : (List.replicate (lineA zs) (1 : Int) ++ tx (lineD zs) (lineP zs)).length = lineA zs + (lineP zs + 3 + 10 * k) := by
            rw [List.length_append, List.length_replicate, hTX.out, hDL.out]
          have HLL := hide hLl
          have HRB2 := HRB.out
          rw [hTX.out, hDL.out] at HRB2
          have HRB3 := hide HRB2
          clear HRB2 hLl
          by_cases hT : n < lineA zs + (lineP zs + 3 + 10 * k)
          · have hB : Hid (lineB zs = false) := by
              cases e : lineB zs
              · rfl
              · have := (HRB3.out.1 e).1
                omega
            have e1 := hide (rl_no hB.out)
            have tT : decide (n < lineA zs + (lineP zs + 3 + 10 * k)) = true := decide_eq_true hT
            go_wp2_with (at_builtin; refine append_rd rfl _ _ rfl w.heap.size rfl own2' own3.rd rfl (by omega) hsz3 ?_; intro A4 c4 w4 own4 gr4)
            have B4 := below_own B3.out hsz3 own2' (Nat.le_refl _) gr4
            refine bodyPost_ret (results_tmp4 rfl _ _ _) rfl ?_
            refine ⟨none, 0, 0, ?_, by rw [e1.out.2.2]; exact Own.nil _ _, B4, by omega⟩
            rw [e1.out.1, e1.out.2.1, hB.out]
            rfl
          · have tT : decide (n < lineA zs + (lineP zs + 3 + 10 * k)) = false := decide_eq_false hT
            have hTn : lineA zs + (lineP zs + 3 + 10 * k) ≤ n := by omega
            have hup := hide (h.upto (lineA zs + (lineP zs + 3 + 10 * k)) hTn)
            go_wp2_with (at_builtin; refine append_rd rfl _ _ rfl w.heap.size rfl own2' own3.rd rfl (by omega) hsz3 ?_; intro A4 c4 w4 own4 gr4)
            have B4 := hide (below_own B3.out hsz3 own2' (Nat.le_refl _) gr4)
            have own1 : Own w4 w.heap.size A' k c' (lineD zs) := own1'.out.keepLo gr4 own2b.out (fun g hg => by
              have := (own0.row.lt g hg).2
              simp
              omega)
            refine (equal_b _ _ _ _ _ _ _ _ _ own4.rd (hup.out.below B4.out)).mono ?_
            rintro e w5 ⟨rfl, b5⟩
            have B5 := hide (below_trans B4.out b5)
            have O1 := hide (own1.below b5)
            clear own1 b5 own4 gr4 own2' own3
            have T0 : 6 ≤ lineA zs + (lineP zs + 3 + 10 * k) := by omega
            obtain ⟨T, hTe⟩ : ∃ T, T = lineA zs + (lineP zs + 3 + 10 * k) := ⟨_, rfl⟩
            rw [← hTe] at HRB3 hTn hup tT T0 hT ⊢
            clear hTe
            by_cases hE : eqB (List.replicate (lineA zs) 1 ++ tx (lineD zs) (lineP zs)) (zs.take T) = true
            · by_cases hcT : c = T
              · have hnT : n = T := by omega
                subst hcT
                subst hnT
                have hB : Hid (lineB zs = true) := HRB3.out.2 ⟨by omega, of_decide_eq_true hE, by rw [List.drop_of_length_le (by omega)]; simp⟩
                have e1 := hide (rl_yes hB.out)
                have hrd0 := Rd.empty0 w5 (some ⟨b, off, none⟩) 0 (by simp [maxLen]) (fun e => by cases e)
                have hno : hasB [] 0 = false := rfl
                go_wp2_with fail
                refine (contains_any _ _ _ [] 0 _ hrd0).mono ?_
                rintro e w6 ⟨rfl, rfl⟩
                go_wp2_with fail
                refine bodyPost_ret (results_tmp4 rfl _ _ _) rfl ?_
                refine ⟨A', k, c', ?_, by rw [e1.out.2.2]; exact O1.out, B5.out, by omega⟩
                rw [e1.out.1, e1.out.2.1, hB.out]
                rfl
              · have hgt : T < c := by omega
                have hrd1 := hide ((h.from T hTn).below B5.out)
                clear hcT
                by_cases hz : hasB (zs.drop T) 0 = true
                · have hB : Hid (lineB zs = false) := by
                    cases e : lineB zs
                    · rfl
                    · exact absurd (of_decide_eq_true hz) (HRB3.out.1 e).2.2
                  have e1 := hide (rl_no hB.out)
                  go_wp2_with fail
                  refine (contains_any _ _ _ (zs.drop T) 0 _ hrd1.out).mono ?_
                  rintro e w6 ⟨rfl, rfl⟩
                  go_wp2_with fail
                  refine bodyPost_ret (results_tmp4 rfl _ _ _) rfl ?_
                  refine ⟨none, 0, 0, ?_, by rw [e1.out.2.2]; exact Own.nil _ _, B5.out, by omega⟩
                  rw [e1.out.1, e1.out.2.1, hB.out]
                  rfl
                · have hB : Hid (lineB zs = true) := HRB3.out.2 ⟨by omega, of_decide_eq_true hE, fun hm => hz (decide_eq_true hm)⟩
                  rw [Bool.not_eq_true] at hz
                  have e1 := hide (rl_yes hB.out)
                  go_wp2_with fail
                  refine (contains_any _ _ _ (zs.drop T) 0 _ hrd1.out).mono ?_
                  rintro e w6 ⟨rfl, rfl⟩
                  go_wp2_with fail
                  refine bodyPost_ret (results_tmp4 rfl _ _ _) rfl ?_
                  refine ⟨A', k, c', ?_, by rw [e1.out.2.2]; exact O1.out, B5.out, by omega⟩
                  rw [e1.out.1, e1.out.2.1, hB.out]
                  rfl
            · rw [Bool.not_eq_true] at hE
              have hB : Hid (lineB zs = false) := by
                cases e : lineB zs
                · rfl
                · have := (HRB3.out.1 e).2.1
                  rw [eqB_yes this] at hE
                  cases hE
              have e1 := hide (rl_no hB.out)
              go_wp2_with fail
              refine bodyPost_ret (results_tmp4 rfl _ _ _) rfl ?_
              refine ⟨none, 0, 0, ?_, by rw [e1.out.2.2]; exact Own.nil _ _, B5.out, by omega⟩
              rw [e1.out.1, e1.out.2.1, hB.out]
              rfl
  · rw [Bool.not_eq_true] at hp
    have hB : Hid (lineB zs = false) := lineB_range (fun hh => by
      have := inB_yes (lo := 3) (hi := 15) (x := (lineP zs : Int)) (by omega) (by omega)
      rw [this] at hp; cases hp)
    have e1 := hide (rl_no hB.out)
    go_wp2_with (go_at_call 75; refine (isPreamble_any _ _).mono ?_; rintro e w' ⟨rfl, rfl⟩)
    refine bodyPost_ret (results_tmp4 rfl _ _ _) rfl ?_
    refine ⟨none, 0, 0, ?_, by rw [e1.out.2.2]; exact Own.nil _ _, Below.refl _ _, by omega⟩
    rw [e1.out.1, e1.out.2.1, hB.out]
    rfl
end Go.Proofs.Ytdodhjahihfaiaa
