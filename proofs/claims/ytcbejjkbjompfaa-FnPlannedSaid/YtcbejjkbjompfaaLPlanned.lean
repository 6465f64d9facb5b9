/- The walk of FnPlanned: planning sorted demands fails only if their load is greater than eight times the number of slots, or one is wanted more rarely than there are rounds; the reference agrees. -/
import Derived.Test.YtcbejjkbjompfaaSortG
import Derived.Test.YtcbejjkbjompfaaDrawG
import Derived.BigQuiet
namespace Go.Proofs.Ytcbejjkbjompfaa
open Go.RowKit
set_option linter.unusedVariables false
set_option linter.unusedSimpArgs false

theorem pneq_same (x : Int) : (x != x) = false := by simp
theorem peql_true {a b : Int} (h : a = b) : (a == b) = true := by simp [h]
theorem peql_false {a b : Int} (h : ¬ a = b) : (a == b) = false := by simpa using h
theorem pneq_false {a b : Int} (h : a = b) : (a != b) = false := by simp [h]
theorem pneq_true {a b : Int} (h : ¬ a = b) : (a != b) = true := by simp [h]
def mostTo (ds : List Dem) : Nat → Int
  | 0 => 1
  | k + 1 => max (mostTo ds k) (dem ds k).ev
theorem most_le (ds : List Dem) (n : Int) (hn : 1 ≤ n) : ∀ k, mostTo ds k ≤ n ↔ ∀ j, j < k → (dem ds j).ev ≤ n
  | 0 => by simp [mostTo]; exact hn
  | k + 1 => by
    rw [mostTo, Int.max_le, most_le ds n hn k]
    constructor
    · rintro ⟨h1, h2⟩ j hj
      rcases Nat.lt_or_ge j k with h | h
      · exact h1 j h
      · obtain rfl : j = k := by omega
        exact h2
    · intro h
      exact ⟨fun j hj => h j (by omega), h k (by omega)⟩
theorem most_same (ds : List Dem) (n : Int) : ∀ k, (∀ j, j < k → (dem ds j).ev ≤ n) → 1 ≤ n → 1 ≤ mostTo ds k ∧ mostTo ds k ≤ n
  | 0, _, h1 => ⟨Int.le_refl _, h1⟩
  | k + 1, h, h1 => by
    have ih := most_same ds n k (fun j hj => h j (by omega)) h1
    have := h k (by omega)
    rw [mostTo]
    omega
theorem plan_fin {ds : List Dem} {r s : Int} (h0 : dcC ds r s = 0) : (plC (sortD ds) r s == 0) = (decide (ldR ds ≤ 8 * s) && decide (mostTo ds ds.length ≤ r)) ∧ ldC ds = 0 ∧ 1 ≤ s ∧ s ≤ 16 := by
  obtain ⟨ha, n, m, rfl, rfl, hn, hm1, hm2⟩ := dc_get h0
  have hs := are_sort ha
  have hfr : frB (n : Int) (m : Int) = true := by
    by_cases e : frB (n : Int) (m : Int) = true
    · exact e
    · rw [dc_fr ha (by simpa using e)] at h0
      exact absurd h0 (by decide)
  have hp := planned (ds := ds) (n := n) (m := m) ha hn
  have hc := dc_ok hs hfr
  have hm := most_le ds (n : Int) (by omega) ds.length
  refine ⟨?_, by rw [ldC, ha]; rfl, by omega, by omega⟩
  have e1 : plC (sortD ds) n m = if planB (sortD ds) n m then 0 else 4 := by rw [plC, if_pos hc]; rfl
  have hr : ldR ds = loadTo ds ds.length := by rw [ldR, ha]; rfl
  rw [e1, hr]
  by_cases q : planB (sortD ds) n m = true
  · obtain ⟨h1, h2⟩ := hp.1 q
    rw [if_pos q, decide_eq_true h1, decide_eq_true (hm.2 h2)]
    rfl
  · rw [if_neg q]
    by_cases h1 : loadTo ds ds.length ≤ 8 * m
    · have h2 : ¬ mostTo ds ds.length ≤ n := fun h => q (hp.2 ⟨h1, hm.1 h⟩)
      rw [decide_eq_true h1, decide_eq_false h2]
      rfl
    · rw [decide_eq_false h1]
      rfl
theorem pl_cases (ds : List Dem) (r s : Int) : plC ds r s = 0 ∨ plC ds r s = 1 ∨ plC ds r s = 2 ∨ plC ds r s = 4 := by
  unfold plC dcC
  split
  · split <;> omega
  · split
    · split <;> omega
    · omega
theorem pl_dc {ds : List Dem} {r s : Int} (h : plC ds r s = 0 ∨ plC ds r s = 4) : dcC ds r s = 0 := by
  by_cases e : dcC ds r s = 0
  · exact e
  · rw [(pl_bad e).1] at h
    exfalso
    rcases h with h | h
    · exact e h
    · unfold dcC at h
      split at h
      · split at h <;> omega
      · omega
theorem so_srt (ds : List Dem) {k l : Nat} (hkl : k < l) (hl : l < (soR ds).length) : (dem (soR ds) k).ev ≤ (dem (soR ds) l).ev := by
  unfold soR at hl ⊢
  split at hl
  · rename_i h
    rw [if_pos h]
    exact sort_le hkl hl
  · simp at hl

theorem fin_bool {a b : Bool} (h : a = b) : Ending.returned (.bool (a == b)) = .returned (.bool true) := by rw [h]; simp
set_option maxHeartbeats 12800000 in
set_option maxRecDepth 100000 in
theorem walkPlanned (A : Option Addr) (n c : Nat) (bs : List Int) (w : World) (h : Rd8 w A n c bs) :
    Calls Try.prog 3 #[.slice A n c] w fun e w' => e = .returned (.bool true) ∧ Below w.heap.size w w' := by
  by_cases hn : 4096 < n
  · have t : decide (4096 < n) = true := by simpa using hn
    go_enter Try.func3, Try.ntmps3
    go_wp2_with (go_at_call 4; refine (big_any _ _ _ _ _ h).mono ?_; rintro e w' ⟨rfl, rfl⟩)
    go_ret
    exact ⟨rfl, Below.refl _ _⟩
  · have t : decide (4096 < n) = false := by simpa using hn
    go_enter Try.func3, Try.ntmps3
    go_wp2_with (go_at_call 4; refine (big_any _ _ _ _ _ h).mono ?_; rintro e w' ⟨rfl, rfl⟩)
    refine (DrawPlanDemands_d _ _ _ _ _ h (by omega)).mono ?_
    rintro e w1 ⟨ds, A1, m1, c1, r, s, rfl, hl, hm1, hr, hs, O1, B⟩
    go_wp2_with fail
    refine (iPlanDemands_any _ _ _ ds r s _ O1.rd).mono ?_
    rintro e w2 ⟨A2, m2, c2, rfl, O2, b2⟩
    replace B := below_trans B b2
    replace O1 := O1.below b2
    go_wp2_with fail
    refine (sPlanDemands_any _ _ _ ds r s _ O1.rd).mono ?_
    rintro e w3 ⟨A3, m3, c3, rfl, O3, b3⟩
    replace B := below_trans B b3
    replace O1 := O1.below b3
    replace O2 := O2.below b3
    obtain rfl : m2 = m3 := by have := O2.len; have := O3.len; omega
    have hcap2 := O2.cap
    have t1 := pneq_same (plC ds r s)
    have t2 := pneq_same (m2 : Int)
    have OO1 := hide O1
    have OO2 := hide O2
    have OO3 := hide O3
    have BB := hide B
    have HL := hide hl
    have P4 := hide (pl_cases ds r s)
    have SZ := hide b3.size
    clear O1 O2 O3 B b2 b3 hl
    go_wp2_with fail
    go_loopw [10] (fun i wr => ∃ k : Nat, k ≤ m2 ∧ i = .int .i64 k ∧ Hid (Below w3.heap.size w3 wr)) (fun i _ => m2 - (intOf i).toNat)
    case atStart => exact ⟨0, by omega, rfl, hide (Below.refl _ _)⟩
    case round =>
      obtain ⟨k, hk, rfl, hbel⟩ := hrel
      by_cases hlt : k < m2
      · have sz := SZ.out
        obtain ⟨g2, o2, rfl, z2, hc2⟩ := OO2.out.rd.at_ (by omega)
        obtain ⟨g3, o3, rfl, z3, hc3⟩ := OO3.out.rd.at_ (by omega)
        have p0 := (hbel.out.cell (p := ⟨g2, o2 + k * 2, none⟩) z2).trans (hc2 (k * 2) (by omega))
        have p1 := (hbel.out.cell (p := ⟨g2, o2 + (k * 2 + 1), none⟩) z2).trans (hc2 (k * 2 + 1) (by omega))
        have q0 := (hbel.out.cell (p := ⟨g3, o3 + k * 2, none⟩) z3).trans (hc3 (k * 2) (by omega))
        have q1 := (hbel.out.cell (p := ⟨g3, o3 + (k * 2 + 1), none⟩) z3).trans (hc3 (k * 2 + 1) (by omega))
        rw [← Nat.add_assoc] at p1 q1
        have hst : Hid (Below w3.heap.size w3 wr.drew) := hide (hbel.out.drew)
        generalize nth (plR ds r s) (k * 2) = u at p0 q0
        generalize nth (plR ds r s) (k * 2 + 1) = v at p1 q1
        clear hc2 hc3 hbel z2 z3 sz
        go_wp2_with fail
        go_region
        all_goals
          go_wp2_with fail
          go_roundw
          case rel => exact ⟨k + 1, by omega, by go_num, hst⟩
          case measure => simp [intOf]; omega
      · obtain rfl : k = m2 := by omega
        have B := hide (below_trans BB.out hbel.out)
        have O1 := hide (OO1.out.below hbel.out)
        have O2 := hide (OO2.out.below hbel.out)
        clear OO1 OO2 OO3 BB SZ hbel
        by_cases h0 : plC ds r s = 0
        · have s0 := peql_true h0
          have s1 := pneq_false h0
          have H0 := hide h0
          clear h0
          go_wp2_with fail
          refine (arePossible_any _ _ _ ds r s _ _ _ _ O1.out.rd O2.out.rd H0.out).mono ?_
          rintro e w4 ⟨rfl, b4⟩
          replace B := hide (below_trans B.out b4)
          replace O1 := hide (O1.out.below b4)
          have HD := hide (pl_dc (.inl H0.out))
          clear O2 b4
          go_wp2_with fail
          refine (iSortDemands_any _ _ _ ds _ O1.out.rd).mono ?_
          rintro e w5 ⟨A5, m5, c5, rfl, O5, b5⟩
          have B5 := hide (below_trans B.out b5)
          have O15 := hide (O1.out.below b5)
          clear B O1 b5
          go_wp2_with fail
          refine (sSortDemands_any _ _ _ ds _ O15.out.rd).mono ?_
          rintro e w6 ⟨A6, m6, c6, rfl, O6, b6⟩
          have B6 := hide (below_trans B5.out b6)
          have O16 := hide (O15.out.below b6)
          have O56 := hide (O5.below b6)
          clear B5 O15 O5 b6
          go_wp2_with fail
          refine (iLoadOf_any _ _ _ ds _ O16.out.rd).mono ?_
          rintro e w7 ⟨rfl, b7⟩
          have B7 := hide (below_trans B6.out b7)
          have O17 := hide (O16.out.below b7)
          have O57 := hide (O56.out.below b7)
          have O67 := hide (O6.below b7)
          clear B6 O16 O56 O6 b7
          obtain rfl : m5 = m6 := by have := O57.out.len; have := O67.out.len; omega
          have t3 := pneq_same (soC ds)
          have t4 := pneq_same (m5 : Int)
          have hcap5 := O57.out.cap
          have HE := hide (show (soR ds).length = m5 by have := O57.out.len; rw [flatD_len] at this; omega)
          go_wp2_with fail
          go_loopw [17] (fun i wr => ∃ k : Nat, k ≤ m5 ∧ i = .int .i64 k ∧ Hid (Below w7.heap.size w7 wr)) (fun i _ => m5 - (intOf i).toNat)
          case atStart => exact ⟨0, by omega, rfl, hide (Below.refl _ _)⟩
          case round =>
            obtain ⟨k, hk, rfl, hbel⟩ := hrel
            by_cases hlt : k < m5
            · obtain ⟨g5, o5, rfl, z5, hc5⟩ := O57.out.rd.at_ (by omega)
              obtain ⟨g6, o6, rfl, z6, hc6⟩ := O67.out.rd.at_ (by omega)
              obtain ⟨p0, p1, p2⟩ := dem_cells hc5 HE.out hbel.out z5 hlt
              obtain ⟨q0, q1, q2⟩ := dem_cells hc6 HE.out hbel.out z6 hlt
              have hst := hide (fun nq => below_drewN hbel.out nq)
              rcases Nat.eq_zero_or_pos k with rfl | hk0
              · generalize (dem (soR ds) 0).nd = x0 at p0 q0
                generalize (dem (soR ds) 0).ev = x1 at p1 q1
                generalize (dem (soR ds) 0).sz = x2 at p2 q2
                clear hc5 hc6 hbel z5 z6
                simp only [Nat.zero_mul, Nat.add_zero] at p0 p1 p2 q0 q1 q2
                go_wp2_with fail
                go_quiet (fail)
                go_wp2_with fail
                go_roundw
                case rel => exact ⟨1, by omega, by go_num, hide (hst.out _)⟩
                case measure => simp [intOf]; omega
              · obtain ⟨l, rfl⟩ : ∃ l, k = l + 1 := ⟨k - 1, by omega⟩
                obtain ⟨_, r1, _⟩ := dem_cells hc5 HE.out hbel.out z5 (k := l) (by omega)
                have hle := so_srt ds (k := l) (l := l + 1) (by omega) (by rw [HE.out]; omega)
                generalize (dem (soR ds) (l + 1)).nd = x0 at p0 q0
                generalize (dem (soR ds) (l + 1)).ev = x1 at p1 q1 hle
                generalize (dem (soR ds) (l + 1)).sz = x2 at p2 q2
                generalize (dem (soR ds) l).ev = y1 at r1 hle
                have tl : decide (x1 < y1) = false := decide_eq_false (by omega)
                have tg : decide ((0 : Int) < ((l + 1 : Nat) : Int)) = true := decide_eq_true (by omega)
                have ei : (((l + 1 : Nat) : Int) - 1) = (l : Int) := by omega
                clear hc5 hc6 hbel z5 z6 hle hk0
                go_wp2_with fail
                go_quiet (fail)
                go_wp2_with fail
                go_roundw
                case rel => exact ⟨l + 1 + 1, by omega, by go_num, hide (hst.out _)⟩
                case measure => simp [intOf]; omega
            · obtain rfl : k = m5 := by omega
              have B := hide (below_trans B7.out hbel.out)
              have O1 := hide (O17.out.below hbel.out)
              have O5 := hide (O57.out.below hbel.out)
              clear B7 O17 O57 O67 hbel
              go_wp2_with fail
              refine (iPlanDemands_any _ _ _ (soR ds) r s _ O5.out.rd).mono ?_
              rintro e w8 ⟨A8, m8, c8, rfl, O8, b8⟩
              have B8 := hide (below_trans B.out b8)
              have O18 := hide (O1.out.below b8)
              clear B O1 O5 b8 O8
              have HDL := hide (show ds.length = m1 by have := O18.out.len; rw [flatD_len] at this; omega)
              have hcap1 := O18.out.cap
              go_wp2_with fail
              go_loopw [20, 21] (fun s i wr => ∃ k : Nat, k ≤ m1 ∧ i = .int .i64 k ∧ s = .int .i64 (mostTo ds k) ∧ Hid (Below w8.heap.size w8 wr)) (fun _ i _ => m1 - (intOf i).toNat)
              case atStart => exact ⟨0, by omega, rfl, rfl, hide (Below.refl _ _)⟩
              case round =>
                obtain ⟨k, hk, rfl, rfl, hbel⟩ := hrel
                by_cases hlt : k < m1
                · obtain ⟨g1, o1, rfl, z1, hc1⟩ := O18.out.rd.at_ (by omega)
                  obtain ⟨_, p1, _⟩ := dem_cells hc1 HDL.out hbel.out z1 hlt
                  have hmx := hide (show mostTo ds (k + 1) = max (mostTo ds k) (dem ds k).ev from rfl)
                  generalize (dem ds k).ev = x at p1 hmx
                  generalize mostTo ds k = y at hmx ⊢
                  clear hc1 z1
                  go_wp2_with fail
                  go_roundw
                  case rel => exact ⟨k + 1, by omega, by go_num, by rw [hmx.out]; go_num, hbel⟩
                  case measure => simp [intOf]; omega
                · obtain rfl : k = m1 := by omega
                  have B := hide (below_trans B8.out hbel.out)
                  clear B8 O18 hbel
                  obtain ⟨f1, f2, f3, f4⟩ := plan_fin HD.out
                  have HF := hide f1
                  have e3 : (ldC ds == 0) = true := peql_true f2
                  rw [HDL.out] at HF
                  have HS := hide (show soR ds = sortD ds by rw [soR, (dc_get HD.out).1]; rfl)
                  clear f1 f2 HD HDL
                  rw [← HS.out] at HF
                  cases q1 : decide (ldR ds ≤ 8 * s)
                  · have E1 := HF.out
                    rw [q1] at E1
                    have e4 : (plC (soR ds) r s == 0) = false := by simpa using E1
                    clear E1
                    go_wp2_with fail
                    go_ret
                    exact ⟨rfl, B.out⟩
                  · cases q2 : decide (mostTo ds k ≤ r)
                    · have E1 := HF.out
                      rw [q1, q2] at E1
                      have e4 : (plC (soR ds) r s == 0) = false := by simpa using E1
                      clear E1
                      go_wp2_with fail
                      go_ret
                      exact ⟨rfl, B.out⟩
                    · have E1 := HF.out
                      rw [q1, q2] at E1
                      have e4 : (plC (soR ds) r s == 0) = true := by simpa using E1
                      clear E1
                      go_wp2_with fail
                      go_ret
                      exact ⟨rfl, B.out⟩
        · have s0 := peql_false h0
          have s1 := pneq_true h0
          clear O2
          by_cases h4 : plC ds r s = 4
          · have s4 := pneq_false h4
            have HD := hide (pl_dc (.inr h4))
            clear h0 h4
            go_wp2_with fail
            refine (iSortDemands_any _ _ _ ds _ O1.out.rd).mono ?_
            rintro e w5 ⟨A5, m5, c5, rfl, O5, b5⟩
            have B5 := hide (below_trans B.out b5)
            have O15 := hide (O1.out.below b5)
            clear B O1 b5
            go_wp2_with fail
            refine (sSortDemands_any _ _ _ ds _ O15.out.rd).mono ?_
            rintro e w6 ⟨A6, m6, c6, rfl, O6, b6⟩
            have B6 := hide (below_trans B5.out b6)
            have O16 := hide (O15.out.below b6)
            have O56 := hide (O5.below b6)
            clear B5 O15 O5 b6
            go_wp2_with fail
            refine (iLoadOf_any _ _ _ ds _ O16.out.rd).mono ?_
            rintro e w7 ⟨rfl, b7⟩
            have B7 := hide (below_trans B6.out b7)
            have O17 := hide (O16.out.below b7)
            have O57 := hide (O56.out.below b7)
            have O67 := hide (O6.below b7)
            clear B6 O16 O56 O6 b7
            obtain rfl : m5 = m6 := by have := O57.out.len; have := O67.out.len; omega
            have t3 := pneq_same (soC ds)
            have t4 := pneq_same (m5 : Int)
            have hcap5 := O57.out.cap
            have HE := hide (show (soR ds).length = m5 by have := O57.out.len; rw [flatD_len] at this; omega)
            go_wp2_with fail
            go_loopw [17] (fun i wr => ∃ k : Nat, k ≤ m5 ∧ i = .int .i64 k ∧ Hid (Below w7.heap.size w7 wr)) (fun i _ => m5 - (intOf i).toNat)
            case atStart => exact ⟨0, by omega, rfl, hide (Below.refl _ _)⟩
            case round =>
              obtain ⟨k, hk, rfl, hbel⟩ := hrel
              by_cases hlt : k < m5
              · obtain ⟨g5, o5, rfl, z5, hc5⟩ := O57.out.rd.at_ (by omega)
                obtain ⟨g6, o6, rfl, z6, hc6⟩ := O67.out.rd.at_ (by omega)
                obtain ⟨p0, p1, p2⟩ := dem_cells hc5 HE.out hbel.out z5 hlt
                obtain ⟨q0, q1, q2⟩ := dem_cells hc6 HE.out hbel.out z6 hlt
                have hst := hide (fun nq => below_drewN hbel.out nq)
                rcases Nat.eq_zero_or_pos k with rfl | hk0
                · generalize (dem (soR ds) 0).nd = x0 at p0 q0
                  generalize (dem (soR ds) 0).ev = x1 at p1 q1
                  generalize (dem (soR ds) 0).sz = x2 at p2 q2
                  clear hc5 hc6 hbel z5 z6
                  simp only [Nat.zero_mul, Nat.add_zero] at p0 p1 p2 q0 q1 q2
                  go_wp2_with fail
                  go_quiet (fail)
                  go_wp2_with fail
                  go_roundw
                  case rel => exact ⟨1, by omega, by go_num, hide (hst.out _)⟩
                  case measure => simp [intOf]; omega
                · obtain ⟨l, rfl⟩ : ∃ l, k = l + 1 := ⟨k - 1, by omega⟩
                  obtain ⟨_, r1, _⟩ := dem_cells hc5 HE.out hbel.out z5 (k := l) (by omega)
                  have hle := so_srt ds (k := l) (l := l + 1) (by omega) (by rw [HE.out]; omega)
                  generalize (dem (soR ds) (l + 1)).nd = x0 at p0 q0
                  generalize (dem (soR ds) (l + 1)).ev = x1 at p1 q1 hle
                  generalize (dem (soR ds) (l + 1)).sz = x2 at p2 q2
                  generalize (dem (soR ds) l).ev = y1 at r1 hle
                  have tl : decide (x1 < y1) = false := decide_eq_false (by omega)
                  have tg : decide ((0 : Int) < ((l + 1 : Nat) : Int)) = true := decide_eq_true (by omega)
                  have ei : (((l + 1 : Nat) : Int) - 1) = (l : Int) := by omega
                  clear hc5 hc6 hbel z5 z6 hle hk0
                  go_wp2_with fail
                  go_quiet (fail)
                  go_wp2_with fail
                  go_roundw
                  case rel => exact ⟨l + 1 + 1, by omega, by go_num, hide (hst.out _)⟩
                  case measure => simp [intOf]; omega
              · obtain rfl : k = m5 := by omega
                have B := hide (below_trans B7.out hbel.out)
                have O1 := hide (O17.out.below hbel.out)
                have O5 := hide (O57.out.below hbel.out)
                clear B7 O17 O57 O67 hbel
                go_wp2_with fail
                refine (iPlanDemands_any _ _ _ (soR ds) r s _ O5.out.rd).mono ?_
                rintro e w8 ⟨A8, m8, c8, rfl, O8, b8⟩
                have B8 := hide (below_trans B.out b8)
                have O18 := hide (O1.out.below b8)
                clear B O1 O5 b8 O8
                have HDL := hide (show ds.length = m1 by have := O18.out.len; rw [flatD_len] at this; omega)
                have hcap1 := O18.out.cap
                go_wp2_with fail
                go_loopw [20, 21] (fun s i wr => ∃ k : Nat, k ≤ m1 ∧ i = .int .i64 k ∧ s = .int .i64 (mostTo ds k) ∧ Hid (Below w8.heap.size w8 wr)) (fun _ i _ => m1 - (intOf i).toNat)
                case atStart => exact ⟨0, by omega, rfl, rfl, hide (Below.refl _ _)⟩
                case round =>
                  obtain ⟨k, hk, rfl, rfl, hbel⟩ := hrel
                  by_cases hlt : k < m1
                  · obtain ⟨g1, o1, rfl, z1, hc1⟩ := O18.out.rd.at_ (by omega)
                    obtain ⟨_, p1, _⟩ := dem_cells hc1 HDL.out hbel.out z1 hlt
                    have hmx := hide (show mostTo ds (k + 1) = max (mostTo ds k) (dem ds k).ev from rfl)
                    generalize (dem ds k).ev = x at p1 hmx
                    generalize mostTo ds k = y at hmx ⊢
                    clear hc1 z1
                    go_wp2_with fail
                    go_roundw
                    case rel => exact ⟨k + 1, by omega, by go_num, by rw [hmx.out]; go_num, hbel⟩
                    case measure => simp [intOf]; omega
                  · obtain rfl : k = m1 := by omega
                    have B := hide (below_trans B8.out hbel.out)
                    clear B8 O18 hbel
                    obtain ⟨f1, f2, f3, f4⟩ := plan_fin HD.out
                    have HF := hide f1
                    have e3 : (ldC ds == 0) = true := peql_true f2
                    rw [HDL.out] at HF
                    have HS := hide (show soR ds = sortD ds by rw [soR, (dc_get HD.out).1]; rfl)
                    clear f1 f2 HD HDL
                    rw [← HS.out] at HF
                    cases q1 : decide (ldR ds ≤ 8 * s)
                    · have E1 := HF.out
                      rw [q1] at E1
                      have e4 : (plC (soR ds) r s == 0) = false := by simpa using E1
                      clear E1
                      go_wp2_with fail
                      go_ret
                      exact ⟨rfl, B.out⟩
                    · cases q2 : decide (mostTo ds k ≤ r)
                      · have E1 := HF.out
                        rw [q1, q2] at E1
                        have e4 : (plC (soR ds) r s == 0) = false := by simpa using E1
                        clear E1
                        go_wp2_with fail
                        go_ret
                        exact ⟨rfl, B.out⟩
                      · have E1 := HF.out
                        rw [q1, q2] at E1
                        have e4 : (plC (soR ds) r s == 0) = true := by simpa using E1
                        clear E1
                        go_wp2_with fail
                        go_ret
                        exact ⟨rfl, B.out⟩
          · have s4 := pneq_true h4
            clear h0 h4
            go_wp2_with fail
            refine (iSortDemands_any _ _ _ ds _ O1.out.rd).mono ?_
            rintro e w5 ⟨A5, m5, c5, rfl, O5, b5⟩
            have B5 := hide (below_trans B.out b5)
            have O15 := hide (O1.out.below b5)
            clear B O1 b5
            go_wp2_with fail
            refine (sSortDemands_any _ _ _ ds _ O15.out.rd).mono ?_
            rintro e w6 ⟨A6, m6, c6, rfl, O6, b6⟩
            have B6 := hide (below_trans B5.out b6)
            have O16 := hide (O15.out.below b6)
            have O56 := hide (O5.below b6)
            clear B5 O15 O5 b6
            go_wp2_with fail
            refine (iLoadOf_any _ _ _ ds _ O16.out.rd).mono ?_
            rintro e w7 ⟨rfl, b7⟩
            have B7 := hide (below_trans B6.out b7)
            have O17 := hide (O16.out.below b7)
            have O57 := hide (O56.out.below b7)
            have O67 := hide (O6.below b7)
            clear B6 O16 O56 O6 b7
            obtain rfl : m5 = m6 := by have := O57.out.len; have := O67.out.len; omega
            have t3 := pneq_same (soC ds)
            have t4 := pneq_same (m5 : Int)
            have hcap5 := O57.out.cap
            have HE := hide (show (soR ds).length = m5 by have := O57.out.len; rw [flatD_len] at this; omega)
            go_wp2_with fail
            go_loopw [17] (fun i wr => ∃ k : Nat, k ≤ m5 ∧ i = .int .i64 k ∧ Hid (Below w7.heap.size w7 wr)) (fun i _ => m5 - (intOf i).toNat)
            case atStart => exact ⟨0, by omega, rfl, hide (Below.refl _ _)⟩
            case round =>
              obtain ⟨k, hk, rfl, hbel⟩ := hrel
              by_cases hlt : k < m5
              · obtain ⟨g5, o5, rfl, z5, hc5⟩ := O57.out.rd.at_ (by omega)
                obtain ⟨g6, o6, rfl, z6, hc6⟩ := O67.out.rd.at_ (by omega)
                obtain ⟨p0, p1, p2⟩ := dem_cells hc5 HE.out hbel.out z5 hlt
                obtain ⟨q0, q1, q2⟩ := dem_cells hc6 HE.out hbel.out z6 hlt
                have hst := hide (fun nq => below_drewN hbel.out nq)
                rcases Nat.eq_zero_or_pos k with rfl | hk0
                · generalize (dem (soR ds) 0).nd = x0 at p0 q0
                  generalize (dem (soR ds) 0).ev = x1 at p1 q1
                  generalize (dem (soR ds) 0).sz = x2 at p2 q2
                  clear hc5 hc6 hbel z5 z6
                  simp only [Nat.zero_mul, Nat.add_zero] at p0 p1 p2 q0 q1 q2
                  go_wp2_with fail
                  go_quiet (fail)
                  go_wp2_with fail
                  go_roundw
                  case rel => exact ⟨1, by omega, by go_num, hide (hst.out _)⟩
                  case measure => simp [intOf]; omega
                · obtain ⟨l, rfl⟩ : ∃ l, k = l + 1 := ⟨k - 1, by omega⟩
                  obtain ⟨_, r1, _⟩ := dem_cells hc5 HE.out hbel.out z5 (k := l) (by omega)
                  have hle := so_srt ds (k := l) (l := l + 1) (by omega) (by rw [HE.out]; omega)
                  generalize (dem (soR ds) (l + 1)).nd = x0 at p0 q0
                  generalize (dem (soR ds) (l + 1)).ev = x1 at p1 q1 hle
                  generalize (dem (soR ds) (l + 1)).sz = x2 at p2 q2
                  generalize (dem (soR ds) l).ev = y1 at r1 hle
                  have tl : decide (x1 < y1) = false := decide_eq_false (by omega)
                  have tg : decide ((0 : Int) < ((l + 1 : Nat) : Int)) = true := decide_eq_true (by omega)
                  have ei : (((l + 1 : Nat) : Int) - 1) = (l : Int) := by omega
                  clear hc5 hc6 hbel z5 z6 hle hk0
                  go_wp2_with fail
                  go_quiet (fail)
                  go_wp2_with fail
                  go_roundw
                  case rel => exact ⟨l + 1 + 1, by omega, by go_num, hide (hst.out _)⟩
                  case measure => simp [intOf]; omega
              · obtain rfl : k = m5 := by omega
                have B := hide (below_trans B7.out hbel.out)
                have O1 := hide (O17.out.below hbel.out)
                have O5 := hide (O57.out.below hbel.out)
                clear B7 O17 O57 O67 hbel
                go_wp2_with fail
                go_ret
                exact ⟨rfl, B.out⟩
end Go.Proofs.Ytcbejjkbjompfaa
