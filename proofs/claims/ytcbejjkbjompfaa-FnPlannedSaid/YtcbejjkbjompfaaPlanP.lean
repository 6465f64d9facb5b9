/- Contracts: planning demands, and whether bookings are possible. -/
import Derived.Test.YtcbejjkbjompfaaPlanI
namespace Go.Proofs.Ytcbejjkbjompfaa
open Go.RowKit
set_option linter.unusedVariables false
set_option linter.unusedSimpArgs false

def plC (ds : List Dem) (r s : Int) : Int := if dcC ds r s = 0 then (if planB ds r.toNat s.toNat then 0 else 4) else dcC ds r s
def plR (ds : List Dem) (r s : Int) : List Int := if plC ds r s = 0 then planL ds r.toNat s.toNat else []
theorem pl_bad {ds : List Dem} {r s : Int} (h : ¬ dcC ds r s = 0) : plC ds r s = dcC ds r s ∧ plR ds r s = [] := by
  have h1 : plC ds r s = dcC ds r s := by rw [plC, if_neg h]
  exact ⟨h1, by rw [plR, h1, if_neg h]⟩
theorem pl_no {ds : List Dem} {r s : Int} (h : dcC ds r s = 0) (h2 : planB ds r.toNat s.toNat = false) : plC ds r s = 4 ∧ plR ds r s = [] := by
  have h1 : plC ds r s = 4 := by rw [plC, if_pos h, h2]; rfl
  exact ⟨h1, by rw [plR, h1]; rfl⟩
theorem pl_yes {ds : List Dem} {r s : Int} (h : dcC ds r s = 0) (h2 : planB ds r.toNat s.toNat = true) : plC ds r s = 0 ∧ plR ds r s = planL ds r.toNat s.toNat := by
  have h1 : plC ds r s = 0 := by rw [plC, if_pos h, h2]; rfl
  exact ⟨h1, by rw [plR, if_pos h1]⟩
def PlOut (ds : List Dem) (r s : Int) (w : World) (x : Ending) (w' : World) : Prop :=
  ∃ (A' : Option Addr) (j c' : Nat), x = .returned (.tuple #[.slice A' j c', .int .i64 (plC ds r s)]) ∧ OwnF 31 2 w' w.heap.size A' j c' (plR ds r s) ∧ Below w.heap.size w w'
set_option maxHeartbeats 1600000 in
theorem iPlanDemands_any (A : Option Addr) (q c : Nat) (ds : List Dem) (r s : Int) (w : World) (h : RdF 3 w A q c (flatD ds)) :
    Calls Try.prog 6 #[.slice A q c, .int .i64 r, .int .i64 s] w (PlOut ds r s w) := by
  go_enter Try.func6, Try.ntmps6
  go_wp2_with fail
  refine (demandCode_any _ _ _ ds r s _ h).mono ?_
  rintro x w1 ⟨rfl, b1⟩
  by_cases h0 : dcC ds r s = 0
  · have t0 : (dcC ds r s != 0) = false := by rw [h0]; rfl
    obtain ⟨ha, n, m, rfl, rfl, hn, hm1, hm2⟩ := dc_get h0
    have H0 := hide h0
    have H1 := hide (h.below b1)
    clear h0
    go_wp2_with fail
    refine (planDemands_any _ _ _ ds n m _ H1.out ha (by omega) ⟨hm1, hm2⟩).mono ?_
    rintro x w2 ⟨A', j, c', rfl, own, b2⟩
    cases hp : planB ds n m
    · have E := hide (pl_no H0.out (by simpa using hp))
      go_wp2_with fail
      go_ret2
      exact ⟨none, 0, 0, ret_sc E.out.1.symm, by rw [E.out.2]; exact OwnF.nil _ _, below_trans b1 b2⟩
    · have E := hide (pl_yes H0.out (by simpa using hp))
      go_wp2_with fail
      go_ret2
      exact ⟨A', j, c', ret_sc E.out.1.symm, by rw [E.out.2]; simpa using own.mono b1.size, below_trans b1 b2⟩
  · have t0 : (dcC ds r s != 0) = true := by simpa using h0
    have E := hide (pl_bad h0)
    clear h0
    go_wp2_with fail
    go_ret2
    exact ⟨none, 0, 0, ret_sc E.out.1.symm, by rw [E.out.2]; exact OwnF.nil _ _, b1⟩
set_option maxHeartbeats 1600000 in
theorem sPlanDemands_any (A : Option Addr) (q c : Nat) (ds : List Dem) (r s : Int) (w : World) (h : RdF 3 w A q c (flatD ds)) :
    Calls Try.prog 7 #[.slice A q c, .int .i64 r, .int .i64 s] w (PlOut ds r s w) := by
  go_enter Try.func7, Try.ntmps7
  go_wp2_with fail
  refine (l16Code_any _ _ _ ds r s _ h).mono ?_
  rintro x w1 ⟨rfl, b1⟩
  by_cases h0 : dcC ds r s = 0
  · have t0 : (dcC ds r s != 0) = false := by rw [h0]; rfl
    obtain ⟨ha, n, m, rfl, rfl, hn, hm1, hm2⟩ := dc_get h0
    have H0 := hide h0
    have H1 := hide (h.below b1)
    clear h0
    go_wp2_with fail
    refine (l16Plan_any _ _ _ ds n m _ H1.out ha (by omega) ⟨hm1, hm2⟩).mono ?_
    rintro x w2 ⟨A', j, c', rfl, own, b2⟩
    cases hp : planB ds n m
    · have E := hide (pl_no H0.out (by simpa using hp))
      go_wp2_with fail
      go_ret2
      exact ⟨none, 0, 0, ret_sc E.out.1.symm, by rw [E.out.2]; exact OwnF.nil _ _, below_trans b1 b2⟩
    · have E := hide (pl_yes H0.out (by simpa using hp))
      go_wp2_with fail
      go_ret2
      exact ⟨A', j, c', ret_sc E.out.1.symm, by rw [E.out.2]; simpa using own.mono b1.size, below_trans b1 b2⟩
  · have t0 : (dcC ds r s != 0) = true := by simpa using h0
    have E := hide (pl_bad h0)
    clear h0
    go_wp2_with fail
    go_ret2
    exact ⟨none, 0, 0, ret_sc E.out.1.symm, by rw [E.out.2]; exact OwnF.nil _ _, b1⟩
/-- the load -/
def loadTo (ds : List Dem) : Nat → Int
  | 0 => 0
  | k + 1 => loadTo ds k + 8 / (dem ds k).ev
theorem loadTo_le {ds : List Dem} (ha : areB ds = true) : ∀ k, k ≤ ds.length → 0 ≤ loadTo ds k ∧ loadTo ds k ≤ 8 * k
  | 0, _ => by simp [loadTo]
  | k + 1, hk => by
    have ih := loadTo_le ha k (by omega)
    obtain ⟨e1, e2, e3, e4⟩ := ev_nat ha (k := k) (by omega)
    rw [loadTo, e1]
    rcases e4 with e | e | e | e <;> rw [e] <;> omega
def ldC (ds : List Dem) : Int := if areB ds then 0 else 1
def ldR (ds : List Dem) : Int := if areB ds then loadTo ds ds.length else 0
set_option maxHeartbeats 1600000 in
theorem iLoadOf_any (A : Option Addr) (q c : Nat) (ds : List Dem) (w : World) (h : RdF 3 w A q c (flatD ds)) :
    Calls Try.prog 11 #[.slice A q c] w fun x w' => x = .returned (.tuple #[.int .i64 (ldR ds), .int .i64 (ldC ds)]) ∧ Below w.heap.size w w' := by
  have hl : ds.length = q := by have := h.len; rw [flatD_len] at this; omega
  have hcap := h.cap
  go_enter Try.func11, Try.ntmps11
  cases ha : areB ds
  · go_wp2_with (go_at_call 21; refine (iAreDemands_any _ _ _ ds _ h).mono ?_; rintro e w1 ⟨rfl, b1⟩; rw [ha])
    go_ret2
    exact ⟨by rw [ldR, ldC, ha]; rfl, b1⟩
  · have hq := are_len ha
    go_wp2_with (go_at_call 21; refine (iAreDemands_any _ _ _ ds _ h).mono ?_; rintro e w1 ⟨rfl, b1⟩; rw [ha])
    go_loopw [4, 12] (fun s i wr => ∃ k : Nat, k ≤ q ∧ i = .int .i64 k ∧ s = .int .i64 (loadTo ds k) ∧ Below w.heap.size w wr) (fun _ i _ => q - (intOf i).toNat)
    case atStart => exact ⟨0, by omega, rfl, rfl, b1⟩
    case round =>
      obtain ⟨k, hk, rfl, rfl, hbel⟩ := hrel
      by_cases hlt : k < q
      · obtain ⟨b, off, rfl, hbb, hc⟩ := h.at_ (by omega)
        obtain ⟨d0, d1, d2⟩ := dem_cells hc hl hbel hbb hlt
        obtain ⟨e1, e2, e3, e4⟩ := ev_nat ha (k := k) (by omega)
        have lb := loadTo_le ha k (by omega)
        have LS := hide (show loadTo ds (k + 1) = loadTo ds k + 8 / (dem ds k).ev from rfl)
        rw [e1] at d1
        rw [e1] at LS
        generalize loadTo ds k = y at lb LS ⊢
        generalize evN ds k = e at d1 LS e2 e3 e4
        clear hc e1
        have BN := hide (hbel.alloc hbel.size (.cells #[.int .i64 (dem ds k).nd, .int .i64 (e : Int), .int .i64 (dem ds k).sz] 38))
        rcases e4 with rfl | rfl | rfl | rfl
        all_goals
          go_wp2
          go_roundw
          case rel => exact ⟨k + 1, by omega, by go_num, by rw [LS.out]; rfl, BN.out⟩
          case measure => simp [intOf]; omega
      · obtain rfl : k = q := by omega
        go_wp2
        go_ret2
        exact ⟨by rw [ldR, ldC, ha, hl]; rfl, hbel⟩
end Go.Proofs.Ytcbejjkbjompfaa
