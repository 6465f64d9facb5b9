/- Contracts: the drift between two edges, the worst drift of all. -/
import Derived.Test.YtopccpnkokdmiaaWorst
namespace Go.Proofs.Ytopccpnkokdmiaa
open Go.RowKit
set_option linter.unusedVariables false
set_option linter.unusedSimpArgs false

def edC (zs : List Int) (a b : Int) : Int := if bitsB zs then (if hasB (edgA zs) a && (hasB (edgA zs) b && decide (a ≤ b)) then 0 else 2) else 1
def edR (zs : List Int) (a b : Int) : Int := if bitsB zs then (if hasB (edgA zs) a && (hasB (edgA zs) b && decide (a ≤ b)) then drf (b - a) else 0) else 0
theorem ed_yes {zs : List Int} {a b : Int} (h : bitsB zs = true) (h1 : hasB (edgA zs) a = true) (h2 : hasB (edgA zs) b = true) (h3 : a ≤ b) : edR zs a b = drf (b - a) ∧ edC zs a b = 0 := by simp [edR, edC, h, h1, h2, h3]
theorem ed_range {zs : List Int} {a b : Int} (h : bitsB zs = true) (h1 : hasB (edgA zs) a = false ∨ hasB (edgA zs) b = false ∨ b < a) : edR zs a b = 0 ∧ edC zs a b = 2 := by
  have : (hasB (edgA zs) a && (hasB (edgA zs) b && decide (a ≤ b))) = false := by
    rcases h1 with h1 | h1 | h1
    · simp [h1]
    · simp [h1]
    · have : ¬ a ≤ b := by omega
      simp [this]
  simp [edR, edC, h, this]
theorem ed_no {zs : List Int} {a b : Int} (h : bitsB zs = false) : edR zs a b = 0 ∧ edC zs a b = 1 := by simp [edR, edC, h]
theorem has_bounds {zs : List Int} {a : Int} (h : hasB (edgA zs) a = true) : 0 ≤ a ∧ a < zs.length := edg_bounds (of_decide_eq_true h)
/-- the worst drift of the first k numbers -/
def wdTo (l : List Int) : Nat → Int
  | 0 => 0
  | k + 1 => if k = 0 then 0 else max (wdTo l k) (absI (drf (nth l k - nth l (k - 1))))
theorem wdTo_succ {l : List Int} {k : Nat} (h : 1 ≤ k) : wdTo l (k + 1) = max (wdTo l k) (absI (drf (nth l k - nth l (k - 1)))) := by rw [wdTo, if_neg (by omega)]
theorem absI_bounds (x : Int) : 0 ≤ absI (drf x) ∧ absI (drf x) ≤ 4 := by
  have := drf_bounds (x := x)
  unfold absI
  omega
theorem wdTo_bounds (l : List Int) (k : Nat) : 0 ≤ wdTo l k ∧ wdTo l k ≤ 4 := by
  induction k with
  | zero => exact ⟨by simp [wdTo], by simp [wdTo]⟩
  | succ k ih =>
    rw [wdTo]
    split
    · omega
    · have := absI_bounds (nth l k - nth l (k - 1))
      omega
theorem wdTo_end {l : List Int} {k : Nat} (h : k = l.length ∨ k = 1 ∧ l.length ≤ 1) : wdTo l k = wdTo l l.length := by
  rcases h with rfl | ⟨rfl, h⟩
  · rfl
  · have : l.length = 0 ∨ l.length = 1 := by omega
    rcases this with e | e <;> rw [e] <;> rfl
theorem edgA_step {zs : List Int} {k : Nat} (h1 : 1 ≤ k) (hk : k < (edgA zs).length) : 0 ≤ nth (edgA zs) k - nth (edgA zs) (k - 1) ∧ nth (edgA zs) k - nth (edgA zs) (k - 1) ≤ zs.length := by
  have h2 := sorted_nth (edgG_sorted (pA zs) zs.length) (i := k - 1) (j := k) (by omega) hk
  have h3 := edgA_bounds zs k hk
  have h4 := edgA_bounds zs (k - 1) (by omega)
  show 0 ≤ nth (edgA zs) k - nth (edgA zs) (k - 1) ∧ _
  unfold edgA at *
  omega
def wdR (zs : List Int) : Int := if bitsB zs then wdTo (edgA zs) (edgA zs).length else 0
theorem wdR_yes {zs : List Int} (h : bitsB zs = true) : wdR zs = wdTo (edgA zs) (edgA zs).length := by simp [wdR, h]
theorem wdR_no {zs : List Int} (h : bitsB zs = false) : wdR zs = 0 := by simp [wdR, h]
set_option maxHeartbeats 800000 in
theorem iEdgeDrift_c (A : Option Addr) (n c : Nat) (zs : List Int) (a b : Int) (w : World) (h : Rd w A n c zs) (ha : -9223372036854775808 ≤ a ∧ a ≤ 9223372036854775807) (hb : -9223372036854775808 ≤ b ∧ b ≤ 9223372036854775807) (hn : n ≤ 1048576) :
    Calls Try.prog 86 #[.slice A n c, .int .i64 a, .int .i64 b] w fun e w' => e = .returned (.tuple #[.int .i64 (edR zs a b), .int .i64 (edC zs a b)]) ∧ Below w.heap.size w w' := by
  have hlen := h.le
  by_cases hz : bitsB zs = true
  · have hall := hide (bits_all hz)
    have h8 := bits_len hz
    go_enter Try.func86, Try.ntmps86
    go_wp2_with (first | (go_at_call 100; refine (iIsBits_any _ _ _ _ _ h).mono ?_; rintro e w' ⟨rfl, rfl⟩))
    refine (edgesOf_any _ _ _ _ _ h hn hall.out).mono ?_
    rintro e w1 ⟨A1, m1, c1, rfl, own1, b1, hm1⟩
    by_cases h1 : hasB (edgA zs) a = true
    · by_cases h2 : hasB (edgA zs) b = true
      · have ba := has_bounds h1
        have bb := has_bounds h2
        by_cases h3 : b < a
        · obtain ⟨e1, e2⟩ := ed_range hz (.inr (.inr h3))
          have E1 := hide e1
          have E2 := hide e2
          clear e1 e2
          go_wp2_with (first | (go_at_call 131; refine (contains_any _ _ _ _ _ _ own1.rd).mono ?_; rintro e w' ⟨rfl, rfl⟩))
          go_ret2
          exact ⟨ret_pair E1.out.symm E2.out.symm, b1⟩
        · obtain ⟨e1, e2⟩ := ed_yes hz h1 h2 (by omega)
          have E1 := hide e1
          have E2 := hide e2
          clear e1 e2
          go_wp2_with (first | (go_at_call 131; refine (contains_any _ _ _ _ _ _ own1.rd).mono ?_; rintro e w' ⟨rfl, rfl⟩) | (go_at_call 129; refine (drift_any _ _ (by omega) (by omega)).mono ?_; rintro e w' ⟨rfl, rfl⟩))
          go_ret2
          exact ⟨ret_pair E1.out.symm E2.out.symm, b1⟩
      · rw [Bool.not_eq_true] at h2
        obtain ⟨e1, e2⟩ := ed_range hz (.inr (.inl h2))
        have E1 := hide e1
        have E2 := hide e2
        clear e1 e2
        go_wp2_with (first | (go_at_call 131; refine (contains_any _ _ _ _ _ _ own1.rd).mono ?_; rintro e w' ⟨rfl, rfl⟩))
        go_ret2
        exact ⟨ret_pair E1.out.symm E2.out.symm, b1⟩
    · rw [Bool.not_eq_true] at h1
      obtain ⟨e1, e2⟩ := ed_range hz (.inl h1)
      have E1 := hide e1
      have E2 := hide e2
      clear e1 e2
      go_wp2_with (first | (go_at_call 131; refine (contains_any _ _ _ _ _ _ own1.rd).mono ?_; rintro e w' ⟨rfl, rfl⟩))
      go_ret2
      exact ⟨ret_pair E1.out.symm E2.out.symm, b1⟩
  · rw [Bool.not_eq_true] at hz
    obtain ⟨e1, e2⟩ := ed_no (a := a) (b := b) hz
    have E1 := hide e1
    have E2 := hide e2
    clear e1 e2
    go_enter Try.func86, Try.ntmps86
    go_wp2_with (first | (go_at_call 100; refine (iIsBits_any _ _ _ _ _ h).mono ?_; rintro e w' ⟨rfl, rfl⟩))
    go_ret2
    exact ⟨ret_pair E1.out.symm E2.out.symm, Below.refl _ _⟩
set_option maxHeartbeats 800000 in
theorem sEdgeDrift_c (A : Option Addr) (n c : Nat) (zs : List Int) (a b : Int) (w : World) (h : Rd w A n c zs) (ha : -9223372036854775808 ≤ a ∧ a ≤ 9223372036854775807) (hb : -9223372036854775808 ≤ b ∧ b ≤ 9223372036854775807) (hn : n ≤ 1048576) :
    Calls Try.prog 85 #[.slice A n c, .int .i64 a, .int .i64 b] w fun e w' => e = .returned (.tuple #[.int .i64 (edR zs a b), .int .i64 (edC zs a b)]) ∧ Below w.heap.size w w' := by
  have hlen := h.le
  by_cases hz : bitsB zs = true
  · have hall := hide (bits_all hz)
    have h8 := bits_len hz
    go_enter Try.func85, Try.ntmps85
    go_wp2_with (first | (go_at_call 99; refine (sIsBits_any _ _ _ _ _ h).mono ?_; rintro e w' ⟨rfl, rfl⟩))
    refine (l22Edges_all _ _ _ _ _ h hn).mono ?_
    rintro e w1 ⟨A1, m1, c1, rfl, own1, b1, hm1⟩
    by_cases h1 : hasB (edgA zs) a = true
    · by_cases h2 : hasB (edgA zs) b = true
      · have ba := has_bounds h1
        have bb := has_bounds h2
        by_cases h3 : b < a
        · obtain ⟨e1, e2⟩ := ed_range hz (.inr (.inr h3))
          have E1 := hide e1
          have E2 := hide e2
          clear e1 e2
          go_wp2_with (first | (go_at_call 130; refine (l01Has_any _ _ _ _ _ _ own1.rd).mono ?_; rintro e w' ⟨rfl, rfl⟩))
          go_ret2
          exact ⟨ret_pair E1.out.symm E2.out.symm, b1⟩
        · obtain ⟨e1, e2⟩ := ed_yes hz h1 h2 (by omega)
          have E1 := hide e1
          have E2 := hide e2
          clear e1 e2
          go_wp2_with (first | (go_at_call 130; refine (l01Has_any _ _ _ _ _ _ own1.rd).mono ?_; rintro e w' ⟨rfl, rfl⟩) | (go_at_call 127; refine (l22Drift_any _ _ (by omega) (by omega)).mono ?_; rintro e w' ⟨rfl, rfl⟩))
          go_ret2
          exact ⟨ret_pair E1.out.symm E2.out.symm, b1⟩
      · rw [Bool.not_eq_true] at h2
        obtain ⟨e1, e2⟩ := ed_range hz (.inr (.inl h2))
        have E1 := hide e1
        have E2 := hide e2
        clear e1 e2
        go_wp2_with (first | (go_at_call 130; refine (l01Has_any _ _ _ _ _ _ own1.rd).mono ?_; rintro e w' ⟨rfl, rfl⟩))
        go_ret2
        exact ⟨ret_pair E1.out.symm E2.out.symm, b1⟩
    · rw [Bool.not_eq_true] at h1
      obtain ⟨e1, e2⟩ := ed_range hz (.inl h1)
      have E1 := hide e1
      have E2 := hide e2
      clear e1 e2
      go_wp2_with (first | (go_at_call 130; refine (l01Has_any _ _ _ _ _ _ own1.rd).mono ?_; rintro e w' ⟨rfl, rfl⟩))
      go_ret2
      exact ⟨ret_pair E1.out.symm E2.out.symm, b1⟩
  · rw [Bool.not_eq_true] at hz
    obtain ⟨e1, e2⟩ := ed_no (a := a) (b := b) hz
    have E1 := hide e1
    have E2 := hide e2
    clear e1 e2
    go_enter Try.func85, Try.ntmps85
    go_wp2_with (first | (go_at_call 99; refine (sIsBits_any _ _ _ _ _ h).mono ?_; rintro e w' ⟨rfl, rfl⟩))
    go_ret2
    exact ⟨ret_pair E1.out.symm E2.out.symm, Below.refl _ _⟩
theorem drift_q (x : Int) (w : World) (h0 : 0 ≤ x) (h1 : x ≤ 1099511627776) : Calls Try.prog 129 #[.int .i64 x] w fun e w' => e = .returned (.int .i64 (drf x)) ∧ w' = w :=
  (drift_any x w h0 h1).mono fun _ _ ⟨a, b⟩ => ⟨a, b.symm⟩
theorem l22Drift_q (x : Int) (w : World) (h0 : 0 ≤ x) (h1 : x ≤ 1099511627776) : Calls Try.prog 127 #[.int .i64 x] w fun e w' => e = .returned (.int .i64 (drf x)) ∧ w' = w :=
  (l22Drift_any x w h0 h1).mono fun _ _ ⟨a, b⟩ => ⟨a, b.symm⟩
theorem l01Abs_q (x : Int) (w : World) (h0 : -1099511627776 ≤ x) (h1 : x ≤ 1099511627776) : Calls Try.prog 126 #[.int .i64 x] w fun e w' => e = .returned (.int .i64 (absI x)) ∧ w' = w :=
  (l01Abs_any x w h0 h1).mono fun _ _ ⟨a, b⟩ => ⟨a, b.symm⟩
set_option maxHeartbeats 1600000 in
theorem iWorstDriftOf_c (A : Option Addr) (n c : Nat) (zs : List Int) (w : World) (h : Rd w A n c zs) (hn : n ≤ 1048576) :
    Calls Try.prog 82 #[.slice A n c] w fun e w' => e = .returned (.tuple #[.int .i64 (wdR zs), .int .i64 (bitsC zs)]) ∧ Below w.heap.size w w' := by
  have hlen := h.le
  by_cases hz : bitsB zs = true
  · have hall := hide (bits_all hz)
    have h8 := bits_len hz
    have E1 := hide (wdR_yes hz)
    have E2 := hide (bitsC_yes hz)
    go_enter Try.func82, Try.ntmps82
    go_wp2_with (first | (go_at_call 100; refine (iIsBits_any _ _ _ _ _ h).mono ?_; rintro e w' ⟨rfl, rfl⟩))
    refine (edgesOf_any _ _ _ _ _ h hn hall.out).mono ?_
    rintro e w1 ⟨A1, m1, c1, rfl, own1, b1, hm1⟩
    have HL := hide own1.len
    have hcap := own1.cap
    go_wp2_with fail
    go_loopw [4, 6] (fun s i wr => ∃ k q : Nat, 1 ≤ k ∧ (k ≤ m1 ∨ k = 1) ∧ i = .int .i64 k ∧ s = .int .i64 (wdTo (edgA zs) k) ∧ wr = w1.drewN q) (fun _ i _ => m1 - (intOf i).toNat)
    case atStart => exact ⟨1, 0, by omega, by omega, rfl, rfl, rfl⟩
    case round =>
      obtain ⟨k, q, h1, hk, rfl, rfl, rfl⟩ := hrel
      by_cases hlt : k < m1
      · rcases own1.form with ⟨_, h0, _⟩ | ⟨gb, rfl, _, _⟩
        · omega
        have hck := own1.cell hlt
        have hcp := own1.cell (k := k - 1) (by omega)
        have hst := edgA_step (zs := zs) h1 (by have := HL.out; omega)
        have z1 : (0 : Int) ≤ (k : Int) := by omega
        have z2 : (k : Int) < (m1 : Int) := by omega
        have z3 : (0 : Int) ≤ (k : Int) - 1 := by omega
        have z4 : (k : Int) - 1 < (m1 : Int) := by omega
        have hs := hide (wdTo_succ (l := edgA zs) h1)
        go_wp2_with fail
        have e1 : IntKind.i64.wrap ((k : Int) - 1) = (k : Int) - 1 := IntWalk.i64_in _ (by omega)
        have e3 : ((k : Int) - 1).toNat = k - 1 := by omega
        have wb := wdTo_bounds (edgA zs) k
        generalize nth (edgA zs) k = x at hck hst hs ⊢
        generalize nth (edgA zs) (k - 1) = y at hcp hst hs ⊢
        have e2 : IntKind.i64.wrap (x - y) = x - y := by
          have i1 := own1.i64
          exact IntWalk.i64_in _ (by omega)
        have db := drf_bounds (x := x - y)
        go_quiet ((go_at_call 129; first | exact Calls.quiet_of_same (drift_q _ _ (by omega) (by omega)) | exact quiet_left (drift_any _ _ (by omega) (by omega)) | exact quiet_add_left (drift_any _ _ (by omega) (by omega))))
        clear e1 e2 e3
        go_wp2_with fail
        go_roundw
        case rel =>
          refine ⟨k + 1, _, by omega, by omega, by go_num, ?_, by first | rfl | exact World.drewN_drewN _ _ _⟩
          rw [hs.out]
          congr 1
          simp only [absI, Int.max_def]
          repeat' split
          all_goals omega
        case measure => simp [intOf]; omega
      · have he : Hid (wdTo (edgA zs) k = wdTo (edgA zs) (edgA zs).length) := wdTo_end (by have := HL.out; omega)
        clear hk
        go_wp2_with fail
        go_ret2
        exact ⟨ret_pair (he.out.trans E1.out.symm) E2.out, below_drewN b1 _⟩
  · rw [Bool.not_eq_true] at hz
    have E1 := hide (wdR_no hz)
    have E2 := hide (bitsC_no hz)
    go_enter Try.func82, Try.ntmps82
    go_wp2_with (first | (go_at_call 100; refine (iIsBits_any _ _ _ _ _ h).mono ?_; rintro e w' ⟨rfl, rfl⟩))
    go_ret2
    exact ⟨ret_pair E1.out.symm E2.out, Below.refl _ _⟩
set_option maxHeartbeats 1600000 in
theorem sWorstDriftOf_c (A : Option Addr) (n c : Nat) (zs : List Int) (w : World) (h : Rd w A n c zs) (hn : n ≤ 1048576) :
    Calls Try.prog 81 #[.slice A n c] w fun e w' => e = .returned (.tuple #[.int .i64 (wdR zs), .int .i64 (bitsC zs)]) ∧ Below w.heap.size w w' := by
  have hlen := h.le
  by_cases hz : bitsB zs = true
  · have hall := hide (bits_all hz)
    have h8 := bits_len hz
    have E1 := hide (wdR_yes hz)
    have E2 := hide (bitsC_yes hz)
    go_enter Try.func81, Try.ntmps81
    go_wp2_with (first | (go_at_call 99; refine (sIsBits_any _ _ _ _ _ h).mono ?_; rintro e w' ⟨rfl, rfl⟩))
    refine (l22Edges_all _ _ _ _ _ h hn).mono ?_
    rintro e w1 ⟨A1, m1, c1, rfl, own1, b1, hm1⟩
    have HL := hide own1.len
    have hcap := own1.cap
    go_wp2_with fail
    go_loopw [5, 6] (fun s i wr => ∃ k q : Nat, 1 ≤ k ∧ (k ≤ m1 ∨ k = 1) ∧ i = .int .i64 k ∧ s = .int .i64 (wdTo (edgA zs) k) ∧ wr = w1.drewN q) (fun _ i _ => m1 - (intOf i).toNat)
    case atStart => exact ⟨1, 0, by omega, by omega, rfl, rfl, rfl⟩
    case round =>
      obtain ⟨k, q, h1, hk, rfl, rfl, rfl⟩ := hrel
      by_cases hlt : k < m1
      · rcases own1.form with ⟨_, h0, _⟩ | ⟨gb, rfl, _, _⟩
        · omega
        have hck := own1.cell hlt
        have hcp := own1.cell (k := k - 1) (by omega)
        have hst := edgA_step (zs := zs) h1 (by have := HL.out; omega)
        have z1 : (0 : Int) ≤ (k : Int) := by omega
        have z2 : (k : Int) < (m1 : Int) := by omega
        have z3 : (0 : Int) ≤ (k : Int) - 1 := by omega
        have z4 : (k : Int) - 1 < (m1 : Int) := by omega
        have hs := hide (wdTo_succ (l := edgA zs) h1)
        go_wp2_with fail
        have e1 : IntKind.i64.wrap ((k : Int) - 1) = (k : Int) - 1 := IntWalk.i64_in _ (by omega)
        have e3 : ((k : Int) - 1).toNat = k - 1 := by omega
        have wb := wdTo_bounds (edgA zs) k
        generalize nth (edgA zs) k = x at hck hst hs ⊢
        generalize nth (edgA zs) (k - 1) = y at hcp hst hs ⊢
        have e2 : IntKind.i64.wrap (x - y) = x - y := by
          have i1 := own1.i64
          exact IntWalk.i64_in _ (by omega)
        have db := drf_bounds (x := x - y)
        go_quiet (first
          | (go_at_call 127; first | exact Calls.quiet_of_same (l22Drift_q _ _ (by omega) (by omega)) | exact quiet_left (l22Drift_any _ _ (by omega) (by omega)) | exact quiet_add_left (l22Drift_any _ _ (by omega) (by omega)))
          | (go_at_call 126; first | exact Calls.quiet_of_same (l01Abs_q _ _ (by omega) (by omega)) | exact quiet_left (l01Abs_any _ _ (by omega) (by omega)) | exact quiet_add_left (l01Abs_any _ _ (by omega) (by omega))))
        clear e1 e2 e3
        go_wp2_with fail
        go_roundw
        case rel =>
          refine ⟨k + 1, _, by omega, by omega, by go_num, ?_, by first | rfl | exact World.drewN_drewN _ _ _⟩
          rw [hs.out]
        case measure => simp [intOf]; omega
      · have he : Hid (wdTo (edgA zs) k = wdTo (edgA zs) (edgA zs).length) := wdTo_end (by have := HL.out; omega)
        clear hk
        go_wp2_with fail
        go_ret2
        exact ⟨ret_pair (he.out.trans E1.out.symm) E2.out, below_drewN b1 _⟩
  · rw [Bool.not_eq_true] at hz
    have E1 := hide (wdR_no hz)
    have E2 := hide (bitsC_no hz)
    go_enter Try.func81, Try.ntmps81
    go_wp2_with (first | (go_at_call 99; refine (sIsBits_any _ _ _ _ _ h).mono ?_; rintro e w' ⟨rfl, rfl⟩))
    go_ret2
    exact ⟨ret_pair E1.out.symm E2.out, Below.refl _ _⟩
end Go.Proofs.Ytopccpnkokdmiaa
