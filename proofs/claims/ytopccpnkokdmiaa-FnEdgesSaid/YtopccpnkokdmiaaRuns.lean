/- Contracts: the lengths of runs. -/
import Derived.Test.YtopccpnkokdmiaaMiddle
namespace Go.Proofs.Ytopccpnkokdmiaa
open Go.RowKit
set_option linter.unusedVariables false
set_option linter.unusedSimpArgs false

/-- the last number of a list raised by one -/
def bump (l : List Int) : List Int := l.set (l.length - 1) (nth l (l.length - 1) + 1)
theorem bump_snoc (l : List Int) (x : Int) : bump (l ++ [x]) = l ++ [x + 1] := by
  have hl : (l ++ [x]).length - 1 = l.length := by simp
  have hn : nth (l ++ [x]) l.length = x := by
    rw [nth_eq (by simp)]
    simp
  rw [bump, hl, hn, List.set_append_right _ _ (Nat.le_refl _), Nat.sub_self, List.set_cons_zero]
theorem bump_len (l : List Int) : (bump l).length = l.length := by simp [bump]
/-- the lengths of the runs of the first k samples -/
def runsTo (zs : List Int) : Nat → List Int
  | 0 => []
  | k + 1 => if 0 < k ∧ nth zs k = nth zs (k - 1) then bump (runsTo zs k) else runsTo zs k ++ [1]
theorem runsTo_same {zs : List Int} {k : Nat} (h : 0 < k ∧ nth zs k = nth zs (k - 1)) : runsTo zs (k + 1) = bump (runsTo zs k) := by rw [runsTo, if_pos h]
theorem runsTo_new {zs : List Int} {k : Nat} (h : ¬ (0 < k ∧ nth zs k = nth zs (k - 1))) : runsTo zs (k + 1) = runsTo zs k ++ [1] := by rw [runsTo, if_neg h]
theorem runsTo_len (zs : List Int) (k : Nat) : (runsTo zs k).length ≤ k ∧ (0 < k → 0 < (runsTo zs k).length) := by
  induction k with
  | zero => exact ⟨Nat.le_refl _, fun h => absurd h (by omega)⟩
  | succ k ih =>
    by_cases h : 0 < k ∧ nth zs k = nth zs (k - 1)
    · rw [runsTo_same h, bump_len]
      have := ih.2 h.1
      omega
    · rw [runsTo_new h, List.length_append, List.length_singleton]
      omega
theorem runsTo_bounds (zs : List Int) (k : Nat) : ∀ z ∈ runsTo zs k, 1 ≤ z ∧ z ≤ k := by
  induction k with
  | zero => intro z hz; cases hz
  | succ k ih =>
    intro z hz
    by_cases h : 0 < k ∧ nth zs k = nth zs (k - 1)
    · rw [runsTo_same h] at hz
      rcases List.mem_or_eq_of_mem_set hz with hz | rfl
      · have := ih z hz; omega
      · have hl := (runsTo_len zs k).2 h.1
        have := ih _ (nth_mem (zs := runsTo zs k) (k := (runsTo zs k).length - 1) (by omega))
        omega
    · rw [runsTo_new h] at hz
      rcases List.mem_append.1 hz with hz | hz
      · have := ih z hz; omega
      · simp at hz
        omega
def runs (zs : List Int) : List Int := runsTo zs zs.length

theorem runsTo_last (zs : List Int) (k : Nat) (h : 0 < k) : 1 ≤ nth (runsTo zs k) ((runsTo zs k).length - 1) ∧ nth (runsTo zs k) ((runsTo zs k).length - 1) ≤ k :=
  runsTo_bounds zs k _ (nth_mem (by have := (runsTo_len zs k).2 h; omega))

theorem runLengths_any (A : Option Addr) (n c : Nat) (zs : List Int) (w : World) (h : Rd w A n c zs) (hn : n ≤ 1048576) :
    Calls Try.prog 106 #[.slice A n c] w fun e w' => ∃ A' m c', e = .returned (.slice A' m c') ∧ Own w' w.heap.size A' m c' (runs zs) ∧ Below w.heap.size w w' ∧ m ≤ n := by
  have hlen := h.le
  have hcap := h.cap
  go_enter Try.func106, Try.ntmps106
  go_wp2
  go_loopw [3, 9] (fun s i wr => ∃ (k m : Nat) (A' : Option Addr) (c' : Nat), k ≤ n ∧ m ≤ k ∧ s = .slice A' m c' ∧ i = .int .i64 k ∧ Own wr w.heap.size A' m c' (runsTo zs k) ∧ Below w.heap.size w wr) (fun _ i _ => n - (intOf i).toNat)
  case atStart => exact ⟨0, 0, _, _, by omega, by omega, rfl, rfl, Own.empty w (Nat.le_refl _), (Below.refl _ _).alloc (Nat.le_refl _) _⟩
  case round =>
    obtain ⟨k, m, A', c', hk, hm, rfl, rfl, hown, hbel⟩ := hrel
    have hsz := hbel.size
    by_cases hlt : k < n
    · obtain ⟨b, off, rfl, hbb, hc⟩ := h.at_ (by omega)
      have hck := (hbel.cell (p := ⟨b, off + k, none⟩) hbb).trans (hc k hlt)
      by_cases hsame : 0 < k ∧ nth zs k = nth zs (k - 1)
      · have h0 := hsame.1
        have hcp := (hbel.cell (p := ⟨b, off + (k - 1), none⟩) hbb).trans (hc (k - 1) (by omega))
        have t1 : ((k : Int) == 0) = false := by simp; omega
        have t2 : (nth zs k != nth zs (k - 1)) = false := by simp [hsame.2]
        have hst := hide (runsTo_same hsame)
        have hml : m = (runsTo zs k).length := hown.len.symm
        have hm0 : 0 < m := by have := (runsTo_len zs k).2 h0; omega
        have hlast := runsTo_last zs k h0
        rw [← hml] at hlast
        rcases hown.form with ⟨_, h0', _⟩ | ⟨g, rfl, hg1, hg2⟩
        · omega
        have hcell := hown.cell (k := m - 1) (by omega)
        have hfz := hown.frozen (m - 1)
        have hset := hown.set (m - 1) (x := nth (runsTo zs k) (m - 1) + 1) (by omega) (by omega)
        have hbump : Hid ((runsTo zs k).set (m - 1) (nth (runsTo zs k) (m - 1) + 1) = runsTo zs (k + 1)) := by
          show _ = _
          rw [hst.out, bump, ← hml]
        rw [hbump.out] at hset
        have hset' := hide hset
        have hbel' := hide (hbel.setCell (p := ⟨g, m - 1, none⟩) hg1 (.int .i64 (nth (runsTo zs k) (m - 1) + 1)))
        clear hset hml hsame hc hown hbel
        go_wp2
        go_roundw
        case rel => exact ⟨k + 1, m, _, c', by omega, by omega, rfl, by go_num, hset'.out, hbel'.out⟩
        case measure => simp [intOf]; omega
      · have hst := hide (runsTo_new hsame)
        by_cases h0 : 0 < k
        · have hne : ¬ nth zs k = nth zs (k - 1) := fun e => hsame ⟨h0, e⟩
          have hcp := (hbel.cell (p := ⟨b, off + (k - 1), none⟩) hbb).trans (hc (k - 1) (by omega))
          have t1 : ((k : Int) == 0) = false := by simp; omega
          have t2 : (nth zs k != nth zs (k - 1)) = true := by simp [hne]
          clear hsame hne hc
          go_wp2_with (at_builtin; refine append_new rfl _ _ rfl w.heap.size rfl hown _ [0] 1 rfl (I64.one (by decide) (by decide)) rfl rfl (by omega) hsz ?_; intro A2 c2 w2 own2 gr2; rcases own2.form with ⟨_, h0', _⟩ | ⟨g, rfl, hg1, hg2⟩; (exact absurd h0' (by omega)); have hcell := own2.cell (k := m) (by omega); have hfz := own2.frozen m; have e0 : nth (runsTo zs k ++ [0]) m = 0 := (by rw [← hown.len, nth_eq (by simp)]; simp); rw [e0] at hcell; clear e0)
          have hb2 := below_mark hbel hown (Nat.le_refl _) gr2
          have hset := own2.set m (x := 1) (by decide) (by decide)
          have e : (runsTo zs k ++ [0]).set m 1 = runsTo zs (k + 1) := by
            rw [hst.out, ← hown.len, List.set_append_right _ _ (Nat.le_refl _), Nat.sub_self, List.set_cons_zero]
          rw [e] at hset
          go_roundw
          case rel => exact ⟨k + 1, m + 1, _, c2, by omega, by omega, rfl, by go_num, hset, hb2.setCell (p := ⟨g, m, none⟩) hg1 _⟩
          case measure => simp [intOf]; omega
        · obtain rfl : k = 0 := by omega
          obtain rfl : m = 0 := by omega
          have hck0 : wr.cell? ⟨b, off, none⟩ = some (.int .i64 (nth zs 0)) := hck
          clear hsame hc hm hck
          go_wp2_with (at_builtin; refine append_new rfl _ _ rfl w.heap.size rfl hown _ [0] 1 rfl (I64.one (by decide) (by decide)) rfl rfl (by omega) hsz ?_; intro A2 c2 w2 own2 gr2; rcases own2.form with ⟨_, h0', _⟩ | ⟨g, rfl, hg1, hg2⟩; (exact absurd h0' (by omega)); have hcell : w2.cell? ⟨g, 0, none⟩ = some (.int .i64 0) := own2.cell (k := 0) (by omega); have hfz := own2.frozen 0)
          have hb2 := below_mark hbel hown (Nat.le_refl _) gr2
          have hset := own2.set 0 (x := 1) (by decide) (by decide)
          have e : (runsTo zs 0 ++ [0]).set 0 1 = runsTo zs (0 + 1) := by
            rw [hst.out]; rfl
          rw [e] at hset
          go_roundw
          case rel => exact ⟨1, 1, _, c2, by omega, by omega, rfl, by go_num, hset, hb2.setCell (p := ⟨g, 0, none⟩) hg1 _⟩
          case measure => simp [intOf]; omega
    · obtain rfl : k = n := by omega
      have hfin : Own wr w.heap.size A' m c' (runs zs) := by rw [runs, h.len]; exact hown
      go_wp2
      go_ret
      exact ⟨A', m, c', rfl, hfin, hbel, hm⟩

theorem l20Runs_any (A : Option Addr) (n c : Nat) (zs : List Int) (w : World) (h : Rd w A n c zs) (hn : n ≤ 1048576) :
    Calls Try.prog 105 #[.slice A n c] w fun e w' => ∃ A' m c', e = .returned (.slice A' m c') ∧ Own w' w.heap.size A' m c' (runs zs) ∧ Below w.heap.size w w' ∧ m ≤ n := by
  have hlen := h.le
  have hcap := h.cap
  go_enter Try.func105, Try.ntmps105
  go_wp2
  go_loopw [3, 4] (fun s i wr => ∃ (k m : Nat) (A' : Option Addr) (c' : Nat), k ≤ n ∧ m ≤ k ∧ s = .slice A' m c' ∧ i = .int .i64 k ∧ Own wr w.heap.size A' m c' (runsTo zs k) ∧ Below w.heap.size w wr) (fun _ i _ => n - (intOf i).toNat)
  case atStart => exact ⟨0, 0, _, _, by omega, by omega, rfl, rfl, Own.empty w (Nat.le_refl _), (Below.refl _ _).alloc (Nat.le_refl _) _⟩
  case round =>
    obtain ⟨k, m, A', c', hk, hm, rfl, rfl, hown, hbel⟩ := hrel
    have hsz := hbel.size
    by_cases hlt : k < n
    · obtain ⟨b, off, rfl, hbb, hc⟩ := h.at_ (by omega)
      have hck := (hbel.cell (p := ⟨b, off + k, none⟩) hbb).trans (hc k hlt)
      have z1 : (0 : Int) ≤ (k : Int) := by omega
      have z2 : (k : Int) < (n : Int) := by omega
      by_cases hsame : 0 < k ∧ nth zs k = nth zs (k - 1)
      · have h0 := hsame.1
        have hcp := (hbel.cell (p := ⟨b, off + (k - 1), none⟩) hbb).trans (hc (k - 1) (by omega))
        have z3 : (0 : Int) ≤ (k : Int) - 1 := by omega
        have z4 : (k : Int) - 1 < (n : Int) := by omega
        have t1 : decide (0 < k) = true := by simpa using h0
        have t2 : (nth zs k == nth zs (k - 1)) = true := by simp [hsame.2]
        have hst := hide (runsTo_same hsame)
        have hml : m = (runsTo zs k).length := hown.len.symm
        have hm0 : 0 < m := by have := (runsTo_len zs k).2 h0; omega
        have hlast := runsTo_last zs k h0
        rw [← hml] at hlast
        rcases hown.form with ⟨_, h0', _⟩ | ⟨g, rfl, hg1, hg2⟩
        · omega
        have hcell := hown.cell (k := m - 1) (by omega)
        have hfz := hown.frozen (m - 1)
        have hbump : Hid ((runsTo zs k).set (m - 1) (nth (runsTo zs k) (m - 1) + 1) = runsTo zs (k + 1)) := by
          show _ = _
          rw [hst.out, bump, ← hml]
        have hown' := hide hown
        have hbel' := hide hbel
        clear hml hsame hc hown hbel
        go_wp2
        go_quiet (fail)
        go_wp2
        have hset := (hown'.out.drewN nq).set (m - 1) (x := nth (runsTo zs k) (m - 1) + 1) (by omega) (by omega)
        rw [hbump.out] at hset
        have hb2 := (below_drewN hbel'.out nq).setCell (p := ⟨g, m - 1, none⟩) hg1 (.int .i64 (nth (runsTo zs k) (m - 1) + 1))
        go_roundw
        case rel => exact ⟨k + 1, m, _, c', by omega, by omega, rfl, by go_num, hset, hb2⟩
        case measure => simp [intOf]; omega
      · have hst := hide (runsTo_new hsame)
        by_cases h0 : 0 < k
        · have hne : ¬ nth zs k = nth zs (k - 1) := fun e => hsame ⟨h0, e⟩
          have hcp := (hbel.cell (p := ⟨b, off + (k - 1), none⟩) hbb).trans (hc (k - 1) (by omega))
          have z3 : (0 : Int) ≤ (k : Int) - 1 := by omega
          have z4 : (k : Int) - 1 < (n : Int) := by omega
          have t1 : decide (0 < k) = true := by simpa using h0
          have t2 : (nth zs k == nth zs (k - 1)) = false := by simp [hne]
          clear hsame hne hc
          go_wp2
          go_quiet (fail)
          go_wp2_with (at_builtin; refine append_new rfl _ _ rfl w.heap.size rfl (hown.drewN _) _ [1] 1 rfl (I64.one (by decide) (by decide)) rfl rfl (by omega) hsz ?_; intro A2 c2 w2 own2 gr2)
          have hb2 := below_mark (below_drewN hbel _) (hown.drewN _) (Nat.le_refl _) gr2
          rw [← hst.out] at own2
          go_roundw
          case rel => exact ⟨k + 1, m + 1, A2, c2, by omega, by omega, rfl, by go_num, own2, hb2⟩
          case measure => simp [intOf]; omega
        · have t1 : decide (0 < k) = false := by simpa using h0
          clear hsame hc
          go_wp2
          go_quiet (fail)
          go_wp2_with (at_builtin; refine append_new rfl _ _ rfl w.heap.size rfl (hown.drewN _) _ [1] 1 rfl (I64.one (by decide) (by decide)) rfl rfl (by omega) hsz ?_; intro A2 c2 w2 own2 gr2)
          have hb2 := below_mark (below_drewN hbel _) (hown.drewN _) (Nat.le_refl _) gr2
          rw [← hst.out] at own2
          go_roundw
          case rel => exact ⟨k + 1, m + 1, A2, c2, by omega, by omega, rfl, by go_num, own2, hb2⟩
          case measure => simp [intOf]; omega
    · obtain rfl : k = n := by omega
      have hfin : Own wr w.heap.size A' m c' (runs zs) := by rw [runs, h.len]; exact hown
      go_wp2
      go_ret
      exact ⟨A', m, c', rfl, hfin, hbel, hm⟩

def runR (zs : List Int) : List Int := if bitsB zs then runs zs else []
theorem runR_yes {zs : List Int} (h : bitsB zs = true) : runR zs = runs zs := by simp [runR, h]
theorem runR_no {zs : List Int} (h : bitsB zs = false) : runR zs = [] := by simp [runR, h]
theorem iRunLengths_c (A : Option Addr) (n c : Nat) (zs : List Int) (w : World) (h : Rd w A n c zs) (hn : n ≤ 1048576) :
    Calls Try.prog 50 #[.slice A n c] w fun e w' => ∃ A' n' c', e = .returned (.tuple #[.slice A' n' c', .int .i64 (bitsC zs)]) ∧ Own w' w.heap.size A' n' c' (runR zs) ∧ Below w.heap.size w w' ∧ n' ≤ 1048576 := by
  by_cases hb : bitsB zs = true
  · have hC := hide (bitsC_yes hb)
    have hR := hide (runR_yes hb)
    go_enter Try.func50, Try.ntmps50
    go_wp2_with (first | (go_at_call 100; refine (iIsBits_any _ _ _ zs _ h).mono ?_; rintro e w' ⟨rfl, rfl⟩) | (go_at_call 106; refine (runLengths_any _ _ _ zs _ h hn).mono ?_; rintro e w' ⟨A', m, c', rfl, own, bel, hm⟩))
    go_ret2
    exact ⟨A', m, c', ret_sc hC.out, by rw [hR.out]; exact own, bel, by omega⟩
  · have hb : bitsB zs = false := by simpa using hb
    have hC := hide (bitsC_no hb)
    have hR := hide (runR_no hb)
    go_enter Try.func50, Try.ntmps50
    go_wp2_with (go_at_call 100; refine (iIsBits_any _ _ _ zs _ h).mono ?_; rintro e w' ⟨rfl, rfl⟩)
    go_ret2
    exact ⟨none, 0, 0, ret_sc hC.out, by rw [hR.out]; exact Own.nil _ _, Below.refl _ _, by omega⟩
theorem sRunLengths_c (A : Option Addr) (n c : Nat) (zs : List Int) (w : World) (h : Rd w A n c zs) (hn : n ≤ 1048576) :
    Calls Try.prog 49 #[.slice A n c] w fun e w' => ∃ A' n' c', e = .returned (.tuple #[.slice A' n' c', .int .i64 (bitsC zs)]) ∧ Own w' w.heap.size A' n' c' (runR zs) ∧ Below w.heap.size w w' ∧ n' ≤ 1048576 := by
  by_cases hb : bitsB zs = true
  · have hC := hide (bitsC_yes hb)
    have hR := hide (runR_yes hb)
    go_enter Try.func49, Try.ntmps49
    go_wp2_with (first | (go_at_call 99; refine (sIsBits_any _ _ _ zs _ h).mono ?_; rintro e w' ⟨rfl, rfl⟩) | (go_at_call 105; refine (l20Runs_any _ _ _ zs _ h hn).mono ?_; rintro e w' ⟨A', m, c', rfl, own, bel, hm⟩))
    go_ret2
    exact ⟨A', m, c', ret_sc hC.out, by rw [hR.out]; exact own, bel, by omega⟩
  · have hb : bitsB zs = false := by simpa using hb
    have hC := hide (bitsC_no hb)
    have hR := hide (runR_no hb)
    go_enter Try.func49, Try.ntmps49
    go_wp2_with (go_at_call 99; refine (sIsBits_any _ _ _ zs _ h).mono ?_; rintro e w' ⟨rfl, rfl⟩)
    go_ret2
    exact ⟨none, 0, 0, ret_sc hC.out, by rw [hR.out]; exact Own.nil _ _, Below.refl _ _, by omega⟩
end Go.Proofs.Ytopccpnkokdmiaa
