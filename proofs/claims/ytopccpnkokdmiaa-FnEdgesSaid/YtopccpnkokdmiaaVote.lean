/- Contracts: voted samples, the runs of them; runs rounded to cells. -/
import Derived.Test.YtopccpnkokdmiaaOnes
import Derived.Test.YtopccpnkokdmiaaRuns
import Derived.Test.YtopccpnkokdmiaaRound
namespace Go.Proofs.Ytopccpnkokdmiaa
open Go.RowKit
set_option linter.unusedVariables false
set_option linter.unusedSimpArgs false

/-- the voted sample -/
def voteAt (zs : List Int) (k : Nat) : Int := if 3 ≤ onesW zs k then 1 else 0
def votesTo (zs : List Int) (k : Nat) : List Int := (List.range k).map (fun (j : Nat) => voteAt zs j)
theorem votesTo_succ (zs : List Int) (k : Nat) : votesTo zs (k + 1) = votesTo zs k ++ [voteAt zs k] := by simp [votesTo, List.range_succ]
theorem votesTo_len (zs : List Int) (k : Nat) : (votesTo zs k).length = k := by simp [votesTo]
def votes (zs : List Int) : List Int := votesTo zs zs.length
theorem voteAt_yes {zs : List Int} {k : Nat} (h : 3 ≤ onesW zs k) : voteAt zs k = 1 := by simp [voteAt, h]
theorem voteAt_no {zs : List Int} {k : Nat} (h : ¬ 3 ≤ onesW zs k) : voteAt zs k = 0 := by simp [voteAt, h]
theorem onesW_bounds {zs : List Int} (hb : allB 0 1 zs = true) (k : Int) : 0 ≤ onesW zs k ∧ onesW zs k ≤ 5 := onesK_bounds hb k (k + 1) (Int.le_refl _)

theorem vote_any (A : Option Addr) (n c : Nat) (zs : List Int) (w : World) (h : Rd w A n c zs) (hb : allB 0 1 zs = true) (hn : n ≤ 1048576) :
    Calls Try.prog 113 #[.slice A n c] w fun e w' => ∃ A' c', e = .returned (.slice A' n c') ∧ Own w' w.heap.size A' n c' (votes zs) ∧ Below w.heap.size w w' := by
  have hlen := h.le
  have hcap := h.cap
  have HB := hide hb
  clear hb
  go_enter Try.func113, Try.ntmps113
  go_wp2
  go_loopw [3, 8] (fun s i wr => ∃ (k : Nat) (A' : Option Addr) (c' : Nat), k ≤ n ∧ s = .slice A' k c' ∧ i = .int .i64 k ∧ Own wr w.heap.size A' k c' (votesTo zs k) ∧ Below w.heap.size w wr) (fun _ i _ => n - (intOf i).toNat)
  case atStart => exact ⟨0, _, _, by omega, rfl, rfl, Own.empty w (Nat.le_refl _), (Below.refl _ _).alloc (Nat.le_refl _) _⟩
  case round =>
    obtain ⟨k, A', c', hk, rfl, rfl, hown, hbel⟩ := hrel
    have hsz := hbel.size
    have hd := hide (votesTo_succ zs k)
    by_cases hlt : k < n
    · have ho := onesW_bounds HB.out (k : Int)
      by_cases h3 : 3 ≤ onesW zs k
      · have hv := hide (voteAt_yes h3)
        have t5 : decide (5 < 2 * onesW zs (k : Int)) = true := decide_eq_true (by omega)
        go_wp2_with (first | (go_at_call 102; refine (onesInWindow_any _ _ _ zs _ _ (h.below hbel) HB.out (by omega) (by omega) hn).mono ?_; rintro e w' ⟨rfl, rfl⟩) | (at_builtin; refine append_new rfl _ _ rfl w.heap.size rfl hown _ [1] 1 rfl (I64.one (by decide) (by decide)) rfl rfl (by omega) hsz ?_; intro A2 c2 w2 own2 gr2) | (go_at_call 134; go_in))
        have hb2 := below_mark hbel hown (Nat.le_refl _) gr2
        rw [← hv.out, ← hd.out] at own2
        go_roundw
        case rel => exact ⟨k + 1, A2, c2, by omega, rfl, by go_num, own2, hb2⟩
        case measure => simp [intOf]; omega
      · have hv := hide (voteAt_no h3)
        have t5 : decide (5 < 2 * onesW zs (k : Int)) = false := decide_eq_false (by omega)
        go_wp2_with (first | (go_at_call 102; refine (onesInWindow_any _ _ _ zs _ _ (h.below hbel) HB.out (by omega) (by omega) hn).mono ?_; rintro e w' ⟨rfl, rfl⟩) | (at_builtin; refine append_new rfl _ _ rfl w.heap.size rfl hown _ [0] 1 rfl (I64.one (by decide) (by decide)) rfl rfl (by omega) hsz ?_; intro A2 c2 w2 own2 gr2) | (go_at_call 134; go_in))
        have hb2 := below_mark hbel hown (Nat.le_refl _) gr2
        rw [← hv.out, ← hd.out] at own2
        go_roundw
        case rel => exact ⟨k + 1, A2, c2, by omega, rfl, by go_num, own2, hb2⟩
        case measure => simp [intOf]; omega
    · obtain rfl : k = n := by omega
      have hfin : Own wr w.heap.size A' k c' (votes zs) := by rw [votes, h.len]; exact hown
      go_wp2
      go_ret
      exact ⟨A', c', rfl, hfin, hbel⟩
theorem l21Vote_any (A : Option Addr) (n c : Nat) (zs : List Int) (w : World) (h : Rd w A n c zs) (hb : allB 0 1 zs = true) (hn : n ≤ 1048576) :
    Calls Try.prog 112 #[.slice A n c] w fun e w' => ∃ A' c', e = .returned (.slice A' n c') ∧ Own w' w.heap.size A' n c' (votes zs) ∧ Below w.heap.size w w' := by
  have hlen := h.le
  have hcap := h.cap
  have HB := hide hb
  clear hb
  go_enter Try.func112, Try.ntmps112
  go_wp2
  go_loopw [3, 4] (fun s i wr => ∃ (k : Nat) (A' : Option Addr) (c' : Nat), k ≤ n ∧ s = .slice A' k c' ∧ i = .int .i64 k ∧ Own wr w.heap.size A' k c' (votesTo zs k) ∧ Below w.heap.size w wr) (fun _ i _ => n - (intOf i).toNat)
  case atStart => exact ⟨0, _, _, by omega, rfl, rfl, Own.empty w (Nat.le_refl _), (Below.refl _ _).alloc (Nat.le_refl _) _⟩
  case round =>
    obtain ⟨k, A', c', hk, rfl, rfl, hown, hbel⟩ := hrel
    have hsz := hbel.size
    have hd := hide (votesTo_succ zs k)
    by_cases hlt : k < n
    · have ho := onesW_bounds HB.out (k : Int)
      by_cases h3 : 3 ≤ onesW zs k
      · have hv := hide (voteAt_yes h3)
        have t5 : decide (5 < 2 * onesW zs (k : Int)) = true := decide_eq_true (by omega)
        go_wp2_with (first | (go_at_call 101; refine (l21Ones_any _ _ _ zs _ _ (h.below hbel) HB.out (by omega) (by omega) hn).mono ?_; rintro e w' ⟨rfl, rfl⟩) | (at_builtin; refine append_new rfl _ _ rfl w.heap.size rfl hown _ [1] 1 rfl (I64.one (by decide) (by decide)) rfl rfl (by omega) hsz ?_; intro A2 c2 w2 own2 gr2))
        have hb2 := below_mark hbel hown (Nat.le_refl _) gr2
        rw [← hv.out, ← hd.out] at own2
        go_roundw
        case rel => exact ⟨k + 1, A2, c2, by omega, rfl, by go_num, own2, hb2⟩
        case measure => simp [intOf]; omega
      · have hv := hide (voteAt_no h3)
        have t5 : decide (5 < 2 * onesW zs (k : Int)) = false := decide_eq_false (by omega)
        go_wp2_with (first | (go_at_call 101; refine (l21Ones_any _ _ _ zs _ _ (h.below hbel) HB.out (by omega) (by omega) hn).mono ?_; rintro e w' ⟨rfl, rfl⟩) | (at_builtin; refine append_new rfl _ _ rfl w.heap.size rfl hown _ [0] 1 rfl (I64.one (by decide) (by decide)) rfl rfl (by omega) hsz ?_; intro A2 c2 w2 own2 gr2))
        have hb2 := below_mark hbel hown (Nat.le_refl _) gr2
        rw [← hv.out, ← hd.out] at own2
        go_roundw
        case rel => exact ⟨k + 1, A2, c2, by omega, rfl, by go_num, own2, hb2⟩
        case measure => simp [intOf]; omega
    · obtain rfl : k = n := by omega
      have hfin : Own wr w.heap.size A' k c' (votes zs) := by rw [votes, h.len]; exact hown
      go_wp2
      go_ret
      exact ⟨A', c', rfl, hfin, hbel⟩
def voteR (zs : List Int) : List Int := if bitsB zs then votes zs else []
theorem voteR_yes {zs : List Int} (h : bitsB zs = true) : voteR zs = votes zs := by simp [voteR, h]
theorem voteR_no {zs : List Int} (h : bitsB zs = false) : voteR zs = [] := by simp [voteR, h]
theorem iVoteSamples_c (A : Option Addr) (n c : Nat) (zs : List Int) (w : World) (h : Rd w A n c zs) (hn : n ≤ 1048576) :
    Calls Try.prog 60 #[.slice A n c] w fun e w' => ∃ A' n' c', e = .returned (.tuple #[.slice A' n' c', .int .i64 (bitsC zs)]) ∧ Own w' w.heap.size A' n' c' (voteR zs) ∧ Below w.heap.size w w' ∧ n' ≤ 1048576 := by
  by_cases hb : bitsB zs = true
  · have hC := hide (bitsC_yes hb)
    have hR := hide (voteR_yes hb)
    go_enter Try.func60, Try.ntmps60
    go_wp2_with (first | (go_at_call 100; refine (iIsBits_any _ _ _ zs _ h).mono ?_; rintro e w' ⟨rfl, rfl⟩) | (go_at_call 113; refine (vote_any _ _ _ zs _ h (bits_all hb) hn).mono ?_; rintro e w' ⟨A', c', rfl, own, bel⟩))
    go_ret2
    exact ⟨A', n, c', ret_sc hC.out, by rw [hR.out]; exact own, bel, by omega⟩
  · have hb : bitsB zs = false := by simpa using hb
    have hC := hide (bitsC_no hb)
    have hR := hide (voteR_no hb)
    go_enter Try.func60, Try.ntmps60
    go_wp2_with (go_at_call 100; refine (iIsBits_any _ _ _ zs _ h).mono ?_; rintro e w' ⟨rfl, rfl⟩)
    go_ret2
    exact ⟨none, 0, 0, ret_sc hC.out, by rw [hR.out]; exact Own.nil _ _, Below.refl _ _, by omega⟩
theorem sVoteSamples_c (A : Option Addr) (n c : Nat) (zs : List Int) (w : World) (h : Rd w A n c zs) (hn : n ≤ 1048576) :
    Calls Try.prog 59 #[.slice A n c] w fun e w' => ∃ A' n' c', e = .returned (.tuple #[.slice A' n' c', .int .i64 (bitsC zs)]) ∧ Own w' w.heap.size A' n' c' (voteR zs) ∧ Below w.heap.size w w' ∧ n' ≤ 1048576 := by
  by_cases hb : bitsB zs = true
  · have hC := hide (bitsC_yes hb)
    have hR := hide (voteR_yes hb)
    go_enter Try.func59, Try.ntmps59
    go_wp2_with (first | (go_at_call 99; refine (sIsBits_any _ _ _ zs _ h).mono ?_; rintro e w' ⟨rfl, rfl⟩) | (go_at_call 112; refine (l21Vote_any _ _ _ zs _ h (bits_all hb) hn).mono ?_; rintro e w' ⟨A', c', rfl, own, bel⟩))
    go_ret2
    exact ⟨A', n, c', ret_sc hC.out, by rw [hR.out]; exact own, bel, by omega⟩
  · have hb : bitsB zs = false := by simpa using hb
    have hC := hide (bitsC_no hb)
    have hR := hide (voteR_no hb)
    go_enter Try.func59, Try.ntmps59
    go_wp2_with (go_at_call 99; refine (sIsBits_any _ _ _ zs _ h).mono ?_; rintro e w' ⟨rfl, rfl⟩)
    go_ret2
    exact ⟨none, 0, 0, ret_sc hC.out, by rw [hR.out]; exact Own.nil _ _, Below.refl _ _, by omega⟩
/-- how many runs the voted samples have -/
def veR (zs : List Int) : Int := if bitsB zs then ((runs (votes zs)).length : Int) else 0
theorem veR_yes {zs : List Int} (h : bitsB zs = true) : veR zs = ((runs (votes zs)).length : Int) := by simp [veR, h]
theorem veR_no {zs : List Int} (h : bitsB zs = false) : veR zs = 0 := by simp [veR, h]
theorem iVoteEdges_c (A : Option Addr) (n c : Nat) (zs : List Int) (w : World) (h : Rd w A n c zs) (hn : n ≤ 1048576) :
    Calls Try.prog 64 #[.slice A n c] w fun e w' => e = .returned (.tuple #[.int .i64 (veR zs), .int .i64 (bitsC zs)]) ∧ Below w.heap.size w w' := by
  have hcap := h.cap
  by_cases hb : bitsB zs = true
  · have hC := hide (bitsC_yes hb)
    have hR := hide (veR_yes hb)
    go_enter Try.func64, Try.ntmps64
    go_wp2_with (first | (go_at_call 100; refine (iIsBits_any _ _ _ zs _ h).mono ?_; rintro e w' ⟨rfl, rfl⟩) | (go_at_call 113; refine (vote_any _ _ _ zs _ h (bits_all hb) hn).mono ?_; rintro e w1 ⟨A', c', rfl, own, bel⟩) | (go_at_call 106; refine (runLengths_any _ _ _ (votes zs) _ own.rd hn).mono ?_; rintro e w2 ⟨A2, m2, c2, rfl, own2, bel2, hm2⟩))
    go_ret2
    exact ⟨ret_pair (by rw [hR.out, own2.len]) hC.out, below_trans bel bel2⟩
  · have hb : bitsB zs = false := by simpa using hb
    have hC := hide (bitsC_no hb)
    have hR := hide (veR_no hb)
    go_enter Try.func64, Try.ntmps64
    go_wp2_with (go_at_call 100; refine (iIsBits_any _ _ _ zs _ h).mono ?_; rintro e w' ⟨rfl, rfl⟩)
    go_ret2
    exact ⟨ret_pair (by rw [hR.out]) hC.out, Below.refl _ _⟩
theorem sVoteEdges_c (A : Option Addr) (n c : Nat) (zs : List Int) (w : World) (h : Rd w A n c zs) (hn : n ≤ 1048576) :
    Calls Try.prog 63 #[.slice A n c] w fun e w' => e = .returned (.tuple #[.int .i64 (veR zs), .int .i64 (bitsC zs)]) ∧ Below w.heap.size w w' := by
  have hcap := h.cap
  by_cases hb : bitsB zs = true
  · have hC := hide (bitsC_yes hb)
    have hR := hide (veR_yes hb)
    go_enter Try.func63, Try.ntmps63
    go_wp2_with (first | (go_at_call 99; refine (sIsBits_any _ _ _ zs _ h).mono ?_; rintro e w' ⟨rfl, rfl⟩) | (go_at_call 112; refine (l21Vote_any _ _ _ zs _ h (bits_all hb) hn).mono ?_; rintro e w1 ⟨A', c', rfl, own, bel⟩) | (go_at_call 105; refine (l20Runs_any _ _ _ (votes zs) _ own.rd hn).mono ?_; rintro e w2 ⟨A2, m2, c2, rfl, own2, bel2, hm2⟩))
    go_ret2
    exact ⟨ret_pair (by rw [hR.out, own2.len]) hC.out, below_trans bel bel2⟩
  · have hb : bitsB zs = false := by simpa using hb
    have hC := hide (bitsC_no hb)
    have hR := hide (veR_no hb)
    go_enter Try.func63, Try.ntmps63
    go_wp2_with (go_at_call 99; refine (sIsBits_any _ _ _ zs _ h).mono ?_; rintro e w' ⟨rfl, rfl⟩)
    go_ret2
    exact ⟨ret_pair (by rw [hR.out]) hC.out, Below.refl _ _⟩

theorem rnd_step (L : List Int) (n k : Nat) (hl : L.length = n) (hk : k < n) : ((L.take k).map rnd ++ L.drop k).set k (rnd (nth L k)) = (L.take (k + 1)).map rnd ++ L.drop (k + 1) := by
  have h1 : ((L.take k).map rnd).length = k := by rw [List.length_map, List.length_take]; omega
  rw [List.set_append_right _ _ (by omega), h1, Nat.sub_self, List.drop_eq_getElem_cons (by omega), List.set_cons_zero, take_snoc L k (by omega), List.map_append, List.append_assoc]
  rfl
theorem rnd_nth (L : List Int) (n k : Nat) (hl : L.length = n) (hk : k < n) : nth ((L.take k).map rnd ++ L.drop k) k = nth L k := by
  have h1 : ((L.take k).map rnd).length = k := by rw [List.length_map, List.length_take]; omega
  rw [nth_eq (by rw [List.length_append, h1, List.length_drop]; omega), nth_eq (by omega), List.getElem_append_right (by omega), List.getElem_drop]
  congr 1
  omega
def cellR (zs : List Int) : List Int := (runR zs).map rnd
theorem runR_bounds (zs : List Int) : ∀ z ∈ runR zs, 1 ≤ z ∧ z ≤ zs.length := by
  intro z hz
  unfold runR at hz
  split at hz
  · exact runsTo_bounds zs zs.length z hz
  · cases hz
theorem iCellRuns_c (A : Option Addr) (n c : Nat) (zs : List Int) (w : World) (h : Rd w A n c zs) (hn : n ≤ 1048576) :
    Calls Try.prog 56 #[.slice A n c] w fun e w' => ∃ A' n' c', e = .returned (.tuple #[.slice A' n' c', .int .i64 (bitsC zs)]) ∧ Own w' w.heap.size A' n' c' (cellR zs) ∧ Below w.heap.size w w' ∧ n' ≤ 1048576 := by
  have hlen := h.le
  have hcap := h.cap
  go_enter Try.func56, Try.ntmps56
  go_wp2_with fail
  refine (iRunLengths_c _ _ _ zs _ h hn).mono ?_
  rintro e w1 ⟨A1, n1, c1, rfl, own1, bel1, hn1⟩
  go_wp2
  go_loopw [14] (fun i wr => ∃ k : Nat, k ≤ n1 ∧ i = .int .i64 k ∧ Own wr w.heap.size A1 n1 c1 (((runR zs).take k).map rnd ++ (runR zs).drop k) ∧ Below w.heap.size w wr) (fun i _ => n1 - (intOf i).toNat)
  case atStart => exact ⟨0, by omega, rfl, by simpa using own1, bel1⟩
  case round =>
    obtain ⟨k, hk, rfl, hown, hbel⟩ := hrel
    by_cases hlt : k < n1
    · rcases hown.form with ⟨_, h0', _⟩ | ⟨g, rfl, hg1, hg2⟩
      · omega
      have hcell := hown.cell (k := k) hlt
      rw [rnd_nth (runR zs) n1 k own1.len hlt] at hcell
      have hfz := hown.frozen k
      have hz := runR_bounds zs _ (nth_mem (zs := runR zs) (k := k) (by have := own1.le; omega))
      have hset := hown.set k (x := rnd (nth (runR zs) k)) (by unfold rnd; omega) (by unfold rnd; omega)
      rw [rnd_step (runR zs) n1 k own1.len hlt] at hset
      have hset' := hide hset
      have hbel' := hide (hbel.setCell (p := ⟨g, k, none⟩) hg1 (.int .i64 (rnd (nth (runR zs) k))))
      clear hset hown hbel own1
      go_wp2
      go_roundw
      case rel => exact ⟨k + 1, by omega, by go_num, hset'.out, hbel'.out⟩
      case measure => simp [intOf]; omega
    · obtain rfl : k = n1 := by omega
      have hfin : Own wr w.heap.size A1 k c1 (cellR zs) := by
        have := own1.le
        rw [List.take_of_length_le (by omega), List.drop_of_length_le (by omega), List.append_nil] at hown
        exact hown
      clear own1
      go_wp2
      go_ret2
      exact ⟨A1, k, c1, rfl, hfin, hbel, by omega⟩
theorem sCellRuns_c (A : Option Addr) (n c : Nat) (zs : List Int) (w : World) (h : Rd w A n c zs) (hn : n ≤ 1048576) :
    Calls Try.prog 55 #[.slice A n c] w fun e w' => ∃ A' n' c', e = .returned (.tuple #[.slice A' n' c', .int .i64 (bitsC zs)]) ∧ Own w' w.heap.size A' n' c' (cellR zs) ∧ Below w.heap.size w w' ∧ n' ≤ 1048576 := by
  have hlen := h.le
  have hcap := h.cap
  by_cases hb : bitsB zs = true
  · have hC := hide (bitsC_yes hb)
    have hR := hide (runR_yes hb)
    go_enter Try.func55, Try.ntmps55
    go_wp2_with (first | (go_at_call 99; refine (sIsBits_any _ _ _ zs _ h).mono ?_; rintro e w' ⟨rfl, rfl⟩) | (go_at_call 105; refine (l20Runs_any _ _ _ zs _ h hn).mono ?_; rintro e w1 ⟨A1, n1, c1, rfl, own1, bel1, hn1⟩; rw [← hR.out] at own1))
    go_loopw [5] (fun i wr => ∃ k : Nat, k ≤ n1 ∧ i = .int .i64 k ∧ Own wr w.heap.size A1 n1 c1 (((runR zs).take k).map rnd ++ (runR zs).drop k) ∧ Below w.heap.size w wr) (fun i _ => n1 - (intOf i).toNat)
    case atStart => exact ⟨0, by omega, rfl, by simpa using own1, bel1⟩
    case round =>
      obtain ⟨k, hk, rfl, hown, hbel⟩ := hrel
      by_cases hlt : k < n1
      · rcases hown.form with ⟨_, h0', _⟩ | ⟨g, rfl, hg1, hg2⟩
        · omega
        have hcell := hown.cell (k := k) hlt
        rw [rnd_nth (runR zs) n1 k own1.len hlt] at hcell
        have hfz := hown.frozen k
        have hz := runR_bounds zs _ (nth_mem (zs := runR zs) (k := k) (by have := own1.le; omega))
        have hset := hown.set k (x := rnd (nth (runR zs) k)) (by unfold rnd; omega) (by unfold rnd; omega)
        rw [rnd_step (runR zs) n1 k own1.len hlt] at hset
        have hset' := hide hset
        have hbel' := hide (hbel.setCell (p := ⟨g, k, none⟩) hg1 (.int .i64 (rnd (nth (runR zs) k))))
        clear hset hown hbel own1
        go_wp2
        go_roundw
        case rel => exact ⟨k + 1, by omega, by go_num, hset'.out, hbel'.out⟩
        case measure => simp [intOf]; omega
      · obtain rfl : k = n1 := by omega
        have hfin : Own wr w.heap.size A1 k c1 (cellR zs) := by
          have := own1.le
          rw [List.take_of_length_le (by omega), List.drop_of_length_le (by omega), List.append_nil] at hown
          exact hown
        clear own1
        go_wp2
        go_ret2
        exact ⟨A1, k, c1, ret_sc hC.out, hfin, hbel, by omega⟩
  · have hb : bitsB zs = false := by simpa using hb
    have hC := hide (bitsC_no hb)
    have hR := hide (runR_no hb)
    go_enter Try.func55, Try.ntmps55
    go_wp2_with (go_at_call 99; refine (sIsBits_any _ _ _ zs _ h).mono ?_; rintro e w' ⟨rfl, rfl⟩)
    go_ret2
    exact ⟨none, 0, 0, ret_sc hC.out, by rw [cellR, hR.out]; exact Own.nil _ _, Below.refl _ _, by omega⟩
end Go.Proofs.Ytopccpnkokdmiaa
