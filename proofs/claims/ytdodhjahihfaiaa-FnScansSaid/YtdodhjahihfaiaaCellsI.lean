/- Contracts of the program's functions that make the cells of a transmission. -/
import Derived.Test.YtdodhjahihfaiaaCells
import Derived.Test.YtdodhjahihfaiaaTrans
namespace Go.Proofs.Ytdodhjahihfaiaa
open Go.RowKit
set_option linter.unusedVariables false
set_option linter.unusedSimpArgs false

set_option maxHeartbeats 1600000 in
theorem appendNumber_any (A : Option Addr) (n c : Nat) (zs : List Int) (B : Nat) (v : Int) (w : World) (h : Own w B A n c zs) (hB : B ≤ w.heap.size) (hv : 0 ≤ v ∧ v ≤ 255) (hn : n ≤ 1048576) :
    Calls Try.prog 107 #[.slice A n c, .int .i64 v, .int .i64 8] w fun e w' => ∃ A' c', e = .returned (.slice A' (n + 8) c') ∧ Own w' B A' (n + 8) c' (zs ++ bits8 v) ∧ Below B w w' := by
  go_enter Try.func107, Try.ntmps107
  go_wp2
  go_loopw [0, 7] (fun s i wr => ∃ (j : Nat) (A' : Option Addr) (c' : Nat), j ≤ 8 ∧ i = .int .i64 (7 - (j : Int)) ∧ s = .slice A' (n + j) c' ∧ Own wr B A' (n + j) c' (zs ++ bitsTo v 8 j) ∧ Below B w wr) (fun _ i _ => (intOf i + 1).toNat)
  case atStart => exact ⟨0, A, c, by omega, rfl, rfl, by simpa [bitsTo] using h, Below.refl _ _⟩
  case round =>
    obtain ⟨j, A1, c1, hj, rfl, rfl, own1, bel1⟩ := hrel
    have hsz : B ≤ wr.heap.size := Nat.le_trans hB bel1.size
    by_cases hj8 : j < 8
    · have hd := bit_lt hv.1 hv.2 (7 - j)
      have hand := i64_and_one (x := v / 2 ^ (7 - j)) hd.1 (by omega)
      have hbs := hide (bit_step v j)
      obtain ⟨y, hy⟩ : ∃ y, y = v / 2 ^ (7 - j) % 2 := ⟨_, rfl⟩
      have y0 : 0 ≤ y ∧ y ≤ 1 := by omega
      rw [← hy] at hand hbs
      clear hy hd
      go_wp2_with (at_builtin; refine append_new rfl _ _ rfl B rfl own1 _ [y] 1 rfl (I64.one (by omega) (by omega)) rfl rfl (by omega) hsz ?_; intro A2 c2 w2 own2 gr2)
      have hb2 := below_own bel1 hsz own1 (Nat.le_refl _) gr2
      rw [List.append_assoc, ← hbs.out] at own2
      go_roundw
      case rel => exact ⟨j + 1, A2, c2, by omega, by go_num, rfl, own2, hb2⟩
      case measure => simp [intOf]; omega
    · obtain rfl : j = 8 := by omega
      rw [show bitsTo v 8 8 = bits8 v from rfl] at own1
      go_wp2
      go_ret
      exact ⟨_, _, rfl, own1, bel1⟩
set_option maxHeartbeats 1600000 in
theorem cellsOf_any (A : Option Addr) (n c : Nat) (zs : List Int) (p : Nat) (w : World) (h : Rd w A n c zs) (hn : n ≤ 1024) (hb : allB 0 255 zs = true) (hp : p ≤ 15) :
    Calls Try.prog 81 #[.slice A n c, .int .i64 p] w fun e w' => ∃ A' c', e = .returned (.slice A' (p + 3 + 10 * n) c') ∧ Own w' w.heap.size A' (p + 3 + 10 * n) c' (tx zs p) ∧ Below w.heap.size w w' := by
  have hlen := h.le
  have hcap := h.cap
  have hmk : ∀ W : World, (Instr.makeSlice 25 (.int .i64 (p : Int)) (.int .i64 (p : Int))).run Try.prog W = .ok (.slice (some ⟨W.heap.size, 0, none⟩) p p) (W.alloc (.cells (madeCells #[.int .i64 0] p) 2)) :=
    run_make_row' (P := Try.prog) 25 2 (.int .i64 0) 8 Try.underlying25 info_i64 rfl .i64 .i64 p (by omega) (by omega)
  have own0 := Own.made w (n := p) (by omega)
  have O0 := hide own0
  clear own0
  go_enter Try.func81, Try.ntmps81
  go_wp2_with (at_builtin; refine append_newL rfl _ _ rfl w.heap.size rfl O0.out _ [1] 1 (w.heap.size + 1) rfl (I64.one (by omega) (by omega)) rfl rfl (by simp) (by omega) (by simp) ?_; intro A1 c1 w1 own1 gr1)
  have hb1 := below_own ((Below.refl w.heap.size w).alloc (Nat.le_refl _) _) (by simp) O0.out (Nat.le_refl _) gr1
  clear gr1
  go_loopw [5, 14] (fun s i wr => ∃ (k : Nat) (A' : Option Addr) (c' : Nat), k ≤ n ∧ i = .int .i64 k ∧ s = .slice A' (p + 1 + 10 * k) c' ∧ Own wr w.heap.size A' (p + 1 + 10 * k) c' (List.replicate p 0 ++ [1] ++ blks (zs.take k)) ∧ Below w.heap.size w wr) (fun _ i _ => n - (intOf i).toNat)
  case atStart => exact ⟨0, A1, c1, by omega, rfl, rfl, by simpa [blks_nil] using own1, hb1⟩
  case round =>
    obtain ⟨k, A', c', hk, rfl, rfl, hown, hbel⟩ := hrel
    have hsz := hbel.size
    by_cases hlt : k < n
    · obtain ⟨b, off, rfl, hbb, hc⟩ := h.at_ (by omega)
      have hck := (hbel.cell (p := ⟨b, off + k, none⟩) hbb).trans (hc k hlt)
      have hz := allB_get hb k (by omega)
      have hst := hide (blks_take zs k (by omega))
      clear hc
      go_wp2_with (at_builtin; refine append_new rfl _ _ rfl w.heap.size rfl hown _ [1, 0] 2 rfl (by intro z hz; simp at hz; omega) rfl rfl (by omega) hsz ?_; intro A2 c2 w2 own2 gr2)
      have hb2 := below_own hbel hsz hown (Nat.le_refl _) gr2
      have hsz2 := hb2.size
      refine (appendNumber_any _ _ _ _ w.heap.size _ _ own2 hsz2 hz (by omega)).mono ?_
      rintro e w3 ⟨A3, c3, rfl, own3, bel3⟩
      have hb3 := hb2.trans bel3
      rw [List.append_assoc, List.append_assoc, ← hst.out] at own3
      clear own2 hown gr2
      go_wp2_with fail
      go_roundw
      case rel => exact ⟨k + 1, A3, c3, by omega, by go_num, rfl, own3, hb3⟩
      case measure => simp [intOf]; omega
    · obtain rfl : k = n := by omega
      have e1 : Hid (zs.take k = zs) := List.take_of_length_le (by omega)
      go_wp2_with (at_builtin; refine append_new rfl _ _ rfl w.heap.size rfl hown _ [0, 1] 2 rfl (by intro z hz; simp at hz; omega) rfl rfl (by omega) hsz ?_; intro A2 c2 w2 own2 gr2)
      have hb2 := below_own hbel hsz hown (Nat.le_refl _) gr2
      rw [e1.out] at own2
      go_ret
      refine ⟨A2, c2, ?_, ?_, hb2⟩
      · rw [show p + 3 + 10 * k = p + 1 + 10 * k + 2 by omega]
        rfl
      · rw [show p + 3 + 10 * k = p + 1 + 10 * k + 2 by omega]
        simpa [tx] using own2
set_option maxHeartbeats 800000 in
theorem iCellsOf_c (A : Option Addr) (n c : Nat) (zs : List Int) (p : Int) (w : World) (h : Rd w A n c zs) (hp : -9223372036854775808 ≤ p ∧ p ≤ 9223372036854775807) (hn : n ≤ 1048576) :
    Calls Try.prog 33 #[.slice A n c, .int .i64 p] w fun e w' => ∃ A' n' c', e = .returned (.tuple #[.slice A' n' c', .int .i64 (cellsC zs p)]) ∧ Own w' w.heap.size A' n' c' (cellsR zs p) ∧ Below w.heap.size w w' ∧ n' ≤ 1048576 := by
  have hlen := h.le
  have hcap := h.cap
  by_cases hb : bytesB zs = true
  · by_cases hpp : inB 3 15 p = true
    · obtain ⟨p3, p15⟩ := inB_true hpp
      by_cases h8 : 8192 < p + 3 + 10 * (zs.length : Int)
      · obtain ⟨e1, e2⟩ := cells_long hb hpp h8
        have E1 := hide e1
        have E2 := hide e2
        have t1 : decide (8192 < p + 3 + 10 * (n : Int)) = true := by simp; omega
        clear e1 e2 h8
        go_enter Try.func33, Try.ntmps33
        go_wp2_with (first | (go_at_call 79; refine (iIsBytes_any _ _ _ _ _ h).mono ?_; rintro e w' ⟨rfl, rfl⟩) | (go_at_call 75; refine (isPreamble_any _ _).mono ?_; rintro e w' ⟨rfl, rfl⟩) | go_in)
        go_ret2
        exact ⟨none, 0, 0, ret_sc E2.out, by rw [E1.out]; exact Own.nil _ _, Below.refl _ _, by omega⟩
      · obtain ⟨e1, e2⟩ := cells_yes hb hpp h8
        have hbb := bytesB_get hb
        have hall := hide hbb.2
        obtain ⟨p, rfl⟩ := Int.eq_ofNat_of_zero_le (a := p) (by omega)
        rw [Int.toNat_natCast] at e1
        have E1 := hide e1
        have E2 := hide e2
        have t1 : decide (8192 < (p : Int) + 3 + 10 * (n : Int)) = false := by simp; omega
        have hn4 : n ≤ 1024 := by omega
        clear e1 e2 h8 hbb
        go_enter Try.func33, Try.ntmps33
        go_wp2_with (first | (go_at_call 79; refine (iIsBytes_any _ _ _ _ _ h).mono ?_; rintro e w' ⟨rfl, rfl⟩) | (go_at_call 75; refine (isPreamble_any _ _).mono ?_; rintro e w' ⟨rfl, rfl⟩) | (go_at_call 81; refine (cellsOf_any _ _ _ _ _ _ h (by omega) hall.out (by omega)).mono ?_; rintro e w' ⟨A1, c1, rfl, own1, bel1⟩) | go_in)
        go_ret2
        exact ⟨A1, _, c1, ret_sc E2.out, by rw [E1.out]; exact own1, bel1, by omega⟩
    · rw [Bool.not_eq_true] at hpp
      obtain ⟨e1, e2⟩ := cells_range hb hpp
      have E1 := hide e1
      have E2 := hide e2
      clear e1 e2
      go_enter Try.func33, Try.ntmps33
      go_wp2_with (first | (go_at_call 79; refine (iIsBytes_any _ _ _ _ _ h).mono ?_; rintro e w' ⟨rfl, rfl⟩) | (go_at_call 75; refine (isPreamble_any _ _).mono ?_; rintro e w' ⟨rfl, rfl⟩) | go_in)
      go_ret2
      exact ⟨none, 0, 0, ret_sc E2.out, by rw [E1.out]; exact Own.nil _ _, Below.refl _ _, by omega⟩
  · rw [Bool.not_eq_true] at hb
    obtain ⟨e1, e2⟩ := cells_no (p := p) hb
    have E1 := hide e1
    have E2 := hide e2
    clear e1 e2
    go_enter Try.func33, Try.ntmps33
    go_wp2_with (first | (go_at_call 79; refine (iIsBytes_any _ _ _ _ _ h).mono ?_; rintro e w' ⟨rfl, rfl⟩) | go_in)
    go_ret2
    exact ⟨none, 0, 0, ret_sc E2.out, by rw [E1.out]; exact Own.nil _ _, Below.refl _ _, by omega⟩
end Go.Proofs.Ytdodhjahihfaiaa
