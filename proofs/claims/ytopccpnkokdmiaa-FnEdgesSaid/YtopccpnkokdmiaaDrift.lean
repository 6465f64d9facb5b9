/- Contracts: all edges by the reference, the next edge, membership, drifts. -/
import Derived.Test.YtopccpnkokdmiaaSort
import Derived.Test.YtopccpnkokdmiaaMiddle
namespace Go.Proofs.Ytopccpnkokdmiaa
open Go.RowKit
set_option linter.unusedVariables false
set_option linter.unusedSimpArgs false

theorem l22Edges_all (A : Option Addr) (n c : Nat) (zs : List Int) (w : World) (h : Rd w A n c zs) (hn : n ≤ 1048576) :
    Calls Try.prog 103 #[.slice A n c, .int .i64 (-1)] w fun e w' => ∃ A' m c', e = .returned (.slice A' m c') ∧ Own w' w.heap.size A' m c' (edgA zs) ∧ Below w.heap.size w w' ∧ m ≤ n := by
  have hlen := h.le
  have hcap := h.cap
  go_enter Try.func103, Try.ntmps103
  go_wp2
  go_loopw [5, 6] (fun s i wr => ∃ (k m : Nat) (A' : Option Addr) (c' : Nat), 1 ≤ k ∧ (k ≤ n ∨ k = 1) ∧ m + 1 ≤ k ∧ s = .slice A' m c' ∧ i = .int .i64 k ∧ Own wr w.heap.size A' m c' (edgG (pA zs) k) ∧ Below w.heap.size w wr) (fun _ i _ => n - (intOf i).toNat)
  case atStart => exact ⟨1, 0, _, _, by omega, by omega, by omega, rfl, rfl, by rw [edg_one (pA_zero zs)]; exact Own.empty w (Nat.le_refl _), (Below.refl _ _).alloc (Nat.le_refl _) _⟩
  case round =>
    obtain ⟨k, m, A', c', h1, hk, hm, rfl, rfl, hown, hbel⟩ := hrel
    have hk' : k ≤ 1048577 := by omega
    have hsz := hbel.size
    by_cases hlt : k < n
    · obtain ⟨b, off, rfl, hbb, hc⟩ := h.at_ (by omega)
      have hck := (hbel.cell (p := ⟨b, off + k, none⟩) hbb).trans (hc k hlt)
      have hcp := (hbel.cell (p := ⟨b, off + (k - 1), none⟩) hbb).trans (hc (k - 1) (by omega))
      have z1 : (0 : Int) ≤ (k : Int) := by omega
      have z2 : (k : Int) < (n : Int) := by omega
      have z3 : (0 : Int) ≤ (k : Int) - 1 := by omega
      have z4 : (k : Int) - 1 < (n : Int) := by omega
      clear hc hk
      by_cases hp : nth zs k = nth zs (k - 1)
      · have t1 : (nth zs k != nth zs (k - 1)) = false := by simp [hp]
        have hs : Own wr w.heap.size A' m c' (edgG (pA zs) (k + 1)) := by
          rw [edgG_no (pA_no hp)]; exact hown
        clear hp hown
        go_wp2
        go_quiet (fail)
        go_wp2
        go_roundw
        case rel => exact ⟨k + 1, m, A', c', by omega, by omega, by omega, rfl, by go_num, hs.drewN _, below_drewN hbel _⟩
        case measure => simp [intOf]; omega
      · have t1 : (nth zs k != nth zs (k - 1)) = true := by simp [hp]
        have hst := hide (edgG_yes (pA_yes h1 hp))
        clear hp
        go_wp2
        go_quiet (fail)
        go_wp2_with (at_builtin; refine append_new rfl _ _ rfl w.heap.size rfl (hown.drewN _) _ [(k : Int)] 1 rfl (I64.one (by omega) (by omega)) rfl rfl (by omega) hsz ?_; intro A2 c2 w2 own2 gr2)
        have hb2 := below_mark (below_drewN hbel _) (hown.drewN _) (Nat.le_refl _) gr2
        rw [← hst.out] at own2
        go_roundw
        case rel => exact ⟨k + 1, m + 1, A2, c2, by omega, by omega, by omega, rfl, by go_num, own2, hb2⟩
        case measure => simp [intOf]; omega
    · have hfin : Own wr w.heap.size A' m c' (edgA zs) := by
        rw [edgA, ← edgG_end (pA_zero zs) (k := k) (n := zs.length) (by omega)]
        exact hown
      have hmn : m ≤ n := by
        have := hfin.len
        have := edgG_len (pA zs) zs.length
        unfold edgA at *
        omega
      clear hk hown
      go_wp2
      go_ret
      exact ⟨A', m, c', rfl, hfin, hbel, hmn⟩

theorem edg_bounds {p : Nat → Bool} {n : Nat} {x : Int} (h : x ∈ edgG p n) : 0 ≤ x ∧ x < n := by
  obtain ⟨j, hj, _, rfl⟩ := mem_edgG.1 h
  omega
theorem edgA_bounds (zs : List Int) (k : Nat) (hk : k < (edgA zs).length) : 0 ≤ nth (edgA zs) k ∧ nth (edgA zs) k < zs.length := edg_bounds (nth_mem hk)

/-- the result and the code of NextEdge -/
def neC (zs : List Int) (a : Int) : Int := if bitsB zs then (if inB 0 zs.length a then nextC (edgA zs) a else 2) else 1
def neR (zs : List Int) (a : Int) : Int := if bitsB zs then (if inB 0 zs.length a then nextL (edgA zs) a else 0) else 0
theorem ne_yes {zs : List Int} {a : Int} (h : bitsB zs = true) (ha : inB 0 zs.length a = true) : neR zs a = nextL (edgA zs) a ∧ neC zs a = nextC (edgA zs) a := by simp [neR, neC, h, ha]
theorem ne_range {zs : List Int} {a : Int} (h : bitsB zs = true) (ha : inB 0 zs.length a = false) : neR zs a = 0 ∧ neC zs a = 2 := by simp [neR, neC, h, ha]
theorem ne_no {zs : List Int} {a : Int} (h : bitsB zs = false) : neR zs a = 0 ∧ neC zs a = 1 := by simp [neR, neC, h]

set_option maxHeartbeats 800000 in
theorem iNextEdge_c (A : Option Addr) (n c : Nat) (zs : List Int) (a : Int) (w : World) (h : Rd w A n c zs) (ha : -9223372036854775808 ≤ a ∧ a ≤ 9223372036854775807) (hn : n ≤ 1048576) :
    Calls Try.prog 84 #[.slice A n c, .int .i64 a] w fun e w' => e = .returned (.tuple #[.int .i64 (neR zs a), .int .i64 (neC zs a)]) ∧ Below w.heap.size w w' := by
  have hlen := h.le
  have hl := h.len
  subst hl
  by_cases hz : bitsB zs = true
  · by_cases hi : inB 0 zs.length a = true
    · obtain ⟨e1, e2⟩ := ne_yes hz hi
      have E1 := hide e1
      have E2 := hide e2
      have hall := hide (bits_all hz)
      clear e1 e2
      go_enter Try.func84, Try.ntmps84
      go_wp2_with (first | (go_at_call 100; refine (iIsBits_any _ _ _ _ _ h).mono ?_; rintro e w' ⟨rfl, rfl⟩) | (go_at_call 91; refine (within_any _ _ _ _).mono ?_; rintro e w' ⟨rfl, rfl⟩))
      refine (edgesOf_any _ _ _ _ _ h hn hall.out).mono ?_
      rintro e w1 ⟨A1, m1, c1, rfl, own1, b1, hm1⟩
      have hcap := own1.cap
      have HL := hide own1.len
      go_wp2_with fail
      go_loop [19] (fun i => ∃ k : Nat, k ≤ m1 ∧ i = .int .i64 k ∧ Hid (∀ j, j < k → nth (edgA zs) j ≤ a)) (fun i => m1 - (intOf i).toNat)
      case atStart => exact ⟨0, by omega, rfl, fun j hj => by omega⟩
      case round =>
        obtain ⟨k, hk, rfl, hall2⟩ := hrel
        by_cases hlt : k < m1
        · rcases own1.form with ⟨_, h0, _⟩ | ⟨gb, rfl, _, _⟩
          · omega
          have hck := own1.cell hlt
          by_cases hgt : a < nth (edgA zs) k
          · have hx := next_at hall2.out (by have := HL.out; omega) hgt
            have HX := hide hx
            clear hx
            go_wp2_with fail
            go_ret2
            exact ⟨ret_pair (by rw [E1.out, HX.out.1]) (by rw [E2.out, HX.out.2]), b1⟩
          · have hst : Hid (∀ j, j < k + 1 → nth (edgA zs) j ≤ a) := by
              intro j hj
              by_cases e : j = k
              · subst e; omega
              · exact hall2.out j (by omega)
            go_wp2_with fail
            go_round
            case rel => exact ⟨k + 1, by omega, by go_num, hst⟩
            case measure => simp [intOf]; omega
        · obtain rfl : k = m1 := by omega
          have hx := next_none (l := edgA zs) (a := a) (by rw [HL.out]; exact hall2.out)
          have HX := hide hx
          clear hx
          go_wp2_with fail
          go_ret2
          exact ⟨ret_pair (by rw [E1.out, HX.out.1]) (by rw [E2.out, HX.out.2]), b1⟩
    · rw [Bool.not_eq_true] at hi
      obtain ⟨e1, e2⟩ := ne_range hz hi
      have E1 := hide e1
      have E2 := hide e2
      clear e1 e2
      go_enter Try.func84, Try.ntmps84
      go_wp2_with (first | (go_at_call 100; refine (iIsBits_any _ _ _ _ _ h).mono ?_; rintro e w' ⟨rfl, rfl⟩) | (go_at_call 91; refine (within_any _ _ _ _).mono ?_; rintro e w' ⟨rfl, rfl⟩))
      go_ret2
      exact ⟨ret_pair E1.out.symm E2.out.symm, Below.refl _ _⟩
  · rw [Bool.not_eq_true] at hz
    obtain ⟨e1, e2⟩ := ne_no (a := a) hz
    have E1 := hide e1
    have E2 := hide e2
    clear e1 e2
    go_enter Try.func84, Try.ntmps84
    go_wp2_with (first | (go_at_call 100; refine (iIsBits_any _ _ _ _ _ h).mono ?_; rintro e w' ⟨rfl, rfl⟩))
    go_ret2
    exact ⟨ret_pair E1.out.symm E2.out.symm, Below.refl _ _⟩
set_option maxHeartbeats 800000 in
theorem sNextEdge_c (A : Option Addr) (n c : Nat) (zs : List Int) (a : Int) (w : World) (h : Rd w A n c zs) (ha : -9223372036854775808 ≤ a ∧ a ≤ 9223372036854775807) (hn : n ≤ 1048576) :
    Calls Try.prog 83 #[.slice A n c, .int .i64 a] w fun e w' => e = .returned (.tuple #[.int .i64 (neR zs a), .int .i64 (neC zs a)]) ∧ Below w.heap.size w w' := by
  have hlen := h.le
  have hl := h.len
  subst hl
  by_cases hz : bitsB zs = true
  · by_cases hi : inB 0 zs.length a = true
    · obtain ⟨e1, e2⟩ := ne_yes hz hi
      have E1 := hide e1
      have E2 := hide e2
      clear e1 e2
      go_enter Try.func83, Try.ntmps83
      go_wp2_with (first | (go_at_call 99; refine (sIsBits_any _ _ _ _ _ h).mono ?_; rintro e w' ⟨rfl, rfl⟩) | (go_at_call 89; refine (l01In_any _ _ _ _).mono ?_; rintro e w' ⟨rfl, rfl⟩))
      refine (l22Edges_all _ _ _ _ _ h hn).mono ?_
      rintro e w1 ⟨A1, m1, c1, rfl, own1, b1, hm1⟩
      have hcap := own1.cap
      have HL := hide own1.len
      go_wp2_with fail
      go_loop [7] (fun i => ∃ k : Nat, k ≤ m1 ∧ i = .int .i64 k ∧ Hid (∀ j, j < k → nth (edgA zs) j ≤ a)) (fun i => m1 - (intOf i).toNat)
      case atStart => exact ⟨0, by omega, rfl, fun j hj => by omega⟩
      case round =>
        obtain ⟨k, hk, rfl, hall2⟩ := hrel
        by_cases hlt : k < m1
        · rcases own1.form with ⟨_, h0, _⟩ | ⟨gb, rfl, _, _⟩
          · omega
          have hck := own1.cell hlt
          by_cases hgt : a < nth (edgA zs) k
          · have hx := next_at hall2.out (by have := HL.out; omega) hgt
            have HX := hide hx
            clear hx
            go_wp2_with fail
            go_ret2
            exact ⟨ret_pair (by rw [E1.out, HX.out.1]) (by rw [E2.out, HX.out.2]), b1⟩
          · have hst : Hid (∀ j, j < k + 1 → nth (edgA zs) j ≤ a) := by
              intro j hj
              by_cases e : j = k
              · subst e; omega
              · exact hall2.out j (by omega)
            go_wp2_with fail
            go_round
            case rel => exact ⟨k + 1, by omega, by go_num, hst⟩
            case measure => simp [intOf]; omega
        · obtain rfl : k = m1 := by omega
          have hx := next_none (l := edgA zs) (a := a) (by rw [HL.out]; exact hall2.out)
          have HX := hide hx
          clear hx
          go_wp2_with fail
          go_ret2
          exact ⟨ret_pair (by rw [E1.out, HX.out.1]) (by rw [E2.out, HX.out.2]), b1⟩
    · rw [Bool.not_eq_true] at hi
      obtain ⟨e1, e2⟩ := ne_range hz hi
      have E1 := hide e1
      have E2 := hide e2
      clear e1 e2
      go_enter Try.func83, Try.ntmps83
      go_wp2_with (first | (go_at_call 99; refine (sIsBits_any _ _ _ _ _ h).mono ?_; rintro e w' ⟨rfl, rfl⟩) | (go_at_call 89; refine (l01In_any _ _ _ _).mono ?_; rintro e w' ⟨rfl, rfl⟩))
      go_ret2
      exact ⟨ret_pair E1.out.symm E2.out.symm, Below.refl _ _⟩
  · rw [Bool.not_eq_true] at hz
    obtain ⟨e1, e2⟩ := ne_no (a := a) hz
    have E1 := hide e1
    have E2 := hide e2
    clear e1 e2
    go_enter Try.func83, Try.ntmps83
    go_wp2_with (first | (go_at_call 99; refine (sIsBits_any _ _ _ _ _ h).mono ?_; rintro e w' ⟨rfl, rfl⟩))
    go_ret2
    exact ⟨ret_pair E1.out.symm E2.out.symm, Below.refl _ _⟩
end Go.Proofs.Ytopccpnkokdmiaa
