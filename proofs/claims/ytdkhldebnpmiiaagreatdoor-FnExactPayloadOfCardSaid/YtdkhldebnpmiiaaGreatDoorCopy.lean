/- Contracts of toInt64S, eqInt64S, markInt64S, heldInt64S of the statements' package. -/
import Derived.Test.YtdkhldebnpmiiaaGreatDoorBase
import Derived.Deep.OwnRows
namespace Go.Proofs.YtdkhldebnpmiiaaGreatDoor
open Go.RowKit
set_option linter.unusedVariables false
set_option linter.unusedSimpArgs false

theorem copy_step (zs : List Int) (n k : Nat) (h : zs.length = n) (hk : k < n) :
    (zs.take k ++ List.replicate (n - k) 0).set k (nth zs k) = zs.take (k + 1) ++ List.replicate (n - (k + 1)) 0 := by
  obtain ⟨m, hm⟩ : ∃ m, n - k = m + 1 := ⟨n - k - 1, by omega⟩
  have hm' : n - (k + 1) = m := by omega
  rw [hm, hm', List.replicate_succ, take_snoc zs k (by omega), List.append_assoc, List.singleton_append]
  have hl : (zs.take k).length = k := by rw [List.length_take]; omega
  rw [List.set_append_right _ _ (by omega), hl, Nat.sub_self, List.set_cons_zero]

theorem toInt64S_any (A : Option Addr) (n c : Nat) (zs : List Int) (w : World) (h : Rd w A n c zs) (hn : n ≤ 16777216) :
    Calls Tryz.prog 117 #[.slice A n c] w fun e w' => ∃ g, e = .returned (.slice (some ⟨g, 0, none⟩) n n) ∧ Own w' w.heap.size (some ⟨g, 0, none⟩) n n zs ∧ Below w.heap.size w w' := by
  have hlen := h.le
  have hcap := h.cap
  have hmk := run_make_row' (P := Tryz.prog) 40 2 (.int .i64 0) 8 Tryz.underlying40 info_i64 rfl .i64 .i64 n (by omega) (by omega)
  go_enter Tryz.func117, Tryz.ntmps117
  go_wp2
  go_loopw [4] (fun i wr => ∃ k : Nat, k ≤ n ∧ i = .int .i64 k ∧ Own wr w.heap.size (some ⟨w.heap.size, 0, none⟩) n n (zs.take k ++ List.replicate (n - k) 0) ∧ Below w.heap.size w wr) (fun i _ => n - (intOf i).toNat)
  case atStart => exact ⟨0, Nat.zero_le _, rfl, Own.made w (by omega), (Below.refl _ _).alloc (Nat.le_refl _) _⟩
  case round =>
    obtain ⟨k, hk, rfl, hown, hbel⟩ := hrel
    by_cases hlt : k < n
    · obtain ⟨b, off, rfl, hb, hc⟩ := h.at_ (by omega)
      have hck := (hbel.cell (p := ⟨b, off + k, none⟩) hb).trans (hc k hlt)
      have hst := hown.cell (k := k) hlt
      have hfz := hown.frozen k
      have hi := h.i64.get k
      have hown' := hide (hown.set k hi.1 hi.2)
      have hbel' := hide (hbel.setCell (p := ⟨w.heap.size, k, none⟩) (Nat.le_refl _) (.int .i64 (nth zs k)))
      have hl := hide h.len
      clear hown hbel hc hi h hmk
      go_wp2
      go_roundw
      case rel =>
        have e := hown'.out
        rw [copy_step zs n k hl.out hlt] at e
        exact ⟨k + 1, by omega, by go_num, e, hbel'.out⟩
      case measure => simp [intOf]; omega
    · obtain rfl : k = n := by omega
      have e : zs.take k ++ List.replicate (k - k) 0 = zs := by
        rw [Nat.sub_self, List.replicate_zero, List.append_nil, List.take_of_length_le (by omega)]
      rw [e] at hown
      clear e
      go_wp2
      go_ret
      exact ⟨_, rfl, hown, hbel⟩

/-- the two lists are one -/
def eqB (xs ys : List Int) : Bool := decide (xs = ys)
theorem eqB_yes {xs ys : List Int} (h : xs = ys) : eqB xs ys = true := by simp [eqB, h]
theorem eqB_no {xs ys : List Int} (h : ¬ xs = ys) : eqB xs ys = false := by simp [eqB, h]
theorem eqB_self (xs : List Int) : eqB xs xs = true := eqB_yes rfl

theorem eqInt64S_any (A B : Option Addr) (n m c d : Nat) (xs ys : List Int) (w : World) (hx : Rd w A n c xs) (hy : Rd w B m d ys) :
    Calls Tryz.prog 22 #[.slice A n c, .slice B m d] w fun e w' => e = .returned (.bool (eqB xs ys)) ∧ ∃ k, w' = w.drewN k := by
  have hlx := hx.le
  have hly := hy.le
  have hcx := hx.cap
  have hcy := hy.cap
  by_cases hnm : n = m
  · subst hnm
    have t1 : ((n : Int) != (n : Int)) = false := by simp
    go_enter Tryz.func22, Tryz.ntmps22
    go_wp2
    go_loopw [5] (fun i wr => ∃ k r : Nat, k ≤ n ∧ i = .int .i64 k ∧ wr = w.drewN r ∧ Hid (xs.take k = ys.take k)) (fun i _ => n - (intOf i).toNat)
    case atStart => exact ⟨0, 0, Nat.zero_le _, rfl, rfl, rfl⟩
    case round =>
      obtain ⟨k, r, hk, rfl, rfl, hh⟩ := hrel
      by_cases hlt : k < n
      · obtain ⟨b, off, rfl, hb, hc⟩ := hx.at_ (by omega)
        obtain ⟨b', off', rfl, hb', hc'⟩ := hy.at_ (by omega)
        have hck := hc k hlt
        have hck' := hc' k hlt
        have z1 : (0 : Int) ≤ (k : Int) := by omega
        have z2 : (k : Int) < (n : Int) := by omega
        clear hc hc'
        by_cases he : nth xs k = nth ys k
        · have ht : (nth xs k != nth ys k) = false := by simp [he]
          have hstep : Hid (xs.take (k + 1) = ys.take (k + 1)) := by
            show _ = _
            rw [take_snoc xs k (by omega), take_snoc ys k (by omega), hh.out, he]
          clear he
          go_wp2
          go_quiet (fail)
          go_wp2
          go_roundw
          case rel => exact ⟨k + 1, _, by omega, by go_num, rfl, hstep⟩
          case measure => simp [intOf]; omega
        · have ht : (nth xs k != nth ys k) = true := by simp [he]
          have hfin : Hid (eqB xs ys = false) := eqB_no (fun e => he (by rw [e]))
          clear he
          go_wp2
          go_quiet (fail)
          go_wp2
          go_ret
          exact ⟨ret_bool hfin.out.symm, _, by first | rfl | exact World.drewN_drewN _ _ _⟩
      · obtain rfl : k = n := by omega
        have hfin : Hid (eqB xs ys = true) := by
          have e := hh.out
          rw [List.take_of_length_le (by omega), List.take_of_length_le (by omega)] at e
          exact eqB_yes e
        clear hh
        go_wp2
        go_ret
        exact ⟨ret_bool hfin.out.symm, _, rfl⟩
  · have t1 : ((n : Int) != (m : Int)) = true := by simp; omega
    have hfin : Hid (eqB xs ys = false) := eqB_no (fun e => hnm (by have := congrArg List.length e; omega))
    clear hnm
    go_enter Tryz.func22, Tryz.ntmps22
    go_wp2
    go_ret
    exact ⟨ret_bool hfin.out.symm, 0, rfl⟩

/-- k, k + 1, .. : n numbers -/
def marks (k : Int) (n : Nat) : List Int := (List.range n).map (fun (i : Nat) => k + (i : Int))
theorem marks_length (k : Int) (n : Nat) : (marks k n).length = n := by simp [marks]
theorem marks_nth (k : Int) (n j : Nat) (h : j < n) : nth (marks k n) j = k + j := by
  rw [nth_eq (by rw [marks_length]; exact h)]
  simp [marks]
theorem marks_succ (k : Int) (n : Nat) : marks k (n + 1) = marks k n ++ [k + n] := by simp [marks, List.range_succ]
theorem marks_step (k : Int) (zs : List Int) (n j : Nat) (hl : zs.length = n) (h : j < n) : (marks k j ++ zs.drop j).set j (k + j) = marks k (j + 1) ++ zs.drop (j + 1) := by
  rw [List.set_append_right _ _ (by rw [marks_length]; omega), marks_length, Nat.sub_self, List.drop_eq_getElem_cons (by omega), List.set_cons_zero, marks_succ, List.append_assoc, List.singleton_append]

theorem markInt64S_any (A : Option Addr) (n c : Nat) (zs : List Int) (B : Nat) (k0 : Int) (w : World) (h : Own w B A n c zs) (hn : n ≤ 16777216) (h0 : 0 ≤ k0) (h1 : k0 ≤ 16777216) :
    Calls Tryz.prog 25 #[.slice A n c, .int .i64 k0] w fun e w' => e = .returned (.int .i64 (k0 + n)) ∧ Own w' B A n c (marks k0 n) ∧ w.grownBy w' (Value.slice A n c).ownBlock := by
  have hlen := h.le
  have hcap := h.cap
  go_enter Tryz.func25, Tryz.ntmps25
  go_wp2
  go_loopw [1, 5] (fun m i wr => ∃ k : Nat, k ≤ n ∧ i = .int .i64 k ∧ m = .int .i64 (k0 + k) ∧ Own wr B A n c (marks k0 k ++ zs.drop k) ∧ w.grownBy wr (Value.slice A n c).ownBlock) (fun _ i _ => n - (intOf i).toNat)
  case atStart => exact ⟨0, Nat.zero_le _, rfl, by go_num, by simpa [marks] using h, grown_refl _ _⟩
  case round =>
    obtain ⟨k, hk, rfl, rfl, hown, hg⟩ := hrel
    by_cases hlt : k < n
    · rcases hown.form with ⟨_, h0, _⟩ | ⟨g, rfl, _, _⟩
      · omega
      have hst := hown.cell (k := k) hlt
      have hfz := hown.frozen k
      have hown' := hide (hown.set k (x := k0 + k) (by omega) (by omega))
      have hg' := hide (grown_trans hg (hown.set_grown k (k0 + k)))
      have hl := hide h.len
      clear hown hg h
      go_wp2
      go_roundw
      case rel =>
        have e := hown'.out
        rw [marks_step k0 zs n k hl.out hlt] at e
        exact ⟨k + 1, by omega, by go_num, by go_num, e, hg'.out⟩
      case measure => simp [intOf]; omega
    · obtain rfl : k = n := by omega
      rw [List.drop_of_length_le (by omega), List.append_nil] at hown
      go_wp2
      go_ret
      exact ⟨rfl, hown, hg⟩

theorem heldInt64S_any (A : Option Addr) (n c : Nat) (k0 : Int) (w : World) (h : Rd w A n c (marks k0 n)) (hn : n ≤ 16777216) (h0 : 0 ≤ k0) (h1 : k0 ≤ 16777216) :
    Calls Tryz.prog 26 #[.slice A n c, .int .i64 k0] w fun e w' => e = .returned (.int .i64 (k0 + n)) ∧ ∃ k, w' = w.drewN k := by
  have hlen := h.le
  have hcap := h.cap
  go_enter Tryz.func26, Tryz.ntmps26
  go_wp2
  go_loopw [1, 5] (fun m i wr => ∃ k r : Nat, k ≤ n ∧ i = .int .i64 k ∧ m = .int .i64 (k0 + k) ∧ wr = w.drewN r) (fun _ i _ => n - (intOf i).toNat)
  case atStart => exact ⟨0, 0, Nat.zero_le _, rfl, by go_num, rfl⟩
  case round =>
    obtain ⟨k, r, hk, rfl, rfl, rfl⟩ := hrel
    by_cases hlt : k < n
    · obtain ⟨b, off, rfl, hb, hc⟩ := h.at_ (by omega)
      have hck := hc k hlt
      rw [marks_nth k0 n k hlt] at hck
      have z1 : (0 : Int) ≤ (k : Int) := by omega
      have z2 : (k : Int) < (n : Int) := by omega
      have ht : (k0 + (k : Int) != k0 + (k : Int)) = false := by simp
      clear hc
      go_wp2
      go_roundw
      case rel => exact ⟨k + 1, _, by omega, by go_num, by go_num, rfl⟩
      case measure => simp [intOf]; omega
    · obtain rfl : k = n := by omega
      go_wp2
      go_ret
      exact ⟨rfl, _, rfl⟩

theorem eqInt64S_b (A B : Option Addr) (n m c d : Nat) (xs ys : List Int) (w : World) (hx : Rd w A n c xs) (hy : Rd w B m d ys) :
    Calls Tryz.prog 22 #[.slice A n c, .slice B m d] w fun e w' => e = .returned (.bool (eqB xs ys)) ∧ Below w.heap.size w w' :=
  (eqInt64S_any A B n m c d xs ys w hx hy).mono fun _ _ ⟨he, k, hk⟩ => ⟨he, by rw [hk]; exact below_drewN (Below.refl _ _) _⟩
theorem heldInt64S_b (A : Option Addr) (n c : Nat) (k0 : Int) (w : World) (h : Rd w A n c (marks k0 n)) (hn : n ≤ 16777216) (h0 : 0 ≤ k0) (h1 : k0 ≤ 16777216) :
    Calls Tryz.prog 26 #[.slice A n c, .int .i64 k0] w fun e w' => e = .returned (.int .i64 (k0 + n)) ∧ Below w.heap.size w w' :=
  (heldInt64S_any A n c k0 w h hn h0 h1).mono fun _ _ ⟨he, k, hk⟩ => ⟨he, by rw [hk]; exact below_drewN (Below.refl _ _) _⟩
end Go.Proofs.YtdkhldebnpmiiaaGreatDoor
