/- Contracts: the greatest and the least element of a list, by the library and by the reference. -/
import Derived.Test.YtdkhldebnpmiiaaGreatDoorZBkI
namespace Go.Proofs.YtdkhldebnpmiiaaGreatDoor
open Go.RowKit
set_option linter.unusedVariables false
set_option linter.unusedSimpArgs false
set_option maxHeartbeats 1600000 in
theorem slices_Max_any (A : Option Addr) (n c : Nat) (zs : List Int) (w : World) (h : Rd w A n c zs) (hn : 0 < n) :
    Calls Tryz.prog 56 #[.slice A n c] w (fun e w' => e = .returned (.int .i64 (mxL zs)) ∧ w' = w) := by
  have hlen := hide h.len
  have hcap := h.cap
  obtain ⟨b, off, rfl, hb, hc⟩ := h.at_ hn
  have e0 := hc 0 hn
  simp at e0
  have HA := hide (show zs.take 1 = [nth zs 0] by
    obtain ⟨y, r, rfl⟩ := List.exists_cons_of_ne_nil (List.length_pos_iff.1 (by rw [hlen.out]; exact hn))
    rfl)
  have i0 : (0 : Int) < (n : Int) := by omega
  go_enter Tryz.func56, Tryz.ntmps56
  go_wp2
  go_loop [3, 4] (fun q i => ∃ k : Nat, 0 < k ∧ k ≤ n ∧ i = .int .i64 k ∧ q = .int .i64 (mxL (zs.take k))) (fun _ i => n - (intOf i).toNat)
  case atStart => exact ⟨1, by omega, by omega, rfl, by rw [HA.out]; rfl⟩
  case round =>
    obtain ⟨k, hk0, hk, rfl, rfl⟩ := hrel
    by_cases hlt : k < n
    · have ck := hc k hlt
      have HN := hide (show max (mxL (zs.take k)) (nth zs k) = mxL (zs.take (k + 1)) by
        rw [List.take_add_one, List.getElem?_eq_getElem (by rw [hlen.out]; exact hlt), ← nth_eq, Option.toList_some, mxL_snoc _ (by rw [← List.length_pos_iff, List.length_take, hlen.out]; omega)])
      obtain ⟨u, hu⟩ : ∃ u, u = mxL (zs.take k) := ⟨_, rfl⟩
      obtain ⟨y, hy⟩ : ∃ y, y = nth zs k := ⟨_, rfl⟩
      rw [← hu, ← hy] at HN
      rw [← hy] at ck
      rw [← hu]
      clear hu hy hc
      go_wp2
      go_round
      case rel => exact ⟨k + 1, by omega, by omega, by go_num, by rw [← HN.out]⟩
      case measure => simp [intOf]; omega
    · obtain rfl : k = n := by omega
      have E := hide (show zs.take k = zs by rw [← hlen.out, List.take_length])
      rw [E.out]
      go_wp2
      go_ret
      exact ⟨rfl, rfl⟩
set_option maxHeartbeats 1600000 in
theorem slices_Min_any (A : Option Addr) (n c : Nat) (zs : List Int) (w : World) (h : Rd w A n c zs) (hn : 0 < n) :
    Calls Tryz.prog 71 #[.slice A n c] w (fun e w' => e = .returned (.int .i64 (mnL zs)) ∧ w' = w) := by
  have hlen := hide h.len
  have hcap := h.cap
  obtain ⟨b, off, rfl, hb, hc⟩ := h.at_ hn
  have e0 := hc 0 hn
  simp at e0
  have HA := hide (show zs.take 1 = [nth zs 0] by
    obtain ⟨y, r, rfl⟩ := List.exists_cons_of_ne_nil (List.length_pos_iff.1 (by rw [hlen.out]; exact hn))
    rfl)
  have i0 : (0 : Int) < (n : Int) := by omega
  go_enter Tryz.func71, Tryz.ntmps71
  go_wp2
  go_loop [3, 4] (fun q i => ∃ k : Nat, 0 < k ∧ k ≤ n ∧ i = .int .i64 k ∧ q = .int .i64 (mnL (zs.take k))) (fun _ i => n - (intOf i).toNat)
  case atStart => exact ⟨1, by omega, by omega, rfl, by rw [HA.out]; rfl⟩
  case round =>
    obtain ⟨k, hk0, hk, rfl, rfl⟩ := hrel
    by_cases hlt : k < n
    · have ck := hc k hlt
      have HN := hide (show min (mnL (zs.take k)) (nth zs k) = mnL (zs.take (k + 1)) by
        rw [List.take_add_one, List.getElem?_eq_getElem (by rw [hlen.out]; exact hlt), ← nth_eq, Option.toList_some, mnL_snoc _ (by rw [← List.length_pos_iff, List.length_take, hlen.out]; omega)])
      obtain ⟨u, hu⟩ : ∃ u, u = mnL (zs.take k) := ⟨_, rfl⟩
      obtain ⟨y, hy⟩ : ∃ y, y = nth zs k := ⟨_, rfl⟩
      rw [← hu, ← hy] at HN
      rw [← hy] at ck
      rw [← hu]
      clear hu hy hc
      go_wp2
      go_round
      case rel => exact ⟨k + 1, by omega, by omega, by go_num, by rw [← HN.out]⟩
      case measure => simp [intOf]; omega
    · obtain rfl : k = n := by omega
      have E := hide (show zs.take k = zs by rw [← hlen.out, List.take_length])
      rw [E.out]
      go_wp2
      go_ret
      exact ⟨rfl, rfl⟩
set_option maxHeartbeats 1600000 in
theorem l17Ends_any (A : Option Addr) (n c : Nat) (zs : List Int) (w : World) (h : Rd w A n c zs) (hn : 0 < n) :
    Calls Tryz.prog 70 #[.slice A n c] w (fun e w' => e = .returned (.tuple #[.int .i64 (mnL zs), .int .i64 (mxL zs)]) ∧ Below w.heap.size w w') := by
  have hlen := hide h.len
  have hcap := h.cap
  obtain ⟨b, off, rfl, hb, hc⟩ := h.at_ hn
  have e0 := hc 0 hn
  simp at e0
  have HA := hide (show zs.take 1 = [nth zs 0] by
    obtain ⟨y, r, rfl⟩ := List.exists_cons_of_ne_nil (List.length_pos_iff.1 (by rw [hlen.out]; exact hn))
    rfl)
  have i0 : (0 : Int) < (n : Int) := by omega
  go_enter Tryz.func70, Tryz.ntmps70
  go_wp2
  go_quiet (fail)
  go_wp2
  go_loop [4, 5, 6] (fun p q i => ∃ k : Nat, 0 < k ∧ k ≤ n ∧ i = .int .i64 k ∧ p = .int .i64 (mnL (zs.take k)) ∧ q = .int .i64 (mxL (zs.take k))) (fun _ _ i => n - (intOf i).toNat)
  case atStart => exact ⟨1, by omega, by omega, rfl, by rw [HA.out]; rfl, by rw [HA.out]; rfl⟩
  case round =>
    obtain ⟨k, hk0, hk, rfl, rfl, rfl⟩ := hrel
    by_cases hlt : k < n
    · have ck := hc k hlt
      have e1 : zs.take (k + 1) = zs.take k ++ [nth zs k] := by
        rw [List.take_add_one, List.getElem?_eq_getElem (by rw [hlen.out]; exact hlt), ← nth_eq]
        rfl
      have e2 : zs.take k ≠ [] := by rw [← List.length_pos_iff, List.length_take, hlen.out]; omega
      have HN := hide (show max (mxL (zs.take k)) (nth zs k) = mxL (zs.take (k + 1)) by rw [e1, mxL_snoc _ e2])
      have HM := hide (show min (mnL (zs.take k)) (nth zs k) = mnL (zs.take (k + 1)) by rw [e1, mnL_snoc _ e2])
      obtain ⟨u, hu⟩ : ∃ u, u = mxL (zs.take k) := ⟨_, rfl⟩
      obtain ⟨v, hv⟩ : ∃ v, v = mnL (zs.take k) := ⟨_, rfl⟩
      obtain ⟨y, hy⟩ : ∃ y, y = nth zs k := ⟨_, rfl⟩
      rw [← hu, ← hy] at HN
      rw [← hv, ← hy] at HM
      rw [← hy] at ck
      rw [← hu, ← hv]
      clear hu hy hv e1 e2 hc
      go_wp2
      go_round
      case rel => exact ⟨k + 1, by omega, by omega, by go_num, by rw [← HM.out], by rw [← HN.out]⟩
      case measure => simp [intOf]; omega
    · obtain rfl : k = n := by omega
      have E := hide (show zs.take k = zs by rw [← hlen.out, List.take_length])
      rw [E.out]
      go_wp2
      go_ret2
      exact ⟨rfl, below_drewN (Below.refl _ _) _⟩
end Go.Proofs.YtdkhldebnpmiiaaGreatDoor
