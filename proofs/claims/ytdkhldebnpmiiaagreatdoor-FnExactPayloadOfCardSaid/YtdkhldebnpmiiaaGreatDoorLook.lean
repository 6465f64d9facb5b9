/- Contracts: looking up a slot and a node. -/
import Derived.Test.YtdkhldebnpmiiaaGreatDoorVec
namespace Go.Proofs.YtdkhldebnpmiiaaGreatDoor
open Go.RowKit
set_option linter.unusedVariables false
set_option linter.unusedSimpArgs false

set_option maxHeartbeats 1600000 in
theorem findSlot_any (a b d : Int) (A : Option Addr) (n c : Nat) (l : List Slt) (w : World) (h : RdR Slt.v 8 w A n c l) :
    Calls Tryz.prog 162 #[.slice A n c, .int .i64 a, .int .i64 b, .int .i64 d] w (IntOut (idx (slotB a b d) l) w) := by
  have B0 : Below w.heap.size w (((w.alloc (.cells #[.int .i64 a] 2)).alloc (.cells #[.int .i64 b] 2)).alloc (.cells #[.int .i64 d] 2)) := by (repeat (first | exact Below.refl _ _ | (refine Below.alloc ?_ (by simp <;> omega) _) | (refine Below.setCell ?_ (by simp <;> omega) _)))
  have H1 := hide (h.below B0)
  have HB := hide B0
  clear B0
  go_enter Tryz.func162, Tryz.ntmps162
  go_wp2_with fail
  go_at_call 161
  refine (index_slot _ a b d A n c l _ H1.out (by simp [go_sem]) (by simp [go_sem]) (by simp [go_sem])).mono ?_
  rintro ee w1 ⟨rfl, b1⟩
  have BB := hide (below_trans HB.out b1)
  go_wp2
  go_ret
  exact ⟨rfl, BB.out⟩
set_option maxHeartbeats 1600000 in
theorem findNode_any (id : Int) (A : Option Addr) (n c : Nat) (l : List Nod) (w : World) (h : RdR Nod.v 4 w A n c l) :
    Calls Tryz.prog 113 #[.slice A n c, .int .i64 id] w (IntOut (idx (fun y => y.id == id) l) w) := by
  have B0 : Below w.heap.size w (w.alloc (.cells #[.int .i64 id] 2)) := by (repeat (first | exact Below.refl _ _ | (refine Below.alloc ?_ (by simp <;> omega) _) | (refine Below.setCell ?_ (by simp <;> omega) _)))
  have H1 := hide (h.below B0)
  have HB := hide B0
  clear B0
  go_enter Tryz.func113, Tryz.ntmps113
  go_wp2_with fail
  go_at_call 132
  refine (index_id _ id A n c l _ H1.out (by simp [go_sem])).mono ?_
  rintro ee w1 ⟨rfl, b1⟩
  have BB := hide (below_trans HB.out b1)
  go_wp2
  go_ret
  exact ⟨rfl, BB.out⟩
set_option maxHeartbeats 1600000 in
theorem l12Find_any (a b d : Int) (A : Option Addr) (n c : Nat) (l : List Slt) (w : World) (h : RdR Slt.v 8 w A n c l) :
    Calls Tryz.prog 167 #[.slice A n c, .int .i64 a, .int .i64 b, .int .i64 d] w (fun e w' => e = .returned (.int .i64 (idx (slotB a b d) l)) ∧ w = w') := by
  have hcap := h.cap
  have hlen := hide h.len
  go_enter Tryz.func167, Tryz.ntmps167
  go_wp2
  go_loopw [9] (fun i wr => ∃ k : Nat, k ≤ n ∧ i = .int .i64 k ∧ Hid (∀ j y, j < k → l[j]? = some y → slotB a b d y = false) ∧ wr = w) (fun i _ => n - (intOf i).toNat)
  case atStart => exact ⟨0, by omega, rfl, hide (fun j y hj => by omega), rfl⟩
  case round =>
    obtain ⟨k, hk, rfl, hno, rfl⟩ := hrel
    by_cases hlt : k < n
    · obtain ⟨b', off, x, rfl, hb, hx, c0, c1, c2, c3, c4, c5, c6, c7⟩ := slt_at h hlt
      have HX := hide hx
      have HS := hide (show slotB a b d x = (x.md == a && (x.rd == b && x.sl == d)) from rfl)
      clear hx
      have NN : slotB a b d x = false → Hid (∀ j y, j < k + 1 → l[j]? = some y → slotB a b d y = false) := fun hp j y hj hy => by
        rcases Nat.lt_succ_iff_lt_or_eq.1 hj with h1 | h1
        · exact hno.out j y h1 hy
        · subst h1
          rw [HX.out] at hy
          obtain rfl := Option.some.inj hy
          exact hp
      cases e1 : (x.md == a)
      · have N2 := NN (by rw [HS.out, e1]; rfl)
        clear NN HS
        go_wp2
        go_roundw
        case rel => exact ⟨k + 1, by omega, by go_num, N2, trivial⟩
        case measure => simp [intOf]; omega
      · cases e2 : (x.rd == b)
        · have N2 := NN (by rw [HS.out, e1, e2]; rfl)
          clear NN HS
          go_wp2
          go_roundw
          case rel => exact ⟨k + 1, by omega, by go_num, N2, trivial⟩
          case measure => simp [intOf]; omega
        · cases e3 : (x.sl == d)
          · have N2 := NN (by rw [HS.out, e1, e2, e3]; rfl)
            clear NN HS
            go_wp2
            go_roundw
            case rel => exact ⟨k + 1, by omega, by go_num, N2, trivial⟩
            case measure => simp [intOf]; omega
          · have E := hide (idx_hit HX.out (show slotB a b d x = true by rw [HS.out, e1, e2, e3]; rfl) hno.out)
            clear NN HS
            go_wp2
            go_ret
            exact ⟨by rw [E.out]; rfl, rfl⟩
    · obtain rfl : k = n := by omega
      have E := hide (idx_none (p := slotB a b d) (l := l) (fun j y hy => hno.out j y (by have := get_lt hy; have := hlen.out; omega) hy))
      go_wp2
      go_ret
      exact ⟨by rw [E.out]; rfl, rfl⟩
end Go.Proofs.YtdkhldebnpmiiaaGreatDoor
