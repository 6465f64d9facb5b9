/- Contracts: a name and a node's entry, by the reference. -/
import Derived.Test.YtdkhldebnpmiiaaGreatDoorNode
namespace Go.Proofs.YtdkhldebnpmiiaaGreatDoor
open Go.RowKit
set_option linter.unusedVariables false
set_option linter.unusedSimpArgs false

theorem byte_at (s : ByteArray) (k : Nat) (h : k < s.size) : s.data.toList[k]? = some s[k] := by
  rw [Array.getElem?_toList]
  exact Array.getElem?_eq_getElem h
set_option maxHeartbeats 1600000 in
theorem l10Name_any (s : ByteArray) (w : World) (hs : s.size ≤ 9223372036854775807) : Calls Tryz.prog 169 #[.string s] w fun e w' => e = .returned (.bool (nameB s)) ∧ w = w' := by
  go_enter Tryz.func169, Tryz.ntmps169
  go_wp2
  go_loopw [3] (fun i wr => ∃ k : Nat, k ≤ s.size ∧ i = .int .i64 k ∧ Hid (∀ j b, j < k → s.data.toList[j]? = some b → letB b = true) ∧ wr = w) (fun i _ => s.size - (intOf i).toNat)
  case atStart => exact ⟨0, by omega, rfl, hide (fun j b hj => by omega), rfl⟩
  case round =>
    obtain ⟨k, hk, rfl, hall, rfl⟩ := hrel
    by_cases hlt : k < s.size
    · have hb := hide (byte_at s k hlt)
      have H : Hid (letB s[k] = ((decide (97 ≤ (s[k].toNat : Int)) && decide ((s[k].toNat : Int) ≤ 122)) || (decide (48 ≤ (s[k].toNat : Int)) && decide ((s[k].toNat : Int) ≤ 57)))) := by
        unfold Hid letB
        congr 1 <;> congr 1 <;> simp <;> omega
      have fin : ∀ v : Bool, letB s[k] = v → Hid ((v = false → nameB s = false) ∧ (v = true → ∀ j b, j < k + 1 → s.data.toList[j]? = some b → letB b = true)) := fun v hv => by
        refine ⟨fun e => ?_, fun e j b hj hjb => ?_⟩
        · have : s.data.toList.all letB = false := List.all_eq_false.2 ⟨_, List.mem_of_getElem? hb.out, by rw [hv, e]; simp⟩
          rw [nameB, this, Bool.and_false, Bool.and_false]
        · rcases Nat.lt_succ_iff_lt_or_eq.1 hj with h | h
          · exact hall.out j b h hjb
          · subst h
            rw [hb.out] at hjb
            obtain rfl := Option.some.inj hjb
            rw [hv, e]
      have fin0 : letB s[k] = false → Hid (nameB s = false) := fun h => (fin false h).out.1 rfl
      have fin1 : letB s[k] = true → Hid (∀ j b, j < k + 1 → s.data.toList[j]? = some b → letB b = true) := fun h => (fin true h).out.2 rfl
      clear fin
      have hcase : ((s[k].toNat : Int) < 48 ∨ 48 ≤ (s[k].toNat : Int) ∧ (s[k].toNat : Int) ≤ 57 ∨ 57 < (s[k].toNat : Int) ∧ (s[k].toNat : Int) < 97 ∨ 97 ≤ (s[k].toNat : Int) ∧ (s[k].toNat : Int) ≤ 122 ∨ 122 < (s[k].toNat : Int)) := by omega
      have bad : ∀ (d1 d2 d3 d4 : Bool), decide ((s[k].toNat : Int) < 97) = d1 → decide (122 < (s[k].toNat : Int)) = d2 → decide ((s[k].toNat : Int) < 48) = d3 → decide (57 < (s[k].toNat : Int)) = d4 → letB s[k] = !((d1 || d2) && (d3 || d4)) := by
        rintro d1 d2 d3 d4 rfl rfl rfl rfl
        rw [H.out]
        have e1 : decide ((s[k].toNat : Int) < 97) = !decide (97 ≤ (s[k].toNat : Int)) := by by_cases h : 97 ≤ (s[k].toNat : Int) <;> simp [h] <;> omega
        have e2 : decide (122 < (s[k].toNat : Int)) = !decide ((s[k].toNat : Int) ≤ 122) := by by_cases h : (s[k].toNat : Int) ≤ 122 <;> simp [h] <;> omega
        have e3 : decide ((s[k].toNat : Int) < 48) = !decide (48 ≤ (s[k].toNat : Int)) := by by_cases h : 48 ≤ (s[k].toNat : Int) <;> simp [h] <;> omega
        have e4 : decide (57 < (s[k].toNat : Int)) = !decide ((s[k].toNat : Int) ≤ 57) := by by_cases h : (s[k].toNat : Int) ≤ 57 <;> simp [h] <;> omega
        rw [e1, e2, e3, e4]
        cases decide (97 ≤ (s[k].toNat : Int)) <;> cases decide ((s[k].toNat : Int) ≤ 122) <;> cases decide (48 ≤ (s[k].toNat : Int)) <;> cases decide ((s[k].toNat : Int) ≤ 57) <;> rfl
      rcases hcase with h | h | h | h | h
      · have t1 : decide ((s[k].toNat : Int) < 97) = true := decide_eq_true (by omega)
        have t2 : decide (122 < (s[k].toNat : Int)) = false := decide_eq_false (by omega)
        have t3 : decide ((s[k].toNat : Int) < 48) = true := decide_eq_true (by omega)
        have F := fin0 (bad true false true false t1 t2 t3 (decide_eq_false (by omega)))
        clear bad fin0 fin1 H h hb
        go_wp2
        go_ret
        exact ⟨by rw [F.out]; rfl, rfl⟩
      · have t1 : decide ((s[k].toNat : Int) < 97) = true := decide_eq_true (by omega)
        have t2 : decide (122 < (s[k].toNat : Int)) = false := decide_eq_false (by omega)
        have t3 : decide ((s[k].toNat : Int) < 48) = false := decide_eq_false (by omega)
        have t4 : decide (57 < (s[k].toNat : Int)) = false := decide_eq_false (by omega)
        have F := fin1 (bad true false false false t1 t2 t3 t4)
        clear bad fin0 fin1 H h hb
        go_wp2
        go_roundw
        case rel => exact ⟨k + 1, by omega, by go_num, F, trivial⟩
        case measure => simp [intOf]; omega
      · have t1 : decide ((s[k].toNat : Int) < 97) = true := decide_eq_true (by omega)
        have t2 : decide (122 < (s[k].toNat : Int)) = false := decide_eq_false (by omega)
        have t3 : decide ((s[k].toNat : Int) < 48) = false := decide_eq_false (by omega)
        have t4 : decide (57 < (s[k].toNat : Int)) = true := decide_eq_true (by omega)
        have F := fin0 (bad true false false true t1 t2 t3 t4)
        clear bad fin0 fin1 H h hb
        go_wp2
        go_ret
        exact ⟨by rw [F.out]; rfl, rfl⟩
      · have t1 : decide ((s[k].toNat : Int) < 97) = false := decide_eq_false (by omega)
        have t2 : decide (122 < (s[k].toNat : Int)) = false := decide_eq_false (by omega)
        have F := fin1 (bad false false (decide ((s[k].toNat : Int) < 48)) (decide (57 < (s[k].toNat : Int))) t1 t2 rfl rfl)
        clear bad fin0 fin1 H h hb
        go_wp2
        go_roundw
        case rel => exact ⟨k + 1, by omega, by go_num, F, trivial⟩
        case measure => simp [intOf]; omega
      · have t1 : decide ((s[k].toNat : Int) < 97) = false := decide_eq_false (by omega)
        have t2 : decide (122 < (s[k].toNat : Int)) = true := decide_eq_true (by omega)
        have t3 : decide ((s[k].toNat : Int) < 48) = false := decide_eq_false (by omega)
        have t4 : decide (57 < (s[k].toNat : Int)) = true := decide_eq_true (by omega)
        have F := fin0 (bad false true false true t1 t2 t3 t4)
        clear bad fin0 fin1 H h hb
        go_wp2
        go_ret
        exact ⟨by rw [F.out]; rfl, rfl⟩
    · obtain rfl : k = s.size := by omega
      have hA : s.data.toList.all letB = true := List.all_eq_true.2 fun b hb => by
        obtain ⟨j, hj, rfl⟩ := List.getElem_of_mem hb
        exact hall.out j _ (by simpa using hj) (List.getElem?_eq_getElem hj)
      have e0 : nameB s = (decide ((1 : Int) ≤ (s.size : Int)) && decide ((s.size : Int) ≤ 6)) := by
        rw [nameB, hA, Bool.and_true]
        congr 1 <;> simp <;> omega
      have E0 := hide e0
      clear e0 hA
      by_cases h1 : 1 ≤ s.size
      · have t1 : decide ((1 : Int) ≤ (s.size : Int)) = true := decide_eq_true (by omega)
        go_wp2
        go_ret
        exact ⟨by rw [E0.out, t1]; rfl, rfl⟩
      · have t1 : decide ((1 : Int) ≤ (s.size : Int)) = false := decide_eq_false (by omega)
        go_wp2
        go_ret
        exact ⟨by rw [E0.out, t1]; rfl, rfl⟩
set_option maxHeartbeats 1600000 in
theorem sIsNodeInfo_any (x : Nod) (w : World) (hs : x.nm.size ≤ 9223372036854775807) : Calls Tryz.prog 153 #[.agg #[.int .i64 x.id, .string x.nm, .int .i64 x.dr, .bool x.pas]] w fun e w' => e = .returned (.bool (nodeB x)) ∧ Below w.heap.size w w' := by
  have B0 : Below w.heap.size w (w.alloc (.cells #[.int .i64 x.id, .string x.nm, .int .i64 x.dr, .bool x.pas] 68)) := by (repeat (first | exact Below.refl _ _ | (refine Below.alloc ?_ (by simp <;> omega) _) | (refine Below.setCell ?_ (by simp <;> omega) _)))
  have HN := hide (show nodeB x = (nameB x.nm && (inB 0 31 x.id && inB 0 1000 x.dr)) from rfl)
  go_enter Tryz.func153, Tryz.ntmps153
  cases h1 : inB 0 31 x.id <;> cases h2 : nameB x.nm
  all_goals
    have H1 := hide h1
    have H2 := hide h2
    clear h1 h2
    go_wp2_with (first | (go_at_call 168; refine (l05Node_any _ _).mono ?_; rintro e w2 ⟨rfl, rfl⟩; rw [H1.out]) | (go_at_call 169; refine (l10Name_any _ _ hs).mono ?_; rintro e w2 ⟨rfl, rfl⟩; rw [H2.out]) | (go_at_call 122; refine (l01In_any _ _ _ _).mono ?_; rintro e w3 ⟨rfl, rfl⟩))
    go_ret
    exact ⟨by rw [HN.out, H1.out, H2.out]; rfl, B0⟩
end Go.Proofs.YtdkhldebnpmiiaaGreatDoor
