/- Contracts: a node known to a schedule, by the reference. -/
import Derived.Test.YtdkhldebnpmiiaaGreatDoorNodes
namespace Go.Proofs.YtdkhldebnpmiiaaGreatDoor
open Go.RowKit
set_option linter.unusedVariables false
set_option linter.unusedSimpArgs false

theorem results_Ni {fn : Func} {t u : Tmp} (h : fn.results = #[.cell t 68, .tmp u]) {tmps : Array Value} {w : World} {g : Nat} {a0 a1 a2 a3 x : Value} (hp : tmps.getD t undef = .pointer (some ⟨g, 0, none⟩)) (hx : tmps.getD u undef = x) (hs : At w g 68 #[a0, a1, a2, a3]) :
    (results fn tmps).run Tryz.prog w = .ok (.tuple #[.agg #[a0, a1, a2, a3], x]) w := by
  have d0 : w.cell? ⟨g, 0, none⟩ = some a0 := hs.cell 0
  have d1 : w.cell? ⟨g, 1, none⟩ = some a1 := hs.cell 1
  have d2 : w.cell? ⟨g, 2, none⟩ = some a2 := hs.cell 2
  have d3 : w.cell? ⟨g, 3, none⟩ = some a3 := hs.cell 3
  rw [Array.getD_eq_getD_getElem?] at hp hx
  subst hx
  simp [results, h, hp, go_sem, d0, d1, d2, d3]
set_option maxHeartbeats 3200000 in
theorem sFindNode_any (id : Int) (A : Option Addr) (n c : Nat) (l : List Nod) (w : World) (h : RdR Nod.v 4 w A n c l) (hq : ∀ x ∈ l, x.nm.size ≤ 9223372036854775807) (ht : ntB l = true) :
    Calls Tryz.prog 114 #[.slice A n c, .int .i64 id] w (fun e w' => ∃ y : Nod, e = .returned (.tuple #[.agg #[.int .i64 y.id, .string y.nm, .int .i64 y.dr, .bool y.pas], .int .i64 (bif hasN l id then 0 else 4)]) ∧ Below w.heap.size w w') := by
  have hcap := h.cap
  have hlen := hide h.len
  have HT := hide ht
  obtain ⟨W0, hW0⟩ : ∃ W0, W0 = w.alloc (.cells #[.int .i64 0, .string ⟨#[]⟩, .int .i64 0, .bool false] 68) := ⟨_, rfl⟩
  have F0 : At W0 w.heap.size 68 #[.int .i64 0, .string ⟨#[]⟩, .int .i64 0, .bool false] := by rw [hW0]; exact At.fresh _ _ _
  have BA := hide (show Below w.heap.size w W0 by rw [hW0]; exact (Below.refl _ _).alloc (Nat.le_refl _) _)
  have H0 := hide (h.below BA.out)
  have HF := hide F0
  have HW := hide hW0
  clear hW0 F0 h ht
  go_enter Tryz.func114, Tryz.ntmps114
  go_wp2_with fail
  rw [← HW.out]
  go_at_call 134
  (with_reducible refine (sIsNodeTable_any _ _ _ _ _ H0.out hq).mono ?_)
  rintro ee w1 ⟨rfl, b1⟩
  rw [HT.out]
  have B1 := hide (below_trans BA.out b1)
  have H1 := hide (H0.out.below b1)
  have F1 := hide (HF.out.keep b1)
  have m0 := F1.out.cell 0
  have m1 := F1.out.cell 1
  have m2 := F1.out.cell 2
  have m3 := F1.out.cell 3
  simp at m0 m1 m2 m3
  have l0 := F1.out.frozen 0
  have l1 := F1.out.frozen 1
  have l2 := F1.out.frozen 2
  have l3 := F1.out.frozen 3
  clear b1
  go_wp2_with fail
  go_loopw [6] (fun i wr => ∃ k : Nat, k ≤ n ∧ i = .int .i64 k ∧ Hid (∀ j y, j < k → l[j]? = some y → (y.id == id) = false) ∧ wr = w1) (fun i _ => n - (intOf i).toNat)
  case atStart => exact ⟨0, by omega, rfl, hide (fun j y hj => by omega), rfl⟩
  case round =>
    obtain ⟨k, hk, rfl, hno, rfl⟩ := hrel
    by_cases hlt : k < n
    · obtain ⟨b, off, x, rfl, hb, hx, c0, c1, c2, c3⟩ := nod_at H1.out hlt
      have HX := hide hx
      clear hx
      cases e1 : (x.id == id)
      · have NN := hide (fun j y (hj : j < k + 1) (hy : l[j]? = some y) => show (y.id == id) = false from by
          rcases Nat.lt_succ_iff_lt_or_eq.1 hj with h1 | h1
          · exact hno.out j y h1 hy
          · subst h1
            rw [HX.out] at hy
            obtain rfl := Option.some.inj hy
            exact e1)
        go_wp2
        go_roundw
        case rel => exact ⟨k + 1, by omega, by go_num, NN, trivial⟩
        case measure => simp [intOf]; omega
      · have E := hide (show (bif hasN l id then (0 : Int) else 4) = 0 by rw [show hasN l id = true from List.any_eq_true.2 ⟨x, List.mem_of_getElem? HX.out, e1⟩]; rfl)
        go_wp2_with fail
        have fin : At ((((wr.setCell ⟨w.heap.size, 0, none⟩ (.int .i64 x.id)).setCell ⟨w.heap.size, 1, none⟩ (.string x.nm)).setCell ⟨w.heap.size, 2, none⟩ (.int .i64 x.dr)).setCell ⟨w.heap.size, 3, none⟩ (.bool x.pas)) w.heap.size 68 #[.int .i64 x.id, .string x.nm, .int .i64 x.dr, .bool x.pas] := by
          have q := ((((F1.out.set 0 (.int .i64 x.id)).set 1 (.string x.nm)).set 2 (.int .i64 x.dr)).set 3 (.bool x.pas))
          simpa using q
        have BX : Below w.heap.size w ((((wr.setCell ⟨w.heap.size, 0, none⟩ (.int .i64 x.id)).setCell ⟨w.heap.size, 1, none⟩ (.string x.nm)).setCell ⟨w.heap.size, 2, none⟩ (.int .i64 x.dr)).setCell ⟨w.heap.size, 3, none⟩ (.bool x.pas)) := (Below.setCell (Below.setCell (Below.setCell (Below.setCell B1.out (Nat.le_refl _) _) (Nat.le_refl _) _) (Nat.le_refl _) _) (Nat.le_refl _) _)
        have hres := fun (tmps : Array Value) (hp : tmps.getD 4 undef = .pointer (some ⟨w.heap.size, 0, none⟩)) (hx : tmps.getD 5 undef = .int .i64 0) => results_Ni (tmps := tmps) Tryz.results114 hp hx fin
        exact bodyPost_ret (hres _ rfl rfl) rfl ⟨x, by rw [E.out], BX⟩
    · obtain rfl : k = n := by omega
      have E := hide (show (bif hasN l id then (0 : Int) else 4) = 4 by
        rw [show hasN l id = false by
          rw [hasN, List.any_eq_false]
          intro y hy
          obtain ⟨j, hj, rfl⟩ := List.getElem_of_mem hy
          rw [hno.out j _ (by rw [← hlen.out]; exact hj) (List.getElem?_eq_getElem hj)]
          simp]
        rfl)
      go_wp2_with fail
      have fin : At ((((wr.setCell ⟨w.heap.size, 0, none⟩ (.int .i64 0)).setCell ⟨w.heap.size, 1, none⟩ (.string ⟨#[]⟩)).setCell ⟨w.heap.size, 2, none⟩ (.int .i64 0)).setCell ⟨w.heap.size, 3, none⟩ (.bool false)) w.heap.size 68 #[.int .i64 0, .string ⟨#[]⟩, .int .i64 0, .bool false] := by
        have q := ((((F1.out.set 0 (.int .i64 0)).set 1 (.string ⟨#[]⟩)).set 2 (.int .i64 0)).set 3 (.bool false))
        simpa using q
      have BX : Below w.heap.size w ((((wr.setCell ⟨w.heap.size, 0, none⟩ (.int .i64 0)).setCell ⟨w.heap.size, 1, none⟩ (.string ⟨#[]⟩)).setCell ⟨w.heap.size, 2, none⟩ (.int .i64 0)).setCell ⟨w.heap.size, 3, none⟩ (.bool false)) := (Below.setCell (Below.setCell (Below.setCell (Below.setCell B1.out (Nat.le_refl _) _) (Nat.le_refl _) _) (Nat.le_refl _) _) (Nat.le_refl _) _)
      have hres := fun (tmps : Array Value) (hp : tmps.getD 4 undef = .pointer (some ⟨w.heap.size, 0, none⟩)) (hx : tmps.getD 5 undef = .int .i64 4) => results_Ni (tmps := tmps) Tryz.results114 hp hx fin
      exact bodyPost_ret (hres _ rfl rfl) rfl ⟨⟨0, ⟨#[]⟩, 0, false⟩, by rw [E.out], BX⟩
end Go.Proofs.YtdkhldebnpmiiaaGreatDoor
