/- Contracts of draws: the small schedule; the members of a vector. -/
import Derived.Test.YtdkhldebnpmiiaaGreatDoorZDrM2
namespace Go.Proofs.YtdkhldebnpmiiaaGreatDoor
open Go.RowKit
set_option linter.unusedVariables false
set_option linter.unusedSimpArgs false
/-- a drawn schedule, by value: its slots are the call's own -/
def MdO (w : World) (B : Nat) (v : Value) (m : Mdl) : Prop := ∃ (A1 : Option Addr) (n1 c1 : Nat) (A2 : Option Addr) (n2 c2 : Nat) (A3 : Option Addr) (n3 c3 : Nat), v = .agg #[.int .i64 m.id, .slice A1 n1 c1, .slice A2 n2 c2, .slice A3 n3 c3] ∧
  OwnR 68 Nod.v 4 w B A1 n1 c1 m.ns ∧ OwnMs w B A2 n2 c2 m.ms ∧ OwnR 61 Slt.v 8 w B A3 n3 c3 m.ss ∧ 1 ≤ n3 ∧ n3 ≤ 1000 ∧ NsOk m.ns
theorem lit_own (w : World) {B : Nat} {v : Int} (hB : B ≤ w.heap.size) (h1 : -9223372036854775808 ≤ v) (h2 : v ≤ 9223372036854775807) : Own (w.alloc (.cells #[.int .i64 v] 2)) B (some ⟨w.heap.size, 0, none⟩) 1 1 [v] := Own.lit w hB #[.int .i64 v] [v] rfl (I64.one h1 h2) 1 rfl (by omega)
set_option maxHeartbeats 1600000 in
theorem small_own (w : World) (D : Obj) : ∃ v : Mdl, v.id = 77 ∧ OwnR 68 Nod.v 4 ((((((w.alloc D).alloc (.cells #[.int .i64 0, .string ⟨#[97]⟩, .int .i64 100, .bool false, .int .i64 1, .string ⟨#[98]⟩, .int .i64 50, .bool false] 68)).alloc (.cells #[.int .i64 1] 2)).alloc (.cells #[.int .i64 0] 2)).alloc (.cells #[.int .i64 2, .int .i64 2, .slice (some ⟨w.heap.size + 1 + 1, 0, none⟩) 1 1, .int .i64 1, .int .i64 2, .slice (some ⟨w.heap.size + 1 + 1 + 1, 0, none⟩) 1 1] 107)).alloc (.cells #[.int .i64 0, .int .i64 0, .int .i64 0, .int .i64 0, .int .i64 3, .int .i64 0, .int .i64 200, .bool false, .int .i64 0, .int .i64 0, .int .i64 1, .int .i64 1, .int .i64 1, .int .i64 0, .int .i64 200, .bool false, .int .i64 0, .int .i64 1, .int .i64 0, .int .i64 0, .int .i64 0, .int .i64 4, .int .i64 200, .bool true, .int .i64 0, .int .i64 1, .int .i64 1, .int .i64 1, .int .i64 0, .int .i64 2, .int .i64 200, .bool false, .int .i64 1, .int .i64 0, .int .i64 0, .int .i64 1, .int .i64 2, .int .i64 3, .int .i64 300, .bool true, .int .i64 1, .int .i64 0, .int .i64 1, .int .i64 0, .int .i64 0, .int .i64 0, .int .i64 150, .bool false] 61)) w.heap.size (some ⟨w.heap.size + 1, 0, none⟩) 2 2 v.ns ∧
    OwnMs ((((((w.alloc D).alloc (.cells #[.int .i64 0, .string ⟨#[97]⟩, .int .i64 100, .bool false, .int .i64 1, .string ⟨#[98]⟩, .int .i64 50, .bool false] 68)).alloc (.cells #[.int .i64 1] 2)).alloc (.cells #[.int .i64 0] 2)).alloc (.cells #[.int .i64 2, .int .i64 2, .slice (some ⟨w.heap.size + 1 + 1, 0, none⟩) 1 1, .int .i64 1, .int .i64 2, .slice (some ⟨w.heap.size + 1 + 1 + 1, 0, none⟩) 1 1] 107)).alloc (.cells #[.int .i64 0, .int .i64 0, .int .i64 0, .int .i64 0, .int .i64 3, .int .i64 0, .int .i64 200, .bool false, .int .i64 0, .int .i64 0, .int .i64 1, .int .i64 1, .int .i64 1, .int .i64 0, .int .i64 200, .bool false, .int .i64 0, .int .i64 1, .int .i64 0, .int .i64 0, .int .i64 0, .int .i64 4, .int .i64 200, .bool true, .int .i64 0, .int .i64 1, .int .i64 1, .int .i64 1, .int .i64 0, .int .i64 2, .int .i64 200, .bool false, .int .i64 1, .int .i64 0, .int .i64 0, .int .i64 1, .int .i64 2, .int .i64 3, .int .i64 300, .bool true, .int .i64 1, .int .i64 0, .int .i64 1, .int .i64 0, .int .i64 0, .int .i64 0, .int .i64 150, .bool false] 61)) w.heap.size (some ⟨w.heap.size + 1 + 1 + 1 + 1, 0, none⟩) 2 2 v.ms ∧ OwnR 61 Slt.v 8 ((((((w.alloc D).alloc (.cells #[.int .i64 0, .string ⟨#[97]⟩, .int .i64 100, .bool false, .int .i64 1, .string ⟨#[98]⟩, .int .i64 50, .bool false] 68)).alloc (.cells #[.int .i64 1] 2)).alloc (.cells #[.int .i64 0] 2)).alloc (.cells #[.int .i64 2, .int .i64 2, .slice (some ⟨w.heap.size + 1 + 1, 0, none⟩) 1 1, .int .i64 1, .int .i64 2, .slice (some ⟨w.heap.size + 1 + 1 + 1, 0, none⟩) 1 1] 107)).alloc (.cells #[.int .i64 0, .int .i64 0, .int .i64 0, .int .i64 0, .int .i64 3, .int .i64 0, .int .i64 200, .bool false, .int .i64 0, .int .i64 0, .int .i64 1, .int .i64 1, .int .i64 1, .int .i64 0, .int .i64 200, .bool false, .int .i64 0, .int .i64 1, .int .i64 0, .int .i64 0, .int .i64 0, .int .i64 4, .int .i64 200, .bool true, .int .i64 0, .int .i64 1, .int .i64 1, .int .i64 1, .int .i64 0, .int .i64 2, .int .i64 200, .bool false, .int .i64 1, .int .i64 0, .int .i64 0, .int .i64 1, .int .i64 2, .int .i64 3, .int .i64 300, .bool true, .int .i64 1, .int .i64 0, .int .i64 1, .int .i64 0, .int .i64 0, .int .i64 0, .int .i64 150, .bool false] 61)) w.heap.size (some ⟨w.heap.size + 1 + 1 + 1 + 1 + 1, 0, none⟩) 6 6 v.ss ∧ NsOk v.ns := by
  have hN := OwnR.lit (T := 68) (f := Nod.v) (k := 4) (B := w.heap.size) (n := 2) (w.alloc D) (by simp) Nod.k #[.int .i64 0, .string ⟨#[97]⟩, .int .i64 100, .bool false, .int .i64 1, .string ⟨#[98]⟩, .int .i64 50, .bool false] [⟨0, ⟨#[97]⟩, 100, false⟩, ⟨1, ⟨#[98]⟩, 50, false⟩] rfl rfl (by omega)
  rw [show (w.alloc D).heap.size = w.heap.size + 1 by simp] at hN
  obtain ⟨W2, hW2⟩ : ∃ W2, W2 = (w.alloc D).alloc (.cells #[.int .i64 0, .string ⟨#[97]⟩, .int .i64 100, .bool false, .int .i64 1, .string ⟨#[98]⟩, .int .i64 50, .bool false] 68) := ⟨_, rfl⟩
  have e2 : W2.heap.size = w.heap.size + 1 + 1 := by rw [hW2]; simp
  rw [← hW2] at hN ⊢
  have hI1 := lit_own W2 (B := w.heap.size) (v := 1) (by omega) (by omega) (by omega)
  rw [e2] at hI1
  obtain ⟨W3, hW3⟩ : ∃ W3, W3 = W2.alloc (.cells #[.int .i64 1] 2) := ⟨_, rfl⟩
  have e3 : W3.heap.size = w.heap.size + 1 + 1 + 1 := by rw [hW3]; simp [e2]
  have hN := hN.alloc (.cells #[.int .i64 1] 2)
  rw [← hW3] at hN hI1 ⊢
  have hI0 := lit_own W3 (B := w.heap.size) (v := 0) (by omega) (by omega) (by omega)
  rw [e3] at hI0
  obtain ⟨W4, hW4⟩ : ∃ W4, W4 = W3.alloc (.cells #[.int .i64 0] 2) := ⟨_, rfl⟩
  have e4 : W4.heap.size = w.heap.size + 1 + 1 + 1 + 1 := by rw [hW4]; simp [e3]
  have hN := hN.alloc (.cells #[.int .i64 0] 2)
  have hI1 := hI1.alloc (.cells #[.int .i64 0] 2)
  rw [← hW4] at hN hI1 hI0 ⊢
  have hM := OwnR.lit (T := 107) (f := Mod.v) (k := 3) (B := w.heap.size) (n := 2) W4 (by omega) Mod.k #[.int .i64 2, .int .i64 2, .slice (some ⟨w.heap.size + 1 + 1, 0, none⟩) 1 1, .int .i64 1, .int .i64 2, .slice (some ⟨w.heap.size + 1 + 1 + 1, 0, none⟩) 1 1] [⟨2, 2, some ⟨w.heap.size + 1 + 1, 0, none⟩, 1, 1, [1]⟩, ⟨1, 2, some ⟨w.heap.size + 1 + 1 + 1, 0, none⟩, 1, 1, [0]⟩] rfl rfl (by omega)
  rw [e4] at hM
  obtain ⟨W5, hW5⟩ : ∃ W5, W5 = W4.alloc (.cells #[.int .i64 2, .int .i64 2, .slice (some ⟨w.heap.size + 1 + 1, 0, none⟩) 1 1, .int .i64 1, .int .i64 2, .slice (some ⟨w.heap.size + 1 + 1 + 1, 0, none⟩) 1 1] 107) := ⟨_, rfl⟩
  have e5 : W5.heap.size = w.heap.size + 1 + 1 + 1 + 1 + 1 := by rw [hW5]; simp [e4]
  have hN := hN.alloc (.cells #[.int .i64 2, .int .i64 2, .slice (some ⟨w.heap.size + 1 + 1, 0, none⟩) 1 1, .int .i64 1, .int .i64 2, .slice (some ⟨w.heap.size + 1 + 1 + 1, 0, none⟩) 1 1] 107)
  have hI1 := hI1.alloc (.cells #[.int .i64 2, .int .i64 2, .slice (some ⟨w.heap.size + 1 + 1, 0, none⟩) 1 1, .int .i64 1, .int .i64 2, .slice (some ⟨w.heap.size + 1 + 1 + 1, 0, none⟩) 1 1] 107)
  have hI0 := hI0.alloc (.cells #[.int .i64 2, .int .i64 2, .slice (some ⟨w.heap.size + 1 + 1, 0, none⟩) 1 1, .int .i64 1, .int .i64 2, .slice (some ⟨w.heap.size + 1 + 1 + 1, 0, none⟩) 1 1] 107)
  rw [← hW5] at hN hI1 hI0 hM ⊢
  have hS := OwnR.lit (T := 61) (f := Slt.v) (k := 8) (B := w.heap.size) (n := 6) W5 (by omega) Slt.k #[.int .i64 0, .int .i64 0, .int .i64 0, .int .i64 0, .int .i64 3, .int .i64 0, .int .i64 200, .bool false, .int .i64 0, .int .i64 0, .int .i64 1, .int .i64 1, .int .i64 1, .int .i64 0, .int .i64 200, .bool false, .int .i64 0, .int .i64 1, .int .i64 0, .int .i64 0, .int .i64 0, .int .i64 4, .int .i64 200, .bool true, .int .i64 0, .int .i64 1, .int .i64 1, .int .i64 1, .int .i64 0, .int .i64 2, .int .i64 200, .bool false, .int .i64 1, .int .i64 0, .int .i64 0, .int .i64 1, .int .i64 2, .int .i64 3, .int .i64 300, .bool true, .int .i64 1, .int .i64 0, .int .i64 1, .int .i64 0, .int .i64 0, .int .i64 0, .int .i64 150, .bool false] [⟨0, 0, 0, 0, 3, 0, 200, false⟩, ⟨0, 0, 1, 1, 1, 0, 200, false⟩, ⟨0, 1, 0, 0, 0, 4, 200, true⟩, ⟨0, 1, 1, 1, 0, 2, 200, false⟩, ⟨1, 0, 0, 1, 2, 3, 300, true⟩, ⟨1, 0, 1, 0, 0, 0, 150, false⟩] rfl rfl (by omega)
  rw [e5] at hS
  refine ⟨⟨77, _, _, _⟩, rfl, hN.alloc _, ⟨_, hM.alloc _, ?_, rfl⟩, hS, ⟨?_, ?_⟩⟩
  · intro x hx
    simp at hx
    rcases hx with rfl | rfl
    · exact hI1.alloc _
    · exact hI0.alloc _
  · intro x hx
    simp at hx
    rcases hx with rfl | rfl <;> decide
  · intro x hx
    simp at hx
    rcases hx with rfl | rfl <;> decide
def GotSm (w : World) (e : Ending) (w' : World) : Prop := ∃ v m, e = .returned v ∧ MdO w' w.heap.size v m ∧ Below w.heap.size w w'
set_option maxHeartbeats 3200000 in
theorem SmallMedl_d (w : World) : Calls Tryz.prog 127 #[] w (GotSm w) := by
  go_enter Tryz.func127, Tryz.ntmps127
  have HO := hide (small_own w)
  have HB := hide (fun (a b c d e f : Obj) => ((((((Below.refl w.heap.size w).alloc (Nat.le_refl _) a).alloc (by simp) b).alloc (by simp <;> omega) c).alloc (by simp <;> omega) d).alloc (by simp <;> omega) e).alloc (by simp <;> omega) f)
  have HF := hide (fun (cs : Array Value) (b c d e f : Obj) => (((((At.fresh w 28 cs).alloc b).alloc c).alloc d).alloc e).alloc f)
  go_wp2
  refine bodyPost_ret (results_M Tryz.results127 rfl (HF.out _ _ _ _ _ _)) rfl ?_
  obtain ⟨v, hv, h1, h2, h3, h4⟩ := HO.out (.cells #[.int .i64 77, .slice (some ⟨w.heap.size + 1, 0, none⟩) 2 2, .slice (some ⟨w.heap.size + 1 + 1 + 1 + 1, 0, none⟩) 2 2, .slice (some ⟨w.heap.size + 1 + 1 + 1 + 1 + 1, 0, none⟩) 6 6] 28)
  exact ⟨_, v, rfl, ⟨_, 2, 2, _, 2, 2, _, 6, 6, by rw [hv], h1, h2, h3, by omega, by omega, h4⟩, HB.out _ _ _ _ _ _⟩
set_option maxHeartbeats 1600000 in
theorem l05Vector_yes (A : Option Addr) (n c : Nat) (zs : List Int) (w : World) (h : Rd w A n c zs) (hz : ∀ z ∈ zs, 0 ≤ z ∧ z ≤ 4294967295) :
    Calls Tryz.prog 152 #[.slice A n c] w (fun e w' => e = .returned (.bool true) ∧ w = w') := by
  have hcap := h.cap
  have hlen := hide h.len
  have HZ := hide hz
  go_enter Tryz.func152, Tryz.ntmps152
  go_wp2
  go_loop [3] (fun i => ∃ k : Nat, k ≤ n ∧ i = .int .i64 k) (fun i => n - (intOf i).toNat)
  case atStart => exact ⟨0, by omega, rfl⟩
  case round =>
    obtain ⟨k, hk, rfl⟩ := hrel
    by_cases hlt : k < n
    · obtain ⟨b, off, rfl, hb, hc⟩ := h.at_ (by omega)
      have ck := hc k hlt
      have hb2 := HZ.out (nth zs k) (nth_mem (by rw [hlen.out]; exact hlt))
      have hy := inB_yes hb2.1 hb2.2
      clear hc hz
      go_wp2_with (go_at_call 122; refine (l01In_any _ _ _ _).mono ?_; rintro e w' ⟨rfl, rfl⟩)
      go_round
      case rel => exact ⟨k + 1, by omega, by go_num⟩
      case measure => simp [intOf]; omega
    · obtain rfl : k = n := by omega
      go_wp2
      go_ret
      exact ⟨rfl, rfl⟩
set_option maxHeartbeats 3200000 in
theorem MembersOf_d (v : Nat) (w : World) (hv : v < 4294967296) :
    Calls Tryz.prog 129 #[.int .i64 v] w (fun e w' => ∃ (A' : Option Addr) (m c' : Nat) (zs : List Int), e = .returned (.tuple #[.slice A' m c', .int .i64 0]) ∧ Own w' w.heap.size A' m c' zs ∧ m ≤ 32 ∧ ((∃ i, i < 32 ∧ v.testBit i = true) → 1 ≤ m) ∧ Below w.heap.size w w') := by
  have HL := hide (lit_rd w (v := (v : Int)) (by omega) (by omega))
  obtain ⟨W1, hW1⟩ : ∃ W1, W1 = w.alloc (.cells #[.int .i64 v] 2) := ⟨_, rfl⟩
  rw [← hW1] at HL
  have B1 := hide (show Below w.heap.size w W1 by rw [hW1]; exact (Below.refl _ _).alloc (Nat.le_refl _) _)
  have HW1 := hide hW1
  have O1 := hide (Own.empty W1 (B := w.heap.size) B1.out.size)
  have BE := hide (show Below w.heap.size w (W1.alloc (.cells #[] 2)) from B1.out.alloc B1.out.size _)
  clear hW1
  go_enter Tryz.func129, Tryz.ntmps129
  go_wp2_with fail
  rw [← HW1.out]
  go_at_call 152
  refine (l05Vector_yes _ _ _ _ _ HL.out (by intro z hz; simp at hz; omega)).mono ?_
  rintro e wz ⟨rfl, rfl⟩
  go_wp2_with fail
  go_loopw [4, 5] (fun s i wr => ∃ (k p : Nat) (A' : Option Addr) (c' : Nat) (zs : List Int), s = .slice A' p c' ∧ i = .int .i64 k ∧ k ≤ 32 ∧ p ≤ k ∧ Hid ((∃ j, j < k ∧ v.testBit j = true) → 1 ≤ p) ∧ Hid (Own wr w.heap.size A' p c' zs) ∧ Hid (Below w.heap.size w wr)) (fun _ i _ => 32 - (intOf i).toNat)
  case atStart => exact ⟨0, 0, _, _, [], rfl, rfl, by omega, by omega, hide (fun ⟨j, hj, _⟩ => by omega), O1, BE⟩
  case round =>
    obtain ⟨k, p, A', c', zs, rfl, rfl, hk, hp, hin, hown, hbel⟩ := hrel
    by_cases hlt : k < 32
    · have hsz := hbel.out.size
      cases ht : v.testBit k
      · have HT := hide ht
        have NN := hide (show (∃ j, j < k + 1 ∧ v.testBit j = true) → 1 ≤ p from fun ⟨j, hj, hb⟩ => by
          rcases Nat.lt_succ_iff_lt_or_eq.1 hj with q | q
          · exact hin.out ⟨j, q, hb⟩
          · subst q; rw [HT.out] at hb; cases hb)
        clear ht
        go_wp2_with (go_at_call 88; refine (l05Has_any v k hv hlt _).mono ?_; rintro e wz ⟨rfl, rfl⟩; rw [HT.out])
        go_roundw
        case rel => exact ⟨k + 1, p, A', c', zs, rfl, by go_num, by omega, by omega, NN, hown, hbel⟩
        case measure => simp [intOf]; omega
      · have HT := hide ht
        clear ht
        go_wp2_with (first | (go_at_call 88; refine (l05Has_any v k hv hlt _).mono ?_; rintro e wz ⟨rfl, rfl⟩; rw [HT.out]) | (at_builtin; refine append_new rfl _ _ rfl w.heap.size rfl hown.out _ [(k : Int)] 1 rfl (I64.one (by omega) (by omega)) rfl rfl (by omega) hsz ?_; intro A2 c2 w2 own2 gr2))
        have hb2 := hide (below_mark hbel.out hown.out (Nat.le_refl _) gr2)
        go_roundw
        case rel => exact ⟨k + 1, p + 1, A2, c2, _, rfl, by go_num, by omega, by omega, hide (fun _ => by omega), hide own2, hb2⟩
        case measure => simp [intOf]; omega
    · obtain rfl : k = 32 := by omega
      go_wp2
      go_ret2
      exact ⟨A', p, c', zs, rfl, hown.out, by omega, hin.out, hbel.out⟩
end Go.Proofs.YtdkhldebnpmiiaaGreatDoor
