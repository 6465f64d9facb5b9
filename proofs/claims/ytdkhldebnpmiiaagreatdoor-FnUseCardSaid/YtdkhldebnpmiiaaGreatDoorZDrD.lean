/- Contracts of draws: a descriptor. -/
import Derived.Test.YtdkhldebnpmiiaaGreatDoorZDrA
import Derived.Test.YtdkhldebnpmiiaaGreatDoorZDesc
namespace Go.Proofs.YtdkhldebnpmiiaaGreatDoor
open Go.RowKit
set_option linter.unusedVariables false
set_option linter.unusedSimpArgs false
def GotD (w : World) (g : Nat) (A : Option Addr) (n c : Nat) (bs : List Int) (e : Ending) (w' : World) : Prop :=
  ∃ (nd kd sz du : Int) (ch : Bool), e = .returned (.agg #[.int .i64 nd, .int .i64 kd, .int .i64 sz, .int .i64 du, .bool ch]) ∧ Sd w' g A n c bs ∧ w.grownBy w' (some g) ∧ (0 ≤ nd ∧ nd ≤ 3) ∧ (0 ≤ kd ∧ kd ≤ 3) ∧ (0 ≤ sz ∧ sz ≤ 5) ∧ 0 ≤ du ∧ du ≤ 2000
set_option maxHeartbeats 6400000 in
theorem l08Draw_d (g : Nat) (A : Option Addr) (n c : Nat) (bs : List Int) (w : World) (h : Sd w g A n c bs) :
    Calls Tryz.prog 130 #[.pointer (some ⟨g, 0, none⟩)] w (GotD w g A n c bs) := by
  have D := hide (Dw.refl h)
  obtain ⟨W0, hW0⟩ : ∃ W0, W0 = w.alloc (.cells #[.int .i64 0, .int .i64 0, .int .i64 0, .int .i64 0, .bool false] 59) := ⟨_, rfl⟩
  obtain ⟨d0, hd0'⟩ : ∃ d0, d0 = w.heap.size := ⟨_, rfl⟩
  have hd0 : w.heap.size ≤ d0 := by omega
  have A0 := hide (show At W0 d0 59 _ by rw [hW0, hd0']; exact At.fresh _ _ _)
  have D0 := hide (show Dw w g A n c bs W0 by rw [hW0]; exact D.out.alloc _)
  have HW0 := hide hW0
  have HD0 := hide hd0'
  clear hW0 hd0' h
  go_enter Tryz.func130, Tryz.ntmps130
  go_wp2_with fail
  rw [← HW0.out, ← HD0.out]
  refine (next_d _ _ _ _ _ _ _ D0.out.s).mono ?_
  rintro e w1 ⟨x1, rfl, u0, u1, h1, g1⟩
  have v1 := u1 (by omega)
  have D1 := hide (D0.out.step h1 g1)
  have A1 := hide (A0.out.next D0.out.s (by decide) g1)
  clear u1 h1 g1
  go_wp2_with fail
  refine (next_d _ _ _ _ _ _ _ D1.out.s).mono ?_
  rintro e w2 ⟨kd, rfl, k0, u1, h1, g1⟩
  have k1 := u1 (by omega)
  have D2 := hide (D1.out.step h1 g1)
  have A2 := hide (A1.out.next D1.out.s (by decide) g1)
  clear u1 h1 g1
  go_wp2_with fail
  refine (next_d _ _ _ _ _ _ _ D2.out.s).mono ?_
  rintro e w3 ⟨x3, rfl, u0', u1, h1, g1⟩
  have D3 := hide (D2.out.step h1 g1)
  have A3 := hide (A2.out.next D2.out.s (by decide) g1)
  clear u1 h1 g1
  obtain ⟨W3, hW3⟩ : ∃ W3, W3 = w3.alloc (.cells #[.int .i64 x1, .int .i64 kd, .int .i64 0, .int .i64 0, .bool (x3 == 0)] 59) := ⟨_, rfl⟩
  obtain ⟨d1, hd1'⟩ : ∃ d1, d1 = w3.heap.size := ⟨_, rfl⟩
  have hd1 : w.heap.size ≤ d1 := by rw [hd1']; exact D3.out.sz
  have hd01 : d0 ≠ d1 := by have := A3.out.lt; omega
  have A4 := hide (show At W3 d0 59 _ by rw [hW3]; exact A3.out.alloc _)
  have E4 := hide (show At W3 d1 59 _ by rw [hW3, hd1']; exact At.fresh _ _ _)
  have D4 := hide (show Dw w g A n c bs W3 by rw [hW3]; exact D3.out.alloc _)
  have HW3 := hide hW3
  have HD1 := hide hd1'
  clear hW3 hd1'
  cases hda : (kd == 0 || kd == 2)
  · have HDA := hide hda
    clear hda
    cases hco : (kd == 3)
    · have HCO := hide hco
      go_wp2_with fail
      rw [← HW3.out, ← HD1.out]
      go_at_call 124
      refine (sdata_any _ _).mono ?_
      rintro e wz ⟨rfl, rfl⟩
      rw [HDA.out]
      have m1 := E4.out.cell 1
      simp at m1
      have a0 := A4.out
      have a1 := E4.out
      have HD := hide (D4.out)
      have f1 := a1.cell 1
      have f2 := a1.cell 2
      simp at f1 f2
      have HA0 := hide a0
      have HA1 := hide a1
      clear a0 a1
      go_wp2_with fail
      go_at_call 74
      refine (scells_any _ _ _ (by omega)).mono ?_
      rintro e wz ⟨rfl, rfl⟩
      have hcl := cellI_le (kd := kd) (sz := 0) (by omega)
      obtain ⟨C, hC⟩ : ∃ C, C = cellI (kd) (0) := ⟨_, rfl⟩
      rw [← hC] at hcl
      rw [← hC]
      obtain ⟨C0, C1⟩ := hcl
      clear hC f1 f2
      go_wp2_with fail
      refine (next_d _ _ _ _ _ _ _ HD.out.s).mono ?_
      rintro e w7 ⟨z, rfl, z0, z1, h7, g7⟩
      have z2 := z1 (by omega)
      have HD7 := hide (HD.out.step h7 g7)
      have b1 := HA1.out.next HD.out.s (by decide) g7
      have HB0 := hide (HA0.out.next HD.out.s (by decide) g7)
      have HB1 := hide b1
      have f0 := b1.cell 0
      have q0 := b1.frozen 0
      have f1 := b1.cell 1
      have q1 := b1.frozen 1
      have f2 := b1.cell 2
      have q2 := b1.frozen 2
      have f3 := b1.cell 3
      have q3 := b1.frozen 3
      have f4 := b1.cell 4
      have q4 := b1.frozen 4
      simp at f0 f1 f2 f3 f4
      have r0 := HB0.out.frozen 0
      have s0 := HB0.out.cell 0
      have r1 := HB0.out.frozen 1
      have s1 := HB0.out.cell 1
      have r2 := HB0.out.frozen 2
      have s2 := HB0.out.cell 2
      have r3 := HB0.out.frozen 3
      have s3 := HB0.out.cell 3
      have r4 := HB0.out.frozen 4
      have s4 := HB0.out.cell 4
      simp at s0 s1 s2 s3 s4
      clear b1 h7 g7 z1
      go_wp2
      have hne : d0 ≠ d1 := hd01
      have fin := (((((HB0.out.other hne 3 (.int .i64 (C + 20 + z))).set 0 (.int .i64 x1)).set 1 (.int .i64 kd)).set 2 (.int .i64 0)).set 3 (.int .i64 (C + 20 + z))).set 4 (.bool (x3 == 0))
      have hres := fun (tmps : Array Value) (hp : tmps.getD 2 undef = .pointer (some ⟨d0, 0, none⟩)) => results_D (tmps := tmps) Tryz.results130 hp fin
      refine bodyPost_ret (hres _ rfl) rfl ?_
      exact ⟨_, _, _, _, _, rfl, (((((HD7.out.set hd1 _ _).set hd0 _ _).set hd0 _ _).set hd0 _ _).set hd0 _ _ |>.set hd0 _ _).s, (((((HD7.out.set hd1 _ _).set hd0 _ _).set hd0 _ _).set hd0 _ _).set hd0 _ _ |>.set hd0 _ _).gr, by omega, by omega, by omega, by omega⟩
    · obtain rfl : kd = 3 := by simpa using hco
      clear hco
      have m1 := E4.out.cell 1
      have m2 := E4.out.cell 2
      have m4 := E4.out.cell 4
      simp at m1 m2 m4
      have m5 := E4.out.frozen 4
      go_wp2_with fail
      rw [← HW3.out, ← HD1.out]
      go_at_call 124
      refine (sdata_any _ _).mono ?_
      rintro e wz ⟨rfl, rfl⟩
      try rw [HDA.out]
      have a0 := A4.out.other hd01 4 (.bool false)
      have a1 := E4.out.set 4 (.bool false)
      have HD := hide (D4.out.set hd1 4 (.bool false))
      have f1 := a1.cell 1
      have f2 := a1.cell 2
      simp at f1 f2
      have HA0 := hide a0
      have HA1 := hide a1
      clear a0 a1
      go_wp2_with fail
      go_at_call 74
      refine (scells_any _ _ _ (by omega)).mono ?_
      rintro e wz ⟨rfl, rfl⟩
      have hcl := cellI_le (kd := 3) (sz := 0) (by omega)
      obtain ⟨C, hC⟩ : ∃ C, C = cellI (3) (0) := ⟨_, rfl⟩
      rw [← hC] at hcl
      rw [← hC]
      obtain ⟨C0, C1⟩ := hcl
      clear hC f1 f2
      go_wp2_with fail
      refine (next_d _ _ _ _ _ _ _ HD.out.s).mono ?_
      rintro e w7 ⟨z, rfl, z0, z1, h7, g7⟩
      have z2 := z1 (by omega)
      have HD7 := hide (HD.out.step h7 g7)
      have b1 := HA1.out.next HD.out.s (by decide) g7
      have HB0 := hide (HA0.out.next HD.out.s (by decide) g7)
      have HB1 := hide b1
      have f0 := b1.cell 0
      have q0 := b1.frozen 0
      have f1 := b1.cell 1
      have q1 := b1.frozen 1
      have f2 := b1.cell 2
      have q2 := b1.frozen 2
      have f3 := b1.cell 3
      have q3 := b1.frozen 3
      have f4 := b1.cell 4
      have q4 := b1.frozen 4
      simp at f0 f1 f2 f3 f4
      have r0 := HB0.out.frozen 0
      have s0 := HB0.out.cell 0
      have r1 := HB0.out.frozen 1
      have s1 := HB0.out.cell 1
      have r2 := HB0.out.frozen 2
      have s2 := HB0.out.cell 2
      have r3 := HB0.out.frozen 3
      have s3 := HB0.out.cell 3
      have r4 := HB0.out.frozen 4
      have s4 := HB0.out.cell 4
      simp at s0 s1 s2 s3 s4
      clear b1 h7 g7 z1
      go_wp2
      have hne : d0 ≠ d1 := hd01
      have fin := (((((HB0.out.other hne 3 (.int .i64 (C + 20 + z))).set 0 (.int .i64 x1)).set 1 (.int .i64 3)).set 2 (.int .i64 0)).set 3 (.int .i64 (C + 20 + z))).set 4 (.bool false)
      have hres := fun (tmps : Array Value) (hp : tmps.getD 2 undef = .pointer (some ⟨d0, 0, none⟩)) => results_D (tmps := tmps) Tryz.results130 hp fin
      refine bodyPost_ret (hres _ rfl) rfl ?_
      exact ⟨_, _, _, _, _, rfl, (((((HD7.out.set hd1 _ _).set hd0 _ _).set hd0 _ _).set hd0 _ _).set hd0 _ _ |>.set hd0 _ _).s, (((((HD7.out.set hd1 _ _).set hd0 _ _).set hd0 _ _).set hd0 _ _).set hd0 _ _ |>.set hd0 _ _).gr, by omega, by omega, by omega, by omega⟩
  · have HDA := hide hda
    have hkd : kd = 0 ∨ kd = 2 := by simpa using hda
    have t3 : (kd == 3) = false := by rcases hkd with q | q <;> rw [q] <;> rfl
    clear hda hkd
    have m1 := E4.out.cell 1
    simp at m1
    go_wp2_with fail
    rw [← HW3.out, ← HD1.out]
    go_at_call 124
    refine (sdata_any _ _).mono ?_
    rintro e wz ⟨rfl, rfl⟩
    rw [HDA.out]
    go_wp2_with fail
    refine (next_d _ _ _ _ _ _ _ D4.out.s).mono ?_
    rintro e w5 ⟨y, rfl, y0, y1, h1, g1⟩
    have y2 := y1 (by omega)
    have D5 := hide (D4.out.step h1 g1)
    have A5 := hide (A4.out.next D4.out.s (by decide) g1)
    have E5 := hide (E4.out.next D4.out.s (by decide) g1)
    clear h1 g1 y1 m1
    have m1 := E5.out.cell 1
    have m2 := E5.out.cell 2
    simp at m1 m2
    have m5 := E5.out.frozen 2
    have a0 := A5.out.other hd01 2 (.int .i64 (1 + y))
    have a1 := E5.out.set 2 (.int .i64 (1 + y))
    have HD := hide (D5.out.set hd1 2 (.int .i64 (1 + y)))
    have f1 := a1.cell 1
    have f2 := a1.cell 2
    simp at f1 f2
    have HA0 := hide a0
    have HA1 := hide a1
    clear a0 a1
    go_wp2_with fail
    go_at_call 74
    refine (scells_any _ _ _ (by omega)).mono ?_
    rintro e wz ⟨rfl, rfl⟩
    have hcl := cellI_le (kd := kd) (sz := (1 + y)) (by omega)
    obtain ⟨C, hC⟩ : ∃ C, C = cellI (kd) ((1 + y)) := ⟨_, rfl⟩
    rw [← hC] at hcl
    rw [← hC]
    obtain ⟨C0, C1⟩ := hcl
    clear hC f1 f2
    go_wp2_with fail
    refine (next_d _ _ _ _ _ _ _ HD.out.s).mono ?_
    rintro e w7 ⟨z, rfl, z0, z1, h7, g7⟩
    have z2 := z1 (by omega)
    have HD7 := hide (HD.out.step h7 g7)
    have b1 := HA1.out.next HD.out.s (by decide) g7
    have HB0 := hide (HA0.out.next HD.out.s (by decide) g7)
    have HB1 := hide b1
    have f0 := b1.cell 0
    have q0 := b1.frozen 0
    have f1 := b1.cell 1
    have q1 := b1.frozen 1
    have f2 := b1.cell 2
    have q2 := b1.frozen 2
    have f3 := b1.cell 3
    have q3 := b1.frozen 3
    have f4 := b1.cell 4
    have q4 := b1.frozen 4
    simp at f0 f1 f2 f3 f4
    have r0 := HB0.out.frozen 0
    have s0 := HB0.out.cell 0
    have r1 := HB0.out.frozen 1
    have s1 := HB0.out.cell 1
    have r2 := HB0.out.frozen 2
    have s2 := HB0.out.cell 2
    have r3 := HB0.out.frozen 3
    have s3 := HB0.out.cell 3
    have r4 := HB0.out.frozen 4
    have s4 := HB0.out.cell 4
    simp at s0 s1 s2 s3 s4
    clear b1 h7 g7 z1
    go_wp2
    have hne : d0 ≠ d1 := hd01
    have fin := (((((HB0.out.other hne 3 (.int .i64 (C + 20 + z))).set 0 (.int .i64 x1)).set 1 (.int .i64 kd)).set 2 (.int .i64 (1 + y))).set 3 (.int .i64 (C + 20 + z))).set 4 (.bool (x3 == 0))
    have hres := fun (tmps : Array Value) (hp : tmps.getD 2 undef = .pointer (some ⟨d0, 0, none⟩)) => results_D (tmps := tmps) Tryz.results130 hp fin
    refine bodyPost_ret (hres _ rfl) rfl ?_
    exact ⟨_, _, _, _, _, rfl, (((((HD7.out.set hd1 _ _).set hd0 _ _).set hd0 _ _).set hd0 _ _).set hd0 _ _ |>.set hd0 _ _).s, (((((HD7.out.set hd1 _ _).set hd0 _ _).set hd0 _ _).set hd0 _ _).set hd0 _ _ |>.set hd0 _ _).gr, by omega, by omega, by omega, by omega⟩
def GotDa (w : World) (g : Nat) (A : Option Addr) (n c : Nat) (bs : List Int) (e : Ending) (w' : World) : Prop :=
  ∃ (nd kd sz du : Int) (ch : Bool), e = .returned (.agg #[.int .i64 nd, .int .i64 kd, .int .i64 sz, .int .i64 du, .bool ch]) ∧ Sd w' g A n c bs ∧ w.grownBy w' (some g)
set_option maxHeartbeats 6400000 in
theorem l08DrawAny_d (g : Nat) (A : Option Addr) (n c : Nat) (bs : List Int) (w : World) (h : Sd w g A n c bs) :
    Calls Tryz.prog 112 #[.pointer (some ⟨g, 0, none⟩)] w (GotDa w g A n c bs) := by
  have D := hide (Dw.refl h)
  obtain ⟨W0, hW0⟩ : ∃ W0, W0 = w.alloc (.cells #[.int .i64 0, .int .i64 0, .int .i64 0, .int .i64 0, .bool false] 59) := ⟨_, rfl⟩
  obtain ⟨d0, hd0'⟩ : ∃ d0, d0 = w.heap.size := ⟨_, rfl⟩
  have hd0 : w.heap.size ≤ d0 := by omega
  have A0 := hide (show At W0 d0 59 _ by rw [hW0, hd0']; exact At.fresh _ _ _)
  have D0 := hide (show Dw w g A n c bs W0 by rw [hW0]; exact D.out.alloc _)
  have HW0 := hide hW0
  have HD0 := hide hd0'
  clear hW0 hd0' h
  go_enter Tryz.func112, Tryz.ntmps112
  go_wp2_with fail
  rw [← HW0.out, ← HD0.out]
  go_at_call 130
  refine (l08Draw_d _ _ _ _ _ _ D0.out.s).mono ?_
  rintro e w1 ⟨nd, kd, sz, du, ch, rfl, h1, g1, n0, k0, s0', u0, u1⟩
  have D1 := hide (D0.out.step h1 g1)
  have A1 := hide (A0.out.next D0.out.s (by decide) g1)
  clear h1 g1
  obtain ⟨W2, hW2⟩ : ∃ W2, W2 = w1.alloc (.cells #[.int .i64 nd, .int .i64 kd, .int .i64 sz, .int .i64 du, .bool ch] 59) := ⟨_, rfl⟩
  obtain ⟨d1, hd1'⟩ : ∃ d1, d1 = w1.heap.size := ⟨_, rfl⟩
  have hd1 : w.heap.size ≤ d1 := by rw [hd1']; exact D1.out.sz
  have hd01 : d0 ≠ d1 := by have := A1.out.lt; omega
  have A2 := hide (show At W2 d0 59 _ by rw [hW2]; exact A1.out.alloc _)
  have E2 := hide (show At W2 d1 59 _ by rw [hW2, hd1']; exact At.fresh _ _ _)
  have D2 := hide (show Dw w g A n c bs W2 by rw [hW2]; exact D1.out.alloc _)
  have HW2 := hide hW2
  have HD1 := hide hd1'
  clear hW2 hd1'
  go_wp2_with fail
  rw [← HW2.out, ← HD1.out]
  refine (next_d _ _ _ _ _ _ _ D2.out.s).mono ?_
  rintro e w3 ⟨z, rfl, z0, z1, h1, g1⟩
  have D3 := hide (D2.out.step h1 g1)
  have A3 := hide (A2.out.next D2.out.s (by decide) g1)
  have E3 := hide (E2.out.next D2.out.s (by decide) g1)
  clear h1 g1 z1
  by_cases e0 : z = 0
  · subst e0
    go_wp2_with fail
    obtain ⟨W4, hW4⟩ : ∃ W4, W4 = w3.alloc (.cells #[.int .i64 (-1), .int .i64 31, .int .i64 32] 2) := ⟨_, rfl⟩
    have HL4 := hide (show At W4 w3.heap.size 2 #[.int .i64 (-1), .int .i64 31, .int .i64 32] by rw [hW4]; exact At.fresh _ _ _)
    have D4 := hide (show Dw w g A n c bs W4 by rw [hW4]; exact D3.out.alloc _)
    have A4 := hide (show At W4 d0 59 _ by rw [hW4]; exact A3.out.alloc _)
    have E4 := hide (show At W4 d1 59 _ by rw [hW4]; exact E3.out.alloc _)
    rw [← hW4]
    clear hW4
    refine (next_d _ _ _ _ _ _ _ D4.out.s).mono ?_
    rintro e w5 ⟨y, rfl, y0, y1, h1, g1⟩
    obtain ⟨y, rfl⟩ := Int.eq_ofNat_of_zero_le y0
    have ym : y < 3 := by have := y1 (by omega); omega
    have D5 := hide (D4.out.step h1 g1)
    have A5 := hide (A4.out.next D4.out.s (by decide) g1)
    have E5 := hide (E4.out.next D4.out.s (by decide) g1)
    have HL5 := hide (HL4.out.next D4.out.s (by decide) g1)
    clear y1 h1 g1
    obtain ⟨v, hv⟩ : ∃ v : Int, (#[.int .i64 (-1), .int .i64 31, .int .i64 32] : Array Value)[y]? = some (.int .i64 v) := by
      have hy : y = 0 ∨ y = 1 ∨ y = 2 := by omega
      clear y0
      rcases hy with rfl | rfl | rfl
      · exact ⟨_, rfl⟩
      · exact ⟨_, rfl⟩
      · exact ⟨_, rfl⟩
    have hcell : w5.cell? ⟨w3.heap.size, y, none⟩ = some (.int .i64 v) := (HL5.out.cell y).trans hv
    clear hv
    have a1 := E5.out
    have a0 := A5.out
    have f0 := a1.cell 0
    have q0 := a1.frozen 0
    have s0 := a0.cell 0
    have r0 := a0.frozen 0
    have f1 := a1.cell 1
    have q1 := a1.frozen 1
    have s1 := a0.cell 1
    have r1 := a0.frozen 1
    have f2 := a1.cell 2
    have q2 := a1.frozen 2
    have s2 := a0.cell 2
    have r2 := a0.frozen 2
    have f3 := a1.cell 3
    have q3 := a1.frozen 3
    have s3 := a0.cell 3
    have r3 := a0.frozen 3
    have f4 := a1.cell 4
    have q4 := a1.frozen 4
    have s4 := a0.cell 4
    have r4 := a0.frozen 4
    simp at f0 f1 f2 f3 f4 s0 s1 s2 s3 s4
    have HA0 := hide a0
    have HDZ := hide (D5.out)
    clear a0 a1
    go_wp2
    have fin := ((((((HA0.out.other hd01 0 (.int .i64 v)).set 0 (.int .i64 v)).set 1 (.int .i64 kd)).set 2 (.int .i64 sz)).set 3 (.int .i64 du)).set 4 (.bool ch))
    have hres := fun (tmps : Array Value) (hp : tmps.getD 2 undef = .pointer (some ⟨d0, 0, none⟩)) => results_D (tmps := tmps) Tryz.results112 hp fin
    refine bodyPost_ret (hres _ rfl) rfl ?_
    have HF := ((((((HDZ.out.set hd1 0 (.int .i64 v))).set hd0 0 (.int .i64 v)).set hd0 1 (.int .i64 kd)).set hd0 2 (.int .i64 sz)).set hd0 3 (.int .i64 du)).set hd0 4 (.bool ch)
    exact ⟨_, _, _, _, _, rfl, HF.s, HF.gr⟩
  by_cases e1 : z = 1
  · subst e1
    go_wp2_with fail
    refine (next_d _ _ _ _ _ _ _ D3.out.s).mono ?_
    rintro e w5 ⟨y, rfl, y0, y1, h1, g1⟩
    have y2 := y1 (by omega)
    have D5 := hide (D3.out.step h1 g1)
    have A5 := hide (A3.out.next D3.out.s (by decide) g1)
    have E5 := hide (E3.out.next D3.out.s (by decide) g1)
    clear y1 h1 g1
    have a1 := E5.out
    have a0 := A5.out
    have f0 := a1.cell 0
    have q0 := a1.frozen 0
    have s0 := a0.cell 0
    have r0 := a0.frozen 0
    have f1 := a1.cell 1
    have q1 := a1.frozen 1
    have s1 := a0.cell 1
    have r1 := a0.frozen 1
    have f2 := a1.cell 2
    have q2 := a1.frozen 2
    have s2 := a0.cell 2
    have r2 := a0.frozen 2
    have f3 := a1.cell 3
    have q3 := a1.frozen 3
    have s3 := a0.cell 3
    have r3 := a0.frozen 3
    have f4 := a1.cell 4
    have q4 := a1.frozen 4
    have s4 := a0.cell 4
    have r4 := a0.frozen 4
    simp at f0 f1 f2 f3 f4 s0 s1 s2 s3 s4
    have HA0 := hide a0
    have HDZ := hide (D5.out)
    clear a0 a1
    go_wp2
    have fin := ((((((HA0.out.other hd01 1 (.int .i64 (y - 1))).set 0 (.int .i64 nd)).set 1 (.int .i64 (y - 1))).set 2 (.int .i64 sz)).set 3 (.int .i64 du)).set 4 (.bool ch))
    have hres := fun (tmps : Array Value) (hp : tmps.getD 2 undef = .pointer (some ⟨d0, 0, none⟩)) => results_D (tmps := tmps) Tryz.results112 hp fin
    refine bodyPost_ret (hres _ rfl) rfl ?_
    have HF := ((((((HDZ.out.set hd1 1 (.int .i64 (y - 1)))).set hd0 0 (.int .i64 nd)).set hd0 1 (.int .i64 (y - 1))).set hd0 2 (.int .i64 sz)).set hd0 3 (.int .i64 du)).set hd0 4 (.bool ch)
    exact ⟨_, _, _, _, _, rfl, HF.s, HF.gr⟩
  by_cases e2 : z = 2
  · subst e2
    go_wp2_with fail
    obtain ⟨W4, hW4⟩ : ∃ W4, W4 = w3.alloc (.cells #[.int .i64 (-1), .int .i64 0, .int .i64 32, .int .i64 33] 2) := ⟨_, rfl⟩
    have HL4 := hide (show At W4 w3.heap.size 2 #[.int .i64 (-1), .int .i64 0, .int .i64 32, .int .i64 33] by rw [hW4]; exact At.fresh _ _ _)
    have D4 := hide (show Dw w g A n c bs W4 by rw [hW4]; exact D3.out.alloc _)
    have A4 := hide (show At W4 d0 59 _ by rw [hW4]; exact A3.out.alloc _)
    have E4 := hide (show At W4 d1 59 _ by rw [hW4]; exact E3.out.alloc _)
    rw [← hW4]
    clear hW4
    refine (next_d _ _ _ _ _ _ _ D4.out.s).mono ?_
    rintro e w5 ⟨y, rfl, y0, y1, h1, g1⟩
    obtain ⟨y, rfl⟩ := Int.eq_ofNat_of_zero_le y0
    have ym : y < 4 := by have := y1 (by omega); omega
    have D5 := hide (D4.out.step h1 g1)
    have A5 := hide (A4.out.next D4.out.s (by decide) g1)
    have E5 := hide (E4.out.next D4.out.s (by decide) g1)
    have HL5 := hide (HL4.out.next D4.out.s (by decide) g1)
    clear y1 h1 g1
    obtain ⟨v, hv⟩ : ∃ v : Int, (#[.int .i64 (-1), .int .i64 0, .int .i64 32, .int .i64 33] : Array Value)[y]? = some (.int .i64 v) := by
      have hy : y = 0 ∨ y = 1 ∨ y = 2 ∨ y = 3 := by omega
      clear y0
      rcases hy with rfl | rfl | rfl | rfl
      · exact ⟨_, rfl⟩
      · exact ⟨_, rfl⟩
      · exact ⟨_, rfl⟩
      · exact ⟨_, rfl⟩
    have hcell : w5.cell? ⟨w3.heap.size, y, none⟩ = some (.int .i64 v) := (HL5.out.cell y).trans hv
    clear hv
    have a1 := E5.out
    have a0 := A5.out
    have f0 := a1.cell 0
    have q0 := a1.frozen 0
    have s0 := a0.cell 0
    have r0 := a0.frozen 0
    have f1 := a1.cell 1
    have q1 := a1.frozen 1
    have s1 := a0.cell 1
    have r1 := a0.frozen 1
    have f2 := a1.cell 2
    have q2 := a1.frozen 2
    have s2 := a0.cell 2
    have r2 := a0.frozen 2
    have f3 := a1.cell 3
    have q3 := a1.frozen 3
    have s3 := a0.cell 3
    have r3 := a0.frozen 3
    have f4 := a1.cell 4
    have q4 := a1.frozen 4
    have s4 := a0.cell 4
    have r4 := a0.frozen 4
    simp at f0 f1 f2 f3 f4 s0 s1 s2 s3 s4
    have HA0 := hide a0
    have HDZ := hide (D5.out)
    clear a0 a1
    go_wp2
    have fin := ((((((HA0.out.other hd01 2 (.int .i64 v)).set 0 (.int .i64 nd)).set 1 (.int .i64 kd)).set 2 (.int .i64 v)).set 3 (.int .i64 du)).set 4 (.bool ch))
    have hres := fun (tmps : Array Value) (hp : tmps.getD 2 undef = .pointer (some ⟨d0, 0, none⟩)) => results_D (tmps := tmps) Tryz.results112 hp fin
    refine bodyPost_ret (hres _ rfl) rfl ?_
    have HF := ((((((HDZ.out.set hd1 2 (.int .i64 v))).set hd0 0 (.int .i64 nd)).set hd0 1 (.int .i64 kd)).set hd0 2 (.int .i64 v)).set hd0 3 (.int .i64 du)).set hd0 4 (.bool ch)
    exact ⟨_, _, _, _, _, rfl, HF.s, HF.gr⟩
  by_cases e3 : z = 3
  · subst e3
    have f1 := E3.out.cell 1
    have f2 := E3.out.cell 2
    simp at f1 f2
    go_wp2_with fail
    go_at_call 74
    refine (scells_any _ _ _ (by omega)).mono ?_
    rintro e wz ⟨rfl, rfl⟩
    have hcl := cellI_le (kd := kd) (sz := sz) (by omega)
    obtain ⟨C, hC⟩ : ∃ C, C = cellI kd sz := ⟨_, rfl⟩
    rw [← hC] at hcl
    rw [← hC]
    obtain ⟨C0, C1⟩ := hcl
    clear hC f1 f2
    go_wp2_with fail
    obtain ⟨W4, hW4⟩ : ∃ W4, W4 = w3.alloc (.cells #[.int .i64 0, .int .i64 (C + 20 - 1), .int .i64 1000, .int .i64 1001] 2) := ⟨_, rfl⟩
    have HL4 := hide (show At W4 w3.heap.size 2 #[.int .i64 0, .int .i64 (C + 20 - 1), .int .i64 1000, .int .i64 1001] by rw [hW4]; exact At.fresh _ _ _)
    have D4 := hide (show Dw w g A n c bs W4 by rw [hW4]; exact D3.out.alloc _)
    have A4 := hide (show At W4 d0 59 _ by rw [hW4]; exact A3.out.alloc _)
    have E4 := hide (show At W4 d1 59 _ by rw [hW4]; exact E3.out.alloc _)
    rw [← hW4]
    clear hW4
    refine (next_d _ _ _ _ _ _ _ D4.out.s).mono ?_
    rintro e w5 ⟨y, rfl, y0, y1, h1, g1⟩
    obtain ⟨y, rfl⟩ := Int.eq_ofNat_of_zero_le y0
    have ym : y < 4 := by have := y1 (by omega); omega
    have D5 := hide (D4.out.step h1 g1)
    have A5 := hide (A4.out.next D4.out.s (by decide) g1)
    have E5 := hide (E4.out.next D4.out.s (by decide) g1)
    have HL5 := hide (HL4.out.next D4.out.s (by decide) g1)
    clear y1 h1 g1
    obtain ⟨v, hv⟩ : ∃ v : Int, (#[.int .i64 0, .int .i64 (C + 20 - 1), .int .i64 1000, .int .i64 1001] : Array Value)[y]? = some (.int .i64 v) := by
      have hy : y = 0 ∨ y = 1 ∨ y = 2 ∨ y = 3 := by omega
      clear y0
      rcases hy with rfl | rfl | rfl | rfl
      · exact ⟨_, rfl⟩
      · exact ⟨_, rfl⟩
      · exact ⟨_, rfl⟩
      · exact ⟨_, rfl⟩
    have hcell : w5.cell? ⟨w3.heap.size, y, none⟩ = some (.int .i64 v) := (HL5.out.cell y).trans hv
    clear hv
    have a1 := E5.out
    have a0 := A5.out
    have f0 := a1.cell 0
    have q0 := a1.frozen 0
    have s0 := a0.cell 0
    have r0 := a0.frozen 0
    have f1 := a1.cell 1
    have q1 := a1.frozen 1
    have s1 := a0.cell 1
    have r1 := a0.frozen 1
    have f2 := a1.cell 2
    have q2 := a1.frozen 2
    have s2 := a0.cell 2
    have r2 := a0.frozen 2
    have f3 := a1.cell 3
    have q3 := a1.frozen 3
    have s3 := a0.cell 3
    have r3 := a0.frozen 3
    have f4 := a1.cell 4
    have q4 := a1.frozen 4
    have s4 := a0.cell 4
    have r4 := a0.frozen 4
    simp at f0 f1 f2 f3 f4 s0 s1 s2 s3 s4
    have HA0 := hide a0
    have HDZ := hide (D5.out)
    clear a0 a1
    go_wp2
    have fin := ((((((HA0.out.other hd01 3 (.int .i64 v)).set 0 (.int .i64 nd)).set 1 (.int .i64 kd)).set 2 (.int .i64 sz)).set 3 (.int .i64 v)).set 4 (.bool ch))
    have hres := fun (tmps : Array Value) (hp : tmps.getD 2 undef = .pointer (some ⟨d0, 0, none⟩)) => results_D (tmps := tmps) Tryz.results112 hp fin
    refine bodyPost_ret (hres _ rfl) rfl ?_
    have HF := ((((((HDZ.out.set hd1 3 (.int .i64 v))).set hd0 0 (.int .i64 nd)).set hd0 1 (.int .i64 kd)).set hd0 2 (.int .i64 sz)).set hd0 3 (.int .i64 v)).set hd0 4 (.bool ch)
    exact ⟨_, _, _, _, _, rfl, HF.s, HF.gr⟩
  by_cases e4 : z = 4
  · subst e4
    have a1 := E3.out
    have a0 := A3.out
    have f0 := a1.cell 0
    have q0 := a1.frozen 0
    have s0 := a0.cell 0
    have r0 := a0.frozen 0
    have f1 := a1.cell 1
    have q1 := a1.frozen 1
    have s1 := a0.cell 1
    have r1 := a0.frozen 1
    have f2 := a1.cell 2
    have q2 := a1.frozen 2
    have s2 := a0.cell 2
    have r2 := a0.frozen 2
    have f3 := a1.cell 3
    have q3 := a1.frozen 3
    have s3 := a0.cell 3
    have r3 := a0.frozen 3
    have f4 := a1.cell 4
    have q4 := a1.frozen 4
    have s4 := a0.cell 4
    have r4 := a0.frozen 4
    simp at f0 f1 f2 f3 f4 s0 s1 s2 s3 s4
    have HA0 := hide a0
    have HDZ := hide (D3.out)
    clear a0 a1
    go_wp2
    have fin := ((((((HA0.out.other hd01 4 (.bool (!ch))).set 0 (.int .i64 nd)).set 1 (.int .i64 kd)).set 2 (.int .i64 sz)).set 3 (.int .i64 du)).set 4 (.bool (!ch)))
    have hres := fun (tmps : Array Value) (hp : tmps.getD 2 undef = .pointer (some ⟨d0, 0, none⟩)) => results_D (tmps := tmps) Tryz.results112 hp fin
    refine bodyPost_ret (hres _ rfl) rfl ?_
    have HF := ((((((HDZ.out.set hd1 4 (.bool (!ch)))).set hd0 0 (.int .i64 nd)).set hd0 1 (.int .i64 kd)).set hd0 2 (.int .i64 sz)).set hd0 3 (.int .i64 du)).set hd0 4 (.bool (!ch))
    exact ⟨_, _, _, _, _, rfl, HF.s, HF.gr⟩
  have a1 := E3.out
  have a0 := A3.out
  have f0 := a1.cell 0
  have q0 := a1.frozen 0
  have s0 := a0.cell 0
  have r0 := a0.frozen 0
  have f1 := a1.cell 1
  have q1 := a1.frozen 1
  have s1 := a0.cell 1
  have r1 := a0.frozen 1
  have f2 := a1.cell 2
  have q2 := a1.frozen 2
  have s2 := a0.cell 2
  have r2 := a0.frozen 2
  have f3 := a1.cell 3
  have q3 := a1.frozen 3
  have s3 := a0.cell 3
  have r3 := a0.frozen 3
  have f4 := a1.cell 4
  have q4 := a1.frozen 4
  have s4 := a0.cell 4
  have r4 := a0.frozen 4
  simp at f0 f1 f2 f3 f4 s0 s1 s2 s3 s4
  have HA0 := hide a0
  have HDZ := hide (D3.out)
  clear a0 a1
  go_wp2
  have fin := (((((HA0.out).set 0 (.int .i64 nd)).set 1 (.int .i64 kd)).set 2 (.int .i64 sz)).set 3 (.int .i64 du)).set 4 (.bool ch)
  have hres := fun (tmps : Array Value) (hp : tmps.getD 2 undef = .pointer (some ⟨d0, 0, none⟩)) => results_D (tmps := tmps) Tryz.results112 hp fin
  refine bodyPost_ret (hres _ rfl) rfl ?_
  have HF := (((((HDZ.out).set hd0 0 (.int .i64 nd)).set hd0 1 (.int .i64 kd)).set hd0 2 (.int .i64 sz)).set hd0 3 (.int .i64 du)).set hd0 4 (.bool ch)
  exact ⟨_, _, _, _, _, rfl, HF.s, HF.gr⟩
end Go.Proofs.YtdkhldebnpmiiaaGreatDoor
