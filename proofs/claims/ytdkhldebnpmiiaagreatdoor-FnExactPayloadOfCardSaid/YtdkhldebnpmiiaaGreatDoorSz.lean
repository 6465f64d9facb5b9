/- The laws' own look at the size of an argument. -/
import Derived.Test.YtdkhldebnpmiiaaGreatDoorMedl
namespace Go.Proofs.YtdkhldebnpmiiaaGreatDoor
open Go.RowKit
set_option linter.unusedVariables false
set_option linter.unusedSimpArgs false

/-- the ending of a look at a size: -1, or what is left -/
def SzOut (left : Int) (P : Int → Prop) (w : World) (e : Ending) (w' : World) : Prop := ∃ r : Int, e = .returned (.int .i64 r) ∧ (r = -1 ∨ (0 ≤ r ∧ r ≤ left ∧ P r)) ∧ Below w.heap.size w w'
theorem szInt64S_any (A : Option Addr) (n c : Nat) (left : Int) (w : World) (h0 : 0 ≤ left) (h1 : left ≤ 1048576) (hn : n ≤ 9223372036854775807) :
    Calls Tryz.prog 116 #[.slice A n c, .int .i64 left] w (SzOut left (fun r => r + n ≤ left) w) := by
  by_cases hlt : left - n < 0
  · have t : decide (left - (n : Int) < 0) = true := decide_eq_true hlt
    go_enter Tryz.func116, Tryz.ntmps116
    go_wp2
    go_ret
    exact ⟨-1, rfl, .inl rfl, Below.refl _ _⟩
  · have t : decide (left - (n : Int) < 0) = false := decide_eq_false hlt
    go_enter Tryz.func116, Tryz.ntmps116
    go_wp2
    go_ret
    exact ⟨_, rfl, .inr ⟨by omega, by omega, by omega⟩, Below.refl _ _⟩
theorem szNodeInfo_any (x : Nod) (left : Int) (w : World) (h0 : 0 ≤ left) (h1 : left ≤ 1048576) (hn : x.nm.size ≤ 9223372036854775807) :
    Calls Tryz.prog 91 #[.agg #[.int .i64 x.id, .string x.nm, .int .i64 x.dr, .bool x.pas], .int .i64 left] w (SzOut left (fun r => True) w) := by
  have hB := (Below.refl w.heap.size w).alloc (Nat.le_refl _) (.cells #[.int .i64 x.id, .string x.nm, .int .i64 x.dr, .bool x.pas] 102)
  have HB := hide hB
  by_cases hlt : left - x.nm.size < 0
  · have t : decide (left - (x.nm.size : Int) < 0) = true := decide_eq_true hlt
    go_enter Tryz.func91, Tryz.ntmps91
    go_wp2
    go_ret
    exact ⟨-1, rfl, .inl rfl, HB.out⟩
  · have t : decide (left - (x.nm.size : Int) < 0) = false := decide_eq_false hlt
    go_enter Tryz.func91, Tryz.ntmps91
    go_wp2
    go_ret
    exact ⟨_, rfl, .inr ⟨by omega, by omega, trivial⟩, HB.out⟩
theorem szModeInfo_any (x : Mod) (left : Int) (w : World) (h0 : 0 ≤ left) (h1 : left ≤ 1048576) (hn : x.n ≤ 9223372036854775807) :
    Calls Tryz.prog 92 #[.agg #[.int .i64 x.rd, .int .i64 x.sl, .slice x.A x.n x.c], .int .i64 left] w (SzOut left (fun r => r + x.n ≤ left) w) := by
  have hB := (Below.refl w.heap.size w).alloc (Nat.le_refl _) (.cells #[.int .i64 x.rd, .int .i64 x.sl, .slice x.A x.n x.c] 105)
  have HB := hide hB
  go_enter Tryz.func92, Tryz.ntmps92
  go_wp2_with fail
  refine (szInt64S_any _ _ _ _ _ h0 h1 hn).mono ?_
  rintro e w1 ⟨r, rfl, hr, b1⟩
  have B := hide (HB.out.trans (b1.mono (by simp)))
  clear b1 hB
  rcases hr with rfl | ⟨r0, r1, r2⟩
  · go_wp2
    go_ret
    exact ⟨-1, rfl, .inl rfl, B.out⟩
  · have t : decide (r < 0) = false := decide_eq_false (by omega)
    go_wp2
    go_ret
    exact ⟨r, rfl, .inr ⟨r0, r1, r2⟩, B.out⟩
theorem szSlotInfoS_any (A : Option Addr) (n c : Nat) (left : Int) (w : World) (h0 : 0 ≤ left) (h1 : left ≤ 1048576) (hn : n ≤ 9223372036854775807) :
    Calls Tryz.prog 59 #[.slice A n c, .int .i64 left] w (SzOut left (fun r => r + n ≤ left) w) := by
  by_cases hlt : left - n < 0
  · have t : decide (left - (n : Int) < 0) = true := decide_eq_true hlt
    go_enter Tryz.func59, Tryz.ntmps59
    go_wp2
    go_ret
    exact ⟨-1, rfl, .inl rfl, Below.refl _ _⟩
  · have t : decide (left - (n : Int) < 0) = false := decide_eq_false hlt
    go_enter Tryz.func59, Tryz.ntmps59
    go_wp2
    go_ret
    exact ⟨_, rfl, .inr ⟨by omega, by omega, by omega⟩, Below.refl _ _⟩
theorem szNodeInfoS_any (A : Option Addr) (n c : Nat) (l : List Nod) (left : Int) (w : World) (h : RdR Nod.v 4 w A n c l) (hq : ∀ x ∈ l, x.nm.size ≤ 9223372036854775807) (h0 : 0 ≤ left) (h1 : left ≤ 1048576) :
    Calls Tryz.prog 57 #[.slice A n c, .int .i64 left] w (SzOut left (fun r => r + n ≤ left) w) := by
  have hcap := h.cap
  by_cases hlt : left - n < 0
  · have t : decide (left - (n : Int) < 0) = true := decide_eq_true hlt
    go_enter Tryz.func57, Tryz.ntmps57
    go_wp2
    go_ret
    exact ⟨-1, rfl, .inl rfl, Below.refl _ _⟩
  · have t : decide (left - (n : Int) < 0) = false := decide_eq_false hlt
    go_enter Tryz.func57, Tryz.ntmps57
    go_wp2
    go_loopw [1, 5] (fun s i wr => ∃ (k : Nat) (r : Int), k ≤ n ∧ i = .int .i64 k ∧ s = .int .i64 r ∧ 0 ≤ r ∧ r + n ≤ left ∧ Below w.heap.size w wr) (fun _ i _ => n - (intOf i).toNat)
    case atStart => exact ⟨0, _, by omega, rfl, rfl, by omega, by omega, Below.refl _ _⟩
    case round =>
      obtain ⟨k, r, hk, rfl, rfl, r0, r1, hbel⟩ := hrel
      by_cases hkn : k < n
      · obtain ⟨b, off, x, rfl, hb, hx, c0, c1, c2, c3⟩ := nod_at (h.below hbel) hkn
        have HB := hide hbel
        have hs := hq x (List.mem_of_getElem? hx)
        clear hbel hx
        go_wp2_with fail
        refine (szNodeInfo_any x r wr r0 (by omega) hs).mono ?_
        rintro e w1 ⟨q, rfl, hr, b1⟩
        have B := hide (below_trans HB.out b1)
        clear b1 HB
        rcases hr with rfl | ⟨q0, q1, _⟩
        · go_wp2
          go_ret
          exact ⟨-1, rfl, .inl rfl, B.out⟩
        · have t : decide (q < 0) = false := decide_eq_false (by omega)
          go_wp2
          go_roundw
          case rel => exact ⟨k + 1, q, by omega, by go_num, rfl, q0, by omega, B.out⟩
          case measure => simp [intOf]; omega
      · obtain rfl : k = n := by omega
        go_wp2
        go_ret
        exact ⟨r, rfl, .inr ⟨r0, by omega, r1⟩, hbel⟩
theorem szModeInfoS_any (A : Option Addr) (n c : Nat) (ms : List PMod) (left : Int) (w : World) (h : RdMs w A n c ms) (h0 : 0 ≤ left) (h1 : left ≤ 1048576) :
    Calls Tryz.prog 58 #[.slice A n c, .int .i64 left] w (SzOut left (fun r => r + n ≤ left ∧ ∀ x ∈ ms, (x.nx.length : Int) ≤ left) w) := by
  have hcap := h.cap
  have hlen := hide h.len
  by_cases hlt : left - n < 0
  · have t : decide (left - (n : Int) < 0) = true := decide_eq_true hlt
    go_enter Tryz.func58, Tryz.ntmps58
    go_wp2
    go_ret
    exact ⟨-1, rfl, .inl rfl, Below.refl _ _⟩
  · have t : decide (left - (n : Int) < 0) = false := decide_eq_false hlt
    go_enter Tryz.func58, Tryz.ntmps58
    go_wp2
    go_loopw [1, 5] (fun s i wr => ∃ (k : Nat) (r : Int), k ≤ n ∧ i = .int .i64 k ∧ s = .int .i64 r ∧ 0 ≤ r ∧ r + n ≤ left ∧ Hid (∀ x ∈ ms.take k, (x.nx.length : Int) ≤ left) ∧ Below w.heap.size w wr) (fun _ i _ => n - (intOf i).toNat)
    case atStart => exact ⟨0, _, by omega, rfl, rfl, by omega, by omega, hide (by simp), Below.refl _ _⟩
    case round =>
      obtain ⟨k, r, hk, rfl, rfl, r0, r1, hall, hbel⟩ := hrel
      by_cases hkn : k < n
      · obtain ⟨b, off, x, rfl, hb, hx, rx, c0, c1, c2⟩ := mod_at (h.below hbel) hkn
        have HB := hide hbel
        have hxn := rx.cap
        have hxl := hide rx.len
        have HX := hide hx
        clear hbel hx rx
        go_wp2_with fail
        refine (szModeInfo_any x r wr r0 (by omega) (by omega)).mono ?_
        rintro e w1 ⟨q, rfl, hr, b1⟩
        have B := hide (below_trans HB.out b1)
        clear b1 HB
        rcases hr with rfl | ⟨q0, q1, q2⟩
        · go_wp2
          go_ret
          exact ⟨-1, rfl, .inl rfl, B.out⟩
        · have t : decide (q < 0) = false := decide_eq_false (by omega)
          have hall2 := hide (show ∀ y ∈ ms.take (k + 1), (y.nx.length : Int) ≤ left from fun y hy => by
            rw [take_one HX.out] at hy
            rcases List.mem_append.1 hy with h2 | h2
            · exact hall.out y h2
            · simp at h2
              subst h2
              show ((x.nx.length : Nat) : Int) ≤ left
              rw [hxl.out]
              omega)
          go_wp2
          go_roundw
          case rel => exact ⟨k + 1, q, by omega, by go_num, rfl, q0, by omega, hall2, B.out⟩
          case measure => simp [intOf]; omega
      · obtain rfl : k = n := by omega
        go_wp2
        go_ret
        exact ⟨r, rfl, .inr ⟨r0, by omega, r1, by have := hall.out; rwa [List.take_of_length_le (by have := hlen.out; omega)] at this⟩, hbel⟩
theorem szMedl_any (v : Value) (m : Mdl) (w : World) (h : RdM w v m) (hq : Nms m) :
    Calls Tryz.prog 18 #[v, .int .i64 1048576] w fun e w' => ∃ r : Int, e = .returned (.int .i64 r) ∧ (r < 0 ∨ (0 ≤ r ∧ SmlM m)) ∧ Below w.heap.size w w' := by
  obtain ⟨A1, n1, c1, A2, n2, c2, A3, n3, c3, rfl, h1, h2, h3⟩ := h
  have hl1 := hide h1.len
  have hl2 := hide h2.len
  have hl3 := hide h3.len
  have hc3 := h3.cap
  have HB := hide ((Below.refl w.heap.size w).alloc (Nat.le_refl _) (.cells #[.int .i64 m.id, .slice A1 n1 c1, .slice A2 n2 c2, .slice A3 n3 c3] 38))
  have H1 := hide h1
  have H2 := hide h2
  clear h1 h2 h3
  go_enter Tryz.func18, Tryz.ntmps18
  go_wp2_with fail
  refine (szNodeInfoS_any _ _ _ _ _ _ (H1.out.below HB.out) hq (by decide) (by decide)).mono ?_
  rintro e w1 ⟨r, rfl, hr, b1⟩
  have B := hide (HB.out.trans (b1.mono (by simp)))
  have hcell : ∀ j, w1.cell? ⟨w.heap.size, j, none⟩ = (w.alloc (.cells #[.int .i64 m.id, .slice A1 n1 c1, .slice A2 n2 c2, .slice A3 n3 c3] 38)).cell? ⟨w.heap.size, j, none⟩ := fun j => b1.cell (by simp)
  have e2 := hcell 2
  have e3 := hcell 3
  simp at e2 e3
  clear b1 hcell HB
  rcases hr with rfl | ⟨r0, r1, r2⟩
  · go_wp2
    go_ret
    exact ⟨-1, rfl, .inl (by decide), B.out⟩
  · have t : decide (r < 0) = false := decide_eq_false (by omega)
    go_wp2_with fail
    refine (szModeInfoS_any _ _ _ _ _ _ (H2.out.below B.out) r0 (by omega)).mono ?_
    rintro e w2 ⟨q, rfl, hr, b2⟩
    have B2 := hide (below_trans B.out b2)
    have e4 := (b2.cell (p := ⟨w.heap.size, 3, none⟩) (World.block_lt_of_cell? w1 _ e3)).trans e3
    clear b2 B e2 e3
    rcases hr with rfl | ⟨q0, q1, q2, q3⟩
    · go_wp2
      go_ret
      exact ⟨-1, rfl, .inl (by decide), B2.out⟩
    · have t : decide (q < 0) = false := decide_eq_false (by omega)
      go_wp2_with fail
      refine (szSlotInfoS_any _ _ _ _ _ q0 (by omega) (by omega)).mono ?_
      rintro e w3 ⟨u, rfl, hr, b3⟩
      have B3 := hide (below_trans B2.out b3)
      clear b3 B2 e4
      rcases hr with rfl | ⟨u0, u1, u2⟩
      · go_wp2
        go_ret
        exact ⟨-1, rfl, .inl (by decide), B3.out⟩
      · have t : decide (u < 0) = false := decide_eq_false (by omega)
        go_wp2
        go_ret
        exact ⟨u, rfl, .inr ⟨u0, by rw [hl1.out]; omega, by rw [hl2.out]; omega, fun x hx => by have := q3 x hx; omega, by rw [hl3.out]; omega⟩, B3.out⟩
end Go.Proofs.YtdkhldebnpmiiaaGreatDoor
