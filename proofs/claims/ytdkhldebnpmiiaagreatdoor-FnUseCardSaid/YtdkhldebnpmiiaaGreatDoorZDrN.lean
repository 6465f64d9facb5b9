/- Contracts of draws: node tables. -/
import Derived.Test.YtdkhldebnpmiiaaGreatDoorZDrA
import Derived.Test.YtdkhldebnpmiiaaGreatDoorZMark
namespace Go.Proofs.YtdkhldebnpmiiaaGreatDoor
open Go.RowKit
set_option linter.unusedVariables false
set_option linter.unusedSimpArgs false
theorem NsOk.nil : NsOk [] := ⟨(by intro x h; cases h), (by intro x h; cases h)⟩
theorem NsOk.snoc {l : List Nod} (h : NsOk l) {x : Nod} (h1 : -1 ≤ x.id ∧ x.id ≤ 1000) (h2 : x.nm.size ≤ 1000) : NsOk (l ++ [x]) :=
  ⟨(by intro y hy; rcases List.mem_append.1 hy with q | q; exact h.id y q; simp at q; subst q; exact h1), (by intro y hy; rcases List.mem_append.1 hy with q | q; exact h.nm y q; simp at q; subst q; exact h2)⟩
theorem NsOk.set {l : List Nod} (h : NsOk l) (k : Nat) {x : Nod} (h1 : -1 ≤ x.id ∧ x.id ≤ 1000) (h2 : x.nm.size ≤ 1000) : NsOk (l.set k x) :=
  ⟨(by intro y hy; rcases List.mem_or_eq_of_mem_set hy with q | rfl; exact h.id y q; exact h1), (by intro y hy; rcases List.mem_or_eq_of_mem_set hy with q | rfl; exact h.nm y q; exact h2)⟩
theorem NsOk.take {l : List Nod} (h : NsOk l) (k : Nat) : NsOk (l.take k) := ⟨fun x hx => h.id x (List.mem_of_mem_take hx), fun x hx => h.nm x (List.mem_of_mem_take hx)⟩
/-- a drawn node table of the call's own -/
def GotNs (lo hi : Nat) (w : World) (g : Nat) (A : Option Addr) (n c : Nat) (bs : List Int) (e : Ending) (w' : World) : Prop :=
  ∃ (A' : Option Addr) (m c' : Nat) (l : List Nod), e = .returned (.slice A' m c') ∧ lo ≤ m ∧ m ≤ hi ∧ OwnR 68 Nod.v 4 w' w.heap.size A' m c' l ∧ NsOk l ∧ Sd w' g A n c bs ∧ w.grownBy w' (some g)
def GotNi (w : World) (g : Nat) (A : Option Addr) (n c : Nat) (bs : List Int) (e : Ending) (w' : World) : Prop :=
  ∃ (A' : Option Addr) (m c' : Nat) (l : List Nod), e = .returned (.slice A' m c') ∧ 1 ≤ m ∧ m ≤ 4 ∧ OwnR 68 Nod.v 4 w' w.heap.size A' m c' l ∧ NsOk l ∧ Ids l ∧ Sd w' g A n c bs ∧ w.grownBy w' (some g)
theorem Ids.snoc {l : List Nod} (h : Ids l) {x : Nod} (hx : 0 ≤ x.id ∧ x.id < 32) : Ids (l ++ [x]) := by
  intro y hy
  rcases List.mem_append.1 hy with q | q
  · exact h y q
  · simp at q
    subst q
    exact hx
set_option maxHeartbeats 3200000 in
theorem l10Draw_d (g : Nat) (A : Option Addr) (n c : Nat) (bs : List Int) (w : World) (h : Sd w g A n c bs) :
    Calls Tryz.prog 128 #[.pointer (some ⟨g, 0, none⟩)] w (GotNi w g A n c bs) := by
  have D := hide (Dw.refl h)
  have O0 := hide (OwnR.empty (T := 68) (f := Nod.v) (k := 4) w (Nat.le_refl _) Nod.k)
  have D0 := hide (D.out.alloc (.cells #[] 68))
  clear h
  go_enter Tryz.func128, Tryz.ntmps128
  go_wp2_with fail
  refine (next_d _ _ _ _ _ _ _ D0.out.s).mono ?_
  rintro e w1 ⟨x, rfl, x0, x1, h1, g1⟩
  have x2 := x1 (by omega)
  have D1 := hide (D0.out.step h1 g1)
  have O1 := hide (O0.out.next D0.out.s (by decide) g1)
  clear x1 h1 g1
  go_wp2_with fail
  refine (next_d _ _ _ _ _ _ _ D1.out.s).mono ?_
  rintro e w2 ⟨y, rfl, y0, y1, h1, g1⟩
  have y2 := y1 (by omega)
  have D2 := hide (D1.out.step h1 g1)
  have O2 := hide (O1.out.next D1.out.s (by decide) g1)
  clear y1 h1 g1
  go_wp2_with fail
  go_loopw [3, 4, 5] (fun s i q wr => ∃ (k : Nat) (A' : Option Addr) (c' : Nat) (l : List Nod) (d N : Int), s = .slice A' k c' ∧ i = .int .i64 d ∧ q = .int .i64 N ∧ 0 ≤ N ∧ 1 ≤ k + N ∧ k + N ≤ 4 ∧ 0 ≤ d ∧ d ≤ 1 + 3 * k ∧ Hid (OwnR 68 Nod.v 4 wr w.heap.size A' k c' l) ∧ Hid (NsOk l ∧ Ids l) ∧ Hid (Dw w g A n c bs wr)) (fun _ _ q _ => (intOf q).toNat)
  case atStart => exact ⟨0, _, _, _, x, 1 + y, rfl, rfl, by go_num, by omega, by omega, by omega, by omega, by omega, O2, hide ⟨NsOk.nil, (by intro x hx; cases hx)⟩, D2⟩
  case round =>
    obtain ⟨k, A', c', l, d, N, rfl, rfl, rfl, N0, N1, N2, d0, d1, hown, hok, hD⟩ := hrel
    by_cases hN : 0 < N
    · go_wp2_with fail
      go_at_call 151
      refine (l01Dec_2 _ _ (by omega) (by omega)).mono ?_
      rintro e w3 ⟨s, rfl, s2, b3⟩
      have D3 := hide (hD.out.below b3)
      have O3 := hide (hown.out.below b3)
      have hs9 : s.size ≤ 1000 := by omega
      clear b3 hD hown
      go_wp2_with fail
      refine (next_d _ _ _ _ _ _ _ D3.out.s).mono ?_
      rintro e w4 ⟨p, rfl, p0, p1, h1, g1⟩
      have D4 := hide (D3.out.step h1 g1)
      have O4 := hide (O3.out.next D3.out.s (by decide) g1)
      clear p1 h1 g1
      go_wp2_with fail
      refine (next_d _ _ _ _ _ _ _ D4.out.s).mono ?_
      rintro e w5 ⟨r, rfl, r0, r1, h1, g1⟩
      have D5 := hide (D4.out.step h1 g1)
      have O5 := hide (O4.out.next D4.out.s (by decide) g1)
      clear r1 h1 g1
      have hsz := D5.out.sz
      go_wp2_with (at_builtin; go_loud (refine append_rec info_nod Tryz.underlying24 rfl (by decide) (by decide) rfl _ _ rfl rfl O5.out _ 1 [⟨d, (⟨#[110]⟩ : ByteArray) ++ s, p, (r == 0)⟩] rfl rfl (by simp [Nod.v, Value.oneCell']) rfl (by omega) hsz ?_); intro A2 c2 w6 own6 gr6)
      have D6 := hide (D5.out.rowR O5.out (Nat.le_refl _) gr6)
      have OK6 := hide (And.intro (hok.out.1.snoc (x := ⟨d, (⟨#[110]⟩ : ByteArray) ++ s, p, (r == 0)⟩) (show -1 ≤ d ∧ d ≤ 1000 by omega) (show ((⟨#[110]⟩ : ByteArray) ++ s).size ≤ 1000 by rw [ByteArray.size_append]; show 1 + s.size ≤ 1000; omega)) (hok.out.2.snoc (x := ⟨d, (⟨#[110]⟩ : ByteArray) ++ s, p, (r == 0)⟩) (show 0 ≤ d ∧ d < 32 by omega)))
      have O6 := hide own6
      clear own6 gr6 O5 D5
      refine (next_d _ _ _ _ _ _ _ D6.out.s).mono ?_
      rintro e w7 ⟨t, rfl, t0, t1, h1, g1⟩
      have t2 := t1 (by omega)
      have D7 := hide (D6.out.step h1 g1)
      have O7 := hide (O6.out.next D6.out.s (by decide) g1)
      clear t1 h1 g1
      go_wp2
      go_roundw
      case rel => exact ⟨k + 1, A2, c2, _, d + 1 + t, N - 1, rfl, by go_num, by go_num, by omega, by omega, by omega, by omega, by omega, O7, OK6, D7⟩
      case measure => simp [intOf]; omega
    · obtain rfl : N = 0 := by omega
      go_wp2
      go_ret
      exact ⟨A', k, c', l, rfl, by omega, by omega, hown.out, hok.out.1, hok.out.2, hD.out.s, hD.out.gr⟩
set_option maxHeartbeats 6400000 in
theorem l10DrawAny_d (g : Nat) (A : Option Addr) (n c : Nat) (bs : List Int) (w : World) (h : Sd w g A n c bs) :
    Calls Tryz.prog 110 #[.pointer (some ⟨g, 0, none⟩)] w (GotNs 0 5 w g A n c bs) := by
  have D := hide (Dw.refl h)
  go_enter Tryz.func110, Tryz.ntmps110
  go_wp2_with fail
  go_at_call 128
  refine (l10Draw_d _ _ _ _ _ _ h).mono ?_
  rintro e w1 ⟨A', m, c', l, rfl, m0, m1, own, ok, _, h1, g1⟩
  have D1 := hide (D.out.step h1 g1)
  obtain ⟨gr, rfl, g0, _⟩ := (RawO.of own).form (by omega)
  have hcap := own.cap
  have O1 := hide own
  have hok := hide ok
  clear h1 g1 own ok h
  go_wp2_with fail
  refine (next_d _ _ _ _ _ _ _ D1.out.s).mono ?_
  rintro e w2 ⟨k, rfl, k0, k1, h1, g1⟩
  obtain ⟨k, rfl⟩ := Int.eq_ofNat_of_zero_le k0
  have hk : k < m := by have := k1 (by omega); omega
  have D2 := hide (D1.out.step h1 g1)
  have O2 := hide (O1.out.next D1.out.s (by decide) g1)
  clear h1 g1 k1
  go_wp2_with fail
  refine (next_d _ _ _ _ _ _ _ D2.out.s).mono ?_
  rintro e w3 ⟨z, rfl, z0, z1, h1, g1⟩
  have D3 := hide (D2.out.step h1 g1)
  have O3 := hide (O2.out.next D2.out.s (by decide) g1)
  clear h1 g1 z1
  by_cases e0 : z = 0
  · subst e0
    go_wp2_with fail
    obtain ⟨W4, hW4⟩ : ∃ W4, W4 = w3.alloc (.cells #[.int .i64 (-1), .int .i64 31, .int .i64 32] 2) := ⟨_, rfl⟩
    have HA4 := hide (show At W4 w3.heap.size 2 #[.int .i64 (-1), .int .i64 31, .int .i64 32] by rw [hW4]; exact At.fresh _ _ _)
    have D4 := hide (show Dw w g A n c bs W4 by rw [hW4]; exact D3.out.alloc _)
    have O4 := hide (show OwnR 68 Nod.v 4 W4 w.heap.size (some ⟨gr, 0, none⟩) m c' l by rw [hW4]; exact O3.out.alloc _)
    rw [← hW4]
    clear hW4
    refine (next_d _ _ _ _ _ _ _ D4.out.s).mono ?_
    rintro e w5 ⟨y, rfl, y0, y1, h1, g1⟩
    obtain ⟨y, rfl⟩ := Int.eq_ofNat_of_zero_le y0
    have ym : y < 3 := by have := y1 (by omega); omega
    have D5 := hide (D4.out.step h1 g1)
    have O5 := hide (O4.out.next D4.out.s (by decide) g1)
    obtain ⟨v, hv, hv2⟩ : ∃ v : Int, (#[.int .i64 (-1), .int .i64 31, .int .i64 32] : Array Value)[y]? = some (.int .i64 v) ∧ -1 ≤ v ∧ v ≤ 1000 := by
      have hy : y = 0 ∨ y = 1 ∨ y = 2 := by omega
      clear y0 y1 h1
      rcases hy with rfl | rfl | rfl
      · exact ⟨_, rfl, by decide, by decide⟩
      · exact ⟨_, rfl, by decide, by decide⟩
      · exact ⟨_, rfl, by decide, by decide⟩
    have hcell : w5.cell? ⟨w3.heap.size, y, none⟩ = some (.int .i64 v) := ((HA4.out.next D4.out.s (by decide) g1).cell y).trans hv
    obtain ⟨x, hx, hc⟩ := O5.out.at0 hk
    have c0 := hc 0 _ rfl
    simp at c0
    have f0 := O5.out.frozen (k * 4)
    have P5 := hide (O5.out.put1 (x' := ⟨v, x.nm, x.dr, x.pas⟩) hx 0 (by omega) (.int .i64 v) rfl)
    have xm := List.mem_of_getElem? hx
    have OK5 := hide (hok.out.set k (x := ⟨v, x.nm, x.dr, x.pas⟩) (show -1 ≤ v ∧ v ≤ 1000 by omega) (hok.out.nm x xm))
    have HV := hide hv2
    clear hc y1 h1 g1 hv hv2 hx
    go_wp2
    go_ret
    exact ⟨_, m, c', _, rfl, by omega, by omega, P5.out, OK5.out, (D5.out.set g0 _ _).s, (D5.out.set g0 _ _).gr⟩
  by_cases e1 : z = 1
  · subst e1
    go_wp2_with fail
    obtain ⟨W4, hW4⟩ : ∃ W4, W4 = w3.alloc (.cells #[.string ⟨#[]⟩, .string ⟨#[115, 101, 118, 101, 110, 110, 55]⟩, .string ⟨#[115, 105, 120, 120, 120, 54]⟩, .string ⟨#[78, 49]⟩, .string ⟨#[110, 48]⟩] 9) := ⟨_, rfl⟩
    have HA4 := hide (show At W4 w3.heap.size 9 #[.string ⟨#[]⟩, .string ⟨#[115, 101, 118, 101, 110, 110, 55]⟩, .string ⟨#[115, 105, 120, 120, 120, 54]⟩, .string ⟨#[78, 49]⟩, .string ⟨#[110, 48]⟩] by rw [hW4]; exact At.fresh _ _ _)
    have D4 := hide (show Dw w g A n c bs W4 by rw [hW4]; exact D3.out.alloc _)
    have O4 := hide (show OwnR 68 Nod.v 4 W4 w.heap.size (some ⟨gr, 0, none⟩) m c' l by rw [hW4]; exact O3.out.alloc _)
    rw [← hW4]
    clear hW4
    refine (next_d _ _ _ _ _ _ _ D4.out.s).mono ?_
    rintro e w5 ⟨y, rfl, y0, y1, h1, g1⟩
    obtain ⟨y, rfl⟩ := Int.eq_ofNat_of_zero_le y0
    have ym : y < 5 := by have := y1 (by omega); omega
    have D5 := hide (D4.out.step h1 g1)
    have O5 := hide (O4.out.next D4.out.s (by decide) g1)
    obtain ⟨v, hv, hv2⟩ : ∃ v : ByteArray, (#[.string ⟨#[]⟩, .string ⟨#[115, 101, 118, 101, 110, 110, 55]⟩, .string ⟨#[115, 105, 120, 120, 120, 54]⟩, .string ⟨#[78, 49]⟩, .string ⟨#[110, 48]⟩] : Array Value)[y]? = some (.string v) ∧ v.size ≤ 1000 := by
      have hy : y = 0 ∨ y = 1 ∨ y = 2 ∨ y = 3 ∨ y = 4 := by omega
      clear y0 y1 h1
      rcases hy with rfl | rfl | rfl | rfl | rfl
      · exact ⟨_, rfl, by decide⟩
      · exact ⟨_, rfl, by decide⟩
      · exact ⟨_, rfl, by decide⟩
      · exact ⟨_, rfl, by decide⟩
      · exact ⟨_, rfl, by decide⟩
    have hcell : w5.cell? ⟨w3.heap.size, y, none⟩ = some (.string v) := ((HA4.out.next D4.out.s (by decide) g1).cell y).trans hv
    obtain ⟨x, hx, hc⟩ := O5.out.at0 hk
    have c1 := hc 1 _ rfl
    have f1 := O5.out.frozen (k * 4 + 1)
    have P5 := hide (O5.out.put1 (x' := ⟨x.id, v, x.dr, x.pas⟩) hx 1 (by omega) (.string v) rfl)
    have xm := List.mem_of_getElem? hx
    have OK5 := hide (hok.out.set k (x := ⟨x.id, v, x.dr, x.pas⟩) (hok.out.id x xm) hv2)
    have HV := hide hv2
    clear hc y1 h1 g1 hv hv2 hx
    go_wp2
    go_ret
    exact ⟨_, m, c', _, rfl, by omega, by omega, P5.out, OK5.out, (D5.out.set g0 _ _).s, (D5.out.set g0 _ _).gr⟩
  by_cases e2 : z = 2
  · subst e2
    go_wp2_with fail
    obtain ⟨W4, hW4⟩ : ∃ W4, W4 = w3.alloc (.cells #[.int .i64 (-1), .int .i64 1000, .int .i64 1001] 2) := ⟨_, rfl⟩
    have HA4 := hide (show At W4 w3.heap.size 2 #[.int .i64 (-1), .int .i64 1000, .int .i64 1001] by rw [hW4]; exact At.fresh _ _ _)
    have D4 := hide (show Dw w g A n c bs W4 by rw [hW4]; exact D3.out.alloc _)
    have O4 := hide (show OwnR 68 Nod.v 4 W4 w.heap.size (some ⟨gr, 0, none⟩) m c' l by rw [hW4]; exact O3.out.alloc _)
    rw [← hW4]
    clear hW4
    refine (next_d _ _ _ _ _ _ _ D4.out.s).mono ?_
    rintro e w5 ⟨y, rfl, y0, y1, h1, g1⟩
    obtain ⟨y, rfl⟩ := Int.eq_ofNat_of_zero_le y0
    have ym : y < 3 := by have := y1 (by omega); omega
    have D5 := hide (D4.out.step h1 g1)
    have O5 := hide (O4.out.next D4.out.s (by decide) g1)
    obtain ⟨v, hv, hv2⟩ : ∃ v : Int, (#[.int .i64 (-1), .int .i64 1000, .int .i64 1001] : Array Value)[y]? = some (.int .i64 v) ∧ -1 ≤ v ∧ v ≤ 1001 := by
      have hy : y = 0 ∨ y = 1 ∨ y = 2 := by omega
      clear y0 y1 h1
      rcases hy with rfl | rfl | rfl
      · exact ⟨_, rfl, by decide, by decide⟩
      · exact ⟨_, rfl, by decide, by decide⟩
      · exact ⟨_, rfl, by decide, by decide⟩
    have hcell : w5.cell? ⟨w3.heap.size, y, none⟩ = some (.int .i64 v) := ((HA4.out.next D4.out.s (by decide) g1).cell y).trans hv
    obtain ⟨x, hx, hc⟩ := O5.out.at0 hk
    have c2 := hc 2 _ rfl
    have f2 := O5.out.frozen (k * 4 + 2)
    have P5 := hide (O5.out.put1 (x' := ⟨x.id, x.nm, v, x.pas⟩) hx 2 (by omega) (.int .i64 v) rfl)
    have xm := List.mem_of_getElem? hx
    have OK5 := hide (hok.out.set k (x := ⟨x.id, x.nm, v, x.pas⟩) (hok.out.id x xm) (hok.out.nm x xm))
    have HV := hide hv2
    clear hc y1 h1 g1 hv hv2 hx
    go_wp2
    go_ret
    exact ⟨_, m, c', _, rfl, by omega, by omega, P5.out, OK5.out, (D5.out.set g0 _ _).s, (D5.out.set g0 _ _).gr⟩
  by_cases e3 : z = 3
  · subst e3
    obtain ⟨x, hx, hc⟩ := O3.out.at0 hk
    have c0 := hc 0 _ rfl
    have c1 := hc 1 _ rfl
    have c2 := hc 2 _ rfl
    have c3 := hc 3 _ rfl
    simp at c0
    have xm := List.mem_of_getElem? hx
    have hsz := D3.out.sz
    clear hc hx
    go_wp2_with (at_builtin; go_loud (refine append_rec info_nod Tryz.underlying24 rfl (by decide) (by decide) rfl _ _ rfl rfl O3.out _ 1 [x] rfl rfl (by simp [Nod.v, Value.oneCell']) rfl (by omega) hsz ?_); intro A2 c2 w6 own6 gr6)
    have D6 := hide (D3.out.rowR O3.out (Nat.le_refl _) gr6)
    go_ret
    exact ⟨A2, m + 1, c2, _, rfl, by omega, by omega, own6, hok.out.snoc (hok.out.id x xm) (hok.out.nm x xm), D6.out.s, D6.out.gr⟩
  by_cases e4 : z = 4
  · subst e4
    go_wp2
    go_ret
    exact ⟨none, 0, 0, [], rfl, by omega, by omega, OwnR.nil _ _ Nod.k, NsOk.nil, D3.out.s, D3.out.gr⟩
  go_wp2
  go_ret
  exact ⟨_, m, c', l, rfl, by omega, by omega, O3.out, hok.out, D3.out.s, D3.out.gr⟩
end Go.Proofs.YtdkhldebnpmiiaaGreatDoor
