/- Contracts of draws: mode tables, valid or not. -/
import Derived.Test.YtdkhldebnpmiiaaGreatDoorZDrM
import Derived.Test.YtdkhldebnpmiiaaGreatDoorZSending
import Derived.Deep.RegionHeld3
namespace Go.Proofs.YtdkhldebnpmiiaaGreatDoor
open Go.RowKit
set_option linter.unusedVariables false
set_option linter.unusedSimpArgs false
def GotMs (w : World) (g : Nat) (A : Option Addr) (n c : Nat) (bs : List Int) (e : Ending) (w' : World) : Prop :=
  ∃ (A' : Option Addr) (m c' : Nat) (ms : List PMod), e = .returned (.slice A' m c') ∧ m ≤ 17 ∧ RdMsH w' w.heap.size A' m c' ms ∧ Sd w' g A n c bs ∧ w.grownBy w' (some g)
section
variable {w w' : World} {B H n c gr k : Nat} {A : Option Addr} {l : List Mod} {x : Mod}
theorem cell2 (h : Ml B H (some ⟨gr, 0, none⟩) n c l w) (hx : l[k]? = some x) : w.cell? ⟨gr, k * 3 + 2, none⟩ = some (.slice x.A x.n x.c) := by
  have hk := get_lt hx
  obtain ⟨y, hy, hc⟩ := h.row.at0 (by rw [← h.row.len]; exact hk)
  obtain rfl : y = x := Option.some.inj (hy.symm.trans hx)
  exact hc 2 _ rfl
theorem cellR (h : OwnR 107 Mod.v 3 w B (some ⟨gr, 0, none⟩) n c l) (hx : l[k]? = some x) : w.cell? ⟨gr, k * 3 + 2, none⟩ = some (.slice x.A x.n x.c) := by
  have hk := get_lt hx
  obtain ⟨y, hy, hc⟩ := h.at0 (by rw [← h.len]; exact hk)
  obtain rfl : y = x := Option.some.inj (hy.symm.trans hx)
  exact hc 2 _ rfl
/-- one mode's slice grows: the others stay -/
theorem Ml.others (h : Ml B H A n c l w) (hx : l[k]? = some x) (hg : w.grownBy w' (Value.slice x.A x.n x.c).ownBlock) : ∀ (j : Nat) (y : Mod), j ≠ k → l[j]? = some y → Own w' B y.A y.n y.c y.nx := fun j y hj hy => by
  have oy := h.nx y (List.mem_of_getElem? hy)
  have ox := h.nx x (List.mem_of_getElem? hx)
  have hp := List.pairwise_iff_getElem.1 h.ap
  obtain ⟨j1, rfl⟩ := List.getElem?_eq_some_iff.1 hy
  obtain ⟨k1, rfl⟩ := List.getElem?_eq_some_iff.1 hx
  refine oy.keepA ox ?_ hg
  rcases Nat.lt_or_gt_of_ne hj with q | q
  · exact hp j k j1 k1 q
  · exact (hp k j k1 j1 q).symm
theorem setRd {x' : Mod} (hq : ∀ (j : Nat) (y : Mod), j ≠ k → l[j]? = some y → Own w B y.A y.n y.c y.nx) (hx : Own w' B x'.A x'.n x'.c x'.nx) (ht : TyK 2 w w') (hs : w.heap.size ≤ w'.heap.size) : ∀ y ∈ l.set k x', Rd w' y.A y.n y.c y.nx ∧ HiA B y.A y.n := fun y hy => by
  obtain ⟨j, hj⟩ := List.getElem?_of_mem hy
  by_cases e : j = k
  · subst e
    rw [List.getElem?_set] at hj
    split at hj
    · split at hj
      · obtain rfl := Option.some.inj hj
        exact ⟨hx.rd, hx.hi⟩
      · cases hj
    · rename_i h; exact absurd rfl h
  · rw [List.getElem?_set_ne (fun q => e q.symm)] at hj
    have o := hq j y e hj
    exact ⟨Own.rd ⟨ht.row hs o.1, o.2⟩, o.hi⟩
end
set_option maxHeartbeats 6400000 in
theorem l11DrawAny_d (g : Nat) (A : Option Addr) (n c : Nat) (bs : List Int) (w : World) (h : Sd w g A n c bs) :
    Calls Tryz.prog 111 #[.pointer (some ⟨g, 0, none⟩)] w (GotMs w g A n c bs) := by
  have D := hide (Dw.refl h)
  go_enter Tryz.func111, Tryz.ntmps111
  go_wp2_with fail
  go_at_call 131
  refine (l11Draw_d _ _ _ _ _ _ h).mono ?_
  rintro e w1 ⟨A', m, c', l, rfl, m0, m1, ml, h1, g1⟩
  have D1 := hide (D.out.step h1 g1)
  obtain ⟨gr, rfl, g0, _⟩ := (RawO.of ml.row).form (by omega)
  have hcap := ml.row.cap
  obtain ⟨H, hH⟩ : ∃ H, H = w1.heap.size := ⟨_, rfl⟩
  rw [← hH] at ml
  have M1 := hide ml
  clear h1 g1 ml hH h
  go_wp2_with fail
  refine (next_d _ _ _ _ _ _ _ D1.out.s).mono ?_
  rintro e w2 ⟨k, rfl, k0, k1, h1, g1⟩
  obtain ⟨k, rfl⟩ := Int.eq_ofNat_of_zero_le k0
  have hk : k < m := by have := k1 (by omega); omega
  have D2 := hide (D1.out.step h1 g1)
  have M2 := hide (M1.out.next D1.out.s g1)
  clear h1 g1 k1
  go_wp2_with fail
  refine (next_d _ _ _ _ _ _ _ D2.out.s).mono ?_
  rintro e w3 ⟨z, rfl, z0, z1, h1, g1⟩
  have D3 := hide (D2.out.step h1 g1)
  have M3 := hide (M2.out.next D2.out.s g1)
  clear h1 g1 z1
  by_cases e0 : z = 0
  · subst e0
    go_wp2_with fail
    obtain ⟨W4, hW4⟩ : ∃ W4, W4 = w3.alloc (.cells #[.int .i64 0, .int .i64 8, .int .i64 9] 2) := ⟨_, rfl⟩
    have HL4 := hide (show At W4 w3.heap.size 2 #[.int .i64 0, .int .i64 8, .int .i64 9] by rw [hW4]; exact At.fresh _ _ _)
    have D4 := hide (show Dw w g A n c bs W4 by rw [hW4]; exact D3.out.alloc _)
    have M4 := hide (show Ml w.heap.size H (some ⟨gr, 0, none⟩) m c' l W4 by rw [hW4]; exact M3.out.alloc _)
    rw [← hW4]
    clear hW4
    refine (next_d _ _ _ _ _ _ _ D4.out.s).mono ?_
    rintro e w5 ⟨y, rfl, y0, y1, h1, g1⟩
    obtain ⟨y, rfl⟩ := Int.eq_ofNat_of_zero_le y0
    have ym : y < 3 := by have := y1 (by omega); omega
    have D5 := hide (D4.out.step h1 g1)
    have M5 := hide (M4.out.next D4.out.s g1)
    have HL5 := hide (HL4.out.next D4.out.s (by decide) g1)
    clear y1 h1 g1
    obtain ⟨v, hv⟩ : ∃ v : Int, (#[.int .i64 0, .int .i64 8, .int .i64 9] : Array Value)[y]? = some (.int .i64 v) := by
      have hy : y = 0 ∨ y = 1 ∨ y = 2 := by omega
      clear y0
      rcases hy with rfl | rfl | rfl
      · exact ⟨_, rfl⟩
      · exact ⟨_, rfl⟩
      · exact ⟨_, rfl⟩
    have hcell : w5.cell? ⟨w3.heap.size, y, none⟩ = some (.int .i64 v) := (HL5.out.cell y).trans hv
    obtain ⟨x, hx, hc⟩ := M5.out.row.at0 hk
    have c0 := hc 0 _ rfl
    simp at c0
    have f0 := M5.out.row.frozen (k * 3)
    have P5 := hide (M5.out.set (x' := ⟨v, x.sl, x.A, x.n, x.c, x.nx⟩) hx (t := 0) (by omega) (.int .i64 v) rfl ⟨rfl, rfl, rfl, rfl⟩)
    clear hc hv hx
    go_wp2
    go_ret
    exact ⟨_, m, c', _, rfl, by omega, P5.out, (D5.out.set g0 _ _).s, (D5.out.set g0 _ _).gr⟩
  by_cases e1 : z = 1
  · subst e1
    go_wp2_with fail
    obtain ⟨W4, hW4⟩ : ∃ W4, W4 = w3.alloc (.cells #[.int .i64 0, .int .i64 16, .int .i64 17] 2) := ⟨_, rfl⟩
    have HL4 := hide (show At W4 w3.heap.size 2 #[.int .i64 0, .int .i64 16, .int .i64 17] by rw [hW4]; exact At.fresh _ _ _)
    have D4 := hide (show Dw w g A n c bs W4 by rw [hW4]; exact D3.out.alloc _)
    have M4 := hide (show Ml w.heap.size H (some ⟨gr, 0, none⟩) m c' l W4 by rw [hW4]; exact M3.out.alloc _)
    rw [← hW4]
    clear hW4
    refine (next_d _ _ _ _ _ _ _ D4.out.s).mono ?_
    rintro e w5 ⟨y, rfl, y0, y1, h1, g1⟩
    obtain ⟨y, rfl⟩ := Int.eq_ofNat_of_zero_le y0
    have ym : y < 3 := by have := y1 (by omega); omega
    have D5 := hide (D4.out.step h1 g1)
    have M5 := hide (M4.out.next D4.out.s g1)
    have HL5 := hide (HL4.out.next D4.out.s (by decide) g1)
    clear y1 h1 g1
    obtain ⟨v, hv⟩ : ∃ v : Int, (#[.int .i64 0, .int .i64 16, .int .i64 17] : Array Value)[y]? = some (.int .i64 v) := by
      have hy : y = 0 ∨ y = 1 ∨ y = 2 := by omega
      clear y0
      rcases hy with rfl | rfl | rfl
      · exact ⟨_, rfl⟩
      · exact ⟨_, rfl⟩
      · exact ⟨_, rfl⟩
    have hcell : w5.cell? ⟨w3.heap.size, y, none⟩ = some (.int .i64 v) := (HL5.out.cell y).trans hv
    obtain ⟨x, hx, hc⟩ := M5.out.row.at0 hk
    have c1 := hc 1 _ rfl
    have f1 := M5.out.row.frozen (k * 3 + 1)
    have P5 := hide (M5.out.set (x' := ⟨x.rd, v, x.A, x.n, x.c, x.nx⟩) hx (t := 1) (by omega) (.int .i64 v) rfl ⟨rfl, rfl, rfl, rfl⟩)
    clear hc hv hx
    go_wp2
    go_ret
    exact ⟨_, m, c', _, rfl, by omega, P5.out, (D5.out.set g0 _ _).s, (D5.out.set g0 _ _).gr⟩
  by_cases e2 : z = 2
  · subst e2
    obtain ⟨x, hxk, hc⟩ := M3.out.row.at0 hk
    have xm := List.mem_of_getElem? hxk
    have c2 := hc 2 _ rfl
    clear hc
    go_wp2_with fail
    refine wp_region_held_drew (S := (fun _ => True)) (by kernel_rfl) trivial (fun hHeld => ?_)
    refine wpAnyH_take (i := 0) (v := ?va1) rfl (by kernel_rfl) (by kernel_rfl) (by kernel_rfl) (fun _ _ _ h => h) (Or.inl ⟨by rfl, ?hya1⟩) (by assumption) ?rest1
    case hya1 => (intro wz hSw; (try dsimp only at hSw); go_simp; all_goals with_reducible rfl)
    try simp only [List.getElem_toArray, List.getElem_cons_succ, List.getElem_cons_zero, Act.put, List.setIfInBounds_toArray, List.set_cons_zero, List.set_cons_succ]
    refine wpAnyH_take (i := 1) (v := ?va2) rfl (by kernel_rfl) (by kernel_rfl) (by kernel_rfl) (fun _ _ _ h => h) (Or.inl ⟨by rfl, ?hya2⟩) (by assumption) ?rest2
    case hya2 => (intro wz hSw; (try dsimp only at hSw); go_simp; all_goals with_reducible rfl)
    try simp only [List.getElem_toArray, List.getElem_cons_succ, List.getElem_cons_zero, Act.put, List.setIfInBounds_toArray, List.set_cons_zero, List.set_cons_succ]
    refine wpAnyH_take (i := 2) (v := ?va3) rfl (by kernel_rfl) (by kernel_rfl) (by kernel_rfl) (fun _ _ _ h => h) (Or.inl ⟨by rfl, ?hya3⟩) (by assumption) ?rest3
    case hya3 => (intro wz hSw; (try dsimp only at hSw); go_simp; all_goals with_reducible rfl)
    try simp only [List.getElem_toArray, List.getElem_cons_succ, List.getElem_cons_zero, Act.put, List.setIfInBounds_toArray, List.set_cons_zero, List.set_cons_succ]
    refine wpAnyH_take (i := 3) (v := ?va4) rfl (by kernel_rfl) (by kernel_rfl) (by kernel_rfl) (fun _ _ _ h => h) (Or.inl ⟨by rfl, ?hya4⟩) (by assumption) ?rest4
    case hya4 => (intro wz hSw; (try dsimp only at hSw); go_simp; all_goals with_reducible rfl)
    try simp only [List.getElem_toArray, List.getElem_cons_succ, List.getElem_cons_zero, Act.put, List.setIfInBounds_toArray, List.set_cons_zero, List.set_cons_succ]
    refine wpAnyH_take (i := 4) (v := ?va5) rfl (by kernel_rfl) (by kernel_rfl) (by kernel_rfl) (fun _ _ _ h => h) (Or.inl ⟨by rfl, ?hya5⟩) (by assumption) ?rest5
    case hya5 => (intro wz hSw; (try dsimp only at hSw); go_simp; all_goals with_reducible rfl)
    try simp only [List.getElem_toArray, List.getElem_cons_succ, List.getElem_cons_zero, Act.put, List.setIfInBounds_toArray, List.set_cons_zero, List.set_cons_succ]
    refine wpAnyH_take (i := 5) (v := ?va6) rfl (by kernel_rfl) (by kernel_rfl) (by kernel_rfl) (fun _ _ _ h => h) (Or.inl ⟨by rfl, ?hya6⟩) (by assumption) ?rest6
    case hya6 => (intro wz hSw; (try dsimp only at hSw); go_simp; all_goals with_reducible rfl)
    try simp only [List.getElem_toArray, List.getElem_cons_succ, List.getElem_cons_zero, Act.put, List.setIfInBounds_toArray, List.set_cons_zero, List.set_cons_succ]
    refine wpAnyH_take (i := 7) (v := ?va7) rfl (by kernel_rfl) (by kernel_rfl) (by kernel_rfl) (fun _ _ _ h => h) (Or.inl ⟨by rfl, ?hya7⟩) (by assumption) ?rest7
    case hya7 => (intro wz hSw; (try dsimp only at hSw); go_simp; all_goals with_reducible rfl)
    try simp only [List.getElem_toArray, List.getElem_cons_succ, List.getElem_cons_zero, Act.put, List.setIfInBounds_toArray, List.set_cons_zero, List.set_cons_succ]
    refine wpAnyH_take (i := 8) (v := ?va8) rfl (by kernel_rfl) (by kernel_rfl) (by kernel_rfl) (fun _ _ _ h => h) (Or.inl ⟨by rfl, ?hya8⟩) (by assumption) ?rest8
    case hya8 => (intro wz hSw; (try dsimp only at hSw); go_simp; all_goals with_reducible rfl)
    try simp only [List.getElem_toArray, List.getElem_cons_succ, List.getElem_cons_zero, Act.put, List.setIfInBounds_toArray, List.set_cons_zero, List.set_cons_succ]
    refine wpAnyH_take (i := 9) (v := ?va9) rfl (by kernel_rfl) (by kernel_rfl) (by kernel_rfl) (fun _ _ _ h => h) (Or.inl ⟨by rfl, ?hya9⟩) (by assumption) ?rest9
    case hya9 => (intro wz hSw; (try dsimp only at hSw); go_simp; all_goals with_reducible rfl)
    try simp only [List.getElem_toArray, List.getElem_cons_succ, List.getElem_cons_zero, Act.put, List.setIfInBounds_toArray, List.set_cons_zero, List.set_cons_succ]
    refine wpAnyH_take (i := 11) (v := ?va10) rfl (by kernel_rfl) (by kernel_rfl) (by kernel_rfl) (fun _ _ _ h => h) (Or.inl ⟨by rfl, ?hya10⟩) (by assumption) ?rest10
    case hya10 => (intro wz hSw; (try dsimp only at hSw); go_simp; all_goals with_reducible rfl)
    try simp only [List.getElem_toArray, List.getElem_cons_succ, List.getElem_cons_zero, Act.put, List.setIfInBounds_toArray, List.set_cons_zero, List.set_cons_succ]
    refine wpAnyH_ready (rs := [6, 10, 12]) (by kernel_rfl) (by simp) ?_
    refine AllReadyH.cons rfl (fun K hK => ?_) (AllReadyH.cons rfl (fun K hK => ?_) (AllReadyH.cons rfl (fun K hK => ?_) AllReadyH.nil))
    · have e2 := cell2 M3.out hxk
      go_simp
      refine hK.out _ _ trivial (fun hHeld2 => ?_)
      clear hK K
      try simp only [List.getElem_toArray, List.getElem_cons_succ, List.getElem_cons_zero, Act.put, List.setIfInBounds_toArray, List.set_cons_zero, List.set_cons_succ]
      refine wpAnyH_ready (rs := [10, 12]) (by kernel_rfl) (by simp) ?_
      refine AllReadyH.cons rfl (fun K hK => ?_) (AllReadyH.cons rfl (fun K hK => ?_) AllReadyH.nil)
      · go_simp
        refine hK.out _ _ trivial (fun hHeld2 => ?_)
        clear hK K
        try simp only [List.getElem_toArray, List.getElem_cons_succ, List.getElem_cons_zero, Act.put, List.setIfInBounds_toArray, List.set_cons_zero, List.set_cons_succ]
        have D1 := hide (D3.out.alloc (.cells #[.int .i64 (k : Int), .int .i64 (m : Int), .int .i64 0] 2))
        have M2 := hide (M3.out.alloc (.cells #[.int .i64 (k : Int), .int .i64 (m : Int), .int .i64 0] 2))
        have HL3 := hide (show At (w3.alloc (.cells #[.int .i64 (k : Int), .int .i64 (m : Int), .int .i64 0] 2)) w3.heap.size 2 #[.int .i64 (k : Int), .int .i64 (m : Int), .int .i64 0] from At.fresh w3 _ _)
        refine wpAnyH_ready (rs := [12]) (by kernel_rfl) (by simp) ?_
        refine AllReadyH.cons rfl (fun K hK => ?_) AllReadyH.nil
        go_simp
        (go_at_call 47; refine (next_d _ _ _ _ _ _ _ (D1.out.drew).s).mono ?_; rintro ee w5 ⟨y, rfl, y0, y1, h1, g1⟩; obtain ⟨y, rfl⟩ := Int.eq_ofNat_of_zero_le y0; have ym : y < 3 := by (have := y1 (by omega); omega))
        have D4 := hide (D1.out.drew.step h1 g1)
        have M5 := hide ((M2.out.below (Below.refl _ _).drew).next D1.out.drew.s g1)
        have HL6 := hide ((HL3.out.keep (Below.refl _ _).drew).next D1.out.drew.s (by decide) g1)
        have ym2 : (y : Int) < 3 := by omega
        clear y1 h1 g1
        go_wp2_with fail
        refine hK.out _ _ trivial (fun hHeld2 => ?_)
        clear hK K
        try simp only [List.getElem_toArray, List.getElem_cons_succ, List.getElem_cons_zero, Act.put, List.setIfInBounds_toArray, List.set_cons_zero, List.set_cons_succ]
        obtain ⟨v, hv, hv3, hv4⟩ : ∃ v : Int, (#[.int .i64 (k : Int), .int .i64 (m : Int), .int .i64 0] : Array Value)[y]? = some (.int .i64 v) ∧ -9223372036854775808 ≤ v ∧ v ≤ 9223372036854775807 := by
          have hy : y = 0 ∨ y = 1 ∨ y = 2 := by omega
          clear y0 ym2
          rcases hy with rfl | rfl | rfl
          · exact ⟨_, rfl, by omega, by omega⟩
          · exact ⟨_, rfl, by omega, by omega⟩
          · exact ⟨_, rfl, by omega, by omega⟩
        refine wpAnyH_take (i := 13) (v := ?va11) rfl (by kernel_rfl) (by kernel_rfl) (by kernel_rfl) (fun _ _ _ h => h) (Or.inl ⟨by rfl, ?hya11⟩) (by assumption) ?rest11
        case hya11 => (intro wz hSw; (try dsimp only at hSw); go_simp; all_goals with_reducible rfl)
        try simp only [List.getElem_toArray, List.getElem_cons_succ, List.getElem_cons_zero, Act.put, List.setIfInBounds_toArray, List.set_cons_zero, List.set_cons_succ]
        refine wpAnyH_ready (rs := [14]) (by kernel_rfl) (by simp) ?_
        refine AllReadyH.cons rfl (fun K hK => ?_) AllReadyH.nil
        have hcell := (HL6.out.cell y).trans hv
        go_simp
        refine hK.out _ _ trivial (fun hHeld2 => ?_)
        clear hK K
        try simp only [List.getElem_toArray, List.getElem_cons_succ, List.getElem_cons_zero, Act.put, List.setIfInBounds_toArray, List.set_cons_zero, List.set_cons_succ]
        refine wpAnyH_ready (rs := [15]) (by kernel_rfl) (by simp) ?_
        refine AllReadyH.cons rfl (fun K hK => ?_) AllReadyH.nil
        go_simp
        refine hK.out _ _ trivial (fun hHeld2 => ?_)
        clear hK K
        try simp only [List.getElem_toArray, List.getElem_cons_succ, List.getElem_cons_zero, Act.put, List.setIfInBounds_toArray, List.set_cons_zero, List.set_cons_succ]
        have D7 := hide (D4.out.alloc (.cells #[.int .i64 v] 2))
        have M8 := hide (M5.out.alloc (.cells #[.int .i64 v] 2))
        refine wpAnyH_ready (rs := [16]) (by kernel_rfl) (by simp) ?_
        refine AllReadyH.cons rfl (fun K hK => ?_) AllReadyH.nil
        have ox := hide (M8.out.nx x xm)
        (refine step_append_own rfl _ _ rfl w.heap.size rfl (show Own _ w.heap.size _ _ _ _ from ox.out) (lit_rd w5 hv3 hv4) rfl (by omega) (by have := M8.out.len x xm; omega) D7.out.sz ?_; intro gg cc w7 own7 gr7 lie7)
        have D7 := hide (D7.out.row ox.out (Nat.le_refl _) gr7)
        have R7 := hide (M8.out.row.keepG gr7 (blocks_ne M8.out.row.1 ox.out.1 (by decide)))
        have Q7 := hide (M8.out.others hxk gr7)
        refine hK.out _ _ trivial (fun hHeld2 => ?_)
        clear hK K
        try simp only [List.getElem_toArray, List.getElem_cons_succ, List.getElem_cons_zero, Act.put, List.setIfInBounds_toArray, List.set_cons_zero, List.set_cons_succ]
        refine wpAnyH_take (i := 17) (v := ?va12) rfl (by kernel_rfl) (by kernel_rfl) (by kernel_rfl) (fun _ _ _ h => h) (Or.inl ⟨by rfl, ?hya12⟩) (by assumption) ?rest12
        case hya12 => (intro wz hSw; (try dsimp only at hSw); go_simp; all_goals with_reducible rfl)
        try simp only [List.getElem_toArray, List.getElem_cons_succ, List.getElem_cons_zero, Act.put, List.setIfInBounds_toArray, List.set_cons_zero, List.set_cons_succ]
        refine wpAnyH_take (i := 18) (v := ?va13) rfl (by kernel_rfl) (by kernel_rfl) (by kernel_rfl) (fun _ _ _ h => h) (Or.inl ⟨by rfl, ?hya13⟩) (by assumption) ?rest13
        case hya13 => (intro wz hSw; (try dsimp only at hSw); go_simp; all_goals with_reducible rfl)
        try simp only [List.getElem_toArray, List.getElem_cons_succ, List.getElem_cons_zero, Act.put, List.setIfInBounds_toArray, List.set_cons_zero, List.set_cons_succ]
        refine wpAnyH_ready (rs := [19]) (by kernel_rfl) (by simp) ?_
        refine AllReadyH.cons rfl (fun K hK => ?_) AllReadyH.nil
        have e9 := cellR R7.out hxk
        have f9 := R7.out.frozen (k * 3 + 2)
        go_simp
        refine hK.out _ _ trivial (fun hHeld2 => ?_)
        clear hK K
        try simp only [List.getElem_toArray, List.getElem_cons_succ, List.getElem_cons_zero, Act.put, List.setIfInBounds_toArray, List.set_cons_zero, List.set_cons_succ]
        refine wpAnyH_done (by kernel_rfl) ?_ _
        go_wp2
        go_ret
        have P7 := hide (R7.out.put1 (x' := ⟨x.rd, x.sl, some ⟨gg, 0, none⟩, x.n + 1, cc, x.nx ++ [v]⟩) hxk 2 (by omega) (.slice (some ⟨gg, 0, none⟩) (x.n + 1) cc) rfl)
        have K7 := TyK.set (T := 2) R7.out.1 (by decide) (k * 3 + 2) (.slice (some ⟨gg, 0, none⟩) (x.n + 1) cc)
        exact ⟨_, m, c', _, rfl, by omega, ⟨_, P7.out.rd, P7.out.hi, setRd Q7.out ⟨K7.row (by simp) own7.1, own7.2⟩ K7 (by simp), rfl⟩, (D7.out.set g0 _ _).s, (D7.out.set g0 _ _).gr⟩
      · go_simp
        (go_at_call 47; refine (next_d _ _ _ _ _ _ _ (D3.out.drew).s).mono ?_; rintro ee w5 ⟨y, rfl, y0, y1, h1, g1⟩; obtain ⟨y, rfl⟩ := Int.eq_ofNat_of_zero_le y0; have ym : y < 3 := by (have := y1 (by omega); omega))
        have D9 := hide (D3.out.drew.step h1 g1)
        have M10 := hide ((M3.out.below (Below.refl _ _).drew).next D3.out.drew.s g1)
        have ym2 : (y : Int) < 3 := by omega
        clear y1 h1 g1
        go_wp2_with fail
        refine hK.out _ _ trivial (fun hHeld2 => ?_)
        clear hK K
        try simp only [List.getElem_toArray, List.getElem_cons_succ, List.getElem_cons_zero, Act.put, List.setIfInBounds_toArray, List.set_cons_zero, List.set_cons_succ]
        refine wpAnyH_ready (rs := [10]) (by kernel_rfl) (by simp) ?_
        refine AllReadyH.cons rfl (fun K hK => ?_) AllReadyH.nil
        go_simp
        refine hK.out _ _ trivial (fun hHeld2 => ?_)
        clear hK K
        try simp only [List.getElem_toArray, List.getElem_cons_succ, List.getElem_cons_zero, Act.put, List.setIfInBounds_toArray, List.set_cons_zero, List.set_cons_succ]
        have D12 := hide (D9.out.alloc (.cells #[.int .i64 (k : Int), .int .i64 (m : Int), .int .i64 0] 2))
        have M13 := hide (M10.out.alloc (.cells #[.int .i64 (k : Int), .int .i64 (m : Int), .int .i64 0] 2))
        have HL14 := hide (show At (w5.alloc (.cells #[.int .i64 (k : Int), .int .i64 (m : Int), .int .i64 0] 2)) w5.heap.size 2 #[.int .i64 (k : Int), .int .i64 (m : Int), .int .i64 0] from At.fresh w5 _ _)
        obtain ⟨v, hv, hv3, hv4⟩ : ∃ v : Int, (#[.int .i64 (k : Int), .int .i64 (m : Int), .int .i64 0] : Array Value)[y]? = some (.int .i64 v) ∧ -9223372036854775808 ≤ v ∧ v ≤ 9223372036854775807 := by
          have hy : y = 0 ∨ y = 1 ∨ y = 2 := by omega
          clear y0 ym2
          rcases hy with rfl | rfl | rfl
          · exact ⟨_, rfl, by omega, by omega⟩
          · exact ⟨_, rfl, by omega, by omega⟩
          · exact ⟨_, rfl, by omega, by omega⟩
        refine wpAnyH_take (i := 13) (v := ?va14) rfl (by kernel_rfl) (by kernel_rfl) (by kernel_rfl) (fun _ _ _ h => h) (Or.inl ⟨by rfl, ?hya14⟩) (by assumption) ?rest14
        case hya14 => (intro wz hSw; (try dsimp only at hSw); go_simp; all_goals with_reducible rfl)
        try simp only [List.getElem_toArray, List.getElem_cons_succ, List.getElem_cons_zero, Act.put, List.setIfInBounds_toArray, List.set_cons_zero, List.set_cons_succ]
        refine wpAnyH_ready (rs := [14]) (by kernel_rfl) (by simp) ?_
        refine AllReadyH.cons rfl (fun K hK => ?_) AllReadyH.nil
        have hcell := (HL14.out.cell y).trans hv
        go_simp
        refine hK.out _ _ trivial (fun hHeld2 => ?_)
        clear hK K
        try simp only [List.getElem_toArray, List.getElem_cons_succ, List.getElem_cons_zero, Act.put, List.setIfInBounds_toArray, List.set_cons_zero, List.set_cons_succ]
        refine wpAnyH_ready (rs := [15]) (by kernel_rfl) (by simp) ?_
        refine AllReadyH.cons rfl (fun K hK => ?_) AllReadyH.nil
        go_simp
        refine hK.out _ _ trivial (fun hHeld2 => ?_)
        clear hK K
        try simp only [List.getElem_toArray, List.getElem_cons_succ, List.getElem_cons_zero, Act.put, List.setIfInBounds_toArray, List.set_cons_zero, List.set_cons_succ]
        have D15 := hide (D12.out.alloc (.cells #[.int .i64 v] 2))
        have M16 := hide (M13.out.alloc (.cells #[.int .i64 v] 2))
        refine wpAnyH_ready (rs := [16]) (by kernel_rfl) (by simp) ?_
        refine AllReadyH.cons rfl (fun K hK => ?_) AllReadyH.nil
        have ox := hide (M16.out.nx x xm)
        (refine step_append_own rfl _ _ rfl w.heap.size rfl (show Own _ w.heap.size _ _ _ _ from ox.out) (lit_rd2 w5 (.cells #[.int .i64 (k : Int), .int .i64 (m : Int), .int .i64 0] 2) hv3 hv4) rfl (by omega) (by have := M16.out.len x xm; omega) D15.out.sz ?_; intro gg cc w7 own7 gr7 lie7)
        have D7 := hide (D15.out.row ox.out (Nat.le_refl _) gr7)
        have R7 := hide (M16.out.row.keepG gr7 (blocks_ne M16.out.row.1 ox.out.1 (by decide)))
        have Q7 := hide (M16.out.others hxk gr7)
        refine hK.out _ _ trivial (fun hHeld2 => ?_)
        clear hK K
        try simp only [List.getElem_toArray, List.getElem_cons_succ, List.getElem_cons_zero, Act.put, List.setIfInBounds_toArray, List.set_cons_zero, List.set_cons_succ]
        refine wpAnyH_take (i := 17) (v := ?va15) rfl (by kernel_rfl) (by kernel_rfl) (by kernel_rfl) (fun _ _ _ h => h) (Or.inl ⟨by rfl, ?hya15⟩) (by assumption) ?rest15
        case hya15 => (intro wz hSw; (try dsimp only at hSw); go_simp; all_goals with_reducible rfl)
        try simp only [List.getElem_toArray, List.getElem_cons_succ, List.getElem_cons_zero, Act.put, List.setIfInBounds_toArray, List.set_cons_zero, List.set_cons_succ]
        refine wpAnyH_take (i := 18) (v := ?va16) rfl (by kernel_rfl) (by kernel_rfl) (by kernel_rfl) (fun _ _ _ h => h) (Or.inl ⟨by rfl, ?hya16⟩) (by assumption) ?rest16
        case hya16 => (intro wz hSw; (try dsimp only at hSw); go_simp; all_goals with_reducible rfl)
        try simp only [List.getElem_toArray, List.getElem_cons_succ, List.getElem_cons_zero, Act.put, List.setIfInBounds_toArray, List.set_cons_zero, List.set_cons_succ]
        refine wpAnyH_ready (rs := [19]) (by kernel_rfl) (by simp) ?_
        refine AllReadyH.cons rfl (fun K hK => ?_) AllReadyH.nil
        have e9 := cellR R7.out hxk
        have f9 := R7.out.frozen (k * 3 + 2)
        go_simp
        refine hK.out _ _ trivial (fun hHeld2 => ?_)
        clear hK K
        try simp only [List.getElem_toArray, List.getElem_cons_succ, List.getElem_cons_zero, Act.put, List.setIfInBounds_toArray, List.set_cons_zero, List.set_cons_succ]
        refine wpAnyH_done (by kernel_rfl) ?_ _
        go_wp2
        go_ret
        have P7 := hide (R7.out.put1 (x' := ⟨x.rd, x.sl, some ⟨gg, 0, none⟩, x.n + 1, cc, x.nx ++ [v]⟩) hxk 2 (by omega) (.slice (some ⟨gg, 0, none⟩) (x.n + 1) cc) rfl)
        have K7 := TyK.set (T := 2) R7.out.1 (by decide) (k * 3 + 2) (.slice (some ⟨gg, 0, none⟩) (x.n + 1) cc)
        exact ⟨_, m, c', _, rfl, by omega, ⟨_, P7.out.rd, P7.out.hi, setRd Q7.out ⟨K7.row (by simp) own7.1, own7.2⟩ K7 (by simp), rfl⟩, (D7.out.set g0 _ _).s, (D7.out.set g0 _ _).gr⟩
    · go_simp
      refine hK.out _ _ trivial (fun hHeld2 => ?_)
      clear hK K
      try simp only [List.getElem_toArray, List.getElem_cons_succ, List.getElem_cons_zero, Act.put, List.setIfInBounds_toArray, List.set_cons_zero, List.set_cons_succ]
      have D17 := hide (D3.out.alloc (.cells #[.int .i64 (k : Int), .int .i64 (m : Int), .int .i64 0] 2))
      have M18 := hide (M3.out.alloc (.cells #[.int .i64 (k : Int), .int .i64 (m : Int), .int .i64 0] 2))
      have HL19 := hide (show At (w3.alloc (.cells #[.int .i64 (k : Int), .int .i64 (m : Int), .int .i64 0] 2)) w3.heap.size 2 #[.int .i64 (k : Int), .int .i64 (m : Int), .int .i64 0] from At.fresh w3 _ _)
      refine wpAnyH_ready (rs := [6, 12]) (by kernel_rfl) (by simp) ?_
      refine AllReadyH.cons rfl (fun K hK => ?_) (AllReadyH.cons rfl (fun K hK => ?_) AllReadyH.nil)
      · have e2 := cell2 M18.out hxk
        go_simp
        refine hK.out _ _ trivial (fun hHeld2 => ?_)
        clear hK K
        try simp only [List.getElem_toArray, List.getElem_cons_succ, List.getElem_cons_zero, Act.put, List.setIfInBounds_toArray, List.set_cons_zero, List.set_cons_succ]
        refine wpAnyH_ready (rs := [12]) (by kernel_rfl) (by simp) ?_
        refine AllReadyH.cons rfl (fun K hK => ?_) AllReadyH.nil
        go_simp
        (go_at_call 47; refine (next_d _ _ _ _ _ _ _ (D17.out.drew).s).mono ?_; rintro ee w5 ⟨y, rfl, y0, y1, h1, g1⟩; obtain ⟨y, rfl⟩ := Int.eq_ofNat_of_zero_le y0; have ym : y < 3 := by (have := y1 (by omega); omega))
        have D20 := hide (D17.out.drew.step h1 g1)
        have M21 := hide ((M18.out.below (Below.refl _ _).drew).next D17.out.drew.s g1)
        have HL22 := hide ((HL19.out.keep (Below.refl _ _).drew).next D17.out.drew.s (by decide) g1)
        have ym2 : (y : Int) < 3 := by omega
        clear y1 h1 g1
        go_wp2_with fail
        refine hK.out _ _ trivial (fun hHeld2 => ?_)
        clear hK K
        try simp only [List.getElem_toArray, List.getElem_cons_succ, List.getElem_cons_zero, Act.put, List.setIfInBounds_toArray, List.set_cons_zero, List.set_cons_succ]
        obtain ⟨v, hv, hv3, hv4⟩ : ∃ v : Int, (#[.int .i64 (k : Int), .int .i64 (m : Int), .int .i64 0] : Array Value)[y]? = some (.int .i64 v) ∧ -9223372036854775808 ≤ v ∧ v ≤ 9223372036854775807 := by
          have hy : y = 0 ∨ y = 1 ∨ y = 2 := by omega
          clear y0 ym2
          rcases hy with rfl | rfl | rfl
          · exact ⟨_, rfl, by omega, by omega⟩
          · exact ⟨_, rfl, by omega, by omega⟩
          · exact ⟨_, rfl, by omega, by omega⟩
        refine wpAnyH_take (i := 13) (v := ?va17) rfl (by kernel_rfl) (by kernel_rfl) (by kernel_rfl) (fun _ _ _ h => h) (Or.inl ⟨by rfl, ?hya17⟩) (by assumption) ?rest17
        case hya17 => (intro wz hSw; (try dsimp only at hSw); go_simp; all_goals with_reducible rfl)
        try simp only [List.getElem_toArray, List.getElem_cons_succ, List.getElem_cons_zero, Act.put, List.setIfInBounds_toArray, List.set_cons_zero, List.set_cons_succ]
        refine wpAnyH_ready (rs := [14]) (by kernel_rfl) (by simp) ?_
        refine AllReadyH.cons rfl (fun K hK => ?_) AllReadyH.nil
        have hcell := (HL22.out.cell y).trans hv
        go_simp
        refine hK.out _ _ trivial (fun hHeld2 => ?_)
        clear hK K
        try simp only [List.getElem_toArray, List.getElem_cons_succ, List.getElem_cons_zero, Act.put, List.setIfInBounds_toArray, List.set_cons_zero, List.set_cons_succ]
        refine wpAnyH_ready (rs := [15]) (by kernel_rfl) (by simp) ?_
        refine AllReadyH.cons rfl (fun K hK => ?_) AllReadyH.nil
        go_simp
        refine hK.out _ _ trivial (fun hHeld2 => ?_)
        clear hK K
        try simp only [List.getElem_toArray, List.getElem_cons_succ, List.getElem_cons_zero, Act.put, List.setIfInBounds_toArray, List.set_cons_zero, List.set_cons_succ]
        have D23 := hide (D20.out.alloc (.cells #[.int .i64 v] 2))
        have M24 := hide (M21.out.alloc (.cells #[.int .i64 v] 2))
        refine wpAnyH_ready (rs := [16]) (by kernel_rfl) (by simp) ?_
        refine AllReadyH.cons rfl (fun K hK => ?_) AllReadyH.nil
        have ox := hide (M24.out.nx x xm)
        (refine step_append_own rfl _ _ rfl w.heap.size rfl (show Own _ w.heap.size _ _ _ _ from ox.out) (lit_rd w5 hv3 hv4) rfl (by omega) (by have := M24.out.len x xm; omega) D23.out.sz ?_; intro gg cc w7 own7 gr7 lie7)
        have D7 := hide (D23.out.row ox.out (Nat.le_refl _) gr7)
        have R7 := hide (M24.out.row.keepG gr7 (blocks_ne M24.out.row.1 ox.out.1 (by decide)))
        have Q7 := hide (M24.out.others hxk gr7)
        refine hK.out _ _ trivial (fun hHeld2 => ?_)
        clear hK K
        try simp only [List.getElem_toArray, List.getElem_cons_succ, List.getElem_cons_zero, Act.put, List.setIfInBounds_toArray, List.set_cons_zero, List.set_cons_succ]
        refine wpAnyH_take (i := 17) (v := ?va18) rfl (by kernel_rfl) (by kernel_rfl) (by kernel_rfl) (fun _ _ _ h => h) (Or.inl ⟨by rfl, ?hya18⟩) (by assumption) ?rest18
        case hya18 => (intro wz hSw; (try dsimp only at hSw); go_simp; all_goals with_reducible rfl)
        try simp only [List.getElem_toArray, List.getElem_cons_succ, List.getElem_cons_zero, Act.put, List.setIfInBounds_toArray, List.set_cons_zero, List.set_cons_succ]
        refine wpAnyH_take (i := 18) (v := ?va19) rfl (by kernel_rfl) (by kernel_rfl) (by kernel_rfl) (fun _ _ _ h => h) (Or.inl ⟨by rfl, ?hya19⟩) (by assumption) ?rest19
        case hya19 => (intro wz hSw; (try dsimp only at hSw); go_simp; all_goals with_reducible rfl)
        try simp only [List.getElem_toArray, List.getElem_cons_succ, List.getElem_cons_zero, Act.put, List.setIfInBounds_toArray, List.set_cons_zero, List.set_cons_succ]
        refine wpAnyH_ready (rs := [19]) (by kernel_rfl) (by simp) ?_
        refine AllReadyH.cons rfl (fun K hK => ?_) AllReadyH.nil
        have e9 := cellR R7.out hxk
        have f9 := R7.out.frozen (k * 3 + 2)
        go_simp
        refine hK.out _ _ trivial (fun hHeld2 => ?_)
        clear hK K
        try simp only [List.getElem_toArray, List.getElem_cons_succ, List.getElem_cons_zero, Act.put, List.setIfInBounds_toArray, List.set_cons_zero, List.set_cons_succ]
        refine wpAnyH_done (by kernel_rfl) ?_ _
        go_wp2
        go_ret
        have P7 := hide (R7.out.put1 (x' := ⟨x.rd, x.sl, some ⟨gg, 0, none⟩, x.n + 1, cc, x.nx ++ [v]⟩) hxk 2 (by omega) (.slice (some ⟨gg, 0, none⟩) (x.n + 1) cc) rfl)
        have K7 := TyK.set (T := 2) R7.out.1 (by decide) (k * 3 + 2) (.slice (some ⟨gg, 0, none⟩) (x.n + 1) cc)
        exact ⟨_, m, c', _, rfl, by omega, ⟨_, P7.out.rd, P7.out.hi, setRd Q7.out ⟨K7.row (by simp) own7.1, own7.2⟩ K7 (by simp), rfl⟩, (D7.out.set g0 _ _).s, (D7.out.set g0 _ _).gr⟩
      · go_simp
        (go_at_call 47; refine (next_d _ _ _ _ _ _ _ (D17.out.drew).s).mono ?_; rintro ee w5 ⟨y, rfl, y0, y1, h1, g1⟩; obtain ⟨y, rfl⟩ := Int.eq_ofNat_of_zero_le y0; have ym : y < 3 := by (have := y1 (by omega); omega))
        have D25 := hide (D17.out.drew.step h1 g1)
        have M26 := hide ((M18.out.below (Below.refl _ _).drew).next D17.out.drew.s g1)
        have HL27 := hide ((HL19.out.keep (Below.refl _ _).drew).next D17.out.drew.s (by decide) g1)
        have ym2 : (y : Int) < 3 := by omega
        clear y1 h1 g1
        go_wp2_with fail
        refine hK.out _ _ trivial (fun hHeld2 => ?_)
        clear hK K
        try simp only [List.getElem_toArray, List.getElem_cons_succ, List.getElem_cons_zero, Act.put, List.setIfInBounds_toArray, List.set_cons_zero, List.set_cons_succ]
        obtain ⟨v, hv, hv3, hv4⟩ : ∃ v : Int, (#[.int .i64 (k : Int), .int .i64 (m : Int), .int .i64 0] : Array Value)[y]? = some (.int .i64 v) ∧ -9223372036854775808 ≤ v ∧ v ≤ 9223372036854775807 := by
          have hy : y = 0 ∨ y = 1 ∨ y = 2 := by omega
          clear y0 ym2
          rcases hy with rfl | rfl | rfl
          · exact ⟨_, rfl, by omega, by omega⟩
          · exact ⟨_, rfl, by omega, by omega⟩
          · exact ⟨_, rfl, by omega, by omega⟩
        refine wpAnyH_take (i := 13) (v := ?va20) rfl (by kernel_rfl) (by kernel_rfl) (by kernel_rfl) (fun _ _ _ h => h) (Or.inl ⟨by rfl, ?hya20⟩) (by assumption) ?rest20
        case hya20 => (intro wz hSw; (try dsimp only at hSw); go_simp; all_goals with_reducible rfl)
        try simp only [List.getElem_toArray, List.getElem_cons_succ, List.getElem_cons_zero, Act.put, List.setIfInBounds_toArray, List.set_cons_zero, List.set_cons_succ]
        refine wpAnyH_ready (rs := [6, 14]) (by kernel_rfl) (by simp) ?_
        refine AllReadyH.cons rfl (fun K hK => ?_) (AllReadyH.cons rfl (fun K hK => ?_) AllReadyH.nil)
        · have e2 := cell2 M26.out hxk
          go_simp
          refine hK.out _ _ trivial (fun hHeld2 => ?_)
          clear hK K
          try simp only [List.getElem_toArray, List.getElem_cons_succ, List.getElem_cons_zero, Act.put, List.setIfInBounds_toArray, List.set_cons_zero, List.set_cons_succ]
          refine wpAnyH_ready (rs := [14]) (by kernel_rfl) (by simp) ?_
          refine AllReadyH.cons rfl (fun K hK => ?_) AllReadyH.nil
          have hcell := (HL27.out.cell y).trans hv
          go_simp
          refine hK.out _ _ trivial (fun hHeld2 => ?_)
          clear hK K
          try simp only [List.getElem_toArray, List.getElem_cons_succ, List.getElem_cons_zero, Act.put, List.setIfInBounds_toArray, List.set_cons_zero, List.set_cons_succ]
          refine wpAnyH_ready (rs := [15]) (by kernel_rfl) (by simp) ?_
          refine AllReadyH.cons rfl (fun K hK => ?_) AllReadyH.nil
          go_simp
          refine hK.out _ _ trivial (fun hHeld2 => ?_)
          clear hK K
          try simp only [List.getElem_toArray, List.getElem_cons_succ, List.getElem_cons_zero, Act.put, List.setIfInBounds_toArray, List.set_cons_zero, List.set_cons_succ]
          have D28 := hide (D25.out.alloc (.cells #[.int .i64 v] 2))
          have M29 := hide (M26.out.alloc (.cells #[.int .i64 v] 2))
          refine wpAnyH_ready (rs := [16]) (by kernel_rfl) (by simp) ?_
          refine AllReadyH.cons rfl (fun K hK => ?_) AllReadyH.nil
          have ox := hide (M29.out.nx x xm)
          (refine step_append_own rfl _ _ rfl w.heap.size rfl (show Own _ w.heap.size _ _ _ _ from ox.out) (lit_rd w5 hv3 hv4) rfl (by omega) (by have := M29.out.len x xm; omega) D28.out.sz ?_; intro gg cc w7 own7 gr7 lie7)
          have D7 := hide (D28.out.row ox.out (Nat.le_refl _) gr7)
          have R7 := hide (M29.out.row.keepG gr7 (blocks_ne M29.out.row.1 ox.out.1 (by decide)))
          have Q7 := hide (M29.out.others hxk gr7)
          refine hK.out _ _ trivial (fun hHeld2 => ?_)
          clear hK K
          try simp only [List.getElem_toArray, List.getElem_cons_succ, List.getElem_cons_zero, Act.put, List.setIfInBounds_toArray, List.set_cons_zero, List.set_cons_succ]
          refine wpAnyH_take (i := 17) (v := ?va21) rfl (by kernel_rfl) (by kernel_rfl) (by kernel_rfl) (fun _ _ _ h => h) (Or.inl ⟨by rfl, ?hya21⟩) (by assumption) ?rest21
          case hya21 => (intro wz hSw; (try dsimp only at hSw); go_simp; all_goals with_reducible rfl)
          try simp only [List.getElem_toArray, List.getElem_cons_succ, List.getElem_cons_zero, Act.put, List.setIfInBounds_toArray, List.set_cons_zero, List.set_cons_succ]
          refine wpAnyH_take (i := 18) (v := ?va22) rfl (by kernel_rfl) (by kernel_rfl) (by kernel_rfl) (fun _ _ _ h => h) (Or.inl ⟨by rfl, ?hya22⟩) (by assumption) ?rest22
          case hya22 => (intro wz hSw; (try dsimp only at hSw); go_simp; all_goals with_reducible rfl)
          try simp only [List.getElem_toArray, List.getElem_cons_succ, List.getElem_cons_zero, Act.put, List.setIfInBounds_toArray, List.set_cons_zero, List.set_cons_succ]
          refine wpAnyH_ready (rs := [19]) (by kernel_rfl) (by simp) ?_
          refine AllReadyH.cons rfl (fun K hK => ?_) AllReadyH.nil
          have e9 := cellR R7.out hxk
          have f9 := R7.out.frozen (k * 3 + 2)
          go_simp
          refine hK.out _ _ trivial (fun hHeld2 => ?_)
          clear hK K
          try simp only [List.getElem_toArray, List.getElem_cons_succ, List.getElem_cons_zero, Act.put, List.setIfInBounds_toArray, List.set_cons_zero, List.set_cons_succ]
          refine wpAnyH_done (by kernel_rfl) ?_ _
          go_wp2
          go_ret
          have P7 := hide (R7.out.put1 (x' := ⟨x.rd, x.sl, some ⟨gg, 0, none⟩, x.n + 1, cc, x.nx ++ [v]⟩) hxk 2 (by omega) (.slice (some ⟨gg, 0, none⟩) (x.n + 1) cc) rfl)
          have K7 := TyK.set (T := 2) R7.out.1 (by decide) (k * 3 + 2) (.slice (some ⟨gg, 0, none⟩) (x.n + 1) cc)
          exact ⟨_, m, c', _, rfl, by omega, ⟨_, P7.out.rd, P7.out.hi, setRd Q7.out ⟨K7.row (by simp) own7.1, own7.2⟩ K7 (by simp), rfl⟩, (D7.out.set g0 _ _).s, (D7.out.set g0 _ _).gr⟩
        · have hcell := (HL27.out.cell y).trans hv
          go_simp
          refine hK.out _ _ trivial (fun hHeld2 => ?_)
          clear hK K
          try simp only [List.getElem_toArray, List.getElem_cons_succ, List.getElem_cons_zero, Act.put, List.setIfInBounds_toArray, List.set_cons_zero, List.set_cons_succ]
          refine wpAnyH_ready (rs := [6, 15]) (by kernel_rfl) (by simp) ?_
          refine AllReadyH.cons rfl (fun K hK => ?_) (AllReadyH.cons rfl (fun K hK => ?_) AllReadyH.nil)
          · have e2 := cell2 M26.out hxk
            go_simp
            refine hK.out _ _ trivial (fun hHeld2 => ?_)
            clear hK K
            try simp only [List.getElem_toArray, List.getElem_cons_succ, List.getElem_cons_zero, Act.put, List.setIfInBounds_toArray, List.set_cons_zero, List.set_cons_succ]
            refine wpAnyH_ready (rs := [15]) (by kernel_rfl) (by simp) ?_
            refine AllReadyH.cons rfl (fun K hK => ?_) AllReadyH.nil
            go_simp
            refine hK.out _ _ trivial (fun hHeld2 => ?_)
            clear hK K
            try simp only [List.getElem_toArray, List.getElem_cons_succ, List.getElem_cons_zero, Act.put, List.setIfInBounds_toArray, List.set_cons_zero, List.set_cons_succ]
            have D30 := hide (D25.out.alloc (.cells #[.int .i64 v] 2))
            have M31 := hide (M26.out.alloc (.cells #[.int .i64 v] 2))
            refine wpAnyH_ready (rs := [16]) (by kernel_rfl) (by simp) ?_
            refine AllReadyH.cons rfl (fun K hK => ?_) AllReadyH.nil
            have ox := hide (M31.out.nx x xm)
            (refine step_append_own rfl _ _ rfl w.heap.size rfl (show Own _ w.heap.size _ _ _ _ from ox.out) (lit_rd w5 hv3 hv4) rfl (by omega) (by have := M31.out.len x xm; omega) D30.out.sz ?_; intro gg cc w7 own7 gr7 lie7)
            have D7 := hide (D30.out.row ox.out (Nat.le_refl _) gr7)
            have R7 := hide (M31.out.row.keepG gr7 (blocks_ne M31.out.row.1 ox.out.1 (by decide)))
            have Q7 := hide (M31.out.others hxk gr7)
            refine hK.out _ _ trivial (fun hHeld2 => ?_)
            clear hK K
            try simp only [List.getElem_toArray, List.getElem_cons_succ, List.getElem_cons_zero, Act.put, List.setIfInBounds_toArray, List.set_cons_zero, List.set_cons_succ]
            refine wpAnyH_take (i := 17) (v := ?va23) rfl (by kernel_rfl) (by kernel_rfl) (by kernel_rfl) (fun _ _ _ h => h) (Or.inl ⟨by rfl, ?hya23⟩) (by assumption) ?rest23
            case hya23 => (intro wz hSw; (try dsimp only at hSw); go_simp; all_goals with_reducible rfl)
            try simp only [List.getElem_toArray, List.getElem_cons_succ, List.getElem_cons_zero, Act.put, List.setIfInBounds_toArray, List.set_cons_zero, List.set_cons_succ]
            refine wpAnyH_take (i := 18) (v := ?va24) rfl (by kernel_rfl) (by kernel_rfl) (by kernel_rfl) (fun _ _ _ h => h) (Or.inl ⟨by rfl, ?hya24⟩) (by assumption) ?rest24
            case hya24 => (intro wz hSw; (try dsimp only at hSw); go_simp; all_goals with_reducible rfl)
            try simp only [List.getElem_toArray, List.getElem_cons_succ, List.getElem_cons_zero, Act.put, List.setIfInBounds_toArray, List.set_cons_zero, List.set_cons_succ]
            refine wpAnyH_ready (rs := [19]) (by kernel_rfl) (by simp) ?_
            refine AllReadyH.cons rfl (fun K hK => ?_) AllReadyH.nil
            have e9 := cellR R7.out hxk
            have f9 := R7.out.frozen (k * 3 + 2)
            go_simp
            refine hK.out _ _ trivial (fun hHeld2 => ?_)
            clear hK K
            try simp only [List.getElem_toArray, List.getElem_cons_succ, List.getElem_cons_zero, Act.put, List.setIfInBounds_toArray, List.set_cons_zero, List.set_cons_succ]
            refine wpAnyH_done (by kernel_rfl) ?_ _
            go_wp2
            go_ret
            have P7 := hide (R7.out.put1 (x' := ⟨x.rd, x.sl, some ⟨gg, 0, none⟩, x.n + 1, cc, x.nx ++ [v]⟩) hxk 2 (by omega) (.slice (some ⟨gg, 0, none⟩) (x.n + 1) cc) rfl)
            have K7 := TyK.set (T := 2) R7.out.1 (by decide) (k * 3 + 2) (.slice (some ⟨gg, 0, none⟩) (x.n + 1) cc)
            exact ⟨_, m, c', _, rfl, by omega, ⟨_, P7.out.rd, P7.out.hi, setRd Q7.out ⟨K7.row (by simp) own7.1, own7.2⟩ K7 (by simp), rfl⟩, (D7.out.set g0 _ _).s, (D7.out.set g0 _ _).gr⟩
          · go_simp
            refine hK.out _ _ trivial (fun hHeld2 => ?_)
            clear hK K
            try simp only [List.getElem_toArray, List.getElem_cons_succ, List.getElem_cons_zero, Act.put, List.setIfInBounds_toArray, List.set_cons_zero, List.set_cons_succ]
            have D32 := hide (D25.out.alloc (.cells #[.int .i64 v] 2))
            have M33 := hide (M26.out.alloc (.cells #[.int .i64 v] 2))
            refine wpAnyH_ready (rs := [6]) (by kernel_rfl) (by simp) ?_
            refine AllReadyH.cons rfl (fun K hK => ?_) AllReadyH.nil
            have e2 := cell2 M33.out hxk
            go_simp
            refine hK.out _ _ trivial (fun hHeld2 => ?_)
            clear hK K
            try simp only [List.getElem_toArray, List.getElem_cons_succ, List.getElem_cons_zero, Act.put, List.setIfInBounds_toArray, List.set_cons_zero, List.set_cons_succ]
            refine wpAnyH_ready (rs := [16]) (by kernel_rfl) (by simp) ?_
            refine AllReadyH.cons rfl (fun K hK => ?_) AllReadyH.nil
            have ox := hide (M33.out.nx x xm)
            (refine step_append_own rfl _ _ rfl w.heap.size rfl (show Own _ w.heap.size _ _ _ _ from ox.out) (lit_rd w5 hv3 hv4) rfl (by omega) (by have := M33.out.len x xm; omega) D32.out.sz ?_; intro gg cc w7 own7 gr7 lie7)
            have D7 := hide (D32.out.row ox.out (Nat.le_refl _) gr7)
            have R7 := hide (M33.out.row.keepG gr7 (blocks_ne M33.out.row.1 ox.out.1 (by decide)))
            have Q7 := hide (M33.out.others hxk gr7)
            refine hK.out _ _ trivial (fun hHeld2 => ?_)
            clear hK K
            try simp only [List.getElem_toArray, List.getElem_cons_succ, List.getElem_cons_zero, Act.put, List.setIfInBounds_toArray, List.set_cons_zero, List.set_cons_succ]
            refine wpAnyH_take (i := 17) (v := ?va25) rfl (by kernel_rfl) (by kernel_rfl) (by kernel_rfl) (fun _ _ _ h => h) (Or.inl ⟨by rfl, ?hya25⟩) (by assumption) ?rest25
            case hya25 => (intro wz hSw; (try dsimp only at hSw); go_simp; all_goals with_reducible rfl)
            try simp only [List.getElem_toArray, List.getElem_cons_succ, List.getElem_cons_zero, Act.put, List.setIfInBounds_toArray, List.set_cons_zero, List.set_cons_succ]
            refine wpAnyH_take (i := 18) (v := ?va26) rfl (by kernel_rfl) (by kernel_rfl) (by kernel_rfl) (fun _ _ _ h => h) (Or.inl ⟨by rfl, ?hya26⟩) (by assumption) ?rest26
            case hya26 => (intro wz hSw; (try dsimp only at hSw); go_simp; all_goals with_reducible rfl)
            try simp only [List.getElem_toArray, List.getElem_cons_succ, List.getElem_cons_zero, Act.put, List.setIfInBounds_toArray, List.set_cons_zero, List.set_cons_succ]
            refine wpAnyH_ready (rs := [19]) (by kernel_rfl) (by simp) ?_
            refine AllReadyH.cons rfl (fun K hK => ?_) AllReadyH.nil
            have e9 := cellR R7.out hxk
            have f9 := R7.out.frozen (k * 3 + 2)
            go_simp
            refine hK.out _ _ trivial (fun hHeld2 => ?_)
            clear hK K
            try simp only [List.getElem_toArray, List.getElem_cons_succ, List.getElem_cons_zero, Act.put, List.setIfInBounds_toArray, List.set_cons_zero, List.set_cons_succ]
            refine wpAnyH_done (by kernel_rfl) ?_ _
            go_wp2
            go_ret
            have P7 := hide (R7.out.put1 (x' := ⟨x.rd, x.sl, some ⟨gg, 0, none⟩, x.n + 1, cc, x.nx ++ [v]⟩) hxk 2 (by omega) (.slice (some ⟨gg, 0, none⟩) (x.n + 1) cc) rfl)
            have K7 := TyK.set (T := 2) R7.out.1 (by decide) (k * 3 + 2) (.slice (some ⟨gg, 0, none⟩) (x.n + 1) cc)
            exact ⟨_, m, c', _, rfl, by omega, ⟨_, P7.out.rd, P7.out.hi, setRd Q7.out ⟨K7.row (by simp) own7.1, own7.2⟩ K7 (by simp), rfl⟩, (D7.out.set g0 _ _).s, (D7.out.set g0 _ _).gr⟩
    · go_simp
      (go_at_call 47; refine (next_d _ _ _ _ _ _ _ (D3.out.drew).s).mono ?_; rintro ee w5 ⟨y, rfl, y0, y1, h1, g1⟩; obtain ⟨y, rfl⟩ := Int.eq_ofNat_of_zero_le y0; have ym : y < 3 := by (have := y1 (by omega); omega))
      have D34 := hide (D3.out.drew.step h1 g1)
      have M35 := hide ((M3.out.below (Below.refl _ _).drew).next D3.out.drew.s g1)
      have ym2 : (y : Int) < 3 := by omega
      clear y1 h1 g1
      go_wp2_with fail
      refine hK.out _ _ trivial (fun hHeld2 => ?_)
      clear hK K
      try simp only [List.getElem_toArray, List.getElem_cons_succ, List.getElem_cons_zero, Act.put, List.setIfInBounds_toArray, List.set_cons_zero, List.set_cons_succ]
      refine wpAnyH_ready (rs := [6, 10]) (by kernel_rfl) (by simp) ?_
      refine AllReadyH.cons rfl (fun K hK => ?_) (AllReadyH.cons rfl (fun K hK => ?_) AllReadyH.nil)
      · have e2 := cell2 M35.out hxk
        go_simp
        refine hK.out _ _ trivial (fun hHeld2 => ?_)
        clear hK K
        try simp only [List.getElem_toArray, List.getElem_cons_succ, List.getElem_cons_zero, Act.put, List.setIfInBounds_toArray, List.set_cons_zero, List.set_cons_succ]
        refine wpAnyH_ready (rs := [10]) (by kernel_rfl) (by simp) ?_
        refine AllReadyH.cons rfl (fun K hK => ?_) AllReadyH.nil
        go_simp
        refine hK.out _ _ trivial (fun hHeld2 => ?_)
        clear hK K
        try simp only [List.getElem_toArray, List.getElem_cons_succ, List.getElem_cons_zero, Act.put, List.setIfInBounds_toArray, List.set_cons_zero, List.set_cons_succ]
        have D37 := hide (D34.out.alloc (.cells #[.int .i64 (k : Int), .int .i64 (m : Int), .int .i64 0] 2))
        have M38 := hide (M35.out.alloc (.cells #[.int .i64 (k : Int), .int .i64 (m : Int), .int .i64 0] 2))
        have HL39 := hide (show At (w5.alloc (.cells #[.int .i64 (k : Int), .int .i64 (m : Int), .int .i64 0] 2)) w5.heap.size 2 #[.int .i64 (k : Int), .int .i64 (m : Int), .int .i64 0] from At.fresh w5 _ _)
        obtain ⟨v, hv, hv3, hv4⟩ : ∃ v : Int, (#[.int .i64 (k : Int), .int .i64 (m : Int), .int .i64 0] : Array Value)[y]? = some (.int .i64 v) ∧ -9223372036854775808 ≤ v ∧ v ≤ 9223372036854775807 := by
          have hy : y = 0 ∨ y = 1 ∨ y = 2 := by omega
          clear y0 ym2
          rcases hy with rfl | rfl | rfl
          · exact ⟨_, rfl, by omega, by omega⟩
          · exact ⟨_, rfl, by omega, by omega⟩
          · exact ⟨_, rfl, by omega, by omega⟩
        refine wpAnyH_take (i := 13) (v := ?va27) rfl (by kernel_rfl) (by kernel_rfl) (by kernel_rfl) (fun _ _ _ h => h) (Or.inl ⟨by rfl, ?hya27⟩) (by assumption) ?rest27
        case hya27 => (intro wz hSw; (try dsimp only at hSw); go_simp; all_goals with_reducible rfl)
        try simp only [List.getElem_toArray, List.getElem_cons_succ, List.getElem_cons_zero, Act.put, List.setIfInBounds_toArray, List.set_cons_zero, List.set_cons_succ]
        refine wpAnyH_ready (rs := [14]) (by kernel_rfl) (by simp) ?_
        refine AllReadyH.cons rfl (fun K hK => ?_) AllReadyH.nil
        have hcell := (HL39.out.cell y).trans hv
        go_simp
        refine hK.out _ _ trivial (fun hHeld2 => ?_)
        clear hK K
        try simp only [List.getElem_toArray, List.getElem_cons_succ, List.getElem_cons_zero, Act.put, List.setIfInBounds_toArray, List.set_cons_zero, List.set_cons_succ]
        refine wpAnyH_ready (rs := [15]) (by kernel_rfl) (by simp) ?_
        refine AllReadyH.cons rfl (fun K hK => ?_) AllReadyH.nil
        go_simp
        refine hK.out _ _ trivial (fun hHeld2 => ?_)
        clear hK K
        try simp only [List.getElem_toArray, List.getElem_cons_succ, List.getElem_cons_zero, Act.put, List.setIfInBounds_toArray, List.set_cons_zero, List.set_cons_succ]
        have D40 := hide (D37.out.alloc (.cells #[.int .i64 v] 2))
        have M41 := hide (M38.out.alloc (.cells #[.int .i64 v] 2))
        refine wpAnyH_ready (rs := [16]) (by kernel_rfl) (by simp) ?_
        refine AllReadyH.cons rfl (fun K hK => ?_) AllReadyH.nil
        have ox := hide (M41.out.nx x xm)
        (refine step_append_own rfl _ _ rfl w.heap.size rfl (show Own _ w.heap.size _ _ _ _ from ox.out) (lit_rd2 w5 (.cells #[.int .i64 (k : Int), .int .i64 (m : Int), .int .i64 0] 2) hv3 hv4) rfl (by omega) (by have := M41.out.len x xm; omega) D40.out.sz ?_; intro gg cc w7 own7 gr7 lie7)
        have D7 := hide (D40.out.row ox.out (Nat.le_refl _) gr7)
        have R7 := hide (M41.out.row.keepG gr7 (blocks_ne M41.out.row.1 ox.out.1 (by decide)))
        have Q7 := hide (M41.out.others hxk gr7)
        refine hK.out _ _ trivial (fun hHeld2 => ?_)
        clear hK K
        try simp only [List.getElem_toArray, List.getElem_cons_succ, List.getElem_cons_zero, Act.put, List.setIfInBounds_toArray, List.set_cons_zero, List.set_cons_succ]
        refine wpAnyH_take (i := 17) (v := ?va28) rfl (by kernel_rfl) (by kernel_rfl) (by kernel_rfl) (fun _ _ _ h => h) (Or.inl ⟨by rfl, ?hya28⟩) (by assumption) ?rest28
        case hya28 => (intro wz hSw; (try dsimp only at hSw); go_simp; all_goals with_reducible rfl)
        try simp only [List.getElem_toArray, List.getElem_cons_succ, List.getElem_cons_zero, Act.put, List.setIfInBounds_toArray, List.set_cons_zero, List.set_cons_succ]
        refine wpAnyH_take (i := 18) (v := ?va29) rfl (by kernel_rfl) (by kernel_rfl) (by kernel_rfl) (fun _ _ _ h => h) (Or.inl ⟨by rfl, ?hya29⟩) (by assumption) ?rest29
        case hya29 => (intro wz hSw; (try dsimp only at hSw); go_simp; all_goals with_reducible rfl)
        try simp only [List.getElem_toArray, List.getElem_cons_succ, List.getElem_cons_zero, Act.put, List.setIfInBounds_toArray, List.set_cons_zero, List.set_cons_succ]
        refine wpAnyH_ready (rs := [19]) (by kernel_rfl) (by simp) ?_
        refine AllReadyH.cons rfl (fun K hK => ?_) AllReadyH.nil
        have e9 := cellR R7.out hxk
        have f9 := R7.out.frozen (k * 3 + 2)
        go_simp
        refine hK.out _ _ trivial (fun hHeld2 => ?_)
        clear hK K
        try simp only [List.getElem_toArray, List.getElem_cons_succ, List.getElem_cons_zero, Act.put, List.setIfInBounds_toArray, List.set_cons_zero, List.set_cons_succ]
        refine wpAnyH_done (by kernel_rfl) ?_ _
        go_wp2
        go_ret
        have P7 := hide (R7.out.put1 (x' := ⟨x.rd, x.sl, some ⟨gg, 0, none⟩, x.n + 1, cc, x.nx ++ [v]⟩) hxk 2 (by omega) (.slice (some ⟨gg, 0, none⟩) (x.n + 1) cc) rfl)
        have K7 := TyK.set (T := 2) R7.out.1 (by decide) (k * 3 + 2) (.slice (some ⟨gg, 0, none⟩) (x.n + 1) cc)
        exact ⟨_, m, c', _, rfl, by omega, ⟨_, P7.out.rd, P7.out.hi, setRd Q7.out ⟨K7.row (by simp) own7.1, own7.2⟩ K7 (by simp), rfl⟩, (D7.out.set g0 _ _).s, (D7.out.set g0 _ _).gr⟩
      · go_simp
        refine hK.out _ _ trivial (fun hHeld2 => ?_)
        clear hK K
        try simp only [List.getElem_toArray, List.getElem_cons_succ, List.getElem_cons_zero, Act.put, List.setIfInBounds_toArray, List.set_cons_zero, List.set_cons_succ]
        have D42 := hide (D34.out.alloc (.cells #[.int .i64 (k : Int), .int .i64 (m : Int), .int .i64 0] 2))
        have M43 := hide (M35.out.alloc (.cells #[.int .i64 (k : Int), .int .i64 (m : Int), .int .i64 0] 2))
        have HL44 := hide (show At (w5.alloc (.cells #[.int .i64 (k : Int), .int .i64 (m : Int), .int .i64 0] 2)) w5.heap.size 2 #[.int .i64 (k : Int), .int .i64 (m : Int), .int .i64 0] from At.fresh w5 _ _)
        obtain ⟨v, hv, hv3, hv4⟩ : ∃ v : Int, (#[.int .i64 (k : Int), .int .i64 (m : Int), .int .i64 0] : Array Value)[y]? = some (.int .i64 v) ∧ -9223372036854775808 ≤ v ∧ v ≤ 9223372036854775807 := by
          have hy : y = 0 ∨ y = 1 ∨ y = 2 := by omega
          clear y0 ym2
          rcases hy with rfl | rfl | rfl
          · exact ⟨_, rfl, by omega, by omega⟩
          · exact ⟨_, rfl, by omega, by omega⟩
          · exact ⟨_, rfl, by omega, by omega⟩
        refine wpAnyH_take (i := 13) (v := ?va30) rfl (by kernel_rfl) (by kernel_rfl) (by kernel_rfl) (fun _ _ _ h => h) (Or.inl ⟨by rfl, ?hya30⟩) (by assumption) ?rest30
        case hya30 => (intro wz hSw; (try dsimp only at hSw); go_simp; all_goals with_reducible rfl)
        try simp only [List.getElem_toArray, List.getElem_cons_succ, List.getElem_cons_zero, Act.put, List.setIfInBounds_toArray, List.set_cons_zero, List.set_cons_succ]
        refine wpAnyH_ready (rs := [6, 14]) (by kernel_rfl) (by simp) ?_
        refine AllReadyH.cons rfl (fun K hK => ?_) (AllReadyH.cons rfl (fun K hK => ?_) AllReadyH.nil)
        · have e2 := cell2 M43.out hxk
          go_simp
          refine hK.out _ _ trivial (fun hHeld2 => ?_)
          clear hK K
          try simp only [List.getElem_toArray, List.getElem_cons_succ, List.getElem_cons_zero, Act.put, List.setIfInBounds_toArray, List.set_cons_zero, List.set_cons_succ]
          refine wpAnyH_ready (rs := [14]) (by kernel_rfl) (by simp) ?_
          refine AllReadyH.cons rfl (fun K hK => ?_) AllReadyH.nil
          have hcell := (HL44.out.cell y).trans hv
          go_simp
          refine hK.out _ _ trivial (fun hHeld2 => ?_)
          clear hK K
          try simp only [List.getElem_toArray, List.getElem_cons_succ, List.getElem_cons_zero, Act.put, List.setIfInBounds_toArray, List.set_cons_zero, List.set_cons_succ]
          refine wpAnyH_ready (rs := [15]) (by kernel_rfl) (by simp) ?_
          refine AllReadyH.cons rfl (fun K hK => ?_) AllReadyH.nil
          go_simp
          refine hK.out _ _ trivial (fun hHeld2 => ?_)
          clear hK K
          try simp only [List.getElem_toArray, List.getElem_cons_succ, List.getElem_cons_zero, Act.put, List.setIfInBounds_toArray, List.set_cons_zero, List.set_cons_succ]
          have D45 := hide (D42.out.alloc (.cells #[.int .i64 v] 2))
          have M46 := hide (M43.out.alloc (.cells #[.int .i64 v] 2))
          refine wpAnyH_ready (rs := [16]) (by kernel_rfl) (by simp) ?_
          refine AllReadyH.cons rfl (fun K hK => ?_) AllReadyH.nil
          have ox := hide (M46.out.nx x xm)
          (refine step_append_own rfl _ _ rfl w.heap.size rfl (show Own _ w.heap.size _ _ _ _ from ox.out) (lit_rd2 w5 (.cells #[.int .i64 (k : Int), .int .i64 (m : Int), .int .i64 0] 2) hv3 hv4) rfl (by omega) (by have := M46.out.len x xm; omega) D45.out.sz ?_; intro gg cc w7 own7 gr7 lie7)
          have D7 := hide (D45.out.row ox.out (Nat.le_refl _) gr7)
          have R7 := hide (M46.out.row.keepG gr7 (blocks_ne M46.out.row.1 ox.out.1 (by decide)))
          have Q7 := hide (M46.out.others hxk gr7)
          refine hK.out _ _ trivial (fun hHeld2 => ?_)
          clear hK K
          try simp only [List.getElem_toArray, List.getElem_cons_succ, List.getElem_cons_zero, Act.put, List.setIfInBounds_toArray, List.set_cons_zero, List.set_cons_succ]
          refine wpAnyH_take (i := 17) (v := ?va31) rfl (by kernel_rfl) (by kernel_rfl) (by kernel_rfl) (fun _ _ _ h => h) (Or.inl ⟨by rfl, ?hya31⟩) (by assumption) ?rest31
          case hya31 => (intro wz hSw; (try dsimp only at hSw); go_simp; all_goals with_reducible rfl)
          try simp only [List.getElem_toArray, List.getElem_cons_succ, List.getElem_cons_zero, Act.put, List.setIfInBounds_toArray, List.set_cons_zero, List.set_cons_succ]
          refine wpAnyH_take (i := 18) (v := ?va32) rfl (by kernel_rfl) (by kernel_rfl) (by kernel_rfl) (fun _ _ _ h => h) (Or.inl ⟨by rfl, ?hya32⟩) (by assumption) ?rest32
          case hya32 => (intro wz hSw; (try dsimp only at hSw); go_simp; all_goals with_reducible rfl)
          try simp only [List.getElem_toArray, List.getElem_cons_succ, List.getElem_cons_zero, Act.put, List.setIfInBounds_toArray, List.set_cons_zero, List.set_cons_succ]
          refine wpAnyH_ready (rs := [19]) (by kernel_rfl) (by simp) ?_
          refine AllReadyH.cons rfl (fun K hK => ?_) AllReadyH.nil
          have e9 := cellR R7.out hxk
          have f9 := R7.out.frozen (k * 3 + 2)
          go_simp
          refine hK.out _ _ trivial (fun hHeld2 => ?_)
          clear hK K
          try simp only [List.getElem_toArray, List.getElem_cons_succ, List.getElem_cons_zero, Act.put, List.setIfInBounds_toArray, List.set_cons_zero, List.set_cons_succ]
          refine wpAnyH_done (by kernel_rfl) ?_ _
          go_wp2
          go_ret
          have P7 := hide (R7.out.put1 (x' := ⟨x.rd, x.sl, some ⟨gg, 0, none⟩, x.n + 1, cc, x.nx ++ [v]⟩) hxk 2 (by omega) (.slice (some ⟨gg, 0, none⟩) (x.n + 1) cc) rfl)
          have K7 := TyK.set (T := 2) R7.out.1 (by decide) (k * 3 + 2) (.slice (some ⟨gg, 0, none⟩) (x.n + 1) cc)
          exact ⟨_, m, c', _, rfl, by omega, ⟨_, P7.out.rd, P7.out.hi, setRd Q7.out ⟨K7.row (by simp) own7.1, own7.2⟩ K7 (by simp), rfl⟩, (D7.out.set g0 _ _).s, (D7.out.set g0 _ _).gr⟩
        · have hcell := (HL44.out.cell y).trans hv
          go_simp
          refine hK.out _ _ trivial (fun hHeld2 => ?_)
          clear hK K
          try simp only [List.getElem_toArray, List.getElem_cons_succ, List.getElem_cons_zero, Act.put, List.setIfInBounds_toArray, List.set_cons_zero, List.set_cons_succ]
          refine wpAnyH_ready (rs := [6, 15]) (by kernel_rfl) (by simp) ?_
          refine AllReadyH.cons rfl (fun K hK => ?_) (AllReadyH.cons rfl (fun K hK => ?_) AllReadyH.nil)
          · have e2 := cell2 M43.out hxk
            go_simp
            refine hK.out _ _ trivial (fun hHeld2 => ?_)
            clear hK K
            try simp only [List.getElem_toArray, List.getElem_cons_succ, List.getElem_cons_zero, Act.put, List.setIfInBounds_toArray, List.set_cons_zero, List.set_cons_succ]
            refine wpAnyH_ready (rs := [15]) (by kernel_rfl) (by simp) ?_
            refine AllReadyH.cons rfl (fun K hK => ?_) AllReadyH.nil
            go_simp
            refine hK.out _ _ trivial (fun hHeld2 => ?_)
            clear hK K
            try simp only [List.getElem_toArray, List.getElem_cons_succ, List.getElem_cons_zero, Act.put, List.setIfInBounds_toArray, List.set_cons_zero, List.set_cons_succ]
            have D47 := hide (D42.out.alloc (.cells #[.int .i64 v] 2))
            have M48 := hide (M43.out.alloc (.cells #[.int .i64 v] 2))
            refine wpAnyH_ready (rs := [16]) (by kernel_rfl) (by simp) ?_
            refine AllReadyH.cons rfl (fun K hK => ?_) AllReadyH.nil
            have ox := hide (M48.out.nx x xm)
            (refine step_append_own rfl _ _ rfl w.heap.size rfl (show Own _ w.heap.size _ _ _ _ from ox.out) (lit_rd2 w5 (.cells #[.int .i64 (k : Int), .int .i64 (m : Int), .int .i64 0] 2) hv3 hv4) rfl (by omega) (by have := M48.out.len x xm; omega) D47.out.sz ?_; intro gg cc w7 own7 gr7 lie7)
            have D7 := hide (D47.out.row ox.out (Nat.le_refl _) gr7)
            have R7 := hide (M48.out.row.keepG gr7 (blocks_ne M48.out.row.1 ox.out.1 (by decide)))
            have Q7 := hide (M48.out.others hxk gr7)
            refine hK.out _ _ trivial (fun hHeld2 => ?_)
            clear hK K
            try simp only [List.getElem_toArray, List.getElem_cons_succ, List.getElem_cons_zero, Act.put, List.setIfInBounds_toArray, List.set_cons_zero, List.set_cons_succ]
            refine wpAnyH_take (i := 17) (v := ?va33) rfl (by kernel_rfl) (by kernel_rfl) (by kernel_rfl) (fun _ _ _ h => h) (Or.inl ⟨by rfl, ?hya33⟩) (by assumption) ?rest33
            case hya33 => (intro wz hSw; (try dsimp only at hSw); go_simp; all_goals with_reducible rfl)
            try simp only [List.getElem_toArray, List.getElem_cons_succ, List.getElem_cons_zero, Act.put, List.setIfInBounds_toArray, List.set_cons_zero, List.set_cons_succ]
            refine wpAnyH_take (i := 18) (v := ?va34) rfl (by kernel_rfl) (by kernel_rfl) (by kernel_rfl) (fun _ _ _ h => h) (Or.inl ⟨by rfl, ?hya34⟩) (by assumption) ?rest34
            case hya34 => (intro wz hSw; (try dsimp only at hSw); go_simp; all_goals with_reducible rfl)
            try simp only [List.getElem_toArray, List.getElem_cons_succ, List.getElem_cons_zero, Act.put, List.setIfInBounds_toArray, List.set_cons_zero, List.set_cons_succ]
            refine wpAnyH_ready (rs := [19]) (by kernel_rfl) (by simp) ?_
            refine AllReadyH.cons rfl (fun K hK => ?_) AllReadyH.nil
            have e9 := cellR R7.out hxk
            have f9 := R7.out.frozen (k * 3 + 2)
            go_simp
            refine hK.out _ _ trivial (fun hHeld2 => ?_)
            clear hK K
            try simp only [List.getElem_toArray, List.getElem_cons_succ, List.getElem_cons_zero, Act.put, List.setIfInBounds_toArray, List.set_cons_zero, List.set_cons_succ]
            refine wpAnyH_done (by kernel_rfl) ?_ _
            go_wp2
            go_ret
            have P7 := hide (R7.out.put1 (x' := ⟨x.rd, x.sl, some ⟨gg, 0, none⟩, x.n + 1, cc, x.nx ++ [v]⟩) hxk 2 (by omega) (.slice (some ⟨gg, 0, none⟩) (x.n + 1) cc) rfl)
            have K7 := TyK.set (T := 2) R7.out.1 (by decide) (k * 3 + 2) (.slice (some ⟨gg, 0, none⟩) (x.n + 1) cc)
            exact ⟨_, m, c', _, rfl, by omega, ⟨_, P7.out.rd, P7.out.hi, setRd Q7.out ⟨K7.row (by simp) own7.1, own7.2⟩ K7 (by simp), rfl⟩, (D7.out.set g0 _ _).s, (D7.out.set g0 _ _).gr⟩
          · go_simp
            refine hK.out _ _ trivial (fun hHeld2 => ?_)
            clear hK K
            try simp only [List.getElem_toArray, List.getElem_cons_succ, List.getElem_cons_zero, Act.put, List.setIfInBounds_toArray, List.set_cons_zero, List.set_cons_succ]
            have D49 := hide (D42.out.alloc (.cells #[.int .i64 v] 2))
            have M50 := hide (M43.out.alloc (.cells #[.int .i64 v] 2))
            refine wpAnyH_ready (rs := [6]) (by kernel_rfl) (by simp) ?_
            refine AllReadyH.cons rfl (fun K hK => ?_) AllReadyH.nil
            have e2 := cell2 M50.out hxk
            go_simp
            refine hK.out _ _ trivial (fun hHeld2 => ?_)
            clear hK K
            try simp only [List.getElem_toArray, List.getElem_cons_succ, List.getElem_cons_zero, Act.put, List.setIfInBounds_toArray, List.set_cons_zero, List.set_cons_succ]
            refine wpAnyH_ready (rs := [16]) (by kernel_rfl) (by simp) ?_
            refine AllReadyH.cons rfl (fun K hK => ?_) AllReadyH.nil
            have ox := hide (M50.out.nx x xm)
            (refine step_append_own rfl _ _ rfl w.heap.size rfl (show Own _ w.heap.size _ _ _ _ from ox.out) (lit_rd2 w5 (.cells #[.int .i64 (k : Int), .int .i64 (m : Int), .int .i64 0] 2) hv3 hv4) rfl (by omega) (by have := M50.out.len x xm; omega) D49.out.sz ?_; intro gg cc w7 own7 gr7 lie7)
            have D7 := hide (D49.out.row ox.out (Nat.le_refl _) gr7)
            have R7 := hide (M50.out.row.keepG gr7 (blocks_ne M50.out.row.1 ox.out.1 (by decide)))
            have Q7 := hide (M50.out.others hxk gr7)
            refine hK.out _ _ trivial (fun hHeld2 => ?_)
            clear hK K
            try simp only [List.getElem_toArray, List.getElem_cons_succ, List.getElem_cons_zero, Act.put, List.setIfInBounds_toArray, List.set_cons_zero, List.set_cons_succ]
            refine wpAnyH_take (i := 17) (v := ?va35) rfl (by kernel_rfl) (by kernel_rfl) (by kernel_rfl) (fun _ _ _ h => h) (Or.inl ⟨by rfl, ?hya35⟩) (by assumption) ?rest35
            case hya35 => (intro wz hSw; (try dsimp only at hSw); go_simp; all_goals with_reducible rfl)
            try simp only [List.getElem_toArray, List.getElem_cons_succ, List.getElem_cons_zero, Act.put, List.setIfInBounds_toArray, List.set_cons_zero, List.set_cons_succ]
            refine wpAnyH_take (i := 18) (v := ?va36) rfl (by kernel_rfl) (by kernel_rfl) (by kernel_rfl) (fun _ _ _ h => h) (Or.inl ⟨by rfl, ?hya36⟩) (by assumption) ?rest36
            case hya36 => (intro wz hSw; (try dsimp only at hSw); go_simp; all_goals with_reducible rfl)
            try simp only [List.getElem_toArray, List.getElem_cons_succ, List.getElem_cons_zero, Act.put, List.setIfInBounds_toArray, List.set_cons_zero, List.set_cons_succ]
            refine wpAnyH_ready (rs := [19]) (by kernel_rfl) (by simp) ?_
            refine AllReadyH.cons rfl (fun K hK => ?_) AllReadyH.nil
            have e9 := cellR R7.out hxk
            have f9 := R7.out.frozen (k * 3 + 2)
            go_simp
            refine hK.out _ _ trivial (fun hHeld2 => ?_)
            clear hK K
            try simp only [List.getElem_toArray, List.getElem_cons_succ, List.getElem_cons_zero, Act.put, List.setIfInBounds_toArray, List.set_cons_zero, List.set_cons_succ]
            refine wpAnyH_done (by kernel_rfl) ?_ _
            go_wp2
            go_ret
            have P7 := hide (R7.out.put1 (x' := ⟨x.rd, x.sl, some ⟨gg, 0, none⟩, x.n + 1, cc, x.nx ++ [v]⟩) hxk 2 (by omega) (.slice (some ⟨gg, 0, none⟩) (x.n + 1) cc) rfl)
            have K7 := TyK.set (T := 2) R7.out.1 (by decide) (k * 3 + 2) (.slice (some ⟨gg, 0, none⟩) (x.n + 1) cc)
            exact ⟨_, m, c', _, rfl, by omega, ⟨_, P7.out.rd, P7.out.hi, setRd Q7.out ⟨K7.row (by simp) own7.1, own7.2⟩ K7 (by simp), rfl⟩, (D7.out.set g0 _ _).s, (D7.out.set g0 _ _).gr⟩
  by_cases e3 : z = 3
  · subst e3
    go_wp2
    go_ret
    exact ⟨none, 0, 0, [], rfl, by omega, ⟨[], RdR.nil _, (fun h => absurd h (by omega)), (by intro x hx; cases hx), rfl⟩, D3.out.s, D3.out.gr⟩
  by_cases e4 : z = 4
  · subst e4
    have hmk : ∀ w : World, (Instr.makeSlice 25 (.int .i64 17) (.int .i64 17)).run Tryz.prog w = .ok (.slice (some ⟨w.heap.size, 0, none⟩) 17 17) (w.alloc (.cells (madeCells _ (17 * 3)) 107)) := make_rec (k := 3) Tryz.underlying25 info_mod 17 (by omega) (by omega)
    have OM := hide (OwnR.made (T := 107) (f := Mod.v) (B := w.heap.size) Mod.k (by omega) _ mod0 rfl w3 D3.out.sz (n := 17) (by omega))
    have DM := hide (fun o => D3.out.alloc o)
    go_wp2
    go_ret
    exact ⟨_, 17, 17, _, rfl, by omega, ⟨_, OM.out.rd, OM.out.hi, (by
      intro x hx
      obtain rfl := List.eq_of_mem_replicate hx
      exact ⟨Rd.nil _, fun h => absurd h (by decide)⟩), rfl⟩, (DM.out _).s, (DM.out _).gr⟩
  go_wp2
  go_ret
  exact ⟨_, m, c', _, rfl, by omega, M3.out.rdH, D3.out.s, D3.out.gr⟩
end Go.Proofs.YtdkhldebnpmiiaaGreatDoor
