/- Contracts: the starts and the ends of a node's slots, by the program. -/
import Derived.Test.YtdkhldebnpmiiaaGreatDoorZBkI
import Derived.Test.YtdkhldebnpmiiaaGreatDoorZBkH
namespace Go.Proofs.YtdkhldebnpmiiaaGreatDoor
open Go.RowKit
set_option linter.unusedVariables false
set_option linter.unusedSimpArgs false
section
variable {w w' W0 : World} {B B2 n c n2 c2 G : Nat} {A A2 : Option Addr} {zs zs2 : List Int} {T : TypeId} {X : Array Value}
theorem Own.notAt (h : Own w B A n c zs) (hs : At w G T X) (hT : T ≠ 2) : (Value.slice A n c).ownBlock ≠ some G := by
  rcases h.1.2 with ⟨hv, _⟩ | ⟨g', cap, cur, hv, _, hh, _⟩
  · rw [hv]; simp [Value.ownBlock]
  · rw [hv]
    intro e
    simp [Value.ownBlock] at e
    subst e
    unfold At at hs
    rw [hs] at hh
    simp at hh
    exact hT hh.2
theorem At.keepOwn (hs : At w G T X) (h : Own w B A n c zs) (hT : T ≠ 2) (hg : w.grownBy w' (Value.slice A n c).ownBlock) : At w' G T X := (hg.block G hs.lt (fun e => h.notAt hs hT e.symm)).trans hs
theorem OwnR.keepOwn {α : Type} {f : α → List Value} {k : Nat} {l : List α} (hr : OwnR T f k w B A n c l) (h : Own w B2 A2 n2 c2 zs2) (hT : T ≠ 2) (hg : w.grownBy w' (Value.slice A2 n2 c2).ownBlock) : OwnR T f k w' B A n c l :=
  hr.keepG hg (blocks_ne hr.1 h.1 hT)
/-- two rows that grow side by side, a table that is read, a struct of the round's own -/
structure Pk (W0 : World) (H0 G : Nat) (X : Array Value) (HE : Nat) (A' : Option Addr) (N c' : Nat) (L : List Slt) (w : World) (A1 : Option Addr) (n1 c1 : Nat) (S1 : List Int) (A2 : Option Addr) (n2 c2 : Nat) (S2 : List Int) : Prop where
  o1 : Own w H0 A1 n1 c1 S1
  o2 : Own w H0 A2 n2 c2 S2
  ap : Apt A1 A2
  ob : OwnR 61 Slt.v 8 w HE A' N c' L
  at_ : At w G 61 X
  bl : Below W0.heap.size W0 w
  hz : H0 = W0.heap.size
section
variable {H0 HE N c' n1 c1 : Nat} {A' A1 : Option Addr} {L : List Slt} {S1 S2 : List Int}
theorem Pk.sz (h : Pk W0 H0 G X HE A' N c' L w A1 n1 c1 S1 A2 n2 c2 S2) : H0 ≤ w.heap.size := by rw [h.hz]; exact h.bl.size
theorem Pk.lt (h : Pk W0 H0 G X HE A' N c' L w A1 n1 c1 S1 A2 n2 c2 S2) : G < w.heap.size := h.at_.lt
theorem Pk.cell (h : Pk W0 H0 G X HE A' N c' L w A1 n1 c1 S1 A2 n2 c2 S2) (i : Nat) : w.cell? ⟨G, i, none⟩ = X[i]? := h.at_.cell i
theorem Pk.drew (h : Pk W0 H0 G X HE A' N c' L w A1 n1 c1 S1 A2 n2 c2 S2) : Pk W0 H0 G X HE A' N c' L w.drew A1 n1 c1 S1 A2 n2 c2 S2 := ⟨h.o1, h.o2, h.ap, h.ob, h.at_, h.bl.drew, h.hz⟩
theorem Pk.alloc (h : Pk W0 H0 G X HE A' N c' L w A1 n1 c1 S1 A2 n2 c2 S2) (o : Obj) : Pk W0 H0 G X HE A' N c' L (w.alloc o) A1 n1 c1 S1 A2 n2 c2 S2 := ⟨h.o1.alloc o, h.o2.alloc o, h.ap, h.ob.alloc o, h.at_.alloc o, h.bl.alloc h.bl.size o, h.hz⟩
theorem Pk.app1 {g m d : Nat} {S : List Int} (h : Pk W0 H0 G X HE A' N c' L w A1 n1 c1 S1 A2 n2 c2 S2) (own : Own w' H0 (some ⟨g, 0, none⟩) m d S) (gr : w.grownBy w' (Value.slice A1 n1 c1).ownBlock) (lie : (Value.slice A1 n1 c1).ownBlock = some g ∨ g = w.heap.size) : Pk W0 H0 G X HE A' N c' L w' (some ⟨g, 0, none⟩) m d S A2 n2 c2 S2 :=
  ⟨own, h.o2.keepA h.o1 h.ap.symm gr, h.ap.grow h.o1 h.o2 lie, h.ob.keepOwn h.o1 (by decide) gr, h.at_.keepOwn h.o1 (by decide) gr, below_mark h.bl h.o1 (by rw [h.hz]; exact Nat.le_refl _) gr, h.hz⟩
theorem Pk.app2 {g m d : Nat} {S : List Int} (h : Pk W0 H0 G X HE A' N c' L w A1 n1 c1 S1 A2 n2 c2 S2) (own : Own w' H0 (some ⟨g, 0, none⟩) m d S) (gr : w.grownBy w' (Value.slice A2 n2 c2).ownBlock) (lie : (Value.slice A2 n2 c2).ownBlock = some g ∨ g = w.heap.size) : Pk W0 H0 G X HE A' N c' L w' A1 n1 c1 S1 (some ⟨g, 0, none⟩) m d S :=
  ⟨h.o1.keepA h.o2 h.ap gr, own, (h.ap.symm.grow h.o2 h.o1 lie).symm, h.ob.keepOwn h.o2 (by decide) gr, h.at_.keepOwn h.o2 (by decide) gr, below_mark h.bl h.o2 (by rw [h.hz]; exact Nat.le_refl _) gr, h.hz⟩
end
theorem lit_rd (w : World) {v : Int} (h1 : -9223372036854775808 ≤ v) (h2 : v ≤ 9223372036854775807) : Rd (w.alloc (.cells #[.int .i64 v] 2)) (some ⟨w.heap.size, 0, none⟩) 1 1 [v] := (Own.lit w (B := 0) (by omega) #[.int .i64 v] [v] rfl (I64.one h1 h2) 1 rfl (by omega)).rd
theorem lit_rd2 (w : World) (o : Obj) {v : Int} (h1 : -9223372036854775808 ≤ v) (h2 : v ≤ 9223372036854775807) : Rd ((w.alloc o).alloc (.cells #[.int .i64 v] 2)) (some ⟨w.heap.size + 1, 0, none⟩) 1 1 [v] := by
  have h := lit_rd (w.alloc o) h1 h2
  rwa [show (w.alloc o).heap.size = w.heap.size + 1 by simp] at h
theorem own_ne (h : Own w B A n c zs) (hg : w.heap.size ≤ G) : (Value.slice A n c).ownBlock ≠ some G := by
  rcases h.ownBlock with h1 | ⟨g, h1, _, h2⟩
  · rw [h1]; simp
  · rw [h1]; simp; omega
/-- what lies in another block than the row that grows is read still -/
theorem Rd.keepRow {g off : Nat} (h : Rd w (some ⟨g, off, none⟩) n c zs) (o : Own w B A2 n2 c2 zs2) (hne : (Value.slice A2 n2 c2).ownBlock ≠ some g) (hg : w.grownBy w' (Value.slice A2 n2 c2).ownBlock) : Rd w' (some ⟨g, off, none⟩) n c zs := by
  refine ⟨h.1, h.2.1, h.2.2.1, h.2.2.2.1, fun hn => ?_⟩
  obtain ⟨b, off', hA, hb, hc⟩ := h.at_ hn
  simp at hA
  obtain ⟨rfl, rfl⟩ := hA
  exact ⟨g, off, rfl, fun j hj => (World.cell?_of_block (hg.block g hb (fun e => hne e.symm))).trans (hc j hj)⟩
end
set_option maxHeartbeats 6400000 in
theorem sending_any (v : Value) (m : Mdl) (mode node : Int) (w : World) (h : RdM w v m) (hn : m.ss.length ≤ 120) (hd : Durs m.ss) :
    Calls Tryz.prog 51 #[v, .int .i64 mode, .int .i64 node] w (fun e w' => ∃ A1 c1 A2 c2, e = .returned (.tuple #[.slice A1 (stL node (modeL mode m.ss)).length c1, .slice A2 (stL node (modeL mode m.ss)).length c2]) ∧
      Own w' w.heap.size A1 (stL node (modeL mode m.ss)).length c1 (stL node (modeL mode m.ss)) ∧ Own w' w.heap.size A2 (stL node (modeL mode m.ss)).length c2 (enL node (modeL mode m.ss)) ∧ Below w.heap.size w w') := by
  have HM := hide h
  obtain ⟨A1, n1, c1, A2, n2, c2, A3, n3, q3, rfl, h1, h2, h3⟩ := h
  have hlen2 := hide h2.len
  have hlen := hide h3.len
  have hcap2 := h2.cap
  have hcap := h3.cap
  obtain ⟨W0, hW0⟩ : ∃ W0, W0 = w.alloc (.cells #[.int .i64 m.id, .slice A1 n1 c1, .slice A2 n2 c2, .slice A3 n3 q3] 28) := ⟨_, rfl⟩
  have F0 : At W0 w.heap.size 28 #[.int .i64 m.id, .slice A1 n1 c1, .slice A2 n2 c2, .slice A3 n3 q3] := by rw [hW0]; exact At.fresh _ _ _
  have BA := hide (show Below w.heap.size w W0 by rw [hW0]; exact (Below.refl _ _).alloc (Nat.le_refl _) _)
  have B0 := hide (Below.refl W0.heap.size W0)
  have H1 := hide (h1.below BA.out)
  have H2 := hide (h2.below BA.out)
  have H3 := hide (h3.below BA.out)
  have HM0 := hide (HM.out.below BA.out)
  have HF := hide F0
  have d0 := F0.cell 0
  have d1 := F0.cell 1
  have d2 := F0.cell 2
  have d3 := F0.cell 3
  simp at d0 d1 d2 d3
  have HW := hide hW0
  clear hW0 F0 h1 h2 h3 HM
  obtain ⟨H0, hH0⟩ : ∃ H0, H0 = W0.heap.size := ⟨_, rfl⟩
  obtain ⟨WE, hWE⟩ : ∃ WE, WE = (W0.alloc (.cells #[] 2)).alloc (.cells #[] 2) := ⟨_, rfl⟩
  have own1 : Own WE H0 (some ⟨W0.heap.size, 0, none⟩) 0 0 [] := by rw [hWE]; exact (Own.empty W0 (by rw [hH0]; exact Nat.le_refl _)).alloc _
  have own2 : Own WE H0 (some ⟨(W0.alloc (.cells #[] 2)).heap.size, 0, none⟩) 0 0 [] := by rw [hWE]; exact Own.empty _ (by rw [hH0]; simp)
  have BE := hide (show Below W0.heap.size W0 WE by rw [hWE]; exact ((Below.refl _ _).alloc (Nat.le_refl _) _).alloc (by simp) _)
  have hE1 : W0.heap.size = w.heap.size + 1 := by rw [HW.out]; simp
  rw [show (W0.alloc (.cells #[] 2)).heap.size = w.heap.size + 1 + 1 by rw [HW.out]; simp] at own2
  rw [hE1] at own1
  have HO1 := hide own1
  have HO2 := hide own2
  have HH0 := hide hH0
  have HWE := hide hWE
  have HME := hide (HM0.out.below BE.out)
  have hap : Hid (Apt (some ⟨w.heap.size + 1, 0, none⟩) (some ⟨w.heap.size + 1 + 1, 0, none⟩)) := hide (fun g e e2 => by simp at e e2; omega)
  clear hH0 hWE own1 own2 hE1 d0 d1 d2 d3
  go_enter Tryz.func51, Tryz.ntmps51
  go_wp2_with fail
  rw [← HW.out, ← HWE.out]
  go_at_call 75
  (with_reducible refine (modeSlots_any _ m mode _ HME.out hn).mono ?_)
  rintro ee w2 ⟨A', c', rfl, own, b1⟩
  have HOB := hide own
  obtain ⟨L, hLe⟩ : ∃ L, L = modeL mode m.ss := ⟨_, rfl⟩
  have HLe := hide hLe
  have HDL := hide (show Durs L by rw [hLe]; exact hd.modeL mode)
  have hN : L.length ≤ 120 := by rw [hLe]; exact Nat.le_trans (modeL_len _ _) hn
  rw [← hLe] at HOB
  rw [← hLe]
  obtain ⟨N, hNe⟩ : ∃ N, N = L.length := ⟨_, rfl⟩
  rw [← hNe] at HOB hN
  rw [← hNe]
  have HNe := hide hNe
  have B2 := hide (below_trans BE.out b1)
  have P1 := hide (HO1.out.below b1)
  have P2 := hide (HO2.out.below b1)
  obtain ⟨HE, hHE⟩ : ∃ HE, HE = WE.heap.size := ⟨_, rfl⟩
  have HHE := hide (show HE ≤ w2.heap.size by rw [hHE]; exact b1.size)
  rw [← hHE] at HOB
  clear b1 own hLe hNe hHE
  go_wp2_with fail
  go_loopw [8, 9, 10, 19] (fun s e a i wr => ∃ (k p : Nat) (u : Int) (A1 : Option Addr) (c1 : Nat) (A2 : Option Addr) (c2 : Nat), k ≤ N ∧ i = .int .i64 k ∧ s = .slice A1 p c1 ∧ e = .slice A2 p c2 ∧ a = .int .i64 u ∧ p ≤ k ∧ Hid (u = durs (L.take k)) ∧ Hid (Own wr H0 A1 p c1 (stL node (L.take k))) ∧ Hid (Own wr H0 A2 p c2 (enL node (L.take k))) ∧ Hid (Apt A1 A2) ∧ Hid (OwnR 61 Slt.v 8 wr HE A' N c' L) ∧ Hid (Below W0.heap.size W0 wr)) (fun _ _ _ i _ => N - (intOf i).toNat)
  case atStart => exact ⟨0, 0, 0, _, _, _, _, by omega, rfl, rfl, rfl, rfl, by omega, hide (by simp [durs]), P1, P2, hap, HOB, B2⟩
  case round =>
    obtain ⟨k, p, u, A1, c1, A2, c2, hk, rfl, rfl, rfl, rfl, hp, hu, ho1, ho2, ha, hob, hb2⟩ := hrel
    by_cases hlt : k < N
    · obtain ⟨b, off, x, rfl, hb, hx, e0, e1, e2, e3, e4, e5, e6, e7⟩ := slt_at hob.out.rd hlt
      have HNx := hide (show L.take (k + 1) = L.take k ++ [x] from takeR hx)
      have hub := durs_bound (HDL.out.take k)
      rw [← hu.out, List.length_take] at hub
      have hxb := HDL.out x (List.mem_of_getElem? hx)
      have u0 : 0 ≤ u := hub.1
      have u1 : u ≤ 120000 := by omega
      obtain ⟨WX, hWX⟩ : ∃ WX, WX = wr.alloc (.cells #[.int .i64 x.md, .int .i64 x.rd, .int .i64 x.sl, .int .i64 x.nd, .int .i64 x.kd, .int .i64 x.sz, .int .i64 x.du, .bool x.ch] 61) := ⟨_, rfl⟩
      have BWr := hide (show Below wr.heap.size wr WX by rw [hWX]; exact (Below.refl _ _).alloc (Nat.le_refl _) _)
      have BW := hide (show Below W0.heap.size W0 WX from below_trans hb2.out BWr.out)
      have R1 := hide (ho1.out.below BWr.out)
      have R2 := hide (ho2.out.below BWr.out)
      have RB := hide (hob.out.below BWr.out)
      have NU := hide (show u + x.du = durs (L.take (k + 1)) by rw [HNx.out, durs_snoc, hu.out])
      have HWX := hide hWX
      clear hx hub hWX ho1 ho2 hob
      cases ee : (x.nd == node)
      · have N1 := hide (show Own WX H0 A1 p c1 (stL node (L.take (k + 1))) by rw [HNx.out, stL_snoc, ee, if_neg (by simp), List.append_nil]; exact R1.out)
        have N2 := hide (show Own WX H0 A2 p c2 (enL node (L.take (k + 1))) by rw [HNx.out, enL_snoc, ee, if_neg (by simp), List.append_nil]; exact R2.out)
        go_wp2_with fail
        rw [← HWX.out]
        go_roundw
        case rel => exact ⟨k + 1, p, u + x.du, A1, c1, A2, c2, by omega, by go_num, rfl, rfl, by go_num, by omega, NU, N1, N2, ha, RB, BW⟩
        case measure => simp [intOf]; omega
      · have N1 := hide (show stL node (L.take (k + 1)) = stL node (L.take k) ++ [u] by rw [HNx.out, stL_snoc, ee, if_pos rfl, hu.out])
        have N2 := hide (show enL node (L.take (k + 1)) = enL node (L.take k) ++ [u + x.du] by rw [HNx.out, enL_snoc, ee, if_pos rfl, hu.out])
        have GX := hide (show At WX wr.heap.size 61 #[.int .i64 x.md, .int .i64 x.rd, .int .i64 x.sl, .int .i64 x.nd, .int .i64 x.kd, .int .i64 x.sz, .int .i64 x.du, .bool x.ch] by rw [HWX.out]; exact At.fresh _ _ _)
        have g6 : WX.cell? ⟨wr.heap.size, 6, none⟩ = some (.int .i64 x.du) := GX.out.cell 6
        have hsx : wr.heap.size < WX.heap.size := GX.out.lt
        have hsz : H0 ≤ WX.heap.size := by rw [HH0.out]; exact BW.out.size
        have tw : IntKind.i64.wrap (u + x.du) = u + x.du := IntWalk.i64_in _ ⟨by omega, by omega⟩
        have PK := hide (show Pk W0 H0 wr.heap.size #[.int .i64 x.md, .int .i64 x.rd, .int .i64 x.sl, .int .i64 x.nd, .int .i64 x.kd, .int .i64 x.sz, .int .i64 x.du, .bool x.ch] HE _ N c' L WX A1 p c1 (stL node (L.take k)) A2 p c2 (enL node (L.take k)) from ⟨R1.out, R2.out, ha.out, RB.out, GX.out, BW.out, HH0.out⟩)
        have fa : ∀ g, A1 = some ⟨g, 0, none⟩ → g < WX.heap.size := fun g e => by
          rcases R1.out.form with ⟨h1, _⟩ | ⟨g', h1, _, h2⟩
          · rw [h1] at e; cases e
          · rw [h1] at e; simp at e; omega
        go_upto_region 6 with (fail)
        rw [← HWX.out]
        refine wp_region_held_drew (S := (fun w' => w'.cell? ⟨wr.heap.size, 6, none⟩ = some (.int .i64 x.du))) (by kernel_rfl) ?_ (fun hHeld => ?_)
        · (try dsimp only)
          go_keep
        refine wpAnyH_take (i := 0) (v := ?va1) rfl (by kernel_rfl) (by kernel_rfl) (by kernel_rfl) (fun _ _ _ h => h) (Or.inl ⟨by rfl, ?hya1⟩) (by assumption) ?rest1
        case hya1 => (intro wz hSw; (try dsimp only at hSw); go_simp; all_goals with_reducible rfl)
        try simp only [List.getElem_toArray, List.getElem_cons_succ, List.getElem_cons_zero, Act.put, List.setIfInBounds_toArray, List.set_cons_zero, List.set_cons_succ]
        refine wpAnyH_take (i := 1) (v := ?va2) rfl (by kernel_rfl) (by kernel_rfl) (by kernel_rfl) (fun _ _ _ h => h) (Or.inl ⟨by rfl, ?hya2⟩) (by assumption) ?rest2
        case hya2 => (intro wz hSw; (try dsimp only at hSw); go_simp; all_goals with_reducible rfl)
        try simp only [List.getElem_toArray, List.getElem_cons_succ, List.getElem_cons_zero, Act.put, List.setIfInBounds_toArray, List.set_cons_zero, List.set_cons_succ]
        refine wpAnyH_take (i := 4) (v := ?va3) rfl (by kernel_rfl) (by kernel_rfl) (by kernel_rfl) (fun _ _ _ h => h) (Or.inl ⟨by rfl, ?hya3⟩) (by assumption) ?rest3
        case hya3 => (intro wz hSw; (try dsimp only at hSw); go_simp; all_goals with_reducible rfl)
        try simp only [List.getElem_toArray, List.getElem_cons_succ, List.getElem_cons_zero, Act.put, List.setIfInBounds_toArray, List.set_cons_zero, List.set_cons_succ]
        refine wpAnyH_take (i := 5) (v := ?va4) rfl (by kernel_rfl) (by kernel_rfl) (by kernel_rfl) (fun _ _ _ h => h) (Or.inl ⟨by rfl, ?hya4⟩) (by assumption) ?rest4
        case hya4 => (intro wz hSw; (try dsimp only at hSw); go_simp; all_goals with_reducible rfl)
        try simp only [List.getElem_toArray, List.getElem_cons_succ, List.getElem_cons_zero, Act.put, List.setIfInBounds_toArray, List.set_cons_zero, List.set_cons_succ]
        refine wpAnyH_take (i := 6) (v := ?va5) rfl (by kernel_rfl) (by kernel_rfl) (by kernel_rfl) (fun _ _ _ h => h) (Or.inl ⟨by rfl, ?hya5⟩) (by assumption) ?rest5
        case hya5 => (intro wz hSw; (try dsimp only at hSw); go_simp; all_goals with_reducible rfl)
        try simp only [List.getElem_toArray, List.getElem_cons_succ, List.getElem_cons_zero, Act.put, List.setIfInBounds_toArray, List.set_cons_zero, List.set_cons_succ]
        refine wpAnyH_take (i := 7) (v := ?va6) rfl (by kernel_rfl) (by kernel_rfl) (by kernel_rfl) (fun _ _ _ h => h) (Or.inl ⟨by rfl, ?hya6⟩) (by assumption) ?rest6
        case hya6 => (intro wz hSw; (try dsimp only at hSw); go_simp; all_goals with_reducible rfl)
        try simp only [List.getElem_toArray, List.getElem_cons_succ, List.getElem_cons_zero, Act.put, List.setIfInBounds_toArray, List.set_cons_zero, List.set_cons_succ]
        refine wpAnyH_take (i := 8) (v := ?va7) rfl (by kernel_rfl) (by kernel_rfl) (by kernel_rfl) (fun _ _ _ h => h) (Or.inl ⟨by rfl, ?hya7⟩) (by assumption) ?rest7
        case hya7 => (intro wz hSw; (try dsimp only at hSw); go_simp; all_goals with_reducible rfl)
        try simp only [List.getElem_toArray, List.getElem_cons_succ, List.getElem_cons_zero, Act.put, List.setIfInBounds_toArray, List.set_cons_zero, List.set_cons_succ]
        refine wpAnyH_take (i := 9) (v := ?va8) rfl (by kernel_rfl) (by kernel_rfl) (by kernel_rfl) (fun _ _ _ h => h) (Or.inl ⟨by rfl, ?hya8⟩) (by assumption) ?rest8
        case hya8 => (intro wz hSw; (try dsimp only at hSw); go_simp; all_goals with_reducible rfl)
        try simp only [List.getElem_toArray, List.getElem_cons_succ, List.getElem_cons_zero, Act.put, List.setIfInBounds_toArray, List.set_cons_zero, List.set_cons_succ]
        refine wpAnyH_ready (rs := [2, 10]) (by kernel_rfl) (by simp) ?_
        refine AllReadyH.cons rfl (fun K hK => ?_) (AllReadyH.cons rfl (fun K hK => ?_) AllReadyH.nil)
        · go_simp
          refine hK.out _ _ ?_ (fun hHeld2 => ?_)
          · (try dsimp only)
            go_keep
          clear hK K
          try simp only [List.getElem_toArray, List.getElem_cons_succ, List.getElem_cons_zero, Act.put, List.setIfInBounds_toArray, List.set_cons_zero, List.set_cons_succ]
          refine wpAnyH_ready (rs := [3, 10]) (by kernel_rfl) (by simp) ?_
          refine AllReadyH.cons rfl (fun K hK => ?_) (AllReadyH.cons rfl (fun K hK => ?_) AllReadyH.nil)
          · have pa := hide ((PK.out.alloc (.cells #[.int .i64 u] 2)).drew)
            (refine step_append_own rfl _ _ rfl H0 rfl (show Own _ H0 _ _ _ _ from pa.out.o1) (lit_rd WX (by omega) (by omega)).drew rfl (by omega) (by omega) pa.out.sz ?_; intro ggwa ccwa wa ownwa grwa liewa)
            have pb := hide (pa.out.app1 ownwa grwa liewa)
            have kwa : wa.cell? ⟨wr.heap.size, 6, none⟩ = some (.int .i64 x.du) := pb.out.cell 6
            have lwa : wr.heap.size < wa.heap.size := pb.out.lt
            refine hK.out _ _ ?_ (fun hHeld2 => ?_)
            · (try dsimp only)
              exact kwa
            clear hK K
            try simp only [List.getElem_toArray, List.getElem_cons_succ, List.getElem_cons_zero, Act.put, List.setIfInBounds_toArray, List.set_cons_zero, List.set_cons_succ]
            refine wpAnyH_ready (rs := [10]) (by kernel_rfl) (by simp) ?_
            refine AllReadyH.cons rfl (fun K hK => ?_) AllReadyH.nil
            go_simp
            refine hK.out _ _ ?_ (fun hHeld2 => ?_)
            · (try dsimp only)
              go_keep
            clear hK K
            try simp only [List.getElem_toArray, List.getElem_cons_succ, List.getElem_cons_zero, Act.put, List.setIfInBounds_toArray, List.set_cons_zero, List.set_cons_succ]
            refine wpAnyH_ready (rs := [11]) (by kernel_rfl) (by simp) ?_
            refine AllReadyH.cons rfl (fun K hK => ?_) AllReadyH.nil
            have pc := hide (pb.out.alloc (.cells #[.int .i64 (u + x.du)] 2))
            (refine step_append_own rfl _ _ rfl H0 rfl (show Own _ H0 _ _ _ _ from pc.out.o2) (lit_rd wa (by omega) (by omega)) rfl (by omega) (by omega) pc.out.sz ?_; intro ggwb ccwb wb ownwb grwb liewb)
            have pd := hide (pc.out.app2 ownwb grwb liewb)
            have kwb : wb.cell? ⟨wr.heap.size, 6, none⟩ = some (.int .i64 x.du) := pd.out.cell 6
            have lwb : wr.heap.size < wb.heap.size := pd.out.lt
            refine hK.out _ _ ?_ (fun hHeld2 => ?_)
            · (try dsimp only)
              exact kwb
            clear hK K
            try simp only [List.getElem_toArray, List.getElem_cons_succ, List.getElem_cons_zero, Act.put, List.setIfInBounds_toArray, List.set_cons_zero, List.set_cons_succ]
            refine wpAnyH_take (i := 12) (v := ?va11) rfl (by kernel_rfl) (by kernel_rfl) (by kernel_rfl) (fun _ _ _ h => h) (Or.inl ⟨by rfl, ?hya11⟩) (by assumption) ?rest11
            case hya11 => (intro wz hSw; (try dsimp only at hSw); go_simp; all_goals with_reducible rfl)
            try simp only [List.getElem_toArray, List.getElem_cons_succ, List.getElem_cons_zero, Act.put, List.setIfInBounds_toArray, List.set_cons_zero, List.set_cons_succ]
            refine wpAnyH_take (i := 13) (v := ?va12) rfl (by kernel_rfl) (by kernel_rfl) (by kernel_rfl) (fun _ _ _ h => h) (Or.inl ⟨by rfl, ?hya12⟩) (by assumption) ?rest12
            case hya12 => (intro wz hSw; (try dsimp only at hSw); go_simp; all_goals with_reducible rfl)
            try simp only [List.getElem_toArray, List.getElem_cons_succ, List.getElem_cons_zero, Act.put, List.setIfInBounds_toArray, List.set_cons_zero, List.set_cons_succ]
            refine wpAnyH_done (by kernel_rfl) ?_ _
            go_wp2_with fail
            skip
            go_roundw
            case rel => exact ⟨k + 1, p + 1, u + x.du, _, _, _, _, by omega, by go_num, rfl, rfl, by go_num, by omega, NU, hide (by rw [N1.out]; exact pd.out.o1), hide (by rw [N2.out]; exact pd.out.o2), hide pd.out.ap, hide pd.out.ob, hide pd.out.bl⟩
            case measure => simp [intOf]; omega
          · go_simp
            refine hK.out _ _ ?_ (fun hHeld2 => ?_)
            · (try dsimp only)
              go_keep
            clear hK K
            try simp only [List.getElem_toArray, List.getElem_cons_succ, List.getElem_cons_zero, Act.put, List.setIfInBounds_toArray, List.set_cons_zero, List.set_cons_succ]
            refine wpAnyH_ready (rs := [3]) (by kernel_rfl) (by simp) ?_
            refine AllReadyH.cons rfl (fun K hK => ?_) AllReadyH.nil
            have pa := hide (((PK.out.alloc (.cells #[.int .i64 u] 2)).alloc (.cells #[.int .i64 (u + x.du)] 2)).drew)
            have rd1 := hide (((lit_rd WX (v := u) (by omega) (by omega)).below ((Below.refl _ _).alloc (Nat.le_refl _) (.cells #[.int .i64 (u + x.du)] 2))).drew)
            have rd2 := hide ((lit_rd2 WX (.cells #[.int .i64 u] 2) (v := u + x.du) (by omega) (by omega)).drew)
            (refine step_append_own rfl _ _ rfl H0 rfl (show Own _ H0 _ _ _ _ from pa.out.o1) rd1.out rfl (by omega) (by omega) pa.out.sz ?_; intro ggwa ccwa wa ownwa grwa liewa)
            have pb := hide (pa.out.app1 ownwa grwa liewa)
            have kwa : wa.cell? ⟨wr.heap.size, 6, none⟩ = some (.int .i64 x.du) := pb.out.cell 6
            have lwa : wr.heap.size < wa.heap.size := pb.out.lt
            refine hK.out _ _ ?_ (fun hHeld2 => ?_)
            · (try dsimp only)
              exact kwa
            clear hK K
            try simp only [List.getElem_toArray, List.getElem_cons_succ, List.getElem_cons_zero, Act.put, List.setIfInBounds_toArray, List.set_cons_zero, List.set_cons_succ]
            have rd3 := hide (rd2.out.keepRow pa.out.o1 (own_ne R1.out (by omega)) grwa)
            refine wpAnyH_ready (rs := [11]) (by kernel_rfl) (by simp) ?_
            refine AllReadyH.cons rfl (fun K hK => ?_) AllReadyH.nil
            (refine step_append_own rfl _ _ rfl H0 rfl (show Own _ H0 _ _ _ _ from pb.out.o2) rd3.out rfl (by omega) (by omega) pb.out.sz ?_; intro ggwb ccwb wb ownwb grwb liewb)
            have pd := hide (pb.out.app2 ownwb grwb liewb)
            have kwb : wb.cell? ⟨wr.heap.size, 6, none⟩ = some (.int .i64 x.du) := pd.out.cell 6
            have lwb : wr.heap.size < wb.heap.size := pd.out.lt
            refine hK.out _ _ ?_ (fun hHeld2 => ?_)
            · (try dsimp only)
              exact kwb
            clear hK K
            try simp only [List.getElem_toArray, List.getElem_cons_succ, List.getElem_cons_zero, Act.put, List.setIfInBounds_toArray, List.set_cons_zero, List.set_cons_succ]
            refine wpAnyH_take (i := 12) (v := ?va13) rfl (by kernel_rfl) (by kernel_rfl) (by kernel_rfl) (fun _ _ _ h => h) (Or.inl ⟨by rfl, ?hya13⟩) (by assumption) ?rest13
            case hya13 => (intro wz hSw; (try dsimp only at hSw); go_simp; all_goals with_reducible rfl)
            try simp only [List.getElem_toArray, List.getElem_cons_succ, List.getElem_cons_zero, Act.put, List.setIfInBounds_toArray, List.set_cons_zero, List.set_cons_succ]
            refine wpAnyH_take (i := 13) (v := ?va14) rfl (by kernel_rfl) (by kernel_rfl) (by kernel_rfl) (fun _ _ _ h => h) (Or.inl ⟨by rfl, ?hya14⟩) (by assumption) ?rest14
            case hya14 => (intro wz hSw; (try dsimp only at hSw); go_simp; all_goals with_reducible rfl)
            try simp only [List.getElem_toArray, List.getElem_cons_succ, List.getElem_cons_zero, Act.put, List.setIfInBounds_toArray, List.set_cons_zero, List.set_cons_succ]
            refine wpAnyH_done (by kernel_rfl) ?_ _
            go_wp2_with fail
            skip
            go_roundw
            case rel => exact ⟨k + 1, p + 1, u + x.du, _, _, _, _, by omega, by go_num, rfl, rfl, by go_num, by omega, NU, hide (by rw [N1.out]; exact pd.out.o1), hide (by rw [N2.out]; exact pd.out.o2), hide pd.out.ap, hide pd.out.ob, hide pd.out.bl⟩
            case measure => simp [intOf]; omega
        · go_simp
          refine hK.out _ _ ?_ (fun hHeld2 => ?_)
          · (try dsimp only)
            go_keep
          clear hK K
          try simp only [List.getElem_toArray, List.getElem_cons_succ, List.getElem_cons_zero, Act.put, List.setIfInBounds_toArray, List.set_cons_zero, List.set_cons_succ]
          refine wpAnyH_ready (rs := [2]) (by kernel_rfl) (by simp) ?_
          refine AllReadyH.cons rfl (fun K hK => ?_) AllReadyH.nil
          go_simp
          refine hK.out _ _ ?_ (fun hHeld2 => ?_)
          · (try dsimp only)
            go_keep
          clear hK K
          try simp only [List.getElem_toArray, List.getElem_cons_succ, List.getElem_cons_zero, Act.put, List.setIfInBounds_toArray, List.set_cons_zero, List.set_cons_succ]
          refine wpAnyH_ready (rs := [3]) (by kernel_rfl) (by simp) ?_
          refine AllReadyH.cons rfl (fun K hK => ?_) AllReadyH.nil
          have pa := hide (((PK.out.alloc (.cells #[.int .i64 (u + x.du)] 2)).alloc (.cells #[.int .i64 u] 2)).drew)
          have rd1 := hide (((lit_rd WX (v := u + x.du) (by omega) (by omega)).below ((Below.refl _ _).alloc (Nat.le_refl _) (.cells #[.int .i64 u] 2))).drew)
          have rd2 := hide ((lit_rd2 WX (.cells #[.int .i64 (u + x.du)] 2) (v := u) (by omega) (by omega)).drew)
          (refine step_append_own rfl _ _ rfl H0 rfl (show Own _ H0 _ _ _ _ from pa.out.o1) rd2.out rfl (by omega) (by omega) pa.out.sz ?_; intro ggwa ccwa wa ownwa grwa liewa)
          have pb := hide (pa.out.app1 ownwa grwa liewa)
          have kwa : wa.cell? ⟨wr.heap.size, 6, none⟩ = some (.int .i64 x.du) := pb.out.cell 6
          have lwa : wr.heap.size < wa.heap.size := pb.out.lt
          refine hK.out _ _ ?_ (fun hHeld2 => ?_)
          · (try dsimp only)
            exact kwa
          clear hK K
          try simp only [List.getElem_toArray, List.getElem_cons_succ, List.getElem_cons_zero, Act.put, List.setIfInBounds_toArray, List.set_cons_zero, List.set_cons_succ]
          have rd3 := hide (rd1.out.keepRow pa.out.o1 (own_ne R1.out (by omega)) grwa)
          refine wpAnyH_ready (rs := [11]) (by kernel_rfl) (by simp) ?_
          refine AllReadyH.cons rfl (fun K hK => ?_) AllReadyH.nil
          (refine step_append_own rfl _ _ rfl H0 rfl (show Own _ H0 _ _ _ _ from pb.out.o2) rd3.out rfl (by omega) (by omega) pb.out.sz ?_; intro ggwb ccwb wb ownwb grwb liewb)
          have pd := hide (pb.out.app2 ownwb grwb liewb)
          have kwb : wb.cell? ⟨wr.heap.size, 6, none⟩ = some (.int .i64 x.du) := pd.out.cell 6
          have lwb : wr.heap.size < wb.heap.size := pd.out.lt
          refine hK.out _ _ ?_ (fun hHeld2 => ?_)
          · (try dsimp only)
            exact kwb
          clear hK K
          try simp only [List.getElem_toArray, List.getElem_cons_succ, List.getElem_cons_zero, Act.put, List.setIfInBounds_toArray, List.set_cons_zero, List.set_cons_succ]
          refine wpAnyH_take (i := 12) (v := ?va15) rfl (by kernel_rfl) (by kernel_rfl) (by kernel_rfl) (fun _ _ _ h => h) (Or.inl ⟨by rfl, ?hya15⟩) (by assumption) ?rest15
          case hya15 => (intro wz hSw; (try dsimp only at hSw); go_simp; all_goals with_reducible rfl)
          try simp only [List.getElem_toArray, List.getElem_cons_succ, List.getElem_cons_zero, Act.put, List.setIfInBounds_toArray, List.set_cons_zero, List.set_cons_succ]
          refine wpAnyH_take (i := 13) (v := ?va16) rfl (by kernel_rfl) (by kernel_rfl) (by kernel_rfl) (fun _ _ _ h => h) (Or.inl ⟨by rfl, ?hya16⟩) (by assumption) ?rest16
          case hya16 => (intro wz hSw; (try dsimp only at hSw); go_simp; all_goals with_reducible rfl)
          try simp only [List.getElem_toArray, List.getElem_cons_succ, List.getElem_cons_zero, Act.put, List.setIfInBounds_toArray, List.set_cons_zero, List.set_cons_succ]
          refine wpAnyH_done (by kernel_rfl) ?_ _
          go_wp2_with fail
          skip
          go_roundw
          case rel => exact ⟨k + 1, p + 1, u + x.du, _, _, _, _, by omega, by go_num, rfl, rfl, by go_num, by omega, NU, hide (by rw [N1.out]; exact pd.out.o1), hide (by rw [N2.out]; exact pd.out.o2), hide pd.out.ap, hide pd.out.ob, hide pd.out.bl⟩
          case measure => simp [intOf]; omega
    · obtain rfl : k = N := by omega
      have E : Hid (L.take k = L) := hide (by rw [HNe.out, List.take_length])
      rw [E.out] at ho1 ho2
      obtain rfl : p = (stL node L).length := ho1.out.len.symm
      have hz : H0 ≥ w.heap.size := by rw [HH0.out]; exact BA.out.size
      go_wp2
      go_ret2
      exact ⟨A1, c1, A2, c2, by rw [← HLe.out]; rfl, by rw [← HLe.out]; exact ho1.out.mono hz, by rw [← HLe.out]; exact ho2.out.mono hz, below_trans BA.out hb2.out⟩
end Go.Proofs.YtdkhldebnpmiiaaGreatDoor
