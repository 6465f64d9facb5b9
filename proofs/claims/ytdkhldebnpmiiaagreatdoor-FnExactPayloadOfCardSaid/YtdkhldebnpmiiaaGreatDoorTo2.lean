/- The laws' own copies of modes and of whole schedules. -/
import Derived.Test.YtdkhldebnpmiiaaGreatDoorTo
import Derived.Test.YtdkhldebnpmiiaaGreatDoorSt
namespace Go.Proofs.YtdkhldebnpmiiaaGreatDoor
open Go.RowKit
set_option linter.unusedVariables false
set_option linter.unusedSimpArgs false

set_option maxHeartbeats 1600000 in
theorem toModeInfo_any (x : Mod) (w : World) (h : Rd w x.A x.n x.c x.nx) (hn : x.n ≤ 16777216) :
    Calls Tryz.prog 94 #[.agg #[.int .i64 x.rd, .int .i64 x.sl, .slice x.A x.n x.c]] w fun e w' => ∃ g, e = .returned (.agg #[.int .i64 x.rd, .int .i64 x.sl, .slice (some ⟨g, 0, none⟩) x.n x.n]) ∧ Own w' w.heap.size (some ⟨g, 0, none⟩) x.n x.n x.nx ∧ Below w.heap.size w w' := by
  have H := hide h
  clear h
  go_enter Tryz.func94, Tryz.ntmps94
  go_wp2_with fail
  refine (toInt64S_any _ _ _ _ _ (H.out.below (by (repeat (first | exact Below.refl _ _ | (refine Below.alloc ?_ (by simp <;> omega) _) | (refine Below.setCell ?_ (by simp <;> omega) _))))) hn).mono ?_
  rintro e w1 ⟨g, rfl, own1, b1⟩
  have hs : w.heap.size + 3 ≤ w1.heap.size := by have := b1.size; simp at this; omega
  have A3 := (At.fresh2 w (.cells #[.int .i64 x.rd, .int .i64 x.sl, .slice x.A x.n x.c] 105) (.cells #[.int .i64 0, .int .i64 0, .slice none 0 0] 107) 107 #[.int .i64 x.rd, .int .i64 x.sl, .slice none 0 0]).keep b1
  have A2 := ((At.fresh1 w (.cells #[.int .i64 x.rd, .int .i64 x.sl, .slice x.A x.n x.c] 105) 107 #[.int .i64 0, .int .i64 0, .slice none 0 0]).alloc (.cells #[.int .i64 x.rd, .int .i64 x.sl, .slice none 0 0] 107)).keep b1
  have e0 := A3.cell 0
  have e1 := A3.cell 1
  have e2 := A3.cell 2
  have d0 := A2.cell 0
  have d1 := A2.cell 1
  have d2 := A2.cell 2
  have z2 := A3.frozen 2
  have y0 := A2.frozen 0
  have y1 := A2.frozen 1
  have y2 := A2.frozen 2
  simp at e0 e1 e2 d0 d1 d2
  have AA := hide A2
  clear A2 A3
  have O1 := hide own1
  have B1 := hide ((show Below w.heap.size w (((w.alloc (.cells #[.int .i64 x.rd, .int .i64 x.sl, .slice x.A x.n x.c] 105)).alloc (.cells #[.int .i64 0, .int .i64 0, .slice none 0 0] 107)).alloc (.cells #[.int .i64 x.rd, .int .i64 x.sl, .slice none 0 0] 107)) by (repeat (first | exact Below.refl _ _ | (refine Below.alloc ?_ (by simp <;> omega) _) | (refine Below.setCell ?_ (by simp <;> omega) _)))).trans (b1.mono (by simp <;> omega)))
  clear own1 b1
  go_wp2
  have fin := (((AA.out.other (by omega : w.heap.size + 1 ≠ w.heap.size + 1 + 1) 2 (.slice (some ⟨g, 0, none⟩) x.n x.n)).set 0 (.int .i64 x.rd)).set 1 (.int .i64 x.sl)).set 2 (.slice (some ⟨g, 0, none⟩) x.n x.n)
  have hres := fun (tmps : Array Value) (hp : tmps.getD 2 undef = .pointer (some ⟨w.heap.size + 1, 0, none⟩)) => results_Mo (tmps := tmps) Tryz.results94 hp fin
  refine bodyPost_ret (hres _ rfl) rfl ?_
  refine ⟨g, rfl, ?_, ?_⟩
  · exact Own.mono ((((O1.out.setLow (by simp <;> omega) _ _).setLow (by simp <;> omega) _ _).setLow (by simp <;> omega) _ _).setLow (by simp <;> omega) _ _) (by simp <;> omega)
  · exact (((B1.out.setCell (by simp <;> omega) _).setCell (by simp) _).setCell (by simp) _).setCell (by simp) _
theorem blocks_ne {w : World} {B B' : Nat} {e t : TypeId} {k j n m : Nat} {v u : Value} {xs ys : List Value} (h : w.ownsRow B e k v n xs) (o : w.ownsRow B' t j u m ys) (hne : e ≠ t) : v.ownBlock = none ∨ v.ownBlock ≠ u.ownBlock := by
  rcases h.2 with ⟨rfl, _⟩ | ⟨g, cap, cur, rfl, _, hh, _⟩
  · exact .inl rfl
  · right
    rcases o.2 with ⟨rfl, _⟩ | ⟨g', cap', cur', rfl, _, hh', _⟩
    · simp [Value.ownBlock]
    · intro e1
      simp [Value.ownBlock] at e1
      subst e1
      rw [hh] at hh'
      simp at hh'
      exact hne hh'.2
section
variable {w w' : World} {B : Nat} {A : Option Addr} {n c : Nat} {ms : List PMod}
/-- a row of modes of the call's own -/
def OwnMs (w : World) (B : Nat) (A : Option Addr) (n c : Nat) (ms : List PMod) : Prop := ∃ l : List Mod, OwnR 107 Mod.v 3 w B A n c l ∧ (∀ x ∈ l, Own w B x.A x.n x.c x.nx) ∧ l.map Mod.p = ms
theorem OwnMs.rd (h : OwnMs w B A n c ms) : RdMs w A n c ms := by
  obtain ⟨l, h1, h2, h3⟩ := h
  exact ⟨l, h1.rd, fun x hx => (h2 x hx).rd, h3⟩
theorem OwnMs.below (h : OwnMs w B A n c ms) (hb : Below w.heap.size w w') : OwnMs w' B A n c ms := by
  obtain ⟨l, h1, h2, h3⟩ := h
  exact ⟨l, h1.below hb, fun x hx => (h2 x hx).below hb, h3⟩
theorem OwnMs.mono {B' : Nat} (h : OwnMs w B A n c ms) (hB : B' ≤ B) : OwnMs w B' A n c ms := by
  obtain ⟨l, h1, h2, h3⟩ := h
  exact ⟨l, h1.mono hB, fun x hx => (h2 x hx).mono hB, h3⟩
theorem OwnMs.setLow (h : OwnMs w B A n c ms) {b : Nat} (hb : b < B) (j : Nat) (v : Value) : OwnMs (w.setCell ⟨b, j, none⟩ v) B A n c ms := by
  obtain ⟨l, h1, h2, h3⟩ := h
  exact ⟨l, h1.setLow hb j v, fun x hx => (h2 x hx).setLow hb j v, h3⟩
/-- a schedule of the call's own -/
def OwnM (w : World) (B : Nat) (v : Value) (m : Mdl) : Prop := ∃ (A1 : Option Addr) (n1 c1 : Nat) (A2 : Option Addr) (n2 c2 : Nat) (A3 : Option Addr) (n3 c3 : Nat), v = .agg #[.int .i64 m.id, .slice A1 n1 c1, .slice A2 n2 c2, .slice A3 n3 c3] ∧ OwnR 68 Nod.v 4 w B A1 n1 c1 m.ns ∧ OwnMs w B A2 n2 c2 m.ms ∧ OwnR 61 Slt.v 8 w B A3 n3 c3 m.ss
theorem OwnM.rd {v : Value} {m : Mdl} (h : OwnM w B v m) : RdM w v m := by
  obtain ⟨A1, n1, c1, A2, n2, c2, A3, n3, c3, rfl, h1, h2, h3⟩ := h
  exact ⟨A1, n1, c1, A2, n2, c2, A3, n3, c3, rfl, h1.rd, h2.rd, h3.rd⟩
theorem OwnM.below {v : Value} {m : Mdl} (h : OwnM w B v m) (hb : Below w.heap.size w w') : OwnM w' B v m := by
  obtain ⟨A1, n1, c1, A2, n2, c2, A3, n3, c3, rfl, h1, h2, h3⟩ := h
  exact ⟨A1, n1, c1, A2, n2, c2, A3, n3, c3, rfl, h1.below hb, h2.below hb, h3.below hb⟩
theorem OwnM.mono {B' : Nat} {v : Value} {m : Mdl} (h : OwnM w B v m) (hB : B' ≤ B) : OwnM w B' v m := by
  obtain ⟨A1, n1, c1, A2, n2, c2, A3, n3, c3, rfl, h1, h2, h3⟩ := h
  exact ⟨A1, n1, c1, A2, n2, c2, A3, n3, c3, rfl, h1.mono hB, h2.mono hB, h3.mono hB⟩
end
set_option maxHeartbeats 1600000 in
theorem toModeInfoS_any (A : Option Addr) (n c : Nat) (ms : List PMod) (w : World) (h : RdMs w A n c ms) (hn : n ≤ 16777216) (hx : ∀ x ∈ ms, x.nx.length ≤ 16777216) :
    Calls Tryz.prog 62 #[.slice A n c] w fun e w' => ∃ g, e = .returned (.slice (some ⟨g, 0, none⟩) n n) ∧ OwnMs w' w.heap.size (some ⟨g, 0, none⟩) n n ms ∧ Below w.heap.size w w' := by
  have hcap := h.cap
  have hlen := hide h.len
  have HX := hide hx
  have hmk := make_rec Tryz.underlying25 info_mod n (by omega) (by omega)
  clear hx
  go_enter Tryz.func62, Tryz.ntmps62
  go_wp2
  go_loopw [4] (fun i wr => ∃ (k : Nat) (ls : List Mod), k ≤ n ∧ i = .int .i64 k ∧ Hid (ls.length = k ∧ ls.map Mod.p = ms.take k) ∧ OwnR 107 Mod.v 3 wr w.heap.size (some ⟨w.heap.size, 0, none⟩) n n (ls ++ List.replicate (n - k) mod0) ∧ Hid (∀ x ∈ ls, Own wr w.heap.size x.A x.n x.c x.nx) ∧ Below w.heap.size w wr) (fun i _ => n - (intOf i).toNat)
  case atStart => exact ⟨0, [], Nat.zero_le _, rfl, hide ⟨rfl, rfl⟩, OwnR.made Mod.k (by decide) _ mod0 rfl w (Nat.le_refl _) (by omega), hide (fun x hx => by cases hx), (Below.refl _ _).alloc (Nat.le_refl _) _⟩
  case round =>
    obtain ⟨k, ls, hk, rfl, hls, hown, hrows, hbel⟩ := hrel
    by_cases hlt : k < n
    · obtain ⟨b, off, x, rfl, hb, hx, rx, c0, c1, c2⟩ := mod_at (h.below hbel) hlt
      have HO := hide hown
      have HB := hide hbel
      have HQ := hide hx
      have hxn : x.n ≤ 16777216 := by
        have h1 := HX.out _ (List.mem_of_getElem? hx)
        have h2 := rx.len
        have h3 : (Mod.p x).nx = x.nx := rfl
        rw [h3] at h1
        omega
      have RX := hide rx
      clear hown hbel hx hmk rx
      go_wp2_with fail
      refine (toModeInfo_any x wr RX.out hxn).mono ?_
      rintro e w1 ⟨g, rfl, own1, b1⟩
      have O1 := HO.out.below b1
      have B1 := below_trans HB.out b1
      obtain ⟨y, _, ⟨s0, s1, s2⟩, z0, z1, z2⟩ := O1.spotMo hlt
      have PP := O1.putMo hlt ⟨x.rd, x.sl, some ⟨g, 0, none⟩, x.n, x.n, x.nx⟩
      have BB := hide (below_ownR B1 B1.size O1 (Nat.le_refl _) PP.2)
      have P1 := hide PP.1
      have R1 := hide (fun (y : Mod) (hy : y ∈ ls ++ [(⟨x.rd, x.sl, some ⟨g, 0, none⟩, x.n, x.n, x.nx⟩ : Mod)]) => show Own _ w.heap.size y.A y.n y.c y.nx from by
        rcases List.mem_append.1 hy with h1 | h1
        · have h2 := (hrows.out y h1).below b1
          exact h2.keepG PP.2 (blocks_ne h2.1 O1.1 (by decide))
        · simp at h1
          subst h1
          have h2 := own1.mono HB.out.size
          exact h2.keepG PP.2 (blocks_ne h2.1 O1.1 (by decide)))
      clear PP O1 B1 b1 HB HO own1
      go_wp2
      go_roundw
      case rel =>
        have e := P1.out
        rw [fill_step hls.out.1 hlt] at e
        refine ⟨k + 1, _, by omega, by go_num, hide ⟨by rw [List.length_append, hls.out.1]; rfl, ?_⟩, e, R1, BB.out⟩
        rw [take_one HQ.out, List.map_append, hls.out.2]
        rfl
      case measure => simp [intOf]; omega
    · obtain rfl : k = n := by omega
      rw [Nat.sub_self, List.replicate_zero, List.append_nil] at hown
      have e := hls.out.2
      rw [List.take_of_length_le (by rw [hlen.out]; exact Nat.le_refl _)] at e
      have E := hide e
      clear e
      go_wp2
      go_ret
      exact ⟨_, rfl, ⟨ls, hown, hrows.out, E.out⟩, hbel⟩
set_option maxHeartbeats 3200000 in
theorem toMedl_any (v : Value) (m : Mdl) (w : World) (h : RdM w v m) (hs : SmlM m) :
    Calls Tryz.prog 20 #[v] w fun e w' => ∃ v', e = .returned v' ∧ OwnM w' w.heap.size v' m ∧ Below w.heap.size w w' := by
  obtain ⟨A1, n1, c1, A2, n2, c2, A3, n3, c3, rfl, h1, h2, h3⟩ := h
  have hl1 := h1.len
  have hl2 := h2.len
  have hl3 := h3.len
  have q1 : n1 ≤ 16777216 := by have := hs.ns; omega
  have q2 : n2 ≤ 16777216 := by have := hs.ms; omega
  have q3 : n3 ≤ 16777216 := by have := hs.ss; omega
  have q4 := hide (fun x (hx : x ∈ m.ms) => show x.nx.length ≤ 16777216 by have := hs.nx x hx; omega)
  have H1 := hide h1
  have H2 := hide h2
  have H3 := hide h3
  clear h1 h2 h3 hl1 hl2 hl3 hs
  go_enter Tryz.func20, Tryz.ntmps20
  go_wp2_with fail
  have B0 : Below w.heap.size w (((w.alloc (.cells #[.int .i64 m.id, .slice A1 n1 c1, .slice A2 n2 c2, .slice A3 n3 c3] 38)).alloc (.cells #[.int .i64 0, .slice none 0 0, .slice none 0 0, .slice none 0 0] 28)).alloc (.cells #[.int .i64 m.id, .slice none 0 0, .slice none 0 0, .slice none 0 0] 28)) := by (repeat (first | exact Below.refl _ _ | (refine Below.alloc ?_ (by simp <;> omega) _) | (refine Below.setCell ?_ (by simp <;> omega) _)))
  refine (toNodeInfoS_any _ _ _ _ _ (H1.out.below B0) q1).mono ?_
  rintro e w1 ⟨g1, rfl, own1, b1⟩
  have S1 : w.heap.size + 3 ≤ w1.heap.size := by have := b1.size; simp at this; omega
  have F3 := (At.fresh2 w (.cells #[.int .i64 m.id, .slice A1 n1 c1, .slice A2 n2 c2, .slice A3 n3 c3] 38) (.cells #[.int .i64 0, .slice none 0 0, .slice none 0 0, .slice none 0 0] 28) 28 #[.int .i64 m.id, .slice none 0 0, .slice none 0 0, .slice none 0 0]).keep b1
  have F2 := ((At.fresh1 w (.cells #[.int .i64 m.id, .slice A1 n1 c1, .slice A2 n2 c2, .slice A3 n3 c3] 38) 28 #[.int .i64 0, .slice none 0 0, .slice none 0 0, .slice none 0 0]).alloc (.cells #[.int .i64 m.id, .slice none 0 0, .slice none 0 0, .slice none 0 0] 28)).keep b1
  have F1 := (((At.fresh w 38 #[.int .i64 m.id, .slice A1 n1 c1, .slice A2 n2 c2, .slice A3 n3 c3]).alloc (.cells #[.int .i64 0, .slice none 0 0, .slice none 0 0, .slice none 0 0] 28)).alloc (.cells #[.int .i64 m.id, .slice none 0 0, .slice none 0 0, .slice none 0 0] 28)).keep b1
  have B1 := B0.trans (b1.mono (by simp <;> omega))
  obtain ⟨x1, hx1⟩ : ∃ x, x = w1.setCell ⟨w.heap.size + 1 + 1, 1, none⟩ (.slice (some ⟨g1, 0, none⟩) n1 n1) := ⟨_, rfl⟩
  have G3 : At x1 (w.heap.size + 1 + 1) 28 #[.int .i64 m.id, .slice (some ⟨g1, 0, none⟩) n1 n1, .slice none 0 0, .slice none 0 0] := by rw [hx1]; exact F3.set 1 _
  have G2 : At x1 (w.heap.size + 1) 28 #[.int .i64 0, .slice none 0 0, .slice none 0 0, .slice none 0 0] := by rw [hx1]; exact F2.other (by omega) _ _
  have G1 : At x1 w.heap.size 38 #[.int .i64 m.id, .slice A1 n1 c1, .slice A2 n2 c2, .slice A3 n3 c3] := by rw [hx1]; exact F1.other (by omega) _ _
  have C1 : Below w.heap.size w x1 := by rw [hx1]; exact B1.setCell (by simp <;> omega) _
  have P1 : OwnR 68 Nod.v 4 x1 (w.heap.size + 3) (some ⟨g1, 0, none⟩) n1 n1 m.ns := by
    rw [hx1]
    exact (own1.mono (by simp <;> omega)).setLow (by omega) _ _
  have e3 := F3.cell 1
  have z3 := F3.frozen 1
  have e1 := F1.cell 2
  simp at e3 e1
  have k1 := hide G1
  have k2 := hide G2
  have k3 := hide G3
  have k4 := hide C1
  have k5 := hide P1
  have k6 := hide hx1
  clear F3 F2 F1 B1 G3 G2 G1 C1 P1 b1 own1 hx1 B0
  go_wp2_with fail
  rw [← k6.out]
  have S2 : w.heap.size + 3 ≤ x1.heap.size := by have := k6.out; rw [this]; simpa using S1
  refine (toModeInfoS_any _ _ _ _ x1 (H2.out.below k4.out) q2 q4.out).mono ?_
  rintro e w2 ⟨g2, rfl, own2, b2⟩
  have S3 := Nat.le_trans S2 b2.size
  have F3 := k3.out.keep b2
  have F2 := k2.out.keep b2
  have F1 := k1.out.keep b2
  have B1 := k4.out.trans (b2.mono (by omega))
  obtain ⟨x2, hx2⟩ : ∃ x, x = w2.setCell ⟨w.heap.size + 1 + 1, 2, none⟩ (.slice (some ⟨g2, 0, none⟩) n2 n2) := ⟨_, rfl⟩
  have G3 : At x2 (w.heap.size + 1 + 1) 28 #[.int .i64 m.id, .slice (some ⟨g1, 0, none⟩) n1 n1, .slice (some ⟨g2, 0, none⟩) n2 n2, .slice none 0 0] := by rw [hx2]; exact F3.set 2 _
  have G2 : At x2 (w.heap.size + 1) 28 #[.int .i64 0, .slice none 0 0, .slice none 0 0, .slice none 0 0] := by rw [hx2]; exact F2.other (by omega) _ _
  have G1 : At x2 w.heap.size 38 #[.int .i64 m.id, .slice A1 n1 c1, .slice A2 n2 c2, .slice A3 n3 c3] := by rw [hx2]; exact F1.other (by omega) _ _
  have C1 : Below w.heap.size w x2 := by rw [hx2]; exact B1.setCell (by simp <;> omega) _
  have P1 : OwnR 68 Nod.v 4 x2 (w.heap.size + 3) (some ⟨g1, 0, none⟩) n1 n1 m.ns := by
    rw [hx2]
    exact (k5.out.below b2).setLow (by omega) _ _
  have P2 : OwnMs x2 (w.heap.size + 3) (some ⟨g2, 0, none⟩) n2 n2 m.ms := by
    rw [hx2]
    exact (own2.mono S2).setLow (by omega) _ _
  have e5 := F3.cell 2
  have z5 := F3.frozen 2
  have e6 := F1.cell 3
  simp at e5 e6
  have j1 := hide G1
  have j2 := hide G2
  have j3 := hide G3
  have j4 := hide C1
  have j5 := hide P1
  have j6 := hide hx2
  have j7 := hide P2
  clear F3 F2 F1 B1 G3 G2 G1 C1 P1 P2 b2 own2 hx2 k1 k2 k3 k4 k5 k6 e3 z3 e1
  go_wp2_with fail
  rw [← j6.out]
  have S4 : w.heap.size + 3 ≤ x2.heap.size := by have := j6.out; rw [this]; simpa using S3
  refine (toSlotInfoS_any _ _ _ _ x2 (H3.out.below j4.out) q3).mono ?_
  rintro e w3 ⟨g3, rfl, own3, b3⟩
  have S5 := Nat.le_trans S4 b3.size
  have F3 := j3.out.keep b3
  have F2 := j2.out.keep b3
  have B1 := j4.out.trans (b3.mono (by omega))
  obtain ⟨x3, hx3⟩ : ∃ x, x = w3.setCell ⟨w.heap.size + 1 + 1, 3, none⟩ (.slice (some ⟨g3, 0, none⟩) n3 n3) := ⟨_, rfl⟩
  have G3 : At x3 (w.heap.size + 1 + 1) 28 #[.int .i64 m.id, .slice (some ⟨g1, 0, none⟩) n1 n1, .slice (some ⟨g2, 0, none⟩) n2 n2, .slice (some ⟨g3, 0, none⟩) n3 n3] := by rw [hx3]; exact F3.set 3 _
  have G2 : At x3 (w.heap.size + 1) 28 #[.int .i64 0, .slice none 0 0, .slice none 0 0, .slice none 0 0] := by rw [hx3]; exact F2.other (by omega) _ _
  have C1 : Below w.heap.size w x3 := by rw [hx3]; exact B1.setCell (by simp <;> omega) _
  have P1 : OwnR 68 Nod.v 4 x3 (w.heap.size + 3) (some ⟨g1, 0, none⟩) n1 n1 m.ns := by
    rw [hx3]
    exact (j5.out.below b3).setLow (by omega) _ _
  have P2 : OwnMs x3 (w.heap.size + 3) (some ⟨g2, 0, none⟩) n2 n2 m.ms := by
    rw [hx3]
    exact (j7.out.below b3).setLow (by omega) _ _
  have P3 : OwnR 61 Slt.v 8 x3 (w.heap.size + 3) (some ⟨g3, 0, none⟩) n3 n3 m.ss := by
    rw [hx3]
    exact (own3.mono S4).setLow (by omega) _ _
  have e7 := F3.cell 3
  have z7 := F3.frozen 3
  have d0 := F3.cell 0
  have d1 := F3.cell 1
  have d2 := F3.cell 2
  have c0 := F2.cell 0
  have c1' := F2.cell 1
  have c2' := F2.cell 2
  have c3' := F2.cell 3
  have y0 := F2.frozen 0
  have y1 := F2.frozen 1
  have y2 := F2.frozen 2
  have y3 := F2.frozen 3
  simp at e7 d0 d1 d2 c0 c1' c2' c3'
  have i2 := hide G2
  have i3 := hide G3
  have i4 := hide C1
  have i5 := hide P1
  have i6 := hide hx3
  have i7 := hide P2
  have i8 := hide P3
  clear F3 F2 B1 G3 G2 C1 P1 P2 P3 b3 own3 hx3 j1 j2 j3 j4 j5 j6 j7 e5 z5 e6
  go_wp2
  rw [← i6.out]
  have fin := (((i2.out.set 0 (.int .i64 m.id)).set 1 (.slice (some ⟨g1, 0, none⟩) n1 n1)).set 2 (.slice (some ⟨g2, 0, none⟩) n2 n2)).set 3 (.slice (some ⟨g3, 0, none⟩) n3 n3)
  have hres := fun (tmps : Array Value) (hp : tmps.getD 2 undef = .pointer (some ⟨w.heap.size + 1, 0, none⟩)) => results_M (tmps := tmps) Tryz.results20 hp fin
  refine bodyPost_ret (hres _ rfl) rfl ?_
  refine ⟨_, rfl, ⟨_, _, _, _, _, _, _, _, _, rfl, ?_, ?_, ?_⟩, ?_⟩
  · exact OwnR.mono ((((i5.out.setLow (by omega) _ _).setLow (by omega) _ _).setLow (by omega) _ _).setLow (by omega) _ _) (by omega)
  · exact OwnMs.mono ((((i7.out.setLow (by omega) _ _).setLow (by omega) _ _).setLow (by omega) _ _).setLow (by omega) _ _) (by omega)
  · exact OwnR.mono ((((i8.out.setLow (by omega) _ _).setLow (by omega) _ _).setLow (by omega) _ _).setLow (by omega) _ _) (by omega)
  · exact (((i4.out.setCell (by simp <;> omega) _).setCell (by simp) _).setCell (by simp) _).setCell (by simp) _
end Go.Proofs.YtdkhldebnpmiiaaGreatDoor
