/- Contracts of draws: a schedule. -/
import Derived.Test.YtdkhldebnpmiiaaGreatDoorZDrK
import Derived.Test.YtdkhldebnpmiiaaGreatDoorZDrD
import Derived.Deep.Cut
import Derived.Deep.CutRange
namespace Go.Proofs.YtdkhldebnpmiiaaGreatDoor
open Go.RowKit
set_option linter.unusedVariables false
set_option linter.unusedSimpArgs false
theorem actV_bit (l : List Nod) : ∀ x ∈ l, x.pas = false → (actV l).testBit x.id.toNat = true := by
  refine snoc_ind (P := fun l => ∀ x ∈ l, x.pas = false → (actV l).testBit x.id.toNat = true) ?_ ?_ l
  · intro x hx
    cases hx
  · intro l y ih x hx hp
    have e : actV (l ++ [y]) = if y.pas then actV l else orV (actV l) y.id := by
      rw [actV, List.foldl_append]
      rfl
    rw [e]
    rcases List.mem_append.1 hx with q | q
    · have := ih x q hp
      split
      · exact this
      · rw [orV, or_pow_bit, this]; rfl
    · simp at q
      subst q
      rw [if_neg (by rw [hp]; simp), orV, or_pow_bit]
      simp
section
variable {w w' : World} {B B2 n c G : Nat} {A : Option Addr} {T T2 : TypeId} {X : Array Value} {α : Type} {f : α → List Value} {k : Nat} {l : List α}
theorem At.keepR (hs : At w G T X) (h : OwnR T2 f k w B A n c l) (hT : T ≠ T2) (hg : w.grownBy w' (Value.slice A n c).ownBlock) : At w' G T X :=
  (hg.block G hs.lt (fun e => by
    rcases h.1.2 with ⟨hv, _⟩ | ⟨g', cap, cur, hv, _, hh, _⟩
    · rw [hv] at e; simp [Value.ownBlock] at e
    · rw [hv] at e
      simp [Value.ownBlock] at e
      subst e
      unfold At at hs
      rw [hs] at hh
      simp at hh
      exact hT hh.2)).trans hs
theorem Own.keepRow {zs : List Int} (h : Own w B A n c zs) {B3 n3 c3 : Nat} {A3 : Option Addr} (o : OwnR T2 f k w B3 A3 n3 c3 l) (hT : 2 ≠ T2) (hg : w.grownBy w' (Value.slice A3 n3 c3).ownBlock) : Own w' B A n c zs := h.keepG hg (blocks_ne h.1 o.1 hT)
theorem OwnR.keepRow {β : Type} {h2 : β → List Value} {j : Nat} {ys : List β} (h : OwnR T f k w B A n c l) {B3 n3 c3 : Nat} {A3 : Option Addr} (o : OwnR T2 h2 j w B3 A3 n3 c3 ys) (hT : T ≠ T2) (hg : w.grownBy w' (Value.slice A3 n3 c3).ownBlock) : OwnR T f k w' B A n c l := h.keepG hg (blocks_ne h.1 o.1 hT)
end
/-- the rows that a schedule's draw has in hand -/
structure Pd (w : World) (g : Nat) (A : Option Addr) (n c : Nat) (bs : List Int) (d0 : Nat) (A1 : Option Addr) (m1 c1 : Nat) (ln : List Nod) (A4 : Option Addr) (m4 c4 : Nat) (za : List Int) (H : Nat) (A6 : Option Addr) (k6 c6 : Nat) (lm : List Mod) (A7 : Option Addr) (p7 c7 : Nat) (ls : List Slt) (wk : World) : Prop where
  D : Dw w g A n c bs wk
  z : At wk d0 28 #[.int .i64 0, .slice none 0 0, .slice none 0 0, .slice none 0 0]
  ns : OwnR 68 Nod.v 4 wk w.heap.size A1 m1 c1 ln
  ac : Own wk w.heap.size A4 m4 c4 za
  lo : ∀ q, A4 = some ⟨q, 0, none⟩ → q < H
  ms : Ml w.heap.size H A6 k6 c6 lm wk
  ss : OwnR 61 Slt.v 8 wk w.heap.size A7 p7 c7 ls
section
variable {w wk wk' : World} {g n c d0 m1 c1 m4 c4 H k6 c6 p7 c7 : Nat} {A A1 A4 A6 A7 : Option Addr} {bs za : List Int} {ln : List Nod} {lm : List Mod} {ls : List Slt}
theorem Pd.next (h : Pd w g A n c bs d0 A1 m1 c1 ln A4 m4 c4 za H A6 k6 c6 lm A7 p7 c7 ls wk) (hs : Sd wk' g A n c bs) (hg : wk.grownBy wk' (some g)) : Pd w g A n c bs d0 A1 m1 c1 ln A4 m4 c4 za H A6 k6 c6 lm A7 p7 c7 ls wk' :=
  ⟨h.D.step hs hg, h.z.next h.D.s (by decide) hg, h.ns.next h.D.s (by decide) hg, Own.next h.ac h.D.s hg, h.lo, h.ms.next h.D.s hg, h.ss.next h.D.s (by decide) hg⟩
theorem Pd.alloc (h : Pd w g A n c bs d0 A1 m1 c1 ln A4 m4 c4 za H A6 k6 c6 lm A7 p7 c7 ls wk) (o : Obj) : Pd w g A n c bs d0 A1 m1 c1 ln A4 m4 c4 za H A6 k6 c6 lm A7 p7 c7 ls (wk.alloc o) :=
  ⟨h.D.alloc o, h.z.alloc o, h.ns.alloc o, h.ac.alloc o, h.lo, h.ms.alloc o, h.ss.alloc o⟩
theorem Pd.mono {H' : Nat} (h : Pd w g A n c bs d0 A1 m1 c1 ln A4 m4 c4 za H A6 k6 c6 lm A7 p7 c7 ls wk) (hh : H ≤ H') : Pd w g A n c bs d0 A1 m1 c1 ln A4 m4 c4 za H' A6 k6 c6 lm A7 p7 c7 ls wk :=
  ⟨h.D, h.z, h.ns, h.ac, fun q e => Nat.lt_of_lt_of_le (h.lo q e) hh, h.ms.mono hh, h.ss⟩
/-- a row of integers from block H on grows -/
theorem Pd.growI {B' m d : Nat} {A' : Option Addr} {zs : List Int} (h : Pd w g A n c bs d0 A1 m1 c1 ln A4 m4 c4 za H A6 k6 c6 lm A7 p7 c7 ls wk) (o : Own wk B' A' m d zs) (hB : H ≤ B') (hw : w.heap.size ≤ B') (hg : wk.grownBy wk' (Value.slice A' m d).ownBlock) : Pd w g A n c bs d0 A1 m1 c1 ln A4 m4 c4 za H A6 k6 c6 lm A7 p7 c7 ls wk' :=
  ⟨h.D.row o hw hg, h.z.keepOwn o (by decide) hg, h.ns.keepOwn o (by decide) hg, h.ac.keepLo hg o (fun q e => by
    rcases h.ac.form with ⟨e1, _⟩ | ⟨q', e1, _⟩
    · rw [e1] at e; simp [Value.ownBlock] at e
    · have := h.lo q' e1
      rw [e1] at e
      simp [Value.ownBlock] at e
      omega), h.lo, h.ms.grow o hB hg, h.ss.keepOwn o (by decide) hg⟩
/-- the row of slots grows -/
theorem Pd.growS {A' : Option Addr} {p' c' : Nat} {ls' : List Slt} (h : Pd w g A n c bs d0 A1 m1 c1 ln A4 m4 c4 za H A6 k6 c6 lm A7 p7 c7 ls wk) (o : OwnR 61 Slt.v 8 wk' w.heap.size A' p' c' ls') (hg : wk.grownBy wk' (Value.slice A7 p7 c7).ownBlock) : Pd w g A n c bs d0 A1 m1 c1 ln A4 m4 c4 za H A6 k6 c6 lm A' p' c' ls' wk' :=
  ⟨h.D.rowR h.ss (Nat.le_refl _) hg, h.z.keepR h.ss (by decide) hg, h.ns.keepRow h.ss (by decide) hg, h.ac.keepRow h.ss (by decide) hg, h.lo,
   ⟨h.ms.row.keepRow h.ss (by decide) hg, fun x hx => (h.ms.nx x hx).keepRow h.ss (by decide) hg, h.ms.lo, h.ms.ap, h.ms.len⟩, o⟩
/-- the row of modes grows -/
theorem Pd.growM {A' : Option Addr} {c' : Nat} {x : Mod} (h : Pd w g A n c bs d0 A1 m1 c1 ln A4 m4 c4 za H A6 k6 c6 lm A7 p7 c7 ls wk) (o : OwnR 107 Mod.v 3 wk' w.heap.size A' (k6 + 1) c' (lm ++ [x])) (hg : wk.grownBy wk' (Value.slice A6 k6 c6).ownBlock) (hx : Own wk w.heap.size x.A x.n x.c x.nx) (hlo : ∀ q, x.A = some ⟨q, 0, none⟩ → H ≤ q) (hH : H ≤ wk.heap.size) (hn : x.n ≤ 100) : Pd w g A n c bs d0 A1 m1 c1 ln A4 m4 c4 za wk'.heap.size A' (k6 + 1) c' (lm ++ [x]) A7 p7 c7 ls wk' :=
  ⟨h.D.rowR h.ms.row (Nat.le_refl _) hg, h.z.keepR h.ms.row (by decide) hg, h.ns.keepRow h.ms.row (by decide) hg, h.ac.keepRow h.ms.row (by decide) hg, fun q e => Nat.lt_of_lt_of_le (h.lo q e) (Nat.le_trans hH hg.size),
   (h.ms.snoc o hg hx hlo (fun q e => (hx.between q e).2) hH hn).mono hg.size, h.ss.keepRow h.ms.row (by decide) hg⟩
end
/-- a drawn schedule -/
def GotMd (w : World) (g : Nat) (A : Option Addr) (n c : Nat) (bs : List Int) (e : Ending) (w' : World) : Prop := ∃ v m, e = .returned v ∧ MdO w' w.heap.size v m ∧ Sd w' g A n c bs ∧ w.grownBy w' (some g)
set_option maxHeartbeats 12800000 in
set_option maxRecDepth 100000 in
theorem l13Draw_d (g : Nat) (A : Option Addr) (n c : Nat) (bs : List Int) (w : World) (h : Sd w g A n c bs) :
    Calls Tryz.prog 109 #[.pointer (some ⟨g, 0, none⟩)] w (GotMd w g A n c bs) := by
  have D := hide (Dw.refl h)
  obtain ⟨W0, hW0⟩ : ∃ W0, W0 = w.alloc (.cells #[.int .i64 0, .slice none 0 0, .slice none 0 0, .slice none 0 0] 28) := ⟨_, rfl⟩
  obtain ⟨d0, hd0'⟩ : ∃ d0, d0 = w.heap.size := ⟨_, rfl⟩
  have hd0 : w.heap.size ≤ d0 := by omega
  have A0 := hide (show At W0 d0 28 _ by rw [hW0, hd0']; exact At.fresh _ _ _)
  have D0 := hide (show Dw w g A n c bs W0 by rw [hW0]; exact D.out.alloc _)
  have HW0 := hide hW0
  have HD0 := hide hd0'
  clear hW0 hd0' h
  go_enter Tryz.func109, Tryz.ntmps109
  go_wp2_with fail
  rw [← HW0.out, ← HD0.out]
  refine (next_d _ _ _ _ _ _ _ D0.out.s).mono ?_
  rintro e w1 ⟨x, rfl, x0, x1, h1, g1⟩
  have D1 := hide (D0.out.step h1 g1)
  have A1' := hide (A0.out.next D0.out.s (by decide) g1)
  clear x1 h1 g1
  by_cases ex : x = 0
  · subst ex
    go_wp2_with fail
    go_at_call 127
    refine (SmallMedl_d _).mono ?_
    rintro e w2 ⟨v, m, rfl, mo, b2⟩
    have D2 := hide (D1.out.below b2)
    have a2 := A1'.out.keep b2
    have M2 := hide mo
    have hlt : d0 < w1.heap.size := A1'.out.lt
    have HS := hide D1.out.sz
    clear b2 mo
    obtain ⟨B1, n1, e1, B2, n2, e2, B3, n3, e3, rfl, r⟩ := M2.out
    clear r
    have f0 := a2.cell 0
    have f1 := a2.cell 1
    have f2 := a2.cell 2
    have f3 := a2.cell 3
    simp at f0 f1 f2 f3
    have q0 := a2.frozen 0
    have q1 := a2.frozen 1
    have q2 := a2.frozen 2
    have q3 := a2.frozen 3
    have HA2 := hide a2
    clear a2
    go_wp2
    have fin := (((HA2.out.set 0 (.int .i64 m.id)).set 1 (.slice B1 n1 e1)).set 2 (.slice B2 n2 e2)).set 3 (.slice B3 n3 e3)
    refine bodyPost_ret (results_M Tryz.results109 rfl fin) rfl ?_
    have HF := (((D2.out.set hd0 0 (.int .i64 m.id)).set hd0 1 (.slice B1 n1 e1)).set hd0 2 (.slice B2 n2 e2)).set hd0 3 (.slice B3 n3 e3)
    exact ⟨_, m, rfl, ((((M2.out.setLow hlt 0 (.int .i64 m.id)).setLow hlt 1 (.slice B1 n1 e1)).setLow hlt 2 (.slice B2 n2 e2)).setLow hlt 3 (.slice B3 n3 e3)).mono HS.out, HF.s, HF.gr⟩
  go_wp2_with fail
  go_at_call 128
  refine (l10Draw_d _ _ _ _ _ _ D1.out.s).mono ?_
  rintro e w2 ⟨A1, m1, c1, l, rfl, m0, m1', own, ok, ids, h1, g1⟩
  have D2 := hide (D1.out.step h1 g1)
  have A2' := hide (A1'.out.next D1.out.s (by decide) g1)
  obtain ⟨gr, rfl, gr0, _⟩ := (RawO.of own).form (by omega)
  have hcap := own.cap
  obtain ⟨x0', hx0, hc0⟩ := own.at0 (i := 0) (by omega)
  have cp := hc0 3 _ rfl
  have fp := own.frozen 3
  have hg0 : w.heap.size ≤ gr := Nat.le_trans D1.out.sz gr0
  have own3 := own.put1 (x' := ⟨x0'.id, x0'.nm, x0'.dr, false⟩) hx0 3 (by omega) (.bool false) rfl
  obtain ⟨W3, hW3⟩ : ∃ W3, W3 = w2.setCell ⟨gr, 3, none⟩ (.bool false) := ⟨_, rfl⟩
  rw [show 0 * 4 + 3 = 3 from rfl] at own3 cp
  rw [← hW3] at own3
  obtain ⟨ln, hln⟩ : ∃ ln, ln = l.set 0 ⟨x0'.id, x0'.nm, x0'.dr, false⟩ := ⟨_, rfl⟩
  rw [← hln] at own3
  have hmem := List.mem_of_getElem? hx0
  have OK := hide (show NsOk ln by rw [hln]; exact ok.set 0 (x := ⟨x0'.id, x0'.nm, x0'.dr, false⟩) (ok.id x0' hmem) (ok.nm x0' hmem))
  have IDS := hide (show Ids ln from fun y hy => by
    rw [hln] at hy
    rcases List.mem_or_eq_of_mem_set hy with q | rfl
    · exact ids y q
    · exact ids x0' hmem)
  have FST := hide (show ln[0]? = some ⟨x0'.id, x0'.nm, x0'.dr, false⟩ by rw [hln]; exact List.getElem?_set_self (get_lt hx0))
  have XID := hide (ids x0' hmem)
  have O3 := hide (own3.mono D1.out.sz)
  have D3 := hide (show Dw w g A n c bs W3 by rw [hW3]; exact D2.out.set hg0 _ _)
  have A3' := hide (show At W3 d0 28 _ by rw [hW3]; exact A2'.out.other (by have := A1'.out.lt; omega) 3 (.bool false))
  have HW3 := hide hW3
  clear h1 g1 own ok ids hc0 hx0 own3 hW3 hln hmem
  go_upto_if 27 with (fail)
  rw [← HW3.out]
  go_cut [3] (fun v wx => ∃ m2 : Nat, v = .slice (some ⟨gr, 0, none⟩) m2 c1 ∧ 1 ≤ m2 ∧ m2 ≤ m1 ∧ wx = W3)
  case first =>
    by_cases h3 : 3 < m1
    · go_wp2
      go_meet
      exact ⟨3, rfl, by omega, by omega, rfl⟩
    · go_wp2
      go_meet
      exact ⟨m1, rfl, by omega, by omega, rfl⟩
  case rest =>
    obtain ⟨m2, rfl, k2a, k2b, hw⟩ := hcut
    rw [hw]
    clear hw
    have RN := hide (O3.out.rd.take k2b)
    have IDT := hide (show Ids (ln.take m2) from fun y hy => IDS.out y (List.mem_of_mem_take hy))
    have FT := hide (show (⟨x0'.id, x0'.nm, x0'.dr, false⟩ : Nod) ∈ ln.take m2 from List.mem_of_getElem? (i := 0) (by rw [List.getElem?_take, if_pos (by omega)]; exact FST.out))
    go_wp2_with fail
    go_at_call 89
    refine (l10Active_any _ _ _ _ _ RN.out IDT.out).mono ?_
    rintro e wz ⟨rfl, rfl⟩
    go_wp2_with fail
    go_at_call 129
    refine (MembersOf_d _ _ (actV_lt _ IDT.out)).mono ?_
    rintro e w4 ⟨A4, m4, c4, za, rfl, oa, h32, hne, b4⟩
    have hbit := actV_bit (ln.take m2) ⟨x0'.id, x0'.nm, x0'.dr, false⟩ FT.out rfl
    have h1m : 1 ≤ m4 := hne ⟨x0'.id.toNat, by have := XID.out; omega, hbit⟩
    clear hbit
    obtain ⟨q4, rfl, q4l, q4h⟩ := oa.raw.form (by omega)
    have hcap4 := oa.cap
    have D4 := hide (D3.out.below b4)
    have A4' := hide (A3'.out.keep b4)
    have O4 := hide (O3.out.below b4)
    have OA := hide (oa.mono D3.out.sz)
    have PA := hide (show Pd w g A n c bs d0 (some ⟨gr, 0, none⟩) m1 c1 ln (some ⟨q4, 0, none⟩) m4 c4 za w4.heap.size (some ⟨w4.heap.size, 0, none⟩) 0 0 [] (some ⟨w4.heap.size + 1, 0, none⟩) 0 0 [] ((w4.alloc (.cells #[] 107)).alloc (.cells #[] 61)) from
      ⟨(D4.out.alloc _).alloc _, (A4'.out.alloc _).alloc _, (O4.out.alloc _).alloc _, (OA.out.alloc _).alloc _, (by intro q e; simp at e; omega),
       ⟨(OwnR.empty w4 D4.out.sz Mod.k).alloc _, (by intro x hx; cases hx), (by intro x hx; cases hx), by simp, (by intro x hx; cases hx)⟩, (by
        have h := OwnR.empty (T := 61) (f := Slt.v) (k := 8) (B := w.heap.size) (w4.alloc (.cells #[] 107)) (by have := D4.out.sz; simp; omega) Slt.k
        rwa [show (w4.alloc (.cells #[] 107)).heap.size = w4.heap.size + 1 by simp] at h)⟩)
    clear oa hne b4 D0 D1 D2 A0 A1' A2' O3 D3 A3' HW3
    go_wp2_with fail
    refine (next_d _ _ _ _ _ _ _ PA.out.D.s).mono ?_
    rintro e w5 ⟨y, rfl, y0, y1, h1, g1⟩
    have y2 := y1 (by omega)
    have P5 := hide ((PA.out.next h1 g1).mono (H' := w5.heap.size) (by have := g1.size; simp at this; omega))
    clear y1 h1 g1 PA
    go_wp2_with fail
    go_loopw [6, 7, 9] (fun s6 s7 i wr => ∃ (k p : Nat) (A6 : Option Addr) (c6 : Nat) (lm : List Mod) (A7 : Option Addr) (c7 : Nat) (ls : List Slt), s6 = .slice A6 k c6 ∧ s7 = .slice A7 p c7 ∧ i = .int .i64 k ∧ (k : Int) ≤ 1 + y ∧ k ≤ p ∧ p ≤ 66 * k ∧ Hid (Pd w g A n c bs d0 (some ⟨gr, 0, none⟩) m1 c1 ln (some ⟨q4, 0, none⟩) m4 c4 za wr.heap.size A6 k c6 lm A7 p c7 ls wr)) (fun _ _ i _ => ((1 + y) - intOf i).toNat)
    case atStart => exact ⟨0, 0, _, _, _, _, _, _, rfl, rfl, rfl, by omega, by omega, by omega, P5⟩
    case round =>
      clear P5
      obtain ⟨k, p, A6, c6, lm, A7, c7, ls, rfl, rfl, rfl, hk, hp0, hp1, hP⟩ := hrel
      by_cases hlt : (k : Int) < 1 + y
      · obtain ⟨H, hH⟩ : ∃ H, H = wr.heap.size := ⟨_, rfl⟩
        rw [← hH] at hP
        go_wp2_with fail
        refine (next_d _ _ _ _ _ _ _ hP.out.D.s).mono ?_
        rintro e w6 ⟨r, rfl, r0, r1, h1, g1⟩
        have r2 := r1 (by omega)
        have P6 := hide (hP.out.next h1 g1)
        have S6 : H ≤ w6.heap.size := by rw [hH]; exact g1.size
        have SW := hide (show w.heap.size ≤ H by rw [hH]; exact hP.out.D.sz)
        clear r1 h1 g1 hP hH
        go_wp2_with fail
        refine (next_d _ _ _ _ _ _ _ P6.out.D.s).mono ?_
        rintro e w7 ⟨t, rfl, t0, t1, h1, g1⟩
        have t2 := t1 (by omega)
        have P7 := hide (P6.out.next h1 g1)
        have S7 := hide (Nat.le_trans S6 g1.size)
        clear t1 h1 g1 P6 S6
        obtain ⟨t, rfl⟩ := Int.eq_ofNat_of_zero_le t0
        obtain ⟨r, rfl⟩ := Int.eq_ofNat_of_zero_le r0
        go_upto_if 56 with (fail)
        go_cut [] (fun wx => ∃ (nA : Option Addr) (nn nc : Nat) (nx : List Int), nn ≤ 1 ∧ Own wx H nA nn nc nx ∧ At wx w7.heap.size 107 #[.int .i64 (1 + (r : Int)), .int .i64 ((m4 : Int) + (t : Int)), .slice nA nn nc] ∧ Pd w g A n c bs d0 (some ⟨gr, 0, none⟩) m1 c1 ln (some ⟨q4, 0, none⟩) m4 c4 za H A6 k c6 lm A7 p c7 ls wx)
        case first =>
          by_cases hc1 : (1 : Int) < 1 + y
          · go_wp2
            go_meet
            exact ⟨some ⟨w7.heap.size + 1, 0, none⟩, 1, 1, [1 - (k : Int)], by omega, lit_own2 w7 _ S7.out (by omega) (by omega), (At.fresh w7 _ _).alloc _, (P7.out.alloc _).alloc _⟩
          · go_wp2
            go_meet
            exact ⟨none, 0, 0, [], by omega, Own.nil _ _, At.fresh w7 _ _, P7.out.alloc _⟩
        case rest =>
          obtain ⟨nA, nn, nc, nx, hn1, on, ax, p8⟩ := hcut
          obtain ⟨sl, hsl⟩ : ∃ sl : Nat, sl = m4 + t := ⟨_, rfl⟩
          obtain ⟨rn, hrn⟩ : ∃ rn : Nat, rn = 1 + r := ⟨_, rfl⟩
          have hslI : ((m4 : Int) + (t : Int)) = (sl : Int) := by omega
          have hrnI : (1 + (r : Int)) = (rn : Int) := by omega
          rw [hslI, hrnI] at ax
          have sl1 : 1 ≤ sl := by omega
          have sl2 : sl ≤ 33 := by omega
          have rn1 : 1 ≤ rn := by omega
          have rn2 : rn ≤ 2 := by omega
          clear hsl hrn hslI hrnI t2 t0 r2 r0
          have P8 := hide p8
          have ON := hide on
          have AX := hide ax
          have a0 := ax.cell 0
          have a1 := ax.cell 1
          have a2 := ax.cell 2
          simp at a0 a1 a2
          have hsz := p8.D.sz
          have hA6 : Hid (∀ q, A6 = some ⟨q, 0, none⟩ → q < w7.heap.size) := hide (fun q e => by
            rcases P7.out.ms.row.form with ⟨e1, _⟩ | ⟨q', e1, _, e2⟩
            · rw [e1] at e; cases e
            · rw [e1] at e; simp at e; omega)
          have hk2 : k ≤ 2 := by omega
          clear on ax p8
          go_wp2_with (at_builtin; go_loud (refine append_rec info_mod Tryz.underlying25 rfl (by decide) (by decide) rfl _ _ rfl rfl P8.out.ms.row _ 1 [⟨(rn : Int), (sl : Int), nA, nn, nc, nx⟩] rfl rfl (by simp [Mod.v, Value.oneCell']) rfl (by omega) hsz ?_); intro A6' c6' w9 own9 gr9)
          have HSC := hide (show H ≤ wc.heap.size from Nat.le_trans S7.out (Nat.le_of_lt AX.out.lt))
          have AX9 := hide (show At w9 w7.heap.size 107 _ from (gr9.block w7.heap.size AX.out.lt (fun e => by
            rcases P8.out.ms.row.form with ⟨e1, _⟩ | ⟨q', e1, _⟩
            · rw [e1] at e; simp [Value.ownBlock] at e
            · have := hA6.out q' e1
              rw [e1] at e
              simp [Value.ownBlock] at e
              omega)).trans AX.out)
          have P9 := hide (P8.out.growM own9 gr9 (ON.out.mono SW.out) (fun q e => (ON.out.between q e).1) HSC.out (show nn ≤ 100 by omega))
          obtain ⟨H9, hH9⟩ : ∃ H9, H9 = w9.heap.size := ⟨_, rfl⟩
          rw [← hH9] at P9
          have SW9 := hide (show w.heap.size ≤ H9 by rw [hH9]; exact P9.out.D.sz)
          have DU := hide (Own.empty w9 (B := H9) (by rw [hH9]; exact Nat.le_refl _))
          have PE := hide (P9.out.alloc (.cells #[] 2))
          have AE := hide (AX9.out.alloc (.cells #[] 2))
          have SE := hide (show H9 ≤ (w9.alloc (.cells #[] 2)).heap.size by rw [hH9]; simp)
          clear own9 gr9 P8 ON AX P7 hA6 HSC P9 AX9 hH9 a0 a1 a2
          go_wp2_with fail
          go_loopw [11, 12] (fun s i wr => ∃ (j : Nat) (A8 : Option Addr) (c8 : Nat) (ds : List Int), s = .slice A8 j c8 ∧ i = .int .i64 j ∧ j ≤ sl ∧ Hid (Own wr H9 A8 j c8 ds) ∧ Hid (At wr w7.heap.size 107 #[.int .i64 ((rn : Int)), .int .i64 ((sl : Int)), .slice nA nn nc]) ∧ Hid (Pd w g A n c bs d0 (some ⟨gr, 0, none⟩) m1 c1 ln (some ⟨q4, 0, none⟩) m4 c4 za H9 A6' (k + 1) c6' (lm ++ [⟨(rn : Int), (sl : Int), nA, nn, nc, nx⟩]) A7 p c7 ls wr) ∧ Hid (H9 ≤ wr.heap.size)) (fun _ i _ => sl - (intOf i).toNat)
          case atStart => exact ⟨0, _, _, _, rfl, rfl, by omega, DU, AE, PE, SE⟩
          case round =>
            clear DU AE PE SE
            obtain ⟨j, A8, c8, ds, rfl, rfl, hj, hdu, hax, hP, hsz9⟩ := hrel
            have a1 := hax.out.cell 1
            simp at a1
            by_cases hlj : j < sl
            · go_wp2_with fail
              refine (next_d _ _ _ _ _ _ _ hP.out.D.s).mono ?_
              rintro e w10 ⟨z, rfl, z0, z1, h1, g1⟩
              have z2 := z1 (by omega)
              have DU2 := hide (Own.next hdu.out hP.out.D.s g1)
              have AX2 := hide (hax.out.next hP.out.D.s (by decide) g1)
              have P2 := hide (hP.out.next h1 g1)
              have S2 := Nat.le_trans hsz9.out g1.size
              clear z1 h1 g1 hdu hax hP hsz9 a1
              go_wp2_with (at_builtin; go_loud (refine append_new rfl _ _ rfl H9 rfl DU2.out _ [260 + z] 1 rfl (I64.one (by omega) (by omega)) rfl rfl (by omega) S2 ?_); intro A9 c9 w11 own11 gr11)
              have P3 := hide (P2.out.growI DU2.out (Nat.le_refl _) SW9.out gr11)
              have AX3 := hide (AX2.out.keepOwn DU2.out (by decide) gr11)
              have S3 := hide (Nat.le_trans S2 gr11.size)
              go_roundw
              case rel => exact ⟨j + 1, A9, c9, _, rfl, by go_num, by omega, hide own11, AX3, P3, S3⟩
              case measure => simp [intOf]; omega
            · obtain rfl : sl = j := by omega
              obtain ⟨q8, rfl, _, _⟩ := hdu.out.raw.form (by omega)
              have hcap8 := hdu.out.cap
              go_wp2_with fail
              go_loopw [7, 13] (fun s i wr => ∃ (u p' : Nat) (A7' : Option Addr) (c7' : Nat) (ls' : List Slt), s = .slice A7' p' c7' ∧ i = .int .i64 u ∧ u ≤ rn ∧ p + u ≤ p' ∧ p' ≤ p + 33 * u ∧ Hid (Own wr H9 (some ⟨q8, 0, none⟩) (sl) c8 ds) ∧ Hid (At wr w7.heap.size 107 #[.int .i64 ((rn : Int)), .int .i64 ((sl : Int)), .slice nA nn nc]) ∧ Hid (Pd w g A n c bs d0 (some ⟨gr, 0, none⟩) m1 c1 ln (some ⟨q4, 0, none⟩) m4 c4 za H9 A6' (k + 1) c6' (lm ++ [⟨(rn : Int), (sl : Int), nA, nn, nc, nx⟩]) A7' p' c7' ls' wr)) (fun _ i _ => rn - (intOf i).toNat)
              case atStart => exact ⟨0, p, A7, c7, ls, rfl, rfl, by omega, by omega, by omega, hdu, hax, hP⟩
              case round =>
                clear hdu hax hP hsz9 a1
                obtain ⟨u, p', A7', c7', ls', rfl, rfl, hu, hp2, hp3, hdu, hax, hP⟩ := hrel
                have a0 := hax.out.cell 0
                simp at a0
                by_cases hlu : u < rn
                · go_wp2_with fail
                  go_loopw [7, 14] (fun s i wr => ∃ (v p'' : Nat) (A7'' : Option Addr) (c7'' : Nat) (ls'' : List Slt), s = .slice A7'' p'' c7'' ∧ i = .int .i64 v ∧ v ≤ sl ∧ p' + v ≤ p'' ∧ p'' ≤ p' + v ∧ Hid (Own wr H9 (some ⟨q8, 0, none⟩) (sl) c8 ds) ∧ Hid (At wr w7.heap.size 107 #[.int .i64 ((rn : Int)), .int .i64 ((sl : Int)), .slice nA nn nc]) ∧ Hid (Pd w g A n c bs d0 (some ⟨gr, 0, none⟩) m1 c1 ln (some ⟨q4, 0, none⟩) m4 c4 za H9 A6' (k + 1) c6' (lm ++ [⟨(rn : Int), (sl : Int), nA, nn, nc, nx⟩]) A7'' p'' c7'' ls'' wr)) (fun _ i _ => sl - (intOf i).toNat)
                  case atStart => exact ⟨0, p', A7', c7', ls', rfl, rfl, by omega, by omega, by omega, hdu, hax, hP⟩
                  case round =>
                    clear hdu hax hP a0
                    obtain ⟨v, p'', A7'', c7'', ls'', rfl, rfl, hv, hp4, hp5, hdu, hax, hP⟩ := hrel
                    have a1 := hax.out.cell 1
                    simp at a1
                    by_cases hlv : v < sl
                    · go_wp2_with fail
                      go_at_call 130
                      refine (l08Draw_d _ _ _ _ _ _ hP.out.D.s).mono ?_
                      rintro e w12 ⟨nd, kd, sz, du, ch, rfl, h1, g1, nd0, kd0, sz0, du0⟩
                      have DU2 := hide (Own.next hdu.out hP.out.D.s g1)
                      have AX2 := hide (hax.out.next hP.out.D.s (by decide) g1)
                      have P2 := hide (hP.out.next h1 g1)
                      have hmod : v % m4 < m4 := Nat.mod_lt _ (by omega)
                      have ca := P2.out.ac.cell (k := v % m4) hmod
                      have cd := DU2.out.cell (k := v) hlv
                      have hsz := P2.out.D.sz
                      have hq4 := (P2.out.ac.between q4 rfl).2
                      have hq8 := (DU2.out.between q8 rfl).2
                      have hm0 : ¬ m4 = 0 := by omega
                      clear h1 g1 hdu hax hP a1
                      cases hk3 : (kd == 3)
                      · go_upto_region 34 with (fail)
                        obtain ⟨WD, hWD⟩ : ∃ WD, WD = w12.alloc (.cells #[.int .i64 (nth za (v % m4)), .int .i64 kd, .int .i64 sz, .int .i64 (nth ds v), .bool ch] 59) := ⟨_, rfl⟩
                        have AD := hide (show At WD w12.heap.size 59 #[.int .i64 (nth za (v % m4)), .int .i64 kd, .int .i64 sz, .int .i64 (nth ds v), .bool ch] by rw [hWD]; exact At.fresh _ _ _)
                        have PW := hide (show Pd w g A n c bs d0 (some ⟨gr, 0, none⟩) m1 c1 ln (some ⟨q4, 0, none⟩) m4 c4 za H9 A6' (k + 1) c6' (lm ++ [⟨(rn : Int), (sl : Int), nA, nn, nc, nx⟩]) A7'' p'' c7'' ls'' WD by rw [hWD]; exact P2.out.alloc _)
                        have DW := hide (show Own WD H9 (some ⟨q8, 0, none⟩) (sl) c8 ds by rw [hWD]; exact DU2.out.alloc _)
                        have AW := hide (show At WD w7.heap.size 107 #[.int .i64 ((rn : Int)), .int .i64 ((sl : Int)), .slice nA nn nc] by rw [hWD]; exact AX2.out.alloc _)
                        rw [← hWD]
                        have f0 := AD.out.cell 0
                        have f1 := AD.out.cell 1
                        have f2 := AD.out.cell 2
                        have f3 := AD.out.cell 3
                        have f4 := AD.out.cell 4
                        simp at f0 f1 f2 f3 f4
                        have hszD := PW.out.D.sz
                        clear hWD DU2 AX2 P2 ca cd hq4 hq8 AD
                        go_wp2_with (at_builtin; go_loud (refine append_rec info_slt Tryz.underlying26 rfl (by decide) (by decide) rfl _ _ rfl rfl PW.out.ss _ 1 [⟨(k : Int), (u : Int), (v : Int), nth za (v % m4), kd, sz, nth ds v, ch⟩] rfl rfl (by simp [Slt.v, Value.oneCell']) rfl (by omega) hszD ?_); intro A9 c9 w13 own13 gr13)
                        have P3 := hide (PW.out.growS own13 gr13)
                        have DU3 := hide (DW.out.keepRow PW.out.ss (by decide) gr13)
                        have AX3 := hide (AW.out.keepR PW.out.ss (by decide) gr13)
                        go_roundw
                        case rel => exact ⟨v + 1, p'' + 1, A9, c9, _, rfl, by go_num, by omega, by omega, by omega, DU3, AX3, P3⟩
                        case measure => simp [intOf]; omega
                      · obtain rfl : kd = 3 := by simpa using hk3
                        by_cases hmo : 0 < (k : Int)
                        · go_upto_region 34 with (fail)
                          obtain ⟨WD, hWD⟩ : ∃ WD, WD = w12.alloc (.cells #[.int .i64 (nth za (v % m4)), .int .i64 1, .int .i64 sz, .int .i64 (nth ds v), .bool ch] 59) := ⟨_, rfl⟩
                          have AD := hide (show At WD w12.heap.size 59 #[.int .i64 (nth za (v % m4)), .int .i64 1, .int .i64 sz, .int .i64 (nth ds v), .bool ch] by rw [hWD]; exact At.fresh _ _ _)
                          have PW := hide (show Pd w g A n c bs d0 (some ⟨gr, 0, none⟩) m1 c1 ln (some ⟨q4, 0, none⟩) m4 c4 za H9 A6' (k + 1) c6' (lm ++ [⟨(rn : Int), (sl : Int), nA, nn, nc, nx⟩]) A7'' p'' c7'' ls'' WD by rw [hWD]; exact P2.out.alloc _)
                          have DW := hide (show Own WD H9 (some ⟨q8, 0, none⟩) (sl) c8 ds by rw [hWD]; exact DU2.out.alloc _)
                          have AW := hide (show At WD w7.heap.size 107 #[.int .i64 ((rn : Int)), .int .i64 ((sl : Int)), .slice nA nn nc] by rw [hWD]; exact AX2.out.alloc _)
                          rw [← hWD]
                          have f0 := AD.out.cell 0
                          have f1 := AD.out.cell 1
                          have f2 := AD.out.cell 2
                          have f3 := AD.out.cell 3
                          have f4 := AD.out.cell 4
                          simp at f0 f1 f2 f3 f4
                          have hszD := PW.out.D.sz
                          clear hWD DU2 AX2 P2 ca cd hq4 hq8 AD
                          go_wp2_with (at_builtin; go_loud (refine append_rec info_slt Tryz.underlying26 rfl (by decide) (by decide) rfl _ _ rfl rfl PW.out.ss _ 1 [⟨(k : Int), (u : Int), (v : Int), nth za (v % m4), 1, sz, nth ds v, ch⟩] rfl rfl (by simp [Slt.v, Value.oneCell']) rfl (by omega) hszD ?_); intro A9 c9 w13 own13 gr13)
                          have P3 := hide (PW.out.growS own13 gr13)
                          have DU3 := hide (DW.out.keepRow PW.out.ss (by decide) gr13)
                          have AX3 := hide (AW.out.keepR PW.out.ss (by decide) gr13)
                          go_roundw
                          case rel => exact ⟨v + 1, p'' + 1, A9, c9, _, rfl, by go_num, by omega, by omega, by omega, DU3, AX3, P3⟩
                          case measure => simp [intOf]; omega
                        · go_upto_region 34 with (fail)
                          obtain ⟨WD, hWD⟩ : ∃ WD, WD = w12.alloc (.cells #[.int .i64 (nth za (v % m4)), .int .i64 3, .int .i64 sz, .int .i64 (nth ds v), .bool ch] 59) := ⟨_, rfl⟩
                          have AD := hide (show At WD w12.heap.size 59 #[.int .i64 (nth za (v % m4)), .int .i64 3, .int .i64 sz, .int .i64 (nth ds v), .bool ch] by rw [hWD]; exact At.fresh _ _ _)
                          have PW := hide (show Pd w g A n c bs d0 (some ⟨gr, 0, none⟩) m1 c1 ln (some ⟨q4, 0, none⟩) m4 c4 za H9 A6' (k + 1) c6' (lm ++ [⟨(rn : Int), (sl : Int), nA, nn, nc, nx⟩]) A7'' p'' c7'' ls'' WD by rw [hWD]; exact P2.out.alloc _)
                          have DW := hide (show Own WD H9 (some ⟨q8, 0, none⟩) (sl) c8 ds by rw [hWD]; exact DU2.out.alloc _)
                          have AW := hide (show At WD w7.heap.size 107 #[.int .i64 ((rn : Int)), .int .i64 ((sl : Int)), .slice nA nn nc] by rw [hWD]; exact AX2.out.alloc _)
                          rw [← hWD]
                          have f0 := AD.out.cell 0
                          have f1 := AD.out.cell 1
                          have f2 := AD.out.cell 2
                          have f3 := AD.out.cell 3
                          have f4 := AD.out.cell 4
                          simp at f0 f1 f2 f3 f4
                          have hszD := PW.out.D.sz
                          clear hWD DU2 AX2 P2 ca cd hq4 hq8 AD
                          go_wp2_with (at_builtin; go_loud (refine append_rec info_slt Tryz.underlying26 rfl (by decide) (by decide) rfl _ _ rfl rfl PW.out.ss _ 1 [⟨(k : Int), (u : Int), (v : Int), nth za (v % m4), 3, sz, nth ds v, ch⟩] rfl rfl (by simp [Slt.v, Value.oneCell']) rfl (by omega) hszD ?_); intro A9 c9 w13 own13 gr13)
                          have P3 := hide (PW.out.growS own13 gr13)
                          have DU3 := hide (DW.out.keepRow PW.out.ss (by decide) gr13)
                          have AX3 := hide (AW.out.keepR PW.out.ss (by decide) gr13)
                          go_roundw
                          case rel => exact ⟨v + 1, p'' + 1, A9, c9, _, rfl, by go_num, by omega, by omega, by omega, DU3, AX3, P3⟩
                          case measure => simp [intOf]; omega
                    · obtain rfl : sl = v := by omega
                      go_wp2_with fail
                      go_roundw
                      case rel => exact ⟨u + 1, p'', A7'', c7'', ls'', rfl, by go_num, by omega, by omega, by omega, hdu, hax, hP⟩
                      case measure => simp [intOf]; omega
                · obtain rfl : rn = u := by omega
                  have HM := hide (hP.out.mono (H' := wr.heap.size) (Nat.le_trans (show H9 ≤ H9 from Nat.le_refl _) (by
                    have := hdu.out.between q8 rfl
                    omega)))
                  go_wp2_with fail
                  go_roundw
                  case rel => exact ⟨k + 1, p', A6', c6', _, A7', c7', ls', rfl, rfl, by go_num, by omega, by omega, by omega, HM⟩
                  case measure => simp [intOf]; omega
      · have hke : (k : Int) = 1 + y := by omega
        go_wp2_with fail
        refine (next_d _ _ _ _ _ _ _ hP.out.D.s).mono ?_
        rintro e w6 ⟨z, rfl, z0, z1, h1, g1⟩
        have z2 := z1 (by omega)
        have P6 := hide (hP.out.next h1 g1)
        have HZ := hide P6.out.z
        have f0 := HZ.out.cell 0
        have f1 := HZ.out.cell 1
        have f2 := HZ.out.cell 2
        have f3 := HZ.out.cell 3
        simp at f0 f1 f2 f3
        have e0 := HZ.out.frozen 0
        have e1 := HZ.out.frozen 1
        have e2 := HZ.out.frozen 2
        have e3 := HZ.out.frozen 3
        clear z1 h1 g1 hP
        go_wp2
        have fin := (((HZ.out.set 0 (.int .i64 (1 + z))).set 1 (.slice (some ⟨gr, 0, none⟩) m2 c1)).set 2 (.slice A6 k c6)).set 3 (.slice A7 p c7)
        refine bodyPost_ret (results_M Tryz.results109 rfl fin) rfl ?_
        have HF := (((P6.out.D.set hd0 0 (.int .i64 (1 + z))).set hd0 1 (.slice (some ⟨gr, 0, none⟩) m2 c1)).set hd0 2 (.slice A6 k c6)).set hd0 3 (.slice A7 p c7)
        have t1 := HZ.out.set 0 (.int .i64 (1 + z))
        have t2 := t1.set 1 (.slice (some ⟨gr, 0, none⟩) m2 c1)
        have t3 := t2.set 2 (.slice A6 k c6)
        have N := (((P6.out.ns.setAt HZ.out (by decide) 0 (.int .i64 (1 + z))).setAt t1 (by decide) 1 (.slice (some ⟨gr, 0, none⟩) m2 c1)).setAt t2 (by decide) 2 (.slice A6 k c6)).setAt t3 (by decide) 3 (.slice A7 p c7)
        have M := (((P6.out.ms.setAt HZ.out (by decide) (by decide) 0 (.int .i64 (1 + z))).setAt t1 (by decide) (by decide) 1 (.slice (some ⟨gr, 0, none⟩) m2 c1)).setAt t2 (by decide) (by decide) 2 (.slice A6 k c6)).setAt t3 (by decide) (by decide) 3 (.slice A7 p c7)
        have S := (((P6.out.ss.setAt HZ.out (by decide) 0 (.int .i64 (1 + z))).setAt t1 (by decide) 1 (.slice (some ⟨gr, 0, none⟩) m2 c1)).setAt t2 (by decide) 2 (.slice A6 k c6)).setAt t3 (by decide) 3 (.slice A7 p c7)
        exact ⟨_, ⟨1 + z, ln.take m2, lm.map Mod.p, ls⟩, rfl, ⟨_, _, _, _, _, _, _, _, _, rfl, N.take (by omega), ⟨_, M.row, M.nx, rfl⟩, S, by omega, by omega, OK.out.take m2⟩, HF.s, HF.gr⟩
end Go.Proofs.YtdkhldebnpmiiaaGreatDoor
