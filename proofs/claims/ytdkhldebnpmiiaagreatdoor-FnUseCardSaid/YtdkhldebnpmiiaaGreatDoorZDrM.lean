/- Contracts of draws: mode tables. -/
import Derived.Test.YtdkhldebnpmiiaaGreatDoorZDrN
namespace Go.Proofs.YtdkhldebnpmiiaaGreatDoor
open Go.RowKit
set_option linter.unusedVariables false
set_option linter.unusedSimpArgs false
theorem Own.between {w : World} {B n c : Nat} {A : Option Addr} {zs : List Int} (h : Own w B A n c zs) : ∀ g, A = some ⟨g, 0, none⟩ → B ≤ g ∧ g < w.heap.size := fun g e => by
  rcases h.form with ⟨q, _⟩ | ⟨g', q, r, s⟩
  · rw [q] at e; cases e
  · rw [q] at e
    simp at e
    omega
/-- a row of modes of the call's own, whose slices lie apart, below block H -/
structure Ml (B H : Nat) (A : Option Addr) (n c : Nat) (l : List Mod) (w : World) : Prop where
  row : OwnR 107 Mod.v 3 w B A n c l
  nx : ∀ x ∈ l, Own w B x.A x.n x.c x.nx
  lo : ∀ x ∈ l, ∀ g, x.A = some ⟨g, 0, none⟩ → g < H
  ap : l.Pairwise (fun x y => Apt x.A y.A)
  len : ∀ x ∈ l, x.n ≤ 100
section
variable {w w' : World} {B H n c : Nat} {A : Option Addr} {l : List Mod}
theorem Ml.mono {H' : Nat} (h : Ml B H A n c l w) (hh : H ≤ H') : Ml B H' A n c l w := ⟨h.row, h.nx, fun x hx g e => Nat.lt_of_lt_of_le (h.lo x hx g e) hh, h.ap, h.len⟩
theorem Ml.next {g n2 c2 : Nat} {A2 : Option Addr} {bs : List Int} (h : Ml B H A n c l w) (hs : Sd w g A2 n2 c2 bs) (hg : w.grownBy w' (some g)) : Ml B H A n c l w' := ⟨h.row.next hs (by decide) hg, fun x hx => Own.next (h.nx x hx) hs hg, h.lo, h.ap, h.len⟩
theorem Ml.alloc (h : Ml B H A n c l w) (o : Obj) : Ml B H A n c l (w.alloc o) := ⟨h.row.alloc o, fun x hx => (h.nx x hx).alloc o, h.lo, h.ap, h.len⟩
theorem Ml.below (h : Ml B H A n c l w) (hb : Below w.heap.size w w') : Ml B H A n c l w' := ⟨h.row.below hb, fun x hx => (h.nx x hx).below hb, h.lo, h.ap, h.len⟩
/-- a row of integers from block H on grows -/
theorem Ml.grow {B' m d : Nat} {A' : Option Addr} {zs : List Int} (h : Ml B H A n c l w) (o : Own w B' A' m d zs) (hB : H ≤ B') (hg : w.grownBy w' (Value.slice A' m d).ownBlock) : Ml B H A n c l w' :=
  ⟨h.row.keepG hg (blocks_ne h.row.1 o.1 (by decide)), fun x hx => (h.nx x hx).keepLo hg o (fun g e => by
    rcases (h.nx x hx).form with ⟨q, _⟩ | ⟨g', q, _⟩
    · rw [q] at e; simp [Value.ownBlock] at e
    · have := h.lo x hx g' q
      rw [q] at e
      simp [Value.ownBlock] at e
      omega), h.lo, h.ap, h.len⟩
/-- the row of modes itself grows by one -/
theorem Ml.snoc {A' : Option Addr} {c' : Nat} {x : Mod} (h : Ml B H A n c l w) (o : OwnR 107 Mod.v 3 w' B A' (n + 1) c' (l ++ [x])) (hg : w.grownBy w' (Value.slice A n c).ownBlock) (hx : Own w B x.A x.n x.c x.nx) (hlo : ∀ g, x.A = some ⟨g, 0, none⟩ → H ≤ g) (hs : ∀ g, x.A = some ⟨g, 0, none⟩ → g < w.heap.size) (hH : H ≤ w.heap.size) (hn : x.n ≤ 100) : Ml B w.heap.size A' (n + 1) c' (l ++ [x]) w' := by
  have keep : ∀ y : Mod, Own w B y.A y.n y.c y.nx → Own w' B y.A y.n y.c y.nx := fun y hy => hy.keepG hg (blocks_ne hy.1 h.row.1 (by decide))
  refine ⟨o, fun y hy => ?_, fun y hy g e => ?_, ?_, fun y hy => ?_⟩
  · rcases List.mem_append.1 hy with q | q
    · exact keep y (h.nx y q)
    · simp at q
      subst q
      exact keep y hx
  · rcases List.mem_append.1 hy with q | q
    · exact Nat.lt_of_lt_of_le (h.lo y q g e) hH
    · simp at q
      subst q
      exact hs g e
  · rw [List.pairwise_append]
    refine ⟨h.ap, by simp, fun y hy z hz => ?_⟩
    simp at hz
    subst hz
    intro g e1 e2
    have := h.lo y hy g e1
    have := hlo g e2
    omega
  · rcases List.mem_append.1 hy with q | q
    · exact h.len y q
    · simp at q
      subst q
      exact hn
theorem Ml.rdH (h : Ml B H A n c l w) : RdMsH w B A n c (l.map Mod.p) := ⟨l, h.row.rd, h.row.hi, fun x hx => ⟨(h.nx x hx).rd, (h.nx x hx).hi⟩, rfl⟩
theorem Ml.set {gr i t : Nat} {x x' : Mod} (h : Ml B H (some ⟨gr, 0, none⟩) n c l w) (hi : l[i]? = some x) (ht : t < 3) (v : Value) (hx : Mod.v x' = (Mod.v x).set t v) (hA : x'.A = x.A ∧ x'.n = x.n ∧ x'.c = x.c ∧ x'.nx = x.nx) : RdMsH (w.setCell ⟨gr, i * 3 + t, none⟩ v) B (some ⟨gr, 0, none⟩) n c ((l.set i x').map Mod.p) := by
  have hk := TyK.set (T := 2) h.row.1 (by decide) (i * 3 + t) v
  have hk2 : ∀ y : Mod, Own w B y.A y.n y.c y.nx → Own (w.setCell ⟨gr, i * 3 + t, none⟩ v) B y.A y.n y.c y.nx := fun y hy => ⟨hk.row (by simp) hy.1, hy.2⟩
  have p := h.row.put1 hi t ht v hx
  refine ⟨_, p.rd, p.hi, fun y hy => ?_, rfl⟩
  rcases List.mem_or_eq_of_mem_set hy with q | rfl
  · exact ⟨(hk2 y (h.nx y q)).rd, (hk2 y (h.nx y q)).hi⟩
  · have o := hk2 x (h.nx x (List.mem_of_getElem? hi))
    obtain ⟨e1, e2, e3, e4⟩ := hA
    rw [e1, e2, e3, e4]
    exact ⟨o.rd, o.hi⟩
end
def GotMl (w : World) (g : Nat) (A : Option Addr) (n c : Nat) (bs : List Int) (e : Ending) (w' : World) : Prop :=
  ∃ (A' : Option Addr) (m c' : Nat) (l : List Mod), e = .returned (.slice A' m c') ∧ 1 ≤ m ∧ m ≤ 4 ∧ Ml w.heap.size w'.heap.size A' m c' l w' ∧ Sd w' g A n c bs ∧ w.grownBy w' (some g)
set_option maxHeartbeats 6400000 in
theorem l11Draw_d (g : Nat) (A : Option Addr) (n c : Nat) (bs : List Int) (w : World) (h : Sd w g A n c bs) :
    Calls Tryz.prog 131 #[.pointer (some ⟨g, 0, none⟩)] w (GotMl w g A n c bs) := by
  have D := hide (Dw.refl h)
  have O0 := hide (show Ml w.heap.size w.heap.size (some ⟨w.heap.size, 0, none⟩) 0 0 [] (w.alloc (.cells #[] 107)) from ⟨OwnR.empty w (Nat.le_refl _) Mod.k, (by intro x hx; cases hx), (by intro x hx; cases hx), by simp, (by intro x hx; cases hx)⟩)
  have D0 := hide (D.out.alloc (.cells #[] 107))
  clear h
  go_enter Tryz.func131, Tryz.ntmps131
  go_wp2_with fail
  refine (next_d _ _ _ _ _ _ _ D0.out.s).mono ?_
  rintro e w1 ⟨x, rfl, x0, x1, h1, g1⟩
  have x2 := x1 (by omega)
  have D1 := hide (D0.out.step h1 g1)
  have O1 := hide (O0.out.next D0.out.s g1)
  have S1 := hide (show w.heap.size ≤ w1.heap.size from D1.out.sz)
  clear x1 h1 g1
  go_wp2_with fail
  go_loopw [3, 5] (fun s i wr => ∃ (k : Nat) (A' : Option Addr) (c' : Nat) (l : List Mod), s = .slice A' k c' ∧ i = .int .i64 k ∧ (k : Int) ≤ 1 + x ∧ Hid (Ml w.heap.size wr.heap.size A' k c' l wr) ∧ Hid (Dw w g A n c bs wr)) (fun _ i _ => ((1 + x) - intOf i).toNat)
  case atStart => exact ⟨0, _, _, _, rfl, rfl, by omega, hide (O1.out.mono S1.out), D1⟩
  case round =>
    obtain ⟨k, A', c', l, rfl, rfl, hk, hml, hD⟩ := hrel
    by_cases hlt : (k : Int) < 1 + x
    · obtain ⟨H, hH⟩ : ∃ H, H = wr.heap.size := ⟨_, rfl⟩
      have MLE := hide (show Ml w.heap.size H A' k c' l (wr.alloc (.cells #[] 2)) by rw [hH]; exact hml.out.alloc _)
      have DE := hide (hD.out.alloc (.cells #[] 2))
      have NE := hide (Own.empty wr (B := H) (by rw [hH]; exact Nat.le_refl _))
      have SE := hide (show H ≤ (wr.alloc (.cells #[] 2)).heap.size by rw [hH]; simp)
      have HH := hide (show w.heap.size ≤ H by rw [hH]; exact hD.out.sz)
      clear hml hD hH
      go_wp2_with fail
      go_loopw [6, 7] (fun s i wq => ∃ (j p : Nat) (A2 : Option Addr) (c2 : Nat) (zs : List Int), s = .slice A2 p c2 ∧ i = .int .i64 j ∧ p ≤ j ∧ (j : Int) ≤ 1 + x ∧ Hid (Own wq H A2 p c2 zs) ∧ Hid (Ml w.heap.size H A' k c' l wq) ∧ Hid (Dw w g A n c bs wq) ∧ Hid (H ≤ wq.heap.size)) (fun _ i _ => ((1 + x) - intOf i).toNat)
      case atStart => exact ⟨0, 0, _, _, _, rfl, rfl, by omega, by omega, NE, MLE, DE, SE⟩
      case round =>
        clear MLE DE NE SE
        obtain ⟨j, p, A2, c2, zs, rfl, rfl, hp, hj, hown, hml, hD, hsz⟩ := hrel
        by_cases hlj : (j : Int) < 1 + x
        · by_cases hjk : (j : Int) = k
          · go_wp2_with fail
            go_roundw
            case rel => exact ⟨j + 1, p, A2, c2, zs, rfl, by go_num, by omega, by omega, hown, hml, hD, hsz⟩
            case measure => simp [intOf]; omega
          · go_wp2_with fail
            refine (next_d _ _ _ _ _ _ _ hD.out.s).mono ?_
            rintro e w2 ⟨y, rfl, y0, y1, h1, g1⟩
            have D2 := hide (hD.out.step h1 g1)
            have N2 := hide (Own.next hown.out hD.out.s g1)
            have M2 := hide (hml.out.next hD.out.s g1)
            have S2 := Nat.le_trans hsz.out g1.size
            clear hown hml hD hsz h1 g1 y1
            by_cases hy : y = 0
            · subst hy
              go_wp2_with (at_builtin; go_loud (refine append_new rfl _ _ rfl H rfl N2.out _ [(j : Int)] 1 rfl (I64.one (by omega) (by omega)) rfl rfl (by omega) S2 ?_); intro A3 c3 w3 own3 gr3)
              have D3 := hide (D2.out.row N2.out HH.out gr3)
              have M3 := hide (M2.out.grow N2.out (Nat.le_refl _) gr3)
              have S3 := hide (Nat.le_trans S2 gr3.size)
              go_roundw
              case rel => exact ⟨j + 1, p + 1, A3, c3, _, rfl, by go_num, by omega, by omega, hide own3, M3, D3, S3⟩
              case measure => simp [intOf]; omega
            · have hyb : (y == 0) = false := by simpa using hy
              have hjb : ((j : Int) != (k : Int)) = true := by simpa using hjk
              go_wp2_with fail
              go_roundw
              case rel => exact ⟨j + 1, p, A2, c2, zs, rfl, by go_num, by omega, by omega, N2, M2, D2, hide S2⟩
              case measure => simp [intOf]; omega
        · go_wp2_with fail
          refine (next_d _ _ _ _ _ _ _ hD.out.s).mono ?_
          rintro e w2 ⟨y, rfl, y0, y1, h1, g1⟩
          have y2 := y1 (by omega)
          have D2 := hide (hD.out.step h1 g1)
          have N2 := hide (Own.next hown.out hD.out.s g1)
          have M2 := hide (hml.out.next hD.out.s g1)
          have S2 := Nat.le_trans hsz.out g1.size
          clear hown hml hD hsz h1 g1 y1
          go_wp2_with fail
          refine (next_d _ _ _ _ _ _ _ D2.out.s).mono ?_
          rintro e w3 ⟨t, rfl, t0, t1, h1, g1⟩
          have t2 := t1 (by omega)
          have D3 := hide (D2.out.step h1 g1)
          have N3 := hide (Own.next N2.out D2.out.s g1)
          have M3 := hide (M2.out.next D2.out.s g1)
          have S3 := Nat.le_trans S2 g1.size
          have hsz := D3.out.sz
          clear h1 g1 t1
          go_wp2_with (at_builtin; go_loud (refine append_rec info_mod Tryz.underlying25 rfl (by decide) (by decide) rfl _ _ rfl rfl M3.out.row _ 1 [⟨1 + y, 1 + t, A2, p, c2, zs⟩] rfl rfl (by simp [Mod.v, Value.oneCell']) rfl (by omega) hsz ?_); intro A4 c4 w4 own4 gr4)
          have D4 := hide (D3.out.rowR M3.out.row (Nat.le_refl _) gr4)
          have M4 := hide ((M3.out.snoc own4 gr4 (N3.out.mono HH.out) (fun q e => (N3.out.between q e).1) (fun q e => (N3.out.between q e).2) S3 (show p ≤ 100 by omega)).mono gr4.size)
          clear own4 gr4
          go_roundw
          case rel => exact ⟨k + 1, A4, c4, _, rfl, by go_num, by omega, M4, D4⟩
          case measure => simp [intOf]; omega
    · have hke : (k : Int) = 1 + x := by omega
      go_wp2
      go_ret
      exact ⟨A', k, c', l, rfl, by omega, by omega, hml.out, hD.out.s, hD.out.gr⟩
end Go.Proofs.YtdkhldebnpmiiaaGreatDoor
