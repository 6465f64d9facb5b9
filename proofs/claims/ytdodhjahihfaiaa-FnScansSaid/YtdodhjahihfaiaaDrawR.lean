/- Contracts: a scan drawn out of a source. Written by gen_drawq.py. -/
import Derived.Test.YtdodhjahihfaiaaDrawY
import Derived.Test.YtdodhjahihfaiaaDrawP
import Derived.Test.YtdodhjahihfaiaaScanJ
import Derived.Test.YtdodhjahihfaiaaShape
import Derived.Deep.Cut
import Derived.Deep.CutRange
import Derived.Deep.DeepCutAuto
namespace Go.Proofs.Ytdodhjahihfaiaa
open Go.RowKit
set_option linter.unusedVariables false
set_option linter.unusedSimpArgs false

def InI (x : Int) : Prop := -9223372036854775808 ≤ x ∧ x ≤ 9223372036854775807
/-- a scan comes out of a source -/
def GotS (w : World) (g : Nat) (A : Option Addr) (n c : Nat) (bs : List Int) (e : Ending) (w' : World) : Prop :=
  ∃ (s : Scn) (A' : Option Addr) (m c' : Nat), e = .returned (.agg #[.int .i64 s.ph, .int .i64 s.ct, .int .i64 s.vl, .slice A' m c']) ∧ m ≤ 10000 ∧ Own w' w.heap.size A' m c' s.bs ∧ Sd w' g A n c bs ∧ w.grownBy w' (some g)
theorem scnEnd_bs_len {zs : List Int} (hb : allB 0 1 zs = true) : (scnEnd zs).bs.length ≤ zs.length := by
  have h := (Inv.scan hb zs.length (Nat.le_refl _)).facts.2.2.2.2.1
  rw [List.length_take, Nat.min_self] at h
  show (scanTo zeroS zs zs.length).bs.length ≤ zs.length
  omega
theorem l19Run_ex (A : Option Addr) (n c : Nat) (zs : List Int) (w : World) (h : Rd w A n c zs) (hn : n ≤ 8192) (hb : allB 0 1 zs = true) :
    Calls Try.prog 86 #[.slice A n c] w fun e w' => ∃ (s : Scn) (i : Int) (A' : Option Addr) (m c' : Nat), e = .returned (.tuple #[.agg #[.int .i64 s.ph, .int .i64 s.ct, .int .i64 s.vl, .slice A' m c'], .int .i64 i]) ∧ Own w' w.heap.size A' m c' s.bs ∧ Below w.heap.size w w' ∧ m ≤ n := by
  refine (l19Run_any A n c zs w h hn hb).mono ?_
  rintro e w' ⟨A', m, c', he, own, bel, _⟩
  exact ⟨_, _, A', m, c', he, own, bel, by have h1 := scnEnd_bs_len hb; have h2 := own.len; have h3 := h.len; omega⟩
theorem ScnAt.keepNe {w w' : World} {b g : Nat} {cs : Array Value} (h : ScnAt w b cs) (hg : w.grownBy w' (some g)) (hne : b ≠ g) : ScnAt w' b cs :=
  (hg.block b h.lt (by simpa using hne)).trans h
theorem Sd.ne {w : World} {g b n c : Nat} {A : Option Addr} {bs : List Int} {cs : Array Value} (h : Sd w g A n c bs) (hs : ScnAt w b cs) : b ≠ g := by
  rintro rfl
  obtain ⟨a, s, _, _, _, hx⟩ := h.2
  unfold SrcAt at hx
  unfold ScnAt at hs
  rw [hs] at hx
  simp at hx
/-- a block holds some scan -/
def IsS (w : World) (b : Nat) : Prop := ∃ (p q r : Int) (A' : Option Addr) (m d : Nat), ScnAt w b #[.int .i64 p, .int .i64 q, .int .i64 r, .slice A' m d]
theorem Sd.setScn {w : World} {g b n c : Nat} {A : Option Addr} {bs : List Int} (h : Sd w g A n c bs) (hs : IsS w b) (i : Nat) (u : Value) : Sd (w.setCell ⟨b, i, none⟩ u) g A n c bs := by
  obtain ⟨p, q, r', A', m, d, hs⟩ := hs
  have hne := h.ne hs
  have hg := grown_set w b i u
  obtain ⟨r, a, s, h1, h2, h3, h4⟩ := h
  refine ⟨⟨r.1, r.2.1, r.2.2.1, r.2.2.2.1, fun hn => ?_⟩, a, s, h1, h2, h3, (hg.block g h4.lt (by simpa using Ne.symm hne)).trans h4⟩
  obtain ⟨b', off, hA, hl, hc⟩ := r.at_ hn
  refine ⟨b', off, hA, fun j hj => ?_⟩
  have hb : b' ≠ b := by
    rintro rfl
    have h0 := hc j hj
    rw [hs.cell] at h0
    match off + j, h0 with
    | 0, h0 => simp at h0
    | 1, h0 => simp at h0
    | 2, h0 => simp at h0
    | 3, h0 => simp at h0
    | k + 4, h0 => simp at h0
  exact (World.cell?_of_block (hg.block b' hl (by simpa using hb))).trans (hc j hj)
theorem IsS.set0 {w : World} {b : Nat} (h : IsS w b) (x : Int) : IsS (w.setCell ⟨b, 0, none⟩ (.int .i64 x)) b := by
  obtain ⟨p, q, r, A', m, d, h⟩ := h
  exact ⟨x, q, r, A', m, d, heap_setCell_same w b 0 _ _ _ h⟩
theorem IsS.set1 {w : World} {b : Nat} (h : IsS w b) (x : Int) : IsS (w.setCell ⟨b, 1, none⟩ (.int .i64 x)) b := by
  obtain ⟨p, q, r, A', m, d, h⟩ := h
  exact ⟨p, x, r, A', m, d, heap_setCell_same w b 1 _ _ _ h⟩
theorem IsS.set2 {w : World} {b : Nat} (h : IsS w b) (x : Int) : IsS (w.setCell ⟨b, 2, none⟩ (.int .i64 x)) b := by
  obtain ⟨p, q, r, A', m, d, h⟩ := h
  exact ⟨p, q, x, A', m, d, heap_setCell_same w b 2 _ _ _ h⟩
theorem IsS.set3 {w : World} {b : Nat} (h : IsS w b) (A' : Option Addr) (m d : Nat) : IsS (w.setCell ⟨b, 3, none⟩ (.slice A' m d)) b := by
  obtain ⟨p, q, r, A0, m0, d0, h⟩ := h
  exact ⟨p, q, r, A', m, d, heap_setCell_same w b 3 _ _ _ h⟩
theorem IsS.other {w : World} {b b' : Nat} (h : IsS w b) (hne : b ≠ b') (i : Nat) (u : Value) : IsS (w.setCell ⟨b', i, none⟩ u) b := by
  obtain ⟨p, q, r, A', m, d, h⟩ := h
  exact ⟨p, q, r, A', m, d, h.other hne i u⟩
theorem ScnAt.isS {w : World} {b : Nat} {p q r : Int} {A' : Option Addr} {m d : Nat} (h : ScnAt w b #[.int .i64 p, .int .i64 q, .int .i64 r, .slice A' m d]) : IsS w b := ⟨p, q, r, A', m, d, h⟩
theorem Sd.set4 {w : World} {g b n c : Nat} {A : Option Addr} {bs : List Int} (h : Sd w g A n c bs) (hs : IsS w b) (x y z : Int) (A' : Option Addr) (m d : Nat) : Sd ((((w.setCell ⟨b, 0, none⟩ (.int .i64 x)).setCell ⟨b, 1, none⟩ (.int .i64 y)).setCell ⟨b, 2, none⟩ (.int .i64 z)).setCell ⟨b, 3, none⟩ (.slice A' m d)) g A n c bs :=
  (((h.setScn hs 0 _).setScn (hs.set0 x) 1 _).setScn ((hs.set0 x).set1 y) 2 _).setScn (((hs.set0 x).set1 y).set2 z) 3 _
theorem grown_setN {w w' : World} {row : Option Nat} (h : w.grownBy w' row) {b : Nat} (hb : w.heap.size ≤ b) (i : Nat) (u : Value) : w.grownBy (w'.setCell ⟨b, i, none⟩ u) row := grown_setNew h hb i u
theorem grown_set4 {w w' : World} {row : Option Nat} (h : w.grownBy w' row) {b : Nat} (hb : w.heap.size ≤ b) (a1 a2 a3 a4 : Value) : w.grownBy ((((w'.setCell ⟨b, 0, none⟩ a1).setCell ⟨b, 1, none⟩ a2).setCell ⟨b, 2, none⟩ a3).setCell ⟨b, 3, none⟩ a4) row :=
  grown_setNew (grown_setNew (grown_setNew (grown_setNew h hb _ _) hb _ _) hb _ _) hb _ _
set_option maxHeartbeats 25600000 in
set_option maxRecDepth 100000 in
theorem l19Draw_d (g : Nat) (A : Option Addr) (n c : Nat) (bs : List Int) (w : World) (h : Sd w g A n c bs) :
    Calls Try.prog 101 #[.pointer (some ⟨g, 0, none⟩)] w (GotS w g A n c bs) := by
  have hgl := h.lt
  have W1 := (Below.refl w.heap.size w).alloc (Nat.le_refl _) (.cells #[.int .i64 0, .int .i64 0, .int .i64 0, .slice none 0 0] 30)
  have R1 := hide (ScnAt.fresh w #[.int .i64 0, .int .i64 0, .int .i64 0, .slice none 0 0])
  have H1 := hide (h.below W1)
  have G1 := hide (grownBy_of_below W1 (some g))
  clear W1 h
  go_enter Try.func101, Try.ntmps101
  go_wp2_with fail
  refine (l18Draw_d _ _ _ _ _ _ H1.out).mono ?_
  rintro e w2 ⟨A2, m2, c2, zs, rfl, hm2, own2, h2, g2⟩
  have R2 := hide (R1.out.keepNe g2 (by omega))
  have G2 := hide (grown_trans G1.out g2)
  have O2 := hide (own2.mono (B' := w.heap.size) G1.out.size)
  have H2 := hide h2
  have hb2 : w.heap.size ≤ w2.heap.size := G2.out.size
  clear own2 h2 g2
  go_upto_region 2 with (fail)
  go_cut [15] (fun v wx => ∃ b : Bool, v = .bool b ∧ (b = false → m2 ≤ 200 ∧ allB 0 1 zs = true) ∧ Own wx w.heap.size A2 m2 c2 zs ∧ ScnAt wx w.heap.size #[.int .i64 0, .int .i64 0, .int .i64 0, .slice none 0 0] ∧ Sd wx g A n c bs ∧ w.grownBy wx (some g))
  case first =>
    cases hz : bitsB zs
    · go_wp2_with (go_at_call 82; (with_reducible refine (sIsBits_any _ _ _ _ _ O2.out.rd).mono ?_); rintro e w' ⟨rfl, rfl⟩)
      go_meet
      exact ⟨true, rfl, (by intro hh; cases hh), O2.out, R2.out, H2.out, G2.out⟩
    · have ZB := hide (bitsB_get hz).2
      by_cases h200 : m2 ≤ 200
      · have hlt := decide_eq_false (show ¬ (200 : Int) < (m2 : Int) by omega)
        go_wp2_with (go_at_call 82; (with_reducible refine (sIsBits_any _ _ _ _ _ O2.out.rd).mono ?_); rintro e w' ⟨rfl, rfl⟩)
        go_meet
        exact ⟨false, rfl, fun _ => ⟨h200, ZB.out⟩, O2.out, R2.out, H2.out, G2.out⟩
      · have hlt := decide_eq_true (show (200 : Int) < (m2 : Int) by omega)
        go_wp2_with (go_at_call 82; (with_reducible refine (sIsBits_any _ _ _ _ _ O2.out.rd).mono ?_); rintro e w' ⟨rfl, rfl⟩)
        go_meet
        exact ⟨true, rfl, (by intro hh; cases hh), O2.out, R2.out, H2.out, G2.out⟩
  case rest =>
  obtain ⟨b, rfl, hb, o3, r3, h3, g3⟩ := hcut
  have HB := hide hb
  have O3 := hide o3
  have R3 := hide r3
  have H3 := hide h3
  have G3 := hide g3
  have hb3 := g3.size
  clear hb o3 r3 h3 g3 O2 R2 H2 G2 hb2
  go_upto_if 15 with (fail)
  go_cut [3] (fun v wx => ∃ (A3 : Option Addr) (m3 c3 : Nat) (ys : List Int), v = .slice A3 m3 c3 ∧ m3 ≤ 200 ∧ allB 0 1 ys = true ∧ Own wx w.heap.size A3 m3 c3 ys ∧ ScnAt wx w.heap.size #[.int .i64 0, .int .i64 0, .int .i64 0, .slice none 0 0] ∧ Sd wx g A n c bs ∧ w.grownBy wx (some g))
  case first =>
    cases b
    · go_wp2_with fail
      go_meet
      exact ⟨A2, m2, c2, zs, rfl, (HB.out (by first | rfl | trivial)).1, (HB.out (by first | rfl | trivial)).2, O3.out, R3.out, H3.out, G3.out⟩
    · have L2 := hide (Own.lit wc hb3 #[.int .i64 1, .int .i64 0, .int .i64 0] [1, 0, 0] rfl (by intro z hz; simp at hz; omega) 3 rfl (by omega))
      have bl := (Below.refl wc.heap.size wc).alloc (Nat.le_refl _) (.cells #[.int .i64 1, .int .i64 0, .int .i64 0] 2)
      have R4 := hide (R3.out.below bl)
      have H4 := hide (H3.out.below bl)
      have G4 := hide (grown_trans G3.out (grownBy_of_below bl _))
      clear bl
      go_wp2_with fail
      go_meet
      exact ⟨_, 3, 3, [1, 0, 0], rfl, by omega, rfl, L2.out, R4.out, H4.out, G4.out⟩
  case rest =>
  clear HB O3 R3 H3 G3 hb3 b
  obtain ⟨A3, m3, c3, ys, rfl, hm3, zb3, o3, r3, h3, g3⟩ := hcut
  have ZB := hide zb3
  have O3 := hide o3
  have R3 := hide r3
  have H3 := hide h3
  have G3 := hide g3
  have hb3 := g3.size
  clear zb3 o3 r3 h3 g3
  go_upto_if 19 with (fail)
  go_cut [3] (fun v wx => ∃ (A3 : Option Addr) (m3 c3 : Nat) (ys : List Int), v = .slice A3 m3 c3 ∧ m3 ≤ 200 ∧ allB 0 1 ys = true ∧ Own wx w.heap.size A3 m3 c3 ys ∧ ScnAt wx w.heap.size #[.int .i64 0, .int .i64 0, .int .i64 0, .slice none 0 0] ∧ Sd wx g A n c bs ∧ w.grownBy wx (some g))
  case first =>
    by_cases h0 : 0 < m3
    · have hlt := decide_eq_true (show (0 : Int) < (m3 : Int) by omega)
      go_wp2_with fail
      refine (next_d _ _ _ _ _ _ _ H3.out).mono ?_
      rintro e w4 ⟨y, rfl, y0, y1, h4, g4⟩
      obtain ⟨k, rfl⟩ := Int.eq_ofNat_of_zero_le y0
      have km : k < m3 := by have := y1 (by omega); omega
      have o4 := O3.out.next H3.out g4
      have cp := o4.cap
      have ON := hide (o4.take (k := k) (by omega) h0)
      have RN := hide (R3.out.keepNe g4 (by omega))
      have GN := hide (grown_trans G3.out g4)
      have HN := hide h4
      have ZB2 := hide (show allB 0 1 (ys.take k) = true by
        have hzb := ZB.out
        rw [allB, List.all_eq_true] at hzb ⊢
        exact fun x hx => hzb x (List.mem_of_mem_take hx))
      rcases o4.form with ⟨_, hx0, _⟩ | ⟨gb, rfl, gb1, gb2⟩
      · omega
      clear y1 o4 h4 g4
      go_wp2_with fail
      go_meet
      exact ⟨_, _, _, ys.take k, rfl, by omega, ZB2.out, ON.out, RN.out, HN.out, GN.out⟩
    · have hlt := decide_eq_false (show ¬ (0 : Int) < (m3 : Int) by omega)
      go_wp2_with fail
      go_meet
      exact ⟨A3, m3, c3, ys, rfl, hm3, ZB.out, O3.out, R3.out, H3.out, G3.out⟩
  case rest =>
  clear ZB O3 R3 H3 G3 hb3 hm3 A3 m3 c3 ys
  obtain ⟨A3, m3, c3, ys, rfl, hm3, zb3, o3, r3, h3, g3⟩ := hcut
  have ZB2 := hide zb3
  have ON := hide o3
  have RN := hide r3
  have HN := hide h3
  have GN := hide g3
  have hb3 := g3.size
  clear zb3 o3 r3 h3 g3
  go_wp2_with fail
  refine (l19Run_ex _ _ _ (ys) _ ON.out.rd (by omega) ZB2.out).mono ?_
  rintro e w6 ⟨s, fi, A6, m6, c6, rfl, own6, b6, hm6⟩
  have hm6' : m6 ≤ 8192 := by omega
  have R6 := hide (RN.out.below b6)
  have H6 := hide (HN.out.below b6)
  have G6 := hide (grown_trans GN.out (grownBy_of_below b6 _))
  have O6 := hide (own6.mono (B' := w.heap.size) GN.out.size)
  have b7 := (Below.refl w6.heap.size w6).alloc (Nat.le_refl _) (.cells #[.int .i64 s.ph, .int .i64 s.ct, .int .i64 s.vl, .slice A6 m6 c6] 30)
  have S7 := hide (ScnAt.fresh w6 #[.int .i64 s.ph, .int .i64 s.ct, .int .i64 s.vl, .slice A6 m6 c6])
  have R7 := hide (R6.out.below b7)
  have H7 := hide (H6.out.below b7)
  have G7 := hide (grown_trans G6.out (grownBy_of_below b7 _))
  have O7 := hide (O6.out.below b7)
  have hb6 : w.heap.size ≤ w6.heap.size := G6.out.size
  have lr6 := R6.out.lt
  have hg6 : g < w6.heap.size := by omega
  clear b6 own6 b7 O6
  go_wp2_with fail
  refine (next_d _ _ _ _ _ _ _ H7.out).mono ?_
  rintro e w8 ⟨q, rfl, q0, q1, h8, g8⟩
  have R8 := hide (R7.out.keepNe g8 (by omega))
  have S8 := hide (S7.out.keepNe g8 (by omega))
  have G8 := hide (grown_trans G7.out g8)
  have O8 := hide (O7.out.next H7.out g8)
  have H8 := hide h8
  have hb8 : w.heap.size ≤ w8.heap.size := G8.out.size
  have l8 := S8.out.lt
  have lr8 := R8.out.lt
  clear q1 h8 g8 S7 R7 H7 G7 O7
  by_cases e0 : q = 0
  · subst e0
    have HI := hide (show I64 [-1, 7, 8, 4] by intro z hz; simp at hz; omega)
    have L8 := hide (Own.lit w8 (Nat.le_refl _) #[.int .i64 (-1), .int .i64 7, .int .i64 8, .int .i64 4] [-1, 7, 8, 4] rfl HI.out 4 rfl (by omega))
    have bl := (Below.refl w8.heap.size w8).alloc (Nat.le_refl _) (.cells #[.int .i64 (-1), .int .i64 7, .int .i64 8, .int .i64 4] 2)
    have S8a := hide (S8.out.below bl)
    have R8a := hide (R8.out.below bl)
    have H8a := hide (H8.out.below bl)
    have O8a := hide (O8.out.below bl)
    have G8a := hide (grown_trans G8.out (grownBy_of_below bl _))
    clear bl
    go_wp2_with fail
    refine (next_own g A n c bs _ 4 w8.heap.size 4 [-1, 7, 8, 4] H8a.out L8.out).mono ?_
    rintro e w9 ⟨k, rfl, k0, k1, h9, g9, HL⟩
    obtain ⟨k, rfl⟩ := Int.eq_ofNat_of_zero_le k0
    have km : k < 4 := by have := k1 (by omega); omega
    have ck := HL.cell (k := k) km
    have S9 := hide (S8a.out.keepNe g9 (by omega))
    have R9 := hide (R8a.out.keepNe g9 (by omega))
    have H9 := hide h9
    have O9 := hide (O8a.out.next H8a.out g9)
    have G9 := hide (grown_trans G8a.out g9)
    have l9 := S9.out.lt
    clear k1 h9 g9 HL
    have y0 : w9.cell? ⟨w6.heap.size, 0, none⟩ = some (.int .i64 s.ph) := S9.out.cell 0
    have y1 : w9.cell? ⟨w6.heap.size, 1, none⟩ = some (.int .i64 s.ct) := S9.out.cell 1
    have y2 : w9.cell? ⟨w6.heap.size, 2, none⟩ = some (.int .i64 s.vl) := S9.out.cell 2
    have y3 : w9.cell? ⟨w6.heap.size, 3, none⟩ = some (.slice A6 m6 c6) := S9.out.cell 3
    have f0 := S9.out.frozen 0
    have f1 := S9.out.frozen 1
    have f2 := S9.out.frozen 2
    have f3 := S9.out.frozen 3
    have r0 : w9.cell? ⟨w.heap.size, 0, none⟩ = some (.int .i64 0) := R9.out.cell 0
    have r1 : w9.cell? ⟨w.heap.size, 1, none⟩ = some (.int .i64 0) := R9.out.cell 1
    have r2 : w9.cell? ⟨w.heap.size, 2, none⟩ = some (.int .i64 0) := R9.out.cell 2
    have r3 : w9.cell? ⟨w.heap.size, 3, none⟩ = some (.slice none 0 0) := R9.out.cell 3
    have x0 := R9.out.frozen 0
    have x1 := R9.out.frozen 1
    have x2 := R9.out.frozen 2
    have x3 := R9.out.frozen 3
    go_wp2_with fail
    have hr1 := R9.out.other (g' := w6.heap.size) (by omega) 0 (.int .i64 (nth [-1, 7, 8, 4] k))
    have fin := hr1.put4 (.int .i64 (nth [-1, 7, 8, 4] k)) (.int .i64 s.ct) (.int .i64 s.vl) (.slice A6 m6 c6)
    have hres := fun (tmps : Array Value) (hp : tmps.getD 2 undef = .pointer (some ⟨w.heap.size, 0, none⟩)) => results_scn (tmps := tmps) Try.results101 hp fin
    refine bodyPost_ret (hres _ rfl) rfl ?_
    exact ⟨⟨(nth [-1, 7, 8, 4] k), s.ct, s.vl, s.bs⟩, A6, m6, c6, rfl, by omega, (O9.out.setScn (g := w6.heap.size) ⟨_, S9.out⟩ 0 (.int .i64 (nth [-1, 7, 8, 4] k))).set4 (g := w.heap.size) ⟨_, hr1⟩ (.int .i64 (nth [-1, 7, 8, 4] k)) (.int .i64 s.ct) (.int .i64 s.vl) (.slice A6 m6 c6), (H9.out.setScn S9.out.isS 0 (.int .i64 (nth [-1, 7, 8, 4] k))).set4 hr1.isS _ _ _ _ _ _, grown_set4 (grown_setN G9.out hb6 0 (.int .i64 (nth [-1, 7, 8, 4] k))) (Nat.le_refl _) (.int .i64 (nth [-1, 7, 8, 4] k)) (.int .i64 s.ct) (.int .i64 s.vl) (.slice A6 m6 c6)⟩
  have f00 : (q == 0) = false := by simpa using e0
  by_cases e1 : q = 1
  · subst e1
    have HI := hide (show I64 [-1, 8, 15, 16] by intro z hz; simp at hz; omega)
    have L8 := hide (Own.lit w8 (Nat.le_refl _) #[.int .i64 (-1), .int .i64 8, .int .i64 15, .int .i64 16] [-1, 8, 15, 16] rfl HI.out 4 rfl (by omega))
    have bl := (Below.refl w8.heap.size w8).alloc (Nat.le_refl _) (.cells #[.int .i64 (-1), .int .i64 8, .int .i64 15, .int .i64 16] 2)
    have S8a := hide (S8.out.below bl)
    have R8a := hide (R8.out.below bl)
    have H8a := hide (H8.out.below bl)
    have O8a := hide (O8.out.below bl)
    have G8a := hide (grown_trans G8.out (grownBy_of_below bl _))
    clear bl
    go_wp2_with fail
    refine (next_own g A n c bs _ 4 w8.heap.size 4 [-1, 8, 15, 16] H8a.out L8.out).mono ?_
    rintro e w9 ⟨k, rfl, k0, k1, h9, g9, HL⟩
    obtain ⟨k, rfl⟩ := Int.eq_ofNat_of_zero_le k0
    have km : k < 4 := by have := k1 (by omega); omega
    have ck := HL.cell (k := k) km
    have S9 := hide (S8a.out.keepNe g9 (by omega))
    have R9 := hide (R8a.out.keepNe g9 (by omega))
    have H9 := hide h9
    have O9 := hide (O8a.out.next H8a.out g9)
    have G9 := hide (grown_trans G8a.out g9)
    have l9 := S9.out.lt
    clear k1 h9 g9 HL
    have y0 : w9.cell? ⟨w6.heap.size, 0, none⟩ = some (.int .i64 s.ph) := S9.out.cell 0
    have y1 : w9.cell? ⟨w6.heap.size, 1, none⟩ = some (.int .i64 s.ct) := S9.out.cell 1
    have y2 : w9.cell? ⟨w6.heap.size, 2, none⟩ = some (.int .i64 s.vl) := S9.out.cell 2
    have y3 : w9.cell? ⟨w6.heap.size, 3, none⟩ = some (.slice A6 m6 c6) := S9.out.cell 3
    have f0 := S9.out.frozen 0
    have f1 := S9.out.frozen 1
    have f2 := S9.out.frozen 2
    have f3 := S9.out.frozen 3
    have r0 : w9.cell? ⟨w.heap.size, 0, none⟩ = some (.int .i64 0) := R9.out.cell 0
    have r1 : w9.cell? ⟨w.heap.size, 1, none⟩ = some (.int .i64 0) := R9.out.cell 1
    have r2 : w9.cell? ⟨w.heap.size, 2, none⟩ = some (.int .i64 0) := R9.out.cell 2
    have r3 : w9.cell? ⟨w.heap.size, 3, none⟩ = some (.slice none 0 0) := R9.out.cell 3
    have x0 := R9.out.frozen 0
    have x1 := R9.out.frozen 1
    have x2 := R9.out.frozen 2
    have x3 := R9.out.frozen 3
    go_wp2_with fail
    have hr1 := R9.out.other (g' := w6.heap.size) (by omega) 1 (.int .i64 (nth [-1, 8, 15, 16] k))
    have fin := hr1.put4 (.int .i64 s.ph) (.int .i64 (nth [-1, 8, 15, 16] k)) (.int .i64 s.vl) (.slice A6 m6 c6)
    have hres := fun (tmps : Array Value) (hp : tmps.getD 2 undef = .pointer (some ⟨w.heap.size, 0, none⟩)) => results_scn (tmps := tmps) Try.results101 hp fin
    refine bodyPost_ret (hres _ rfl) rfl ?_
    exact ⟨⟨s.ph, (nth [-1, 8, 15, 16] k), s.vl, s.bs⟩, A6, m6, c6, rfl, by omega, (O9.out.setScn (g := w6.heap.size) ⟨_, S9.out⟩ 1 (.int .i64 (nth [-1, 8, 15, 16] k))).set4 (g := w.heap.size) ⟨_, hr1⟩ (.int .i64 s.ph) (.int .i64 (nth [-1, 8, 15, 16] k)) (.int .i64 s.vl) (.slice A6 m6 c6), (H9.out.setScn S9.out.isS 1 (.int .i64 (nth [-1, 8, 15, 16] k))).set4 hr1.isS _ _ _ _ _ _, grown_set4 (grown_setN G9.out hb6 1 (.int .i64 (nth [-1, 8, 15, 16] k))) (Nat.le_refl _) (.int .i64 s.ph) (.int .i64 (nth [-1, 8, 15, 16] k)) (.int .i64 s.vl) (.slice A6 m6 c6)⟩
  have f01 : (q == 1) = false := by simpa using e1
  by_cases e2 : q = 2
  · subst e2
    have HI := hide (show I64 [-1, 255, 256] by intro z hz; simp at hz; omega)
    have L8 := hide (Own.lit w8 (Nat.le_refl _) #[.int .i64 (-1), .int .i64 255, .int .i64 256] [-1, 255, 256] rfl HI.out 3 rfl (by omega))
    have bl := (Below.refl w8.heap.size w8).alloc (Nat.le_refl _) (.cells #[.int .i64 (-1), .int .i64 255, .int .i64 256] 2)
    have S8a := hide (S8.out.below bl)
    have R8a := hide (R8.out.below bl)
    have H8a := hide (H8.out.below bl)
    have O8a := hide (O8.out.below bl)
    have G8a := hide (grown_trans G8.out (grownBy_of_below bl _))
    clear bl
    go_wp2_with fail
    refine (next_own g A n c bs _ 3 w8.heap.size 3 [-1, 255, 256] H8a.out L8.out).mono ?_
    rintro e w9 ⟨k, rfl, k0, k1, h9, g9, HL⟩
    obtain ⟨k, rfl⟩ := Int.eq_ofNat_of_zero_le k0
    have km : k < 3 := by have := k1 (by omega); omega
    have ck := HL.cell (k := k) km
    have S9 := hide (S8a.out.keepNe g9 (by omega))
    have R9 := hide (R8a.out.keepNe g9 (by omega))
    have H9 := hide h9
    have O9 := hide (O8a.out.next H8a.out g9)
    have G9 := hide (grown_trans G8a.out g9)
    have l9 := S9.out.lt
    clear k1 h9 g9 HL
    have y0 : w9.cell? ⟨w6.heap.size, 0, none⟩ = some (.int .i64 s.ph) := S9.out.cell 0
    have y1 : w9.cell? ⟨w6.heap.size, 1, none⟩ = some (.int .i64 s.ct) := S9.out.cell 1
    have y2 : w9.cell? ⟨w6.heap.size, 2, none⟩ = some (.int .i64 s.vl) := S9.out.cell 2
    have y3 : w9.cell? ⟨w6.heap.size, 3, none⟩ = some (.slice A6 m6 c6) := S9.out.cell 3
    have f0 := S9.out.frozen 0
    have f1 := S9.out.frozen 1
    have f2 := S9.out.frozen 2
    have f3 := S9.out.frozen 3
    have r0 : w9.cell? ⟨w.heap.size, 0, none⟩ = some (.int .i64 0) := R9.out.cell 0
    have r1 : w9.cell? ⟨w.heap.size, 1, none⟩ = some (.int .i64 0) := R9.out.cell 1
    have r2 : w9.cell? ⟨w.heap.size, 2, none⟩ = some (.int .i64 0) := R9.out.cell 2
    have r3 : w9.cell? ⟨w.heap.size, 3, none⟩ = some (.slice none 0 0) := R9.out.cell 3
    have x0 := R9.out.frozen 0
    have x1 := R9.out.frozen 1
    have x2 := R9.out.frozen 2
    have x3 := R9.out.frozen 3
    go_wp2_with fail
    have hr1 := R9.out.other (g' := w6.heap.size) (by omega) 2 (.int .i64 (nth [-1, 255, 256] k))
    have fin := hr1.put4 (.int .i64 s.ph) (.int .i64 s.ct) (.int .i64 (nth [-1, 255, 256] k)) (.slice A6 m6 c6)
    have hres := fun (tmps : Array Value) (hp : tmps.getD 2 undef = .pointer (some ⟨w.heap.size, 0, none⟩)) => results_scn (tmps := tmps) Try.results101 hp fin
    refine bodyPost_ret (hres _ rfl) rfl ?_
    exact ⟨⟨s.ph, s.ct, (nth [-1, 255, 256] k), s.bs⟩, A6, m6, c6, rfl, by omega, (O9.out.setScn (g := w6.heap.size) ⟨_, S9.out⟩ 2 (.int .i64 (nth [-1, 255, 256] k))).set4 (g := w.heap.size) ⟨_, hr1⟩ (.int .i64 s.ph) (.int .i64 s.ct) (.int .i64 (nth [-1, 255, 256] k)) (.slice A6 m6 c6), (H9.out.setScn S9.out.isS 2 (.int .i64 (nth [-1, 255, 256] k))).set4 hr1.isS _ _ _ _ _ _, grown_set4 (grown_setN G9.out hb6 2 (.int .i64 (nth [-1, 255, 256] k))) (Nat.le_refl _) (.int .i64 s.ph) (.int .i64 s.ct) (.int .i64 (nth [-1, 255, 256] k)) (.slice A6 m6 c6)⟩
  have f02 : (q == 2) = false := by simpa using e2
  by_cases e3 : q = 3
  · subst e3
    have S9 := S8
    have R9 := R8
    have y0 : w8.cell? ⟨w6.heap.size, 0, none⟩ = some (.int .i64 s.ph) := S9.out.cell 0
    have y1 : w8.cell? ⟨w6.heap.size, 1, none⟩ = some (.int .i64 s.ct) := S9.out.cell 1
    have y2 : w8.cell? ⟨w6.heap.size, 2, none⟩ = some (.int .i64 s.vl) := S9.out.cell 2
    have y3 : w8.cell? ⟨w6.heap.size, 3, none⟩ = some (.slice A6 m6 c6) := S9.out.cell 3
    have f0 := S9.out.frozen 0
    have f1 := S9.out.frozen 1
    have f2 := S9.out.frozen 2
    have f3 := S9.out.frozen 3
    have r0 : w8.cell? ⟨w.heap.size, 0, none⟩ = some (.int .i64 0) := R9.out.cell 0
    have r1 : w8.cell? ⟨w.heap.size, 1, none⟩ = some (.int .i64 0) := R9.out.cell 1
    have r2 : w8.cell? ⟨w.heap.size, 2, none⟩ = some (.int .i64 0) := R9.out.cell 2
    have r3 : w8.cell? ⟨w.heap.size, 3, none⟩ = some (.slice none 0 0) := R9.out.cell 3
    have x0 := R9.out.frozen 0
    have x1 := R9.out.frozen 1
    have x2 := R9.out.frozen 2
    have x3 := R9.out.frozen 3
    go_wp2_with fail
    have hr1 := R8.out.other (g' := w6.heap.size) (by omega) 3 (.slice (some ⟨w8.heap.size, 0, none⟩) 1 1)
    obtain ⟨W5, hW5⟩ : ∃ W5, W5 = (((((w8.setCell ⟨w6.heap.size, 3, none⟩ (.slice (some ⟨w8.heap.size, 0, none⟩) 1 1)).setCell ⟨w.heap.size, 0, none⟩ (.int .i64 s.ph)).setCell ⟨w.heap.size, 1, none⟩ (.int .i64 s.ct)).setCell ⟨w.heap.size, 2, none⟩ (.int .i64 s.vl)).setCell ⟨w.heap.size, 3, none⟩ (.slice (some ⟨w8.heap.size, 0, none⟩) 1 1)) := ⟨_, rfl⟩
    have es : W5.heap.size = w8.heap.size := by rw [hW5]; simp
    have bl := (Below.refl W5.heap.size W5).alloc (Nat.le_refl _) (.cells #[.int .i64 256] 2)
    have f1 := hr1.put4 (.int .i64 s.ph) (.int .i64 s.ct) (.int .i64 s.vl) (.slice (some ⟨w8.heap.size, 0, none⟩) 1 1)
    have h1 := (H8.out.setScn S8.out.isS 3 (.slice (some ⟨w8.heap.size, 0, none⟩) 1 1)).set4 hr1.isS s.ph s.ct s.vl (some ⟨w8.heap.size, 0, none⟩) 1 1
    have gg := grown_set4 (grown_setN G8.out hb6 3 (.slice (some ⟨w8.heap.size, 0, none⟩) 1 1)) (Nat.le_refl w.heap.size) (.int .i64 s.ph) (.int .i64 s.ct) (.int .i64 s.vl) (.slice (some ⟨w8.heap.size, 0, none⟩) 1 1)
    rw [← hW5] at f1 h1 gg
    have fin := f1.below bl
    have hO := Own.lit W5 (B := w.heap.size) (by rw [es]; exact hb8) #[.int .i64 256] [256] rfl (by intro z hz; simp at hz; omega) 1 rfl (by omega)
    have hS := h1.below bl
    have hG := grown_trans gg (grownBy_of_below bl _)
    rw [es] at hO
    rw [hW5] at fin hO hS hG
    have hres := fun (tmps : Array Value) (hp : tmps.getD 2 undef = .pointer (some ⟨w.heap.size, 0, none⟩)) => results_scn (tmps := tmps) Try.results101 hp fin
    refine bodyPost_ret (hres _ rfl) rfl ?_
    exact ⟨⟨s.ph, s.ct, s.vl, [256]⟩, some ⟨w8.heap.size, 0, none⟩, 1, 1, rfl, by omega, hO, hS, hG⟩
  have f03 : (q == 3) = false := by simpa using e3
  by_cases e4 : q = 4
  · subst e4
    go_wp2_with fail
    refine (next_d _ _ _ _ _ _ _ H8.out).mono ?_
    rintro e w9 ⟨z, rfl, z0, z1, h9, g9⟩
    have zm : z < 2 := z1 (by omega)
    have S9 := hide (S8.out.keepNe g9 (by omega))
    have R9 := hide (R8.out.keepNe g9 (by omega))
    have G9 := hide (grown_trans G8.out g9)
    have hb9 : w.heap.size ≤ w9.heap.size := G9.out.size
    have l9 := S9.out.lt
    have lr9 := R9.out.lt
    have H9 := hide h9
    obtain ⟨ob0, hob0⟩ : ∃ o : Obj, o = .cells (madeCells #[.int .i64 0] 1024) 2 := ⟨_, rfl⟩
    obtain ⟨ob1, hob1⟩ : ∃ o : Obj, o = .cells (madeCells #[.int .i64 0] 1023) 2 := ⟨_, rfl⟩
    have hmk0 : ∀ W : World, (Instr.makeSlice 25 (.int .i64 1024) (.int .i64 1024)).run Try.prog W = .ok (.slice (some ⟨W.heap.size, 0, none⟩) 1024 1024) (W.alloc ob0) := by rw [hob0]; exact mk_lit 1024 (by omega)
    have hmk1 : ∀ W : World, (Instr.makeSlice 25 (.int .i64 1023) (.int .i64 1023)).run Try.prog W = .ok (.slice (some ⟨W.heap.size, 0, none⟩) 1023 1023) (W.alloc ob1) := by rw [hob1]; exact mk_lit 1023 (by omega)
    have HOB0 := hide hob0
    have HOB1 := hide hob1
    clear hob0 hob1
    have hz01 : z = 0 ∨ z = 1 := by omega
    clear z1 h9 g9
    have y0 : w9.cell? ⟨w6.heap.size, 0, none⟩ = some (.int .i64 s.ph) := S9.out.cell 0
    have y1 : w9.cell? ⟨w6.heap.size, 1, none⟩ = some (.int .i64 s.ct) := S9.out.cell 1
    have y2 : w9.cell? ⟨w6.heap.size, 2, none⟩ = some (.int .i64 s.vl) := S9.out.cell 2
    have y3 : w9.cell? ⟨w6.heap.size, 3, none⟩ = some (.slice A6 m6 c6) := S9.out.cell 3
    have f0 := S9.out.frozen 0
    have f1 := S9.out.frozen 1
    have f2 := S9.out.frozen 2
    have f3 := S9.out.frozen 3
    have r0 : w9.cell? ⟨w.heap.size, 0, none⟩ = some (.int .i64 0) := R9.out.cell 0
    have r1 : w9.cell? ⟨w.heap.size, 1, none⟩ = some (.int .i64 0) := R9.out.cell 1
    have r2 : w9.cell? ⟨w.heap.size, 2, none⟩ = some (.int .i64 0) := R9.out.cell 2
    have r3 : w9.cell? ⟨w.heap.size, 3, none⟩ = some (.slice none 0 0) := R9.out.cell 3
    have x0 := R9.out.frozen 0
    have x1 := R9.out.frozen 1
    have x2 := R9.out.frozen 2
    have x3 := R9.out.frozen 3
    rcases hz01 with rfl | rfl
    · go_upto_region 18 with (fail)
      have hs1 := S9.out.put4 (.int .i64 4) (.int .i64 7) (.int .i64 5) (.slice (some ⟨w9.heap.size, 0, none⟩) 1024 1024)
      have hr1 := R9.out.other4 (g := w6.heap.size) (by omega) (.int .i64 4) (.int .i64 7) (.int .i64 5) (.slice (some ⟨w9.heap.size, 0, none⟩) 1024 1024)
      have hd1 := H9.out.set4 S9.out.isS 4 7 5 (some ⟨w9.heap.size, 0, none⟩) 1024 1024
      have hg1 := grown_set4 G9.out hb6 (.int .i64 4) (.int .i64 7) (.int .i64 5) (.slice (some ⟨w9.heap.size, 0, none⟩) 1024 1024)
      have sz : (((((w9.setCell ⟨w6.heap.size, 0, none⟩ (.int .i64 4)).setCell ⟨w6.heap.size, 1, none⟩ (.int .i64 7)).setCell ⟨w6.heap.size, 2, none⟩ (.int .i64 5)).setCell ⟨w6.heap.size, 3, none⟩ (.slice (some ⟨w9.heap.size, 0, none⟩) 1024 1024))).heap.size = w9.heap.size := by simp
      clear y0 y1 y2 y3 f0 f1 f2 f3 r0 r1 r2 r3 x0 x1 x2 x3
      generalize ((((w9.setCell ⟨w6.heap.size, 0, none⟩ (.int .i64 4)).setCell ⟨w6.heap.size, 1, none⟩ (.int .i64 7)).setCell ⟨w6.heap.size, 2, none⟩ (.int .i64 5)).setCell ⟨w6.heap.size, 3, none⟩ (.slice (some ⟨w9.heap.size, 0, none⟩) 1024 1024)) = W9 at hs1 hr1 hd1 hg1 sz ⊢
      have SZ := hide sz
      have lS := hs1.lt
      have lR := hr1.lt
      clear sz
      have y0 : W9.cell? ⟨w6.heap.size, 0, none⟩ = some (.int .i64 4) := hs1.cell 0
      have y1 : W9.cell? ⟨w6.heap.size, 1, none⟩ = some (.int .i64 7) := hs1.cell 1
      have y2 : W9.cell? ⟨w6.heap.size, 2, none⟩ = some (.int .i64 5) := hs1.cell 2
      have y3 : W9.cell? ⟨w6.heap.size, 3, none⟩ = some (.slice (some ⟨w9.heap.size, 0, none⟩) 1024 1024) := hs1.cell 3
      have r0 : W9.cell? ⟨w.heap.size, 0, none⟩ = some (.int .i64 0) := hr1.cell 0
      have r1 : W9.cell? ⟨w.heap.size, 1, none⟩ = some (.int .i64 0) := hr1.cell 1
      have r2 : W9.cell? ⟨w.heap.size, 2, none⟩ = some (.int .i64 0) := hr1.cell 2
      have r3 : W9.cell? ⟨w.heap.size, 3, none⟩ = some (.slice none 0 0) := hr1.cell 3
      have x0 := hr1.frozen 0
      have x1 := hr1.frozen 1
      have x2 := hr1.frozen 2
      have x3 := hr1.frozen 3
      have HS1 := hide hs1
      have HR1 := hide hr1
      have HD1 := hide hd1
      have HG1 := hide hg1
      clear hs1 hr1 hd1 hg1
      go_wp2_with fail
      obtain ⟨W5, hW5⟩ : ∃ W5, W5 = ((((W9.setCell ⟨w.heap.size, 0, none⟩ (.int .i64 4)).setCell ⟨w.heap.size, 1, none⟩ (.int .i64 7)).setCell ⟨w.heap.size, 2, none⟩ (.int .i64 5)).setCell ⟨w.heap.size, 3, none⟩ (.slice (some ⟨w9.heap.size, 0, none⟩) 1024 1024)) := ⟨_, rfl⟩
      have es : W5.heap.size = w9.heap.size := by rw [hW5, ← SZ.out]; simp
      have bl := (Below.refl W5.heap.size W5).alloc (Nat.le_refl _) ob0
      have f1 := HR1.out.put4 (.int .i64 4) (.int .i64 7) (.int .i64 5) (.slice (some ⟨w9.heap.size, 0, none⟩) 1024 1024)
      have h1 := HD1.out.set4 HR1.out.isS 4 7 5 (some ⟨w9.heap.size, 0, none⟩) 1024 1024
      have gg := grown_set4 HG1.out (Nat.le_refl w.heap.size) (.int .i64 4) (.int .i64 7) (.int .i64 5) (.slice (some ⟨w9.heap.size, 0, none⟩) 1024 1024)
      rw [← hW5] at f1 h1 gg
      have fin := f1.below bl
      have hO := (Own.made W5 (n := 1024) (by omega)).mono (B' := w.heap.size) (by rw [es]; exact hb9)
      have hS := h1.below bl
      have hG := grown_trans gg (grownBy_of_below bl _)
      rw [es, ← HOB0.out] at hO
      rw [hW5] at fin hO hS hG
      have hres := fun (tmps : Array Value) (hp : tmps.getD 2 undef = .pointer (some ⟨w.heap.size, 0, none⟩)) => results_scn (tmps := tmps) Try.results101 hp fin
      refine bodyPost_ret (hres _ rfl) rfl ?_
      exact ⟨⟨4, 7, 5, List.replicate 1024 0⟩, some ⟨w9.heap.size, 0, none⟩, 1024, 1024, rfl, by omega, hO, hS, hG⟩
    · go_upto_region 18 with (fail)
      have hs1 := S9.out.put4 (.int .i64 4) (.int .i64 7) (.int .i64 5) (.slice (some ⟨w9.heap.size, 0, none⟩) 1023 1023)
      have hr1 := R9.out.other4 (g := w6.heap.size) (by omega) (.int .i64 4) (.int .i64 7) (.int .i64 5) (.slice (some ⟨w9.heap.size, 0, none⟩) 1023 1023)
      have hd1 := H9.out.set4 S9.out.isS 4 7 5 (some ⟨w9.heap.size, 0, none⟩) 1023 1023
      have hg1 := grown_set4 G9.out hb6 (.int .i64 4) (.int .i64 7) (.int .i64 5) (.slice (some ⟨w9.heap.size, 0, none⟩) 1023 1023)
      have sz : (((((w9.setCell ⟨w6.heap.size, 0, none⟩ (.int .i64 4)).setCell ⟨w6.heap.size, 1, none⟩ (.int .i64 7)).setCell ⟨w6.heap.size, 2, none⟩ (.int .i64 5)).setCell ⟨w6.heap.size, 3, none⟩ (.slice (some ⟨w9.heap.size, 0, none⟩) 1023 1023))).heap.size = w9.heap.size := by simp
      clear y0 y1 y2 y3 f0 f1 f2 f3 r0 r1 r2 r3 x0 x1 x2 x3
      generalize ((((w9.setCell ⟨w6.heap.size, 0, none⟩ (.int .i64 4)).setCell ⟨w6.heap.size, 1, none⟩ (.int .i64 7)).setCell ⟨w6.heap.size, 2, none⟩ (.int .i64 5)).setCell ⟨w6.heap.size, 3, none⟩ (.slice (some ⟨w9.heap.size, 0, none⟩) 1023 1023)) = W9 at hs1 hr1 hd1 hg1 sz ⊢
      have SZ := hide sz
      have lS := hs1.lt
      have lR := hr1.lt
      clear sz
      have y0 : W9.cell? ⟨w6.heap.size, 0, none⟩ = some (.int .i64 4) := hs1.cell 0
      have y1 : W9.cell? ⟨w6.heap.size, 1, none⟩ = some (.int .i64 7) := hs1.cell 1
      have y2 : W9.cell? ⟨w6.heap.size, 2, none⟩ = some (.int .i64 5) := hs1.cell 2
      have y3 : W9.cell? ⟨w6.heap.size, 3, none⟩ = some (.slice (some ⟨w9.heap.size, 0, none⟩) 1023 1023) := hs1.cell 3
      have r0 : W9.cell? ⟨w.heap.size, 0, none⟩ = some (.int .i64 0) := hr1.cell 0
      have r1 : W9.cell? ⟨w.heap.size, 1, none⟩ = some (.int .i64 0) := hr1.cell 1
      have r2 : W9.cell? ⟨w.heap.size, 2, none⟩ = some (.int .i64 0) := hr1.cell 2
      have r3 : W9.cell? ⟨w.heap.size, 3, none⟩ = some (.slice none 0 0) := hr1.cell 3
      have x0 := hr1.frozen 0
      have x1 := hr1.frozen 1
      have x2 := hr1.frozen 2
      have x3 := hr1.frozen 3
      have HS1 := hide hs1
      have HR1 := hide hr1
      have HD1 := hide hd1
      have HG1 := hide hg1
      clear hs1 hr1 hd1 hg1
      go_wp2_with fail
      obtain ⟨W5, hW5⟩ : ∃ W5, W5 = ((((W9.setCell ⟨w.heap.size, 0, none⟩ (.int .i64 4)).setCell ⟨w.heap.size, 1, none⟩ (.int .i64 7)).setCell ⟨w.heap.size, 2, none⟩ (.int .i64 5)).setCell ⟨w.heap.size, 3, none⟩ (.slice (some ⟨w9.heap.size, 0, none⟩) 1023 1023)) := ⟨_, rfl⟩
      have es : W5.heap.size = w9.heap.size := by rw [hW5, ← SZ.out]; simp
      have bl := (Below.refl W5.heap.size W5).alloc (Nat.le_refl _) ob1
      have f1 := HR1.out.put4 (.int .i64 4) (.int .i64 7) (.int .i64 5) (.slice (some ⟨w9.heap.size, 0, none⟩) 1023 1023)
      have h1 := HD1.out.set4 HR1.out.isS 4 7 5 (some ⟨w9.heap.size, 0, none⟩) 1023 1023
      have gg := grown_set4 HG1.out (Nat.le_refl w.heap.size) (.int .i64 4) (.int .i64 7) (.int .i64 5) (.slice (some ⟨w9.heap.size, 0, none⟩) 1023 1023)
      rw [← hW5] at f1 h1 gg
      have fin := f1.below bl
      have hO := (Own.made W5 (n := 1023) (by omega)).mono (B' := w.heap.size) (by rw [es]; exact hb9)
      have hS := h1.below bl
      have hG := grown_trans gg (grownBy_of_below bl _)
      rw [es, ← HOB1.out] at hO
      rw [hW5] at fin hO hS hG
      have hres := fun (tmps : Array Value) (hp : tmps.getD 2 undef = .pointer (some ⟨w.heap.size, 0, none⟩)) => results_scn (tmps := tmps) Try.results101 hp fin
      refine bodyPost_ret (hres _ rfl) rfl ?_
      exact ⟨⟨4, 7, 5, List.replicate 1023 0⟩, some ⟨w9.heap.size, 0, none⟩, 1023, 1023, rfl, by omega, hO, hS, hG⟩
  have f04 : (q == 4) = false := by simpa using e4
  have S9 := S8
  have R9 := R8
  have y0 : w8.cell? ⟨w6.heap.size, 0, none⟩ = some (.int .i64 s.ph) := S9.out.cell 0
  have y1 : w8.cell? ⟨w6.heap.size, 1, none⟩ = some (.int .i64 s.ct) := S9.out.cell 1
  have y2 : w8.cell? ⟨w6.heap.size, 2, none⟩ = some (.int .i64 s.vl) := S9.out.cell 2
  have y3 : w8.cell? ⟨w6.heap.size, 3, none⟩ = some (.slice A6 m6 c6) := S9.out.cell 3
  have f0 := S9.out.frozen 0
  have f1 := S9.out.frozen 1
  have f2 := S9.out.frozen 2
  have f3 := S9.out.frozen 3
  have r0 : w8.cell? ⟨w.heap.size, 0, none⟩ = some (.int .i64 0) := R9.out.cell 0
  have r1 : w8.cell? ⟨w.heap.size, 1, none⟩ = some (.int .i64 0) := R9.out.cell 1
  have r2 : w8.cell? ⟨w.heap.size, 2, none⟩ = some (.int .i64 0) := R9.out.cell 2
  have r3 : w8.cell? ⟨w.heap.size, 3, none⟩ = some (.slice none 0 0) := R9.out.cell 3
  have x0 := R9.out.frozen 0
  have x1 := R9.out.frozen 1
  have x2 := R9.out.frozen 2
  have x3 := R9.out.frozen 3
  go_wp2_with fail
  have fin := R8.out.put4 (.int .i64 s.ph) (.int .i64 s.ct) (.int .i64 s.vl) (.slice A6 m6 c6)
  have hres := fun (tmps : Array Value) (hp : tmps.getD 2 undef = .pointer (some ⟨w.heap.size, 0, none⟩)) => results_scn (tmps := tmps) Try.results101 hp fin
  refine bodyPost_ret (hres _ rfl) rfl ?_
  exact ⟨s, A6, m6, c6, rfl, by omega, O8.out.set4 (g := w.heap.size) ⟨_, R8.out⟩ (.int .i64 s.ph) (.int .i64 s.ct) (.int .i64 s.vl) (.slice A6 m6 c6), H8.out.set4 R8.out.isS _ _ _ _ _ _, grown_set4 G8.out (Nat.le_refl _) (.int .i64 s.ph) (.int .i64 s.ct) (.int .i64 s.vl) (.slice A6 m6 c6)⟩
end Go.Proofs.Ytdodhjahihfaiaa
