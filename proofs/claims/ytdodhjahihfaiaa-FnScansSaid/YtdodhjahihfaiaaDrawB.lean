/- Contracts of the functions that draw lists of bits, bytes, indices from a source. -/
import Derived.Test.YtdodhjahihfaiaaDraw
import Derived.Test.YtdodhjahihfaiaaRepeat
namespace Go.Proofs.Ytdodhjahihfaiaa
open Go.RowKit
set_option linter.unusedVariables false
set_option linter.unusedSimpArgs false

/-- the code and its source stand -/
def Sd (w : World) (g : Nat) (A : Option Addr) (n c : Nat) (bs : List Int) : Prop := Rd8 w A n c bs ∧ Src w g A n c
section
variable {w w' : World} {A : Option Addr} {n c g : Nat} {bs : List Int}
theorem Sd.step (h : Sd w g A n c bs) (hs : Src w' g A n c) (hg : w.grownBy w' (some g)) : Sd w' g A n c bs := ⟨h.1.grown h.2 hg, hs⟩
theorem Sd.below (h : Sd w g A n c bs) (hb : Below w.heap.size w w') : Sd w' g A n c bs := ⟨h.1.below hb, h.2.below hb⟩
theorem Sd.lt (h : Sd w g A n c bs) : g < w.heap.size := h.2.lt
/-- the code's block lies below B -/
theorem Rd8.under (h : Rd8 w A n c bs) : Under w.heap.size A n := by
  intro b off s hA hn
  obtain ⟨b', o', hA', hb, _⟩ := h.at_ hn
  rw [hA] at hA'
  simp at hA'
  omega
theorem Sd.own {B m d : Nat} {A' : Option Addr} {zs : List Int} (h : Sd w g A n c bs) (hu : Under B A n) (ho : Own w B A' m d zs) (hg : w.grownBy w' (Value.slice A' m d).ownBlock) : Sd w' g A n c bs := by
  refine ⟨?_, h.2.keepOwn ho hg⟩
  obtain ⟨h1, h2, h3, h4, h5⟩ := h.1
  refine ⟨h1, h2, h3, h4, fun hn => ?_⟩
  obtain ⟨b, off, hA, hl, hc⟩ := h.1.at_ hn
  refine ⟨b, off, hA, fun j hj => (World.cell?_of_block (hg.block b hl (fun e => ?_))).trans (hc j hj)⟩
  have := (ho.row.lt b e.symm).1
  have := hu b off _ hA hn
  omega
theorem Own.next {B m d : Nat} {A' : Option Addr} {zs : List Int} (ho : Own w B A' m d zs) (h : Sd w g A n c bs) (hg : w.grownBy w' (some g)) : Own w' B A' m d zs := ho.keepSrc h.2 hg
theorem grown_alloc (w : World) (o : Obj) (r : Option Nat) : w.grownBy (w.alloc o) r := World.grownBy_alloc w o r
end

theorem next_d (g : Nat) (A : Option Addr) (n c : Nat) (bs : List Int) (w : World) (m : Int) (h : Sd w g A n c bs) :
    Calls Try.prog 97 #[.pointer (some ⟨g, 0, none⟩), .int .i64 m] w fun e w' => ∃ x, e = .returned (.int .i64 x) ∧ 0 ≤ x ∧ (0 < m → x < m) ∧ Sd w' g A n c bs ∧ w.grownBy w' (some g) :=
  (l01Next_any g A n c bs w m h.1 h.2).mono fun _ _ ⟨x, he, h0, h1, hs, hg⟩ => ⟨x, he, h0, h1, h.step hs hg, hg⟩

/-- a drawn list of at most 'most' numbers, of the call's own -/
def GotL (w : World) (g : Nat) (A : Option Addr) (n c : Nat) (bs : List Int) (most : Nat) (e : Ending) (w' : World) : Prop :=
  ∃ (A' : Option Addr) (m c' : Nat) (zs : List Int), e = .returned (.slice A' m c') ∧ m ≤ most ∧ Own w' w.heap.size A' m c' zs ∧ Sd w' g A n c bs ∧ w.grownBy w' (some g)

set_option maxHeartbeats 1600000 in
theorem l01DrawBits_d (g : Nat) (A : Option Addr) (n c : Nat) (bs : List Int) (w : World) (most : Int) (h : Sd w g A n c bs) (hm0 : 0 ≤ most) (hm : most ≤ 4096) :
    Calls Try.prog 102 #[.pointer (some ⟨g, 0, none⟩), .int .i64 most] w (GotL w g A n c bs 10000) := by
  have hu := hide h.1.under
  have hg0 := h.lt
  go_enter Try.func102, Try.ntmps102
  go_wp2_with fail
  refine (next_d _ _ _ _ _ _ _ (h.below ((Below.refl _ _).alloc (Nat.le_refl _) _))).mono ?_
  rintro e w1 ⟨x, rfl, x0, x1, h1, g1⟩
  have xm : x ≤ most := by have := x1 (by omega); omega
  have G1 := hide (grown_trans (grown_alloc w _ _) g1)
  have O1 := hide ((Own.empty w (Nat.le_refl _)).next (h.below ((Below.refl _ _).alloc (Nat.le_refl _) _)) g1)
  have z1 : w.heap.size ≤ w1.heap.size := G1.out.size
  clear x1 g1
  go_wp2_with fail
  go_loopw [5, 6] (fun s i wr => ∃ (k : Nat) (j : Int) (A' : Option Addr) (c' : Nat) (zs : List Int), s = .slice A' k c' ∧ i = .int .i64 j ∧ 0 ≤ j ∧ (k : Int) + j ≤ most ∧ Own wr w.heap.size A' k c' zs ∧ Sd wr g A n c bs ∧ w.grownBy wr (some g)) (fun _ i _ => (intOf i).toNat)
  case atStart => exact ⟨0, x, _, _, _, rfl, rfl, x0, by omega, O1.out, h1, G1.out⟩
  case round =>
    obtain ⟨k, j, A', c', zs, rfl, rfl, hj0, hj, hown, hsd, hg⟩ := hrel
    by_cases hlt : 0 < j
    · go_wp2_with fail
      refine (next_d _ _ _ _ _ _ _ hsd).mono ?_
      rintro e w2 ⟨y, rfl, y0, y1, h2, g2⟩
      have o2 := hown.next hsd g2
      have g3 := grown_trans hg g2
      have ym : y < 2 := y1 (by omega)
      have hsz : w.heap.size ≤ w2.heap.size := g3.size
      clear y1 g2 hown hsd hg h1
      go_wp2_with (at_builtin; refine append_new rfl _ _ rfl w.heap.size rfl o2 _ [y] 1 rfl (I64.one (by omega) (by omega)) rfl rfl (by omega) hsz ?_; intro A2 c2 w3 own3 gr3)
      have h3 := h2.own hu.out o2 gr3
      have g4 := grown_own g3 o2 (Nat.le_refl _) gr3
      go_roundw
      case rel => exact ⟨k + 1, j - 1, A2, c2, _, rfl, rfl, by omega, by omega, own3, h3, g4⟩
      case measure => simp [intOf]; omega
    · go_wp2_with fail
      refine (next_d _ _ _ _ _ _ _ hsd).mono ?_
      rintro e w2 ⟨z, rfl, z0, z1, h2, g2⟩
      have o2 := hown.next hsd g2
      have g3 := grown_trans hg g2
      have hsz : w.heap.size ≤ w2.heap.size := g3.size
      clear z1 g2 hown hsd hg h1
      by_cases e0 : z = 0
      · subst e0
        go_wp2_with fail
        refine (next_d _ _ _ _ _ _ _ (h2.below ((Below.refl _ _).alloc (Nat.le_refl _) _))).mono ?_
        rintro e w3 ⟨y, rfl, y0, y1, h3, g4⟩
        obtain ⟨y, rfl⟩ := Int.eq_ofNat_of_zero_le y0
        have ym : y < 2 := by have := y1 (by omega); omega
        have lit := (Own.lit w2 hsz #[.int .i64 2, .int .i64 (-1)] [2, -1] rfl (by intro z hz; simp at hz; omega) 2 rfl (by omega)).next (h2.below ((Below.refl _ _).alloc (Nat.le_refl _) _)) g4
        have hcell := lit.cell (k := y) ym
        have hi := lit.i64.get y
        have o3 := (o2.alloc _).next (h2.below ((Below.refl _ _).alloc (Nat.le_refl _) _)) g4
        have g5 := grown_trans (grown_trans g3 (grown_alloc w2 _ _)) g4
        have hsz3 : w.heap.size ≤ w3.heap.size := g5.size
        clear y1 g4 o2 h2 g3 lit
        go_wp2_with (at_builtin; refine append_new rfl _ _ rfl w.heap.size rfl o3 _ [nth [2, -1] y] 1 rfl (I64.one hi.1 hi.2) rfl rfl (by omega) hsz3 ?_; intro A2 c2 w4 own4 gr4)
        go_ret
        exact ⟨A2, _, c2, _, rfl, by omega, own4, h3.own hu.out o3 gr4, grown_own g5 o3 (Nat.le_refl _) gr4⟩
      · by_cases e1 : z = 1
        · subst e1
          go_wp2_with fail
          refine (next_d _ _ _ _ _ _ _ h2).mono ?_
          rintro e w3 ⟨y, rfl, y0, y1, h3, g4⟩
          obtain ⟨y, rfl⟩ := Int.eq_ofNat_of_zero_le y0
          have ym : y < 3 := by have := y1 (by omega); omega
          have e8 : (8192 + (y : Int) - 1) = ((8191 + y : Nat) : Int) := by omega
          have hmk : ∀ W : World, (Instr.makeSlice 25 (.int .i64 (8192 + (y : Int) - 1)) (.int .i64 (8192 + (y : Int) - 1))).run Try.prog W = .ok (.slice (some ⟨W.heap.size, 0, none⟩) (8191 + y) (8191 + y)) (W.alloc (.cells (madeCells #[.int .i64 0] (8191 + y)) 2)) := by
            rw [e8]
            exact run_make_row' (P := Try.prog) 25 2 (.int .i64 0) 8 Try.underlying25 info_i64 rfl .i64 .i64 (8191 + y) (by omega) (by omega)
          have g5 := grown_trans g3 g4
          have hsz3 : w.heap.size ≤ w3.heap.size := g5.size
          clear y1 g4 o2 h2 g3 e8
          go_wp2_with fail
          go_ret
          exact ⟨_, _, _, _, rfl, by omega, (Own.made w3 (n := 8191 + y) (by omega)).mono hsz3, h3.below ((Below.refl _ _).alloc (Nat.le_refl _) _), grown_trans g5 (grown_alloc _ _ _)⟩
        · have f0 : (z == 0) = false := by simpa using e0
          have f1 : (z == 1) = false := by simpa using e1
          go_wp2_with fail
          go_ret
          exact ⟨_, _, _, _, rfl, by omega, o2, h2, g3⟩
set_option maxHeartbeats 1600000 in
theorem l01DrawBytes_d (g : Nat) (A : Option Addr) (n c : Nat) (bs : List Int) (w : World) (most : Int) (h : Sd w g A n c bs) (hm0 : 0 ≤ most) (hm : most ≤ 4096) :
    Calls Try.prog 99 #[.pointer (some ⟨g, 0, none⟩), .int .i64 most] w (GotL w g A n c bs 10000) := by
  have hu := hide h.1.under
  have hg0 := h.lt
  go_enter Try.func99, Try.ntmps99
  go_wp2_with fail
  refine (next_d _ _ _ _ _ _ _ (h.below ((Below.refl _ _).alloc (Nat.le_refl _) _))).mono ?_
  rintro e w1 ⟨x, rfl, x0, x1, h1, g1⟩
  have xm : x ≤ most := by have := x1 (by omega); omega
  have G1 := hide (grown_trans (grown_alloc w _ _) g1)
  have O1 := hide ((Own.empty w (Nat.le_refl _)).next (h.below ((Below.refl _ _).alloc (Nat.le_refl _) _)) g1)
  have z1 : w.heap.size ≤ w1.heap.size := G1.out.size
  clear x1 g1
  go_wp2_with fail
  go_loopw [5, 6] (fun s i wr => ∃ (k : Nat) (j : Int) (A' : Option Addr) (c' : Nat) (zs : List Int), s = .slice A' k c' ∧ i = .int .i64 j ∧ 0 ≤ j ∧ (k : Int) + j ≤ most ∧ Own wr w.heap.size A' k c' zs ∧ Sd wr g A n c bs ∧ w.grownBy wr (some g)) (fun _ i _ => (intOf i).toNat)
  case atStart => exact ⟨0, x, _, _, _, rfl, rfl, x0, by omega, O1.out, h1, G1.out⟩
  case round =>
    obtain ⟨k, j, A', c', zs, rfl, rfl, hj0, hj, hown, hsd, hg⟩ := hrel
    by_cases hlt : 0 < j
    · go_wp2_with fail
      refine (next_d _ _ _ _ _ _ _ hsd).mono ?_
      rintro e w2 ⟨y, rfl, y0, y1, h2, g2⟩
      have o2 := hown.next hsd g2
      have g3 := grown_trans hg g2
      have ym : y < 256 := y1 (by omega)
      have hsz : w.heap.size ≤ w2.heap.size := g3.size
      clear y1 g2 hown hsd hg h1
      go_wp2_with (at_builtin; refine append_new rfl _ _ rfl w.heap.size rfl o2 _ [y] 1 rfl (I64.one (by omega) (by omega)) rfl rfl (by omega) hsz ?_; intro A2 c2 w3 own3 gr3)
      have h3 := h2.own hu.out o2 gr3
      have g4 := grown_own g3 o2 (Nat.le_refl _) gr3
      go_roundw
      case rel => exact ⟨k + 1, j - 1, A2, c2, _, rfl, rfl, by omega, by omega, own3, h3, g4⟩
      case measure => simp [intOf]; omega
    · go_wp2_with fail
      refine (next_d _ _ _ _ _ _ _ hsd).mono ?_
      rintro e w2 ⟨z, rfl, z0, z1, h2, g2⟩
      have o2 := hown.next hsd g2
      have g3 := grown_trans hg g2
      have hsz : w.heap.size ≤ w2.heap.size := g3.size
      clear z1 g2 hown hsd hg h1
      by_cases e0 : z = 0
      · subst e0
        go_wp2_with fail
        refine (next_d _ _ _ _ _ _ _ (h2.below ((Below.refl _ _).alloc (Nat.le_refl _) _))).mono ?_
        rintro e w3 ⟨y, rfl, y0, y1, h3, g4⟩
        obtain ⟨y, rfl⟩ := Int.eq_ofNat_of_zero_le y0
        have ym : y < 2 := by have := y1 (by omega); omega
        have lit := (Own.lit w2 hsz #[.int .i64 256, .int .i64 (-1)] [256, -1] rfl (by intro z hz; simp at hz; omega) 2 rfl (by omega)).next (h2.below ((Below.refl _ _).alloc (Nat.le_refl _) _)) g4
        have hcell := lit.cell (k := y) ym
        have hi := lit.i64.get y
        have o3 := (o2.alloc _).next (h2.below ((Below.refl _ _).alloc (Nat.le_refl _) _)) g4
        have g5 := grown_trans (grown_trans g3 (grown_alloc w2 _ _)) g4
        have hsz3 : w.heap.size ≤ w3.heap.size := g5.size
        clear y1 g4 o2 h2 g3 lit
        go_wp2_with (at_builtin; refine append_new rfl _ _ rfl w.heap.size rfl o3 _ [nth [256, -1] y] 1 rfl (I64.one hi.1 hi.2) rfl rfl (by omega) hsz3 ?_; intro A2 c2 w4 own4 gr4)
        go_ret
        exact ⟨A2, _, c2, _, rfl, by omega, own4, h3.own hu.out o3 gr4, grown_own g5 o3 (Nat.le_refl _) gr4⟩
      · by_cases e1 : z = 1
        · subst e1
          go_wp2_with fail
          refine (next_d _ _ _ _ _ _ _ h2).mono ?_
          rintro e w3 ⟨y, rfl, y0, y1, h3, g4⟩
          obtain ⟨y, rfl⟩ := Int.eq_ofNat_of_zero_le y0
          have ym : y < 2 := by have := y1 (by omega); omega
          have e8 : (1024 + (y : Int)) = ((1024 + y : Nat) : Int) := by omega
          have hmk : ∀ W : World, (Instr.makeSlice 25 (.int .i64 (1024 + (y : Int))) (.int .i64 (1024 + (y : Int)))).run Try.prog W = .ok (.slice (some ⟨W.heap.size, 0, none⟩) (1024 + y) (1024 + y)) (W.alloc (.cells (madeCells #[.int .i64 0] (1024 + y)) 2)) := by
            rw [e8]
            exact run_make_row' (P := Try.prog) 25 2 (.int .i64 0) 8 Try.underlying25 info_i64 rfl .i64 .i64 (1024 + y) (by omega) (by omega)
          have g5 := grown_trans g3 g4
          have hsz3 : w.heap.size ≤ w3.heap.size := g5.size
          clear y1 g4 o2 h2 g3 e8
          go_wp2_with fail
          go_ret
          exact ⟨_, _, _, _, rfl, by omega, (Own.made w3 (n := 1024 + y) (by omega)).mono hsz3, h3.below ((Below.refl _ _).alloc (Nat.le_refl _) _), grown_trans g5 (grown_alloc _ _ _)⟩
        · have f0 : (z == 0) = false := by simpa using e0
          have f1 : (z == 1) = false := by simpa using e1
          go_wp2_with fail
          go_ret
          exact ⟨_, _, _, _, rfl, by omega, o2, h2, g3⟩

/-- a drawn number in a range -/
def GotN (w : World) (g : Nat) (A : Option Addr) (n c : Nat) (bs : List Int) (lo hi : Int) (e : Ending) (w' : World) : Prop :=
  ∃ x : Int, e = .returned (.int .i64 x) ∧ lo ≤ x ∧ x ≤ hi ∧ Sd w' g A n c bs ∧ w.grownBy w' (some g)

theorem l18DrawPreamble_d (g : Nat) (A : Option Addr) (n c : Nat) (bs : List Int) (w : World) (h : Sd w g A n c bs) :
    Calls Try.prog 98 #[.pointer (some ⟨g, 0, none⟩)] w (GotN w g A n c bs 0 20) := by
  go_enter Try.func98, Try.ntmps98
  go_wp2_with fail
  refine (next_d _ _ _ _ _ _ _ h).mono ?_
  rintro e w2 ⟨z, rfl, z0, z1, h2, g2⟩
  clear z1
  have hsz : w.heap.size ≤ w2.heap.size := g2.size
  by_cases e0 : z = 0
  · subst e0
    go_wp2_with fail
    refine (next_d _ _ _ _ _ _ _ (h2.below ((Below.refl _ _).alloc (Nat.le_refl _) _))).mono ?_
    rintro e w3 ⟨y, rfl, y0, y1, h3, g4⟩
    obtain ⟨y, rfl⟩ := Int.eq_ofNat_of_zero_le y0
    have ym : y < 4 := by have := y1 (by omega); omega
    have lit := (Own.lit w2 hsz #[.int .i64 2, .int .i64 3, .int .i64 15, .int .i64 16] [2, 3, 15, 16] rfl (by intro z hz; simp at hz; omega) 4 rfl (by omega)).next (h2.below ((Below.refl _ _).alloc (Nat.le_refl _) _)) g4
    have hcell := lit.cell (k := y) ym
    have hall : allB 2 16 [2, 3, 15, 16] = true := by decide
    have hi := allB_get hall y ym
    have g5 := grown_trans (grown_trans g2 (grown_alloc w2 _ _)) g4
    clear y1 g4 h2 g2 lit hall
    go_wp2_with fail
    go_ret
    exact ⟨_, rfl, by omega, by omega, h3, g5⟩
  · have f0 : (z == 0) = false := by simpa using e0
    go_wp2_with fail
    refine (next_d _ _ _ _ _ _ _ h2).mono ?_
    rintro e w3 ⟨y, rfl, y0, y1, h3, g4⟩
    have ym : y < 13 := y1 (by omega)
    clear y1
    go_wp2_with fail
    go_ret
    exact ⟨_, rfl, by omega, by omega, h3, grown_trans g2 g4⟩
end Go.Proofs.Ytdodhjahihfaiaa
