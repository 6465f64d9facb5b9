/- Contracts of the functions that draw widths, samples, flips from a source. -/
import Derived.Test.YtopccpnkokdmiaaDrawB
import Derived.Test.YtopccpnkokdmiaaCells
import Derived.Deep.RegionWith
namespace Go.Proofs.Ytopccpnkokdmiaa
open Go.RowKit
set_option linter.unusedVariables false
set_option linter.unusedSimpArgs false

set_option maxHeartbeats 1600000 in
theorem l20DrawWidths_d (g : Nat) (A : Option Addr) (n c : Nat) (bs : List Int) (w : World) (many : Int) (h : Sd w g A n c bs) (hm0 : 0 ≤ many) (hm : many ≤ 20000) :
    Calls Try.prog 123 #[.pointer (some ⟨g, 0, none⟩), .int .i64 many] w (GotL w g A n c bs 20001) := by
  have hu := hide h.1.under
  have hg0 := h.lt
  go_enter Try.func123, Try.ntmps123
  go_wp2_with fail
  go_loopw [1, 5] (fun i s wr => ∃ (k : Nat) (j : Int) (A' : Option Addr) (c' : Nat) (zs : List Int), s = .slice A' k c' ∧ i = .int .i64 j ∧ 0 ≤ j ∧ (k : Int) + j ≤ many ∧ Own wr w.heap.size A' k c' zs ∧ Sd wr g A n c bs ∧ w.grownBy wr (some g)) (fun i _ _ => (intOf i).toNat)
  case atStart => exact ⟨0, many, _, _, _, rfl, rfl, hm0, by omega, Own.empty w (Nat.le_refl _), h.below ((Below.refl _ _).alloc (Nat.le_refl _) _), grown_alloc _ _ _⟩
  case round =>
    obtain ⟨k, j, A', c', zs, rfl, rfl, hj0, hj, hown, hsd, hg⟩ := hrel
    have hsz0 : w.heap.size ≤ wr.heap.size := hg.size
    by_cases hlt : 0 < j
    · go_wp2_with fail
      refine (next_d _ _ _ _ _ _ _ (hsd.below ((Below.refl _ _).alloc (Nat.le_refl _) _))).mono ?_
      rintro e w2 ⟨y, rfl, y0, y1, h2, g2⟩
      obtain ⟨y, rfl⟩ := Int.eq_ofNat_of_zero_le y0
      have ym : y < 5 := by have := y1 (by omega); omega
      have lit := (Own.lit wr hsz0 #[.int .i64 8, .int .i64 8, .int .i64 8, .int .i64 7, .int .i64 9] [8, 8, 8, 7, 9] rfl (by intro z hz; simp at hz; omega) 5 rfl (by omega)).next (hsd.below ((Below.refl _ _).alloc (Nat.le_refl _) _)) g2
      have hcell := lit.cell (k := y) ym
      have hi := lit.i64.get y
      have o2 := (hown.alloc _).next (hsd.below ((Below.refl _ _).alloc (Nat.le_refl _) _)) g2
      have g3 := grown_trans (grown_trans hg (grown_alloc wr _ _)) g2
      have hsz : w.heap.size ≤ w2.heap.size := g3.size
      clear y1 g2 hown hsd hg lit h
      go_wp2_with (at_builtin; refine append_new rfl _ _ rfl w.heap.size rfl o2 _ [nth [8, 8, 8, 7, 9] y] 1 rfl (I64.one hi.1 hi.2) rfl rfl (by omega) hsz ?_; intro A2 c2 w3 own3 gr3)
      have h3 := h2.own hu.out o2 gr3
      have g4 := grown_own g3 o2 (Nat.le_refl _) gr3
      go_roundw
      case rel => exact ⟨k + 1, j - 1, A2, c2, _, rfl, rfl, by omega, by omega, own3, h3, g4⟩
      case measure => simp [intOf]; omega
    · go_wp2_with fail
      refine (next_d _ _ _ _ _ _ _ hsd).mono ?_
      rintro e w2 ⟨z, rfl, z0, z1, h2, g2⟩
      have o2 := hown.next hsd g2
      have g3 := grown_trans hg g2
      have hsz : w.heap.size ≤ w2.heap.size := g3.size
      clear z1 g2 hown hsd hg h
      by_cases e0 : z = 0
      · subst e0
        go_wp2_with (at_builtin; refine append_new rfl _ _ rfl w.heap.size rfl o2 _ [8] 1 rfl (I64.one (by omega) (by omega)) rfl rfl (by omega) hsz ?_; intro A2 c2 w4 own4 gr4)
        go_ret
        exact ⟨A2, _, c2, _, rfl, by omega, own4, h2.own hu.out o2 gr4, grown_own g3 o2 (Nat.le_refl _) gr4⟩
      · by_cases e1 : z = 1
        · subst e1
          by_cases hk : 0 < k
          · rcases o2.form with ⟨_, h0, _⟩ | ⟨gb, rfl, gb1, gb2⟩
            · omega
            go_wp2_with fail
            refine (next_d _ _ _ _ _ _ _ (h2.below ((Below.refl _ _).alloc (Nat.le_refl _) _))).mono ?_
            rintro e w3 ⟨y, rfl, y0, y1, h3, g4⟩
            obtain ⟨y, rfl⟩ := Int.eq_ofNat_of_zero_le y0
            have ym : y < 3 := by have := y1 (by omega); omega
            have lit := (Own.lit w2 hsz #[.int .i64 6, .int .i64 10, .int .i64 7] [6, 10, 7] rfl (by intro z hz; simp at hz; omega) 3 rfl (by omega)).next (h2.below ((Below.refl _ _).alloc (Nat.le_refl _) _)) g4
            have hcell := lit.cell (k := y) ym
            have hi := lit.i64.get y
            have o3 := (o2.alloc _).next (h2.below ((Below.refl _ _).alloc (Nat.le_refl _) _)) g4
            have g5 := grown_trans (grown_trans g3 (grown_alloc w2 _ _)) g4
            have hst := o3.cell (k := 0) hk
            have hfz := o3.frozen 0
            have o4 := o3.set 0 hi.1 hi.2
            have gs := o3.set_grown 0 (nth [6, 10, 7] y)
            have h4 := hide (h3.own hu.out o3 gs)
            have g6 := hide (grown_own g5 o3 (Nat.le_refl _) gs)
            have O4 := hide o4
            clear y1 g4 o2 h2 g3 lit o3 gs o4 g5
            go_wp2_with fail
            go_ret
            exact ⟨_, _, _, _, rfl, by omega, O4.out, h4.out, g6.out⟩
          · obtain rfl : k = 0 := by omega
            go_wp2_with fail
            go_ret
            exact ⟨_, _, _, _, rfl, by omega, o2, h2, g3⟩
        · have f0 : (z == 0) = false := by simpa using e0
          have f1 : (z == 1) = false := by simpa using e1
          go_wp2_with fail
          go_ret
          exact ⟨_, _, _, _, rfl, by omega, o2, h2, g3⟩

set_option maxHeartbeats 1600000 in
theorem l21Draw_d (g : Nat) (A : Option Addr) (n c : Nat) (bs : List Int) (w : World) (h : Sd w g A n c bs) :
    Calls Try.prog 119 #[.pointer (some ⟨g, 0, none⟩)] w (GotL w g A n c bs 1048576) := by
  have hu := hide h.1.under
  have hg0 := h.lt
  go_enter Try.func119, Try.ntmps119
  go_wp2_with fail
  refine (next_d _ _ _ _ _ _ _ h).mono ?_
  rintro e w1 ⟨z, rfl, z0, z1, h1, g1⟩
  clear z1
  by_cases e0 : z = 0
  · subst e0
    go_wp2_with fail
    refine (l01DrawBits_d _ _ _ _ _ _ _ h1 (by omega) (by omega)).mono ?_
    rintro e w2 ⟨A2, m2, c2, zs, rfl, hm2, own2, h2, g2⟩
    go_wp2_with fail
    go_ret
    exact ⟨_, _, _, _, rfl, by omega, own2.mono g1.size, h2, grown_trans g1 g2⟩
  · have f0 : (z == 0) = false := by simpa using e0
    go_wp2_with fail
    refine (next_d _ _ _ _ _ _ _ (h1.below ((Below.refl _ _).alloc (Nat.le_refl _) _))).mono ?_
    rintro e w2 ⟨x, rfl, x0, x1, h2, g2⟩
    have xm : x < 8 := x1 (by omega)
    have G2 := hide (grown_trans (grown_trans g1 (grown_alloc w1 _ _)) g2)
    have O2 := hide ((Own.empty w1 g1.size).next (h1.below ((Below.refl _ _).alloc (Nat.le_refl _) _)) g2)
    clear x1 g2 h1 f0
    go_wp2_with fail
    go_loopw [3, 4] (fun s i wr => ∃ (k : Nat) (j : Int) (A' : Option Addr) (c' : Nat) (zs : List Int), s = .slice A' k c' ∧ i = .int .i64 j ∧ 0 ≤ j ∧ (k : Int) + j ≤ 8 ∧ Own wr w.heap.size A' k c' zs ∧ Sd wr g A n c bs ∧ w.grownBy wr (some g)) (fun _ i _ => (intOf i).toNat)
    case atStart => exact ⟨0, x, _, _, _, rfl, rfl, x0, by omega, O2.out, h2, G2.out⟩
    case round =>
      obtain ⟨k, j, A', c', zs, rfl, rfl, hj0, hj, hown, hsd, hg⟩ := hrel
      by_cases hlt : 0 < j
      · go_wp2_with fail
        refine (next_d _ _ _ _ _ _ _ hsd).mono ?_
        rintro e w3 ⟨y, rfl, y0, y1, h3, g3⟩
        have ym : y < 9 := y1 (by omega)
        have o3 := hown.next hsd g3
        have g4 := grown_trans hg g3
        have hsz : w.heap.size ≤ w3.heap.size := g4.size
        clear y1 g3 hown hsd hg h2
        go_wp2_with (at_builtin; refine append_new rfl _ _ rfl w.heap.size rfl o3 _ [5 + y] 1 rfl (I64.one (by omega) (by omega)) rfl rfl (by omega) hsz ?_; intro A2 c2 w4 own4 gr4)
        have h4 := h3.own hu.out o3 gr4
        have g5 := grown_own g4 o3 (Nat.le_refl _) gr4
        go_roundw
        case rel => exact ⟨k + 1, j - 1, A2, c2, _, rfl, rfl, by omega, by omega, own4, h4, g5⟩
        case measure => simp [intOf]; omega
      · go_wp2_with fail
        refine (next_d _ _ _ _ _ _ _ hsd).mono ?_
        rintro e w3 ⟨y, rfl, y0, y1, h3, g3⟩
        have ym : y < 8 := y1 (by omega)
        have o3 := hown.next hsd g3
        have g4 := grown_trans hg g3
        have yq : 0 ≤ y / 7 ∧ y / 7 ≤ 1 := by omega
        clear y1 g3 hown hsd hg h2
        go_wp2_with (go_at_call 51; refine (sFromRuns_c _ _ _ _ _ _ (by omega) o3.rd (by omega)).mono ?_; rintro e w4 ⟨A4, n4, c4, rfl, own4, bel4, m4⟩)
        go_ret
        exact ⟨_, _, _, _, rfl, m4, own4.mono g4.size, h3.below bel4, grown_trans g4 (grownBy_of_below bel4 _)⟩
end Go.Proofs.Ytopccpnkokdmiaa
