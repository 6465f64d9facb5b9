/- Contracts: the library's sort of an owned list, all edges in order, the next edge, drifts. -/
import Derived.Test.YtopccpnkokdmiaaShelf
import Derived.Test.YtopccpnkokdmiaaEdgeMath
import Derived.Test.YtopccpnkokdmiaaEdges
import Derived.Test.YtopccpnkokdmiaaRound
import Derived.Test.YtopccpnkokdmiaaRepeat
import Derived.Sort.OwnSortedInts
namespace Go.Proofs.Ytopccpnkokdmiaa
open Go.RowKit
set_option linter.unusedVariables false
set_option linter.unusedSimpArgs false

/-- the list in order -/
def sorted (zs : List Int) : List Int := zs.mergeSort fun x y => decide (x ≤ y)
theorem sorted_len (zs : List Int) : (sorted zs).length = zs.length := by simp [sorted]
theorem sorted_perm (zs : List Int) : (sorted zs).Perm zs := List.mergeSort_perm _ _
theorem sorted_le (zs : List Int) : (sorted zs).Pairwise (· ≤ ·) := by
  have := List.pairwise_mergeSort (le := fun x y : Int => decide (x ≤ y)) (fun a b c h1 h2 => by simp at *; omega) (fun a b => by simp; omega) zs
  exact this.imp fun h => by simpa using h
theorem sort_any (A : Option Addr) (n c : Nat) (zs : List Int) (B : Nat) (w : World) (h : Own w B A n c zs) (hn : n ≤ 16777216) :
    Calls Try.prog 140 #[.slice A n c] w fun e w' => e = .returned (.tuple #[]) ∧ Own w' B A n c (sorted zs) ∧ w.grownBy w' (Value.slice A n c).ownBlock := by
  have hl := h.len
  rcases h.1.2 with ⟨hv, hn0⟩ | ⟨g, cap, cur, hv, hg, hh, hnc, hm, hs, ht⟩
  · simp at hv
    obtain ⟨rfl, rfl, rfl⟩ := hv
    have hz : zs = [] := List.eq_nil_of_length_eq_zero hl
    subst hz
    refine (Try.slices_Sort_int_none none 0 w).mono ?_
    rintro e w' ⟨he, rfl⟩
    exact ⟨he, by simpa [sorted] using h, grown_refl _ _⟩
  · simp at hv
    obtain ⟨rfl, rfl⟩ := hv
    subst hl
    have hH := holds_of_blockI (ss := zs) hh (by simpa [ints] using ht)
    refine (Try.slices_Sort_int g 0 c zs w hH (Array.getElem?_eq_some_iff.1 hh).1 (by omega)).mono ?_
    rintro e w' ⟨he, q, os, rfl⟩
    exact ⟨he, ⟨ownsRow_sortedI (sorted_len zs) hg hh hnc hm hs, h.i64.sub fun z hz => (sorted_perm zs).mem_iff.1 hz⟩, grownBy_sortedI _⟩

theorem edgesOf_any (A : Option Addr) (n c : Nat) (zs : List Int) (w : World) (h : Rd w A n c zs) (hn : n ≤ 1048576) (hb : allB 0 1 zs = true) :
    Calls Try.prog 128 #[.slice A n c] w fun e w' => ∃ A' m c', e = .returned (.slice A' m c') ∧ Own w' w.heap.size A' m c' (edgA zs) ∧ Below w.heap.size w w' ∧ m ≤ n := by
  have hlen := h.le
  go_enter Try.func128, Try.ntmps128
  go_wp2_with fail
  refine (edgesTo_any _ _ _ zs 0 _ h hn).mono ?_
  rintro e w1 ⟨A1, m1, c1, rfl, own1, b1, hm1⟩
  go_wp2_with fail
  refine (edgesTo_any _ _ _ zs 1 _ (h.below b1) hn).mono ?_
  rintro e w2 ⟨A2, m2, c2, rfl, own2, b2, hm2⟩
  have o1 := own1.below b2
  have B2 := hide (below_trans b1 b2)
  have hsz := B2.out.size
  clear own1 b1 b2
  go_wp2_with (at_builtin; refine append_rd rfl _ _ rfl w.heap.size rfl o1 own2.rd rfl (by omega) hsz ?_; intro A3 c3 w3 own3 gr3)
  have b3 := hide (below_own B2.out hsz o1 (Nat.le_refl _) gr3)
  clear o1 own2 gr3
  refine (sort_any _ _ _ _ w.heap.size _ own3 (by omega)).mono ?_
  rintro e w4 ⟨rfl, own4, gr4⟩
  have b4 := below_own b3.out b3.out.size own3 (Nat.le_refl _) gr4
  have e4 : sorted (edgV zs 0 ++ edgV zs 1) = edgA zs := edg_sorted_unique hb (sorted_perm _) (sorted_le _)
  rw [e4] at own4
  have hm4 : m1 + m2 ≤ n := by
    have h0 := own4.len
    have h1 := edgG_len (pA zs) zs.length
    unfold edgA at h0
    omega
  go_wp2
  go_ret
  exact ⟨_, _, _, rfl, own4, b4, hm4⟩
end Go.Proofs.Ytopccpnkokdmiaa
