/- Contracts of the functions that draw a padded line and a transmission's size. -/
import Derived.Test.YtdodhjahihfaiaaDrawX
import Derived.Test.YtdodhjahihfaiaaTrans
import Derived.Deep.RegionWith
namespace Go.Proofs.Ytdodhjahihfaiaa
open Go.RowKit
set_option linter.unusedVariables false
set_option linter.unusedSimpArgs false

def OutLNN (w : World) (most : Nat) (e : Ending) (w' : World) : Prop :=
  ∃ (A' : Option Addr) (m c' : Nat) (zs : List Int) (x y : Int), e = .returned (.tuple #[.slice A' m c', .int .i64 x, .int .i64 y]) ∧ m ≤ most ∧ (-9223372036854775808 ≤ x ∧ x ≤ 9223372036854775807) ∧ (-9223372036854775808 ≤ y ∧ y ≤ 9223372036854775807) ∧ Own w' w.heap.size A' m c' zs ∧ Below w.heap.size w w'
def OutNN (w : World) (e : Ending) (w' : World) : Prop :=
  ∃ (x y : Int), e = .returned (.tuple #[.int .i64 x, .int .i64 y]) ∧ (-9223372036854775808 ≤ x ∧ x ≤ 9223372036854775807) ∧ (-9223372036854775808 ≤ y ∧ y ≤ 9223372036854775807) ∧ Below w.heap.size w w'
/-- a number, where an own row lies: it stays -/
theorem next_own (g : Nat) (A : Option Addr) (n c : Nat) (bs : List Int) (X : World) (M : Int) (L m : Nat) (ls : List Int) (h : Sd X g A n c bs) (hl : Own X L (some ⟨L, 0, none⟩) m m ls) :
    Calls Try.prog 97 #[.pointer (some ⟨g, 0, none⟩), .int .i64 M] X fun e w' => ∃ x, e = .returned (.int .i64 x) ∧ 0 ≤ x ∧ (0 < M → x < M) ∧ Sd w' g A n c bs ∧ X.grownBy w' (some g) ∧ Own w' L (some ⟨L, 0, none⟩) m m ls :=
  (next_d g A n c bs X M h).mono fun _ _ ⟨x, he, h0, h1, hs, hg⟩ => ⟨x, he, h0, h1, hs, hg, hl.next h hg⟩
theorem grown_drewL {w w' : World} {r : Option Nat} (h : w.drew.grownBy w' r) : w.grownBy w' r := ⟨h.os, h.tape, h.output, h.size, h.block⟩
theorem grown_allocL {w w' : World} {o : Obj} {r : Option Nat} (h : (w.alloc o).grownBy w' r) : w.grownBy w' r := grown_trans (World.grownBy_alloc w _ _) h
theorem litE4 (a b d e : Int) (k : Nat) (h : k < [Value.int .i64 a, .int .i64 b, .int .i64 d, .int .i64 e].length) : [Value.int .i64 a, .int .i64 b, .int .i64 d, .int .i64 e][k]'h = .int .i64 (nth [a, b, d, e] k) := by
  have h8 : k < 4 := h
  have : k = 0 ∨ k = 1 ∨ k = 2 ∨ k = 3 := by omega
  rcases this with rfl | rfl | rfl | rfl <;> rfl
theorem litE5 (a b d e f : Int) (k : Nat) (h : k < [Value.int .i64 a, .int .i64 b, .int .i64 d, .int .i64 e, .int .i64 f].length) : [Value.int .i64 a, .int .i64 b, .int .i64 d, .int .i64 e, .int .i64 f][k]'h = .int .i64 (nth [a, b, d, e, f] k) := by
  have h8 : k < 5 := h
  have : k = 0 ∨ k = 1 ∨ k = 2 ∨ k = 3 ∨ k = 4 := by omega
  rcases this with rfl | rfl | rfl | rfl | rfl <;> rfl
set_option maxHeartbeats 6400000 in
set_option maxRecDepth 100000 in
theorem DrawPadLine_d (A : Option Addr) (n c : Nat) (bs : List Int) (w : World) (h : Rd8 w A n c bs) (hn : n ≤ 4096) :
    Calls Try.prog 58 #[.slice A n c] w (OutLNN w 1048576) := by
  go_enter Try.func58, Try.ntmps58
  go_wp2_with fail
  refine (from_d _ _ _ _ _ h hn).mono ?_
  rintro e w1 ⟨g, rfl, hg, h1, b1⟩
  have HB := hide b1
  clear b1
  go_wp2_with fail
  refine (l18Draw_d _ _ _ _ _ _ h1).mono ?_
  rintro e w2 ⟨A2, m2, c2, zs, rfl, hm2, own2, h2, g2⟩
  go_wp2_with fail
  refine (next_d _ _ _ _ _ _ _ h2).mono ?_
  rintro e w3 ⟨x, rfl, x0, x1, h3, g3⟩
  have O3 := hide (own2.next h2 g3)
  have G3 := hide (grown_trans g2 g3)
  have H3 := hide h3
  clear x1 own2 h2 g2 g3 h3
  by_cases hx : x = 0
  · subst hx
    have ew : IntKind.i64.wrap (8192 - (m2 : Int)) = 8192 - (m2 : Int) := IntWalk.i64_in _ (by omega)
    have hi : I64 [-1, 8192, 8193, 8192 - (m2 : Int)] := by intro z hz; simp at hz; omega
    have HI := hide hi
    have hel := litE4 (-1) 8192 8193 (8192 - (m2 : Int))
    have L3 := hide (Own.lit w3 (Nat.le_refl _) #[.int .i64 (-1), .int .i64 8192, .int .i64 8193, .int .i64 (8192 - (m2 : Int))] [-1, 8192, 8193, 8192 - (m2 : Int)] rfl hi 4 rfl (by omega))
    have H3a := hide (H3.out.below ((Below.refl w3.heap.size w3).alloc (Nat.le_refl _) (.cells #[.int .i64 (-1), .int .i64 8192, .int .i64 8193, .int .i64 (8192 - (m2 : Int))] 2)))
    have H3d := hide (show Sd w3.drew g A n c bs from H3.out)
    have H3ad := hide (show Sd (w3.alloc (.cells #[.int .i64 (-1), .int .i64 8192, .int .i64 8193, .int .i64 (8192 - (m2 : Int))] 2)).drew g A n c bs from H3a.out)
    clear hi
    go_wp2_with fail
    go_region_with (first
      | (go_at_call 97; (with_reducible refine (next_own g A n c bs (w3.alloc (.cells #[.int .i64 (-1), .int .i64 8192, .int .i64 8193, .int .i64 (8192 - (m2 : Int))] 2)).drew 4 w3.heap.size 4 [-1, 8192, 8193, 8192 - (m2 : Int)] H3ad.out L3.out.drew).mono ?_); rintro e w5 ⟨k, rfl, k0, k1, h5, g5, HL⟩; have O5 := hide ((O3.out.alloc _).drew.next H3ad.out g5); have G5 := hide (grown_trans G3.out (grown_allocL (grown_drewL g5))); obtain ⟨k, rfl⟩ := Int.eq_ofNat_of_zero_le k0; have km : k < 4 := (by have := k1 (by omega); omega); have kz : (k : Int) < 4 := (by omega); have ck := HL.cell (k := k) km; have H5 := hide h5; clear g5 k1 h5)
      | (go_at_call 97; (with_reducible refine (next_d g A n c bs w3.drew 4 H3d.out).mono ?_); rintro e w5 ⟨k, rfl, k0, k1, h5, g5⟩; have O5 := hide (O3.out.drew.next H3d.out g5); have G5 := hide (grown_trans G3.out (grown_drewL g5)); obtain ⟨k, rfl⟩ := Int.eq_ofNat_of_zero_le k0; have km : k < 4 := (by have := k1 (by omega); omega); have kz : (k : Int) < 4 := (by omega); have H5 := hide h5; clear g5 k1 h5)
      | (go_at_call 97; (with_reducible refine (next_own g A n c bs w5 2 w3.heap.size 4 [-1, 8192, 8193, 8192 - (m2 : Int)] H5.out HL).mono ?_); rintro e w7 ⟨y, rfl, y0, y1, h7, g7, HL7⟩; have O7 := hide (O5.out.next H5.out g7); have G7 := hide (grown_trans G5.out g7); have ym := y1 (by omega); have ck7 := HL7.cell (k := k) km; clear g7 y1 h7)
      | (go_at_call 97; (with_reducible refine (next_own g A n c bs (w5.alloc (.cells #[.int .i64 (-1), .int .i64 8192, .int .i64 8193, .int .i64 (8192 - (m2 : Int))] 2)) 2 w5.heap.size 4 [-1, 8192, 8193, 8192 - (m2 : Int)] (H5.out.below ((Below.refl w5.heap.size w5).alloc (Nat.le_refl _) _)) (Own.lit w5 (Nat.le_refl _) #[.int .i64 (-1), .int .i64 8192, .int .i64 8193, .int .i64 (8192 - (m2 : Int))] [-1, 8192, 8193, 8192 - (m2 : Int)] rfl HI.out 4 rfl (by omega))).mono ?_); rintro e w7 ⟨y, rfl, y0, y1, h7, g7, HL7⟩; have O7 := hide ((O5.out.alloc _).next (H5.out.below ((Below.refl w5.heap.size w5).alloc (Nat.le_refl _) _)) g7); have G7 := hide (grown_trans G5.out (grown_allocL g7)); have ym := y1 (by omega); have ck7 := HL7.cell (k := k) km; clear g7 y1 h7)
      | (go_at_call 97; (with_reducible refine (next_d g A n c bs w5 2 H5.out).mono ?_); rintro e w7 ⟨y, rfl, y0, y1, h7, g7⟩; have O7 := hide (O5.out.next H5.out g7); have G7 := hide (grown_trans G5.out g7); have ym := y1 (by omega); clear g7 y1 h7))
    all_goals
      have hv := HI.out.get k
      go_wp2_with fail
      refine bodyPost_ret (results_tmp3 rfl _ _ _) rfl ?_
      first
        | exact ⟨_, _, _, _, _, _, rfl, by omega, by simpa using hv, by omega, O7.out.mono HB.out.size, below_src HB.out G7.out hg⟩
        | exact ⟨_, _, _, _, _, _, rfl, by omega, by simpa using hv, by omega, (O7.out.alloc _).mono HB.out.size, below_src HB.out (grown_trans G7.out (grown_alloc _ _ _)) hg⟩
  · have f0 : (x == 0) = false := by simpa using hx
    go_wp2_with fail
    refine (next_d _ _ _ _ _ _ _ H3.out).mono ?_
    rintro e w5 ⟨y, rfl, y0, y1, h5, g5⟩
    have ym := y1 (by omega)
    have O5 := hide (O3.out.next H3.out g5)
    have G5 := hide (grown_trans G3.out g5)
    clear y1 g5
    go_wp2_with fail
    refine (next_d _ _ _ _ _ _ _ h5).mono ?_
    rintro e w7 ⟨z, rfl, z0, z1, h7, g7⟩
    have zm := z1 (by omega)
    clear z1
    go_wp2_with fail
    refine bodyPost_ret (results_tmp3 rfl _ _ _) rfl ?_
    exact ⟨_, _, _, _, _, _, rfl, by omega, by omega, by omega, (O5.out.next h5 g7).mono HB.out.size, below_src HB.out (grown_trans G5.out g7) hg⟩
theorem pre_own (g : Nat) (A : Option Addr) (n c : Nat) (bs : List Int) (X : World) (L m : Nat) (ls : List Int) (h : Sd X g A n c bs) (hl : Own X L (some ⟨L, 0, none⟩) m m ls) :
    Calls Try.prog 98 #[.pointer (some ⟨g, 0, none⟩)] X fun e w' => ∃ x, e = .returned (.int .i64 x) ∧ (0 ≤ x ∧ x ≤ 100) ∧ Sd w' g A n c bs ∧ X.grownBy w' (some g) ∧ Own w' L (some ⟨L, 0, none⟩) m m ls :=
  (l18DrawPreamble_d g A n c bs X h).mono fun _ _ ⟨x, he, h0, h1, hs, hg⟩ => ⟨x, he, ⟨by omega, by omega⟩, hs, hg, hl.next h hg⟩
set_option maxHeartbeats 6400000 in
set_option maxRecDepth 100000 in
theorem DrawTransmissionSize_d (A : Option Addr) (n c : Nat) (bs : List Int) (w : World) (h : Rd8 w A n c bs) (hn : n ≤ 4096) :
    Calls Try.prog 59 #[.slice A n c] w (OutNN w) := by
  go_enter Try.func59, Try.ntmps59
  go_wp2_with fail
  refine (from_d _ _ _ _ _ h hn).mono ?_
  rintro e w1 ⟨g, rfl, hg, h1, b1⟩
  have HB := hide b1
  have H1 := hide (show Sd w1.drew g A n c bs from h1)
  clear b1 h1
  go_wp2_with fail
  go_region_with (first
    | (go_at_call 97; (with_reducible refine (next_d g A n c bs w1.drew 100 H1.out).mono ?_); rintro e w3 ⟨v, rfl, v0, v1, h3, g3⟩; have vm := v1 (by omega); have G3 := hide (grown_drewL g3); have hi : I64 [v, 0, 1024, 1025, -1] := (by intro z hz; simp at hz; omega); have HI := hide hi; have hel := litE5 v 0 1024 1025 (-1); have H3 := hide h3; have L3 := hide (Own.lit w3 (Nat.le_refl _) #[.int .i64 v, .int .i64 0, .int .i64 1024, .int .i64 1025, .int .i64 (-1)] [v, 0, 1024, 1025, -1] rfl hi 5 rfl (by omega)); have H3a := hide (h3.below ((Below.refl w3.heap.size w3).alloc (Nat.le_refl _) (.cells #[.int .i64 v, .int .i64 0, .int .i64 1024, .int .i64 1025, .int .i64 (-1)] 2))); clear g3 v1 hi h3)
    | (go_at_call 97; (with_reducible refine (next_own g A n c bs (w3.alloc (.cells #[.int .i64 v, .int .i64 0, .int .i64 1024, .int .i64 1025, .int .i64 (-1)] 2)) 5 w3.heap.size 5 [v, 0, 1024, 1025, -1] H3a.out L3.out).mono ?_); rintro e w5 ⟨k, rfl, k0, k1, h5, g5, HL⟩; have G5 := hide (grown_trans G3.out (grown_allocL g5)); obtain ⟨k, rfl⟩ := Int.eq_ofNat_of_zero_le k0; have km : k < 5 := (by have := k1 (by omega); omega); have kz : (k : Int) < 5 := (by omega); have ck := HL.cell (k := k) km; have H5 := hide h5; clear g5 k1 h5)
    | (go_at_call 97; (with_reducible refine (next_d g A n c bs w3 5 H3.out).mono ?_); rintro e w5 ⟨k, rfl, k0, k1, h5, g5⟩; have G5 := hide (grown_trans G3.out g5); obtain ⟨k, rfl⟩ := Int.eq_ofNat_of_zero_le k0; have km : k < 5 := (by have := k1 (by omega); omega); have kz : (k : Int) < 5 := (by omega); have H5 := hide h5; clear g5 k1 h5)
    | (go_at_call 98; (with_reducible refine (pre_own g A n c bs w5 w3.heap.size 5 [v, 0, 1024, 1025, -1] H5.out HL).mono ?_); rintro e w7 ⟨y, rfl, y0, h7, g7, HL7⟩; have G7 := hide (grown_trans G5.out g7); have ck7 := HL7.cell (k := k) km; clear g7 h7)
    | (go_at_call 98; (with_reducible refine (pre_own g A n c bs (w5.alloc (.cells #[.int .i64 v, .int .i64 0, .int .i64 1024, .int .i64 1025, .int .i64 (-1)] 2)) w5.heap.size 5 [v, 0, 1024, 1025, -1] (H5.out.below ((Below.refl w5.heap.size w5).alloc (Nat.le_refl _) _)) (Own.lit w5 (Nat.le_refl _) #[.int .i64 v, .int .i64 0, .int .i64 1024, .int .i64 1025, .int .i64 (-1)] [v, 0, 1024, 1025, -1] rfl HI.out 5 rfl (by omega))).mono ?_); rintro e w7 ⟨y, rfl, y0, h7, g7, HL7⟩; have G7 := hide (grown_trans G5.out (grown_allocL g7)); have ck7 := HL7.cell (k := k) km; clear g7 h7)
    | (go_at_call 98; (with_reducible refine (l18DrawPreamble_d g A n c bs w5 H5.out).mono ?_); rintro e w7 ⟨y, rfl, y0, y1, h7, g7⟩; have G7 := hide (grown_trans G5.out g7); clear g7 h7))
  all_goals
    have hv := HI.out.get k
    go_wp2_with fail
    go_ret2
    first
      | exact ⟨_, _, rfl, by simpa using hv, by omega, below_src HB.out G7.out hg⟩
      | exact ⟨_, _, rfl, by simpa using hv, by omega, below_src HB.out (grown_trans G7.out (grown_alloc _ _ _)) hg⟩
end Go.Proofs.Ytdodhjahihfaiaa
