/- The walk of FnLines: bytes are recovered from the line on which they are transmitted. -/
import Derived.Test.YtdodhjahihfaiaaDice
import Derived.Test.YtdodhjahihfaiaaLMissingCells
import Derived.Test.YtdodhjahihfaiaaConcat
import Derived.Test.YtdodhjahihfaiaaTrans
import Derived.Test.YtdodhjahihfaiaaCellsI
namespace Go.Proofs.Ytdodhjahihfaiaa
open Go.RowKit
set_option linter.unusedVariables false
set_option linter.unusedSimpArgs false

theorem Own.madeX (w : World) {n B : Nat} (hn : n ≤ 9223372036854775807) (hB : B ≤ w.heap.size) : Own (w.alloc (.cells (madeCells #[.int .i64 0] n) 2)) B (some ⟨w.heap.size, 0, none⟩) n n (List.replicate n 0) := (Own.made w hn).mono hB
set_option maxHeartbeats 1600000 in
theorem DrawCellsOf_d (A : Option Addr) (n c : Nat) (bs : List Int) (w : World) (h : Rd8 w A n c bs) (hn : n ≤ 4096) :
    Calls Try.prog 62 #[.slice A n c] w (OutLN w 1048576) := by
  go_enter Try.func62, Try.ntmps62
  go_wp2_with fail
  refine (from_d _ _ _ _ _ h hn).mono ?_
  rintro e w1 ⟨g, rfl, hg, h1, b1⟩
  go_wp2_with fail
  refine (l01DrawBytes_d _ _ _ _ _ _ _ h1 (by omega) (by omega)).mono ?_
  rintro e w2 ⟨A2, m2, c2, zs, rfl, hm2, own2, h2, g2⟩
  go_wp2_with fail
  refine (next_d _ _ _ _ _ _ _ h2).mono ?_
  rintro e w3 ⟨x, rfl, x0, x1, h3, g3⟩
  have o3 := hide (own2.next h2 g3)
  have g4 := hide (grown_trans g2 g3)
  clear x1 own2 h2 g2 g3
  by_cases hx : x = 0
  · subst hx
    go_wp2_with fail
    refine (next_d _ _ _ _ _ _ _ h3).mono ?_
    rintro e w5 ⟨y, rfl, y0, y1, h5, g5⟩
    have ym : y < 4 := y1 (by omega)
    have hmk : ∀ W : World, (Instr.makeSlice 25 (.int .i64 (816 + y)) (.int .i64 (816 + y))).run Try.prog W = .ok (.slice (some ⟨W.heap.size, 0, none⟩) (816 + y.toNat) (816 + y.toNat)) (W.alloc (.cells (madeCells #[.int .i64 0] (816 + y.toNat)) 2)) := by
      intro W
      have := mk_lit (816 + y.toNat) (by omega) W
      rwa [show ((816 + y.toNat : Nat) : Int) = 816 + y by omega] at this
    have hsz : w.heap.size ≤ w5.heap.size := Nat.le_trans b1.size (Nat.le_trans g4.out.size g5.size)
    have ho := hide (Own.madeX w5 (n := 816 + y.toNat) (by omega) hsz)
    have gg := hide (grown_trans g4.out g5)
    have h6 := hide (h5.below ((Below.refl w5.heap.size w5).alloc (Nat.le_refl _) (.cells (madeCells #[.int .i64 0] (816 + y.toNat)) 2)))
    clear y1 h3 g4 g5 h5
    go_wp2_with fail
    refine (l18DrawPreamble_d _ _ _ _ _ _ h6.out).mono ?_
    rintro e w7 ⟨p, rfl, p0, p1, h7, g7⟩
    go_wp2_with fail
    go_ret2
    exact ⟨_, _, _, _, _, rfl, by omega, by omega, ho.out.next h6.out g7, below_src b1 (grown_trans (grown_trans gg.out (grown_alloc _ _ _)) g7) hg⟩
  · have f0 : (x == 0) = false := by simpa using hx
    go_wp2_with fail
    refine (l18DrawPreamble_d _ _ _ _ _ _ h3).mono ?_
    rintro e w7 ⟨p, rfl, p0, p1, h7, g7⟩
    go_wp2_with fail
    go_ret2
    exact ⟨_, _, _, _, _, rfl, by omega, by omega, (o3.out.next h3 g7).mono b1.size, below_src b1 (grown_trans g4.out g7) hg⟩
theorem cells_zero {zs : List Int} {p : Int} (h : cellsC zs p = 0) : bytesB zs = true ∧ (3 ≤ p ∧ p ≤ 15) ∧ cellsR zs p = tx zs p.toNat := by
  cases hz : bytesB zs
  · simp [cellsC, hz] at h
  · cases hp : inB 3 15 p
    · simp [cellsC, hz, hp] at h
    · exact ⟨rfl, inB_true hp, by rw [cellsR, if_pos h]⟩
theorem pad_line {zs : List Int} {p a b : Int} (h : cellsC zs p = 0) (h8 : (cellsR zs p).length ≤ 8000) (ha : 0 ≤ a ∧ a < 20) (hb : 0 ≤ b ∧ b < 20) :
    padC (cellsR zs p) a b = 0 ∧ padR (cellsR zs p) a b = lineOf a.toNat p.toNat zs b.toNat := by
  obtain ⟨h1, h2, h3⟩ := cells_zero h
  have hbits : bitsB (cellsR zs p) = true := by
    simp [bitsB, upB]
    refine ⟨by omega, ?_⟩
    rw [h3]; exact tx_bits _ _
  obtain ⟨e1, e2⟩ := pad_yes (a := a) (b := b) hbits (inB_yes (by omega) (by omega)) (inB_yes (by omega) (by omega)) (by omega)
  exact ⟨e2.symm, by rw [e1, h3, lineOf, List.append_assoc]⟩
theorem line_all {zs : List Int} {p a b : Nat} (hp : 3 ≤ p) (hp' : p ≤ 15) (hd : allB 0 255 zs = true) (hl : (lineOf a p zs b).length ≤ 8192) :
    lnC (lineOf a p zs b) = 0 ∧ lnA (lineOf a p zs b) = a ∧ lnP (lineOf a p zs b) = p ∧ lnD (lineOf a p zs b) = zs := by
  have hz : bitsB (lineOf a p zs b) = true := by simp [bitsB, upB, hl, lineOf_bits]
  obtain ⟨e1, e2, e3, e4, _⟩ := ln_yes hz (lineOf_B (a := a) (ds := zs) (b := b) hp hp')
  exact ⟨e1, by rw [e2, lineOf_A hp], by rw [e3, lineOf_P hp], by rw [e4, lineOf_D hp hd]⟩
set_option maxHeartbeats 6400000 in
set_option maxRecDepth 100000 in
theorem walkLines (A : Option Addr) (n c : Nat) (bs : List Int) (w : World) (h : Rd8 w A n c bs) :
    Calls Try.prog 17 #[.slice A n c] w fun e w' => e = .returned (.bool true) ∧ Below w.heap.size w w' := by
  by_cases hn : 4096 < n
  · have t : decide (4096 < n) = true := by simpa using hn
    go_enter Try.func17, Try.ntmps17
    go_wp2_with (go_at_call 57; refine (big_any _ _ _ _ _ h).mono ?_; rintro e w' ⟨rfl, rfl⟩)
    go_ret
    exact ⟨rfl, Below.refl _ _⟩
  · have t : decide (4096 < n) = false := by simpa using hn
    go_enter Try.func17, Try.ntmps17
    go_wp2_with (go_at_call 57; refine (big_any _ _ _ _ _ h).mono ?_; rintro e w' ⟨rfl, rfl⟩)
    refine (DrawCellsOf_d _ _ _ _ _ h (by omega)).mono ?_
    rintro e w1 ⟨A1, m1, c1, zs, p, rfl, hm1, hp, own1, b1⟩
    have B1 := hide b1
    have t1 : (cellsC zs p != cellsC zs p) = false := by simp
    have ez := eqB_self (cellsR zs p)
    clear b1
    go_wp2_with fail
    refine (iCellsOf_c _ _ _ zs p _ own1.rd hp (by omega)).mono ?_
    rintro e w2 ⟨A2, m2, c2, rfl, own2, b2, hm2⟩
    have B2 := hide (below_trans B1.out b2)
    have P2 := hide (own1.below b2)
    clear own1 b2
    go_wp2_with fail
    refine (sCellsOf_c _ _ _ zs p _ P2.out.rd hp (by omega)).mono ?_
    rintro e w3 ⟨A3, m3, c3, rfl, own3, b3, hm3⟩
    have B3 := hide (below_trans B2.out b3)
    have P3 := hide (P2.out.below b3)
    have G3 := hide (own2.below b3)
    have e32 : m3 = m2 := by rw [← own3.len, ← own2.len]
    subst e32
    clear own2 b3
    go_wp2_with fail
    refine (likeInts_b _ _ _ _ _ _ _ _ _ G3.out.rd own3.rd).mono ?_
    rintro e w4 ⟨rfl, b4⟩
    have B4 := hide (below_trans B3.out b4)
    have P4 := hide (P3.out.below b4)
    have G4 := hide (G3.out.below b4)
    have lG := hide G4.out.len
    have lP := hide P4.out.len
    clear own3 b4
    by_cases hC : cellsC zs p = 0
    · have t2 : (cellsC zs p != 0) = false := by rw [hC]; rfl
      have HC := hide hC
      clear hC
      by_cases h8 : m3 ≤ 8000
      · have t8 : decide ((8000 : Int) < (m3 : Int)) = false := decide_eq_false (by omega)
        obtain ⟨q1, q2, q3⟩ := cells_zero HC.out
        have Q1 := hide q1
        have Q3 := hide q3
        clear q1 q3
        go_wp2_with fail
        refine (roll_any _ _ _ _ _ 1801 (h.below B4.out) (by omega) (by omega)).mono ?_
        rintro e w5 ⟨g, rfl, hg, hd, b5⟩
        have B5 := hide (below_trans B4.out b5)
        have P5 := hide (P4.out.below b5)
        have G5 := hide (G4.out.below b5)
        have z5 : w.heap.size ≤ w4.heap.size := B4.out.size
        clear b5
        go_wp2_with fail
        refine (below_d g _ _ _ _ _ 20 hd (by omega) (by omega) (by omega)).mono ?_
        rintro e w6 ⟨a, rfl, a0, a1, hd6, g6⟩
        have P6 := hide (P5.out.keepDice hd g6)
        have G6 := hide (G5.out.keepDice hd g6)
        have B6 := hide (below_src B5.out g6 (Nat.le_trans z5 hg))
        clear hd g6
        go_wp2_with fail
        refine (below_d g _ _ _ _ _ 20 hd6 (by omega) (by omega) (by omega)).mono ?_
        rintro e w7 ⟨b, rfl, b0, b1, hd7, g7⟩
        have P7 := hide (P6.out.keepDice hd6 g7)
        have G7 := hide (G6.out.keepDice hd6 g7)
        have B7 := hide (below_src B6.out g7 (Nat.le_trans z5 hg))
        clear hd6 hd7 g7
        obtain ⟨l1, l2⟩ := pad_line HC.out (a := a) (b := b) (by rw [lG.out]; exact h8) ⟨a0, a1⟩ ⟨b0, b1⟩
        have L1 := hide l1
        have L2 := hide l2
        clear l1 l2
        go_wp2_with fail
        refine (iPadLine_c _ _ _ (cellsR zs p) a b _ G7.out.rd (by omega) (by omega) (by omega)).mono ?_
        rintro e w8 ⟨A8, m8, c8, rfl, own8, b8, hm8⟩
        rw [L2.out] at own8
        rw [L1.out]
        have hll : (lineOf a.toNat p.toNat zs b.toNat).length ≤ 8192 := by
          have hx := lG.out
          rw [Q3.out, tx_len] at hx
          rw [lineOf_len]; omega
        have hby := (bytesB_get Q1.out)
        obtain ⟨k1, k2, k3, k4⟩ := line_all (a := a.toNat) (p := p.toNat) (b := b.toNat) (zs := zs) (by omega) (by omega) hby.2 hll
        have K := hide (And.intro k1 (And.intro k2 (And.intro k3 k4)))
        have lx := hide own8.len
        have m8l : m8 ≤ 8192 := by rw [← own8.len]; exact hll
        have P8 := hide (P7.out.below b8)
        have G8 := hide (G7.out.below b8)
        have B8 := hide (below_trans B7.out b8)
        have O8 := hide own8
        clear k1 k2 k3 k4 own8 b8 hll
        generalize lineOf a.toNat p.toNat zs b.toNat = L at K O8 lx
        go_wp2_with fail
        refine (iBytesOfLine_c _ _ _ L _ O8.out.rd (by omega)).mono ?_
        rintro e w9 ⟨A9, m9, c9, rfl, own9, b9, hm9⟩
        rw [K.out.2.2.2] at own9
        rw [K.out.1]
        have P9 := hide (P8.out.below b9)
        have B9 := hide (below_trans B8.out b9)
        have O9 := hide (O8.out.below b9)
        have D9 := hide own9
        clear own9 b9
        go_wp2_with fail
        refine (iShapeOfLine_c _ _ _ L _ O9.out.rd (by omega)).mono ?_
        rintro e w10 ⟨rfl, b10⟩
        rw [K.out.1, K.out.2.1, K.out.2.2.1, K.out.2.2.2, lP.out]
        have P10 := hide (P9.out.below b10)
        have B10 := hide (below_trans B9.out b10)
        have O10 := hide (O9.out.below b10)
        have D10 := hide (D9.out.below b10)
        clear b10
        go_wp2_with fail
        refine (iTransmissionSize_c (m1 : Int) p _ (by omega) hp).mono ?_
        rintro e w11 ⟨rfl, b11⟩
        have ht : tsB (m1 : Int) p = true := by
          rw [tsB, inB_yes (by omega) (by have := hby.1; have := lP.out; omega), inB_yes q2.1 q2.2]; rfl
        rw [show tsR (m1 : Int) p = (m3 : Int) by
          rw [tsR, if_pos ht]
          have hx := lG.out
          rw [Q3.out, tx_len] at hx
          have := lP.out
          omega, show tsC (m1 : Int) p = 0 by rw [tsC, if_pos ht]]
        have P11 := hide (P10.out.below b11)
        have B11 := hide (below_trans B10.out b11)
        have O11 := hide (O10.out.below b11)
        have D11 := hide (D10.out.below b11)
        have eq1 := eqB_self zs
        have ta : ((a.toNat : Int) == a) = true := by simp; omega
        have tp : ((p.toNat : Int) == p) = true := by simp; omega
        clear b11 ht
        go_wp2_with fail
        refine (likeInts_b _ _ _ _ _ _ _ _ _ D11.out.rd P11.out.rd).mono ?_
        rintro e w12 ⟨rfl, b12⟩
        have B12 := hide (below_trans B11.out b12)
        have O12 := hide (O11.out.below b12)
        have tB : (lnC L == 0) = true := by rw [K.out.1]; rfl
        clear b12
        go_wp2_with fail
        refine (iIsLine_c _ _ _ L _ O12.out.rd (by omega)).mono ?_
        rintro e w13 ⟨rfl, b13⟩
        rw [tB]
        go_wp2_with fail
        go_ret
        exact ⟨rfl, below_trans B12.out b13⟩
      · have t8 : decide ((8000 : Int) < (m3 : Int)) = true := decide_eq_true (by omega)
        go_wp2_with fail
        go_ret
        exact ⟨rfl, B4.out⟩
    · have t2 : (cellsC zs p != 0) = true := by simpa using hC
      clear hC
      go_wp2_with fail
      go_ret
      exact ⟨rfl, B4.out⟩
end Go.Proofs.Ytdodhjahihfaiaa
