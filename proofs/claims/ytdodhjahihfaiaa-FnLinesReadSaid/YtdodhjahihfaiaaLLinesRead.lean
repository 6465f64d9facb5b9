/- The walk of FnLinesRead: a line that was read is rebuilt from its bytes, its preamble and its idle cells; its data cells give its bytes. -/
import Derived.Test.YtdodhjahihfaiaaChunk
import Derived.Test.YtdodhjahihfaiaaDice
import Derived.Test.YtdodhjahihfaiaaConcat
import Derived.Test.YtdodhjahihfaiaaCellsI
import Derived.Test.YtdodhjahihfaiaaShape
import Derived.Test.YtdodhjahihfaiaaPlaces
namespace Go.Proofs.Ytdodhjahihfaiaa
open Go.RowKit
set_option linter.unusedVariables false
set_option linter.unusedSimpArgs false

theorem neqR (x : Int) : (x != x) = false := by simp
theorem neqRb (x : Bool) : (x != x) = false := by simp
theorem read_line {zs : List Int} {m8 : Nat} (h : bitsB zs = true) (h2 : lineB zs = true) :
    cellsC (lineD zs) (lineP zs) = 0 ∧ cellsR (lineD zs) (lineP zs) = tx (lineD zs) (lineP zs) ∧
    padC (tx (lineD zs) (lineP zs)) (lineA zs) ((zs.length : Int) - (lineA zs : Int) - ((tx (lineD zs) (lineP zs)).length : Int)) = 0 ∧
    padR (tx (lineD zs) (lineP zs)) (lineA zs) ((zs.length : Int) - (lineA zs : Int) - ((tx (lineD zs) (lineP zs)).length : Int)) = zs ∧
    lineA zs + (tx (lineD zs) (lineP zs)).length ≤ zs.length := by
  obtain ⟨hl, hb⟩ := bitsB_get h
  obtain ⟨_, hd, hp, hp'⟩ := line_sound hb h2
  have e := line_is hb h2
  have el := congrArg List.length e
  rw [lineOf_len] at el
  have et := tx_len (lineD zs) (lineP zs)
  have hby : bytesB (lineD zs) = true := by
    simp only [bytesB, upB, Bool.and_eq_true, decide_eq_true_eq]
    exact ⟨by omega, hd⟩
  obtain ⟨c1, c2⟩ := cells_yes (p := (lineP zs : Int)) hby (inB_yes (by omega) (by omega)) (by omega)
  have hbt : bitsB (tx (lineD zs) (lineP zs)) = true := by
    simp only [bitsB, upB, Bool.and_eq_true, decide_eq_true_eq]
    exact ⟨by omega, tx_bits _ _⟩
  obtain ⟨d1, d2⟩ := pad_yes (a := (lineA zs : Int)) (b := (zs.length : Int) - (lineA zs : Int) - ((tx (lineD zs) (lineP zs)).length : Int)) hbt (inB_yes (by omega) (by omega)) (inB_yes (by omega) (by omega)) (by omega)
  refine ⟨c2.symm, by rw [c1]; simp, d2.symm, ?_, by omega⟩
  rw [d1]
  have eb : ((zs.length : Int) - (lineA zs : Int) - ((tx (lineD zs) (lineP zs)).length : Int)).toNat = zs.length - lineE zs - 2 := by omega
  rw [eb, Int.toNat_natCast, List.append_assoc]
  exact e.symm
theorem bits_of_line {zs : List Int} (h : bitsB zs = true) : bitsB (bitsAt zs (lineW zs) (8 * lineK zs)) = true := by
  obtain ⟨hl, hb⟩ := bitsB_get h
  simp only [bitsB, upB, Bool.and_eq_true, decide_eq_true_eq]
  refine ⟨?_, lineW_bits hb _⟩
  rw [bitsAt_len]
  have := lineK_le (zs := zs)
  omega
theorem bitsToBytes_any (A : Option Addr) (c : Nat) (zs : List Int) (m : Nat) (w : World) (h : Rd w A (8 * m) c zs) (hb : bitsB zs = true) :
    Calls Try.prog 71 #[.slice A (8 * m) c] w fun e w' => ∃ A' c', e = .returned (.tuple #[.slice A' m c', .int .i64 0]) ∧ Own w' w.heap.size A' m c' (bytes8 zs m) ∧ Below w.heap.size w w' := by
  obtain ⟨hl, h01⟩ := bitsB_get hb
  have hlen := h.len
  go_enter Try.func71, Try.ntmps71
  go_wp2_with fail
  refine (iIsBits_any _ _ _ _ _ h).mono ?_
  rintro e w1 ⟨rfl, rfl⟩
  rw [hb]
  go_wp2_with fail
  refine (toBytes_any _ _ _ m _ h (by omega) h01).mono ?_
  rintro e w2 ⟨A2, c2, rfl, own2, b2⟩
  go_wp2_with fail
  go_ret2
  exact ⟨_, _, rfl, own2, b2⟩
set_option maxHeartbeats 6400000 in
set_option maxRecDepth 100000 in
theorem walkLinesRead (A : Option Addr) (n c : Nat) (bs : List Int) (w : World) (h : Rd8 w A n c bs) :
    Calls Try.prog 21 #[.slice A n c] w fun e w' => e = .returned (.bool true) ∧ Below w.heap.size w w' := by
  by_cases hn : 4096 < n
  · have t : decide (4096 < n) = true := by simpa using hn
    go_enter Try.func21, Try.ntmps21
    go_wp2_with (go_at_call 57; refine (big_any _ _ _ _ _ h).mono ?_; rintro e w' ⟨rfl, rfl⟩)
    go_ret
    exact ⟨rfl, Below.refl _ _⟩
  have t : decide (4096 < n) = false := by simpa using hn
  go_enter Try.func21, Try.ntmps21
  go_wp2_with (go_at_call 57; refine (big_any _ _ _ _ _ h).mono ?_; rintro e w' ⟨rfl, rfl⟩)
  refine (DrawBytesOfLine_d _ _ _ _ _ h (by omega)).mono ?_
  rintro e w1 ⟨A1, m1, c1, zs, rfl, hm1, own1, b1⟩
  have B := hide b1
  have P := hide own1
  have l1 := hide own1.len
  have t1 := neqR (lnC zs)
  have ta := neqR (lnA zs)
  have tp := neqR (lnP zs)
  have tn := neqR (((lnD zs).length : Nat) : Int)
  have ez := eqB_self (lnD zs)
  have tl := neqRb (lnC zs == 0)
  clear own1 b1
  go_wp2_with fail
  refine (iBytesOfLine_c _ _ _ zs _ P.out.rd hm1).mono ?_
  rintro e w2 ⟨A2, m2, c2, rfl, own2, b2, hm2⟩
  have D := hide (own2.mono (B' := w.heap.size) B.out.size)
  replace P := hide (P.out.below b2)
  replace B := hide (below_trans B.out b2)
  clear own2 b2
  go_wp2_with fail
  refine (sBytesOfLine_c _ _ _ zs _ P.out.rd hm1).mono ?_
  rintro e w3 ⟨A3, m3, c3, rfl, own3, b3, hm3⟩
  have M := hide (own3.mono (B' := w.heap.size) B.out.size)
  replace P := hide (P.out.below b3)
  replace D := hide (D.out.below b3)
  replace B := hide (below_trans B.out b3)
  clear own3 b3
  go_wp2_with fail
  refine (iShapeOfLine_c _ _ _ zs _ P.out.rd hm1).mono ?_
  rintro e w4 ⟨rfl, b4⟩
  replace P := hide (P.out.below b4)
  replace D := hide (D.out.below b4)
  replace M := hide (M.out.below b4)
  replace B := hide (below_trans B.out b4)
  clear b4
  go_wp2_with fail
  refine (sShapeOfLine_c _ _ _ zs _ P.out.rd hm1).mono ?_
  rintro e w5 ⟨rfl, b5⟩
  replace P := hide (P.out.below b5)
  replace D := hide (D.out.below b5)
  replace M := hide (M.out.below b5)
  replace B := hide (below_trans B.out b5)
  clear b5
  go_wp2_with fail
  refine (likeInts_b _ _ _ _ _ _ _ _ _ D.out.rd M.out.rd).mono ?_
  rintro e w6 ⟨rfl, b6⟩
  replace P := hide (P.out.below b6)
  replace D := hide (D.out.below b6)
  replace B := hide (below_trans B.out b6)
  clear b6 M
  go_wp2_with fail
  refine (iIsLine_c _ _ _ zs _ P.out.rd hm1).mono ?_
  rintro e w7 ⟨rfl, b7⟩
  replace P := hide (P.out.below b7)
  replace D := hide (D.out.below b7)
  replace B := hide (below_trans B.out b7)
  clear b7
  by_cases hC : lnC zs = 0
  · have t2 : (lnC zs != 0) = false := by rw [hC]; rfl
    have hbl : bitsB zs = true ∧ lineB zs = true := by
      cases hb : bitsB zs
      · rw [(ln_bad hb).1] at hC; cases hC
      · cases hl : lineB zs
        · rw [(ln_no hb hl).1] at hC; cases hC
        · exact ⟨rfl, rfl⟩
    have E := hide (ln_yes hbl.1 hbl.2)
    have R := hide (read_line (m8 := 0) hbl.1 hbl.2)
    have BL := hide (bits_of_line hbl.1)
    have LI := hide (fun j hj => lineW_in hbl.2 (j := j) hj)
    have LB := hide (lineW_bytes zs)
    have bl := line_bounds (zs := zs)
    have hk8 := hide (lineK_le (zs := zs))
    have hz8 : m1 ≤ 8192 := by have := (bitsB_get hbl.1).1; have := l1.out; omega
    have p15 : lineP zs ≤ 15 := (line_sound (bitsB_get hbl.1).2 hbl.2).2.2.2
    rw [E.out.2.2.2.1] at D
    have lD : m2 = lineK zs := by rw [lineK_len]; exact D.out.len.symm
    have LD := hide lD
    have DD := hide D.out
    clear hbl hC lD D
    rw [E.out.2.1, E.out.2.2.1]
    clear ta tp tn tl ez
    go_wp2_with fail
    refine (iCellsOf_c _ _ _ (lineD zs) (lineP zs : Int) _ DD.out.rd (by omega) hm2).mono ?_
    rintro e w8 ⟨A8, m8, c8, rfl, own8, b8, hm8⟩
    rw [R.out.1]
    rw [R.out.2.1] at own8
    have O := hide (own8.mono (B' := w.heap.size) B.out.size)
    have lO := own8.len
    have rz := R.out.2.2
    rw [lO, l1.out] at rz
    have RZ := hide rz
    have hle : lineA zs + m8 ≤ m1 := rz.2.2
    replace P := hide (P.out.below b8)
    replace DD := hide (DD.out.below b8)
    replace B := hide (below_trans B.out b8)
    clear own8 b8 rz
    have hl1 := P.out.cap
    go_wp2_with fail
    refine (iPadLine_c _ _ _ (tx (lineD zs) (lineP zs)) (lineA zs : Int) ((m1 : Int) - (lineA zs : Int) - (m8 : Int)) _ O.out.rd (by omega) (by omega) hm8).mono ?_
    rintro e w9 ⟨A9, m9, c9, rfl, own9, b9, hm9⟩
    rw [RZ.out.1]
    rw [RZ.out.2.1] at own9
    have L := hide (own9.mono (B' := w.heap.size) B.out.size)
    replace P := hide (P.out.below b9)
    replace DD := hide (DD.out.below b9)
    replace B := hide (below_trans B.out b9)
    clear own9 b9 O
    go_wp2_with fail
    refine (iDataCells_c _ _ _ zs _ P.out.rd hm1).mono ?_
    rintro e w10 ⟨A10, m10, c10, rfl, own10, b10, hm10⟩
    rw [E.out.1]
    rw [E.out.2.2.2.2] at own10
    have W := hide (own10.mono (B' := w.heap.size) B.out.size)
    have lW : m10 = 8 * m2 := by rw [← own10.len, lineW_len, LD.out]
    replace P := hide (P.out.below b10)
    replace L := hide (L.out.below b10)
    replace DD := hide (DD.out.below b10)
    replace B := hide (below_trans B.out b10)
    clear own10 b10
    have hm2' : m2 ≤ 1024 := by have := hk8.out; have := LD.out; have := l1.out; omega
    subst lW
    have ez := eqB_self zs
    go_wp2_with fail
    refine (likeInts_b _ _ _ _ _ _ _ _ _ L.out.rd P.out.rd).mono ?_
    rintro e w11 ⟨rfl, b11⟩
    replace P := hide (P.out.below b11)
    replace W := hide (W.out.below b11)
    replace DD := hide (DD.out.below b11)
    replace B := hide (below_trans B.out b11)
    clear b11 L
    have t8 : (((8 * m2 : Nat) : Int) != 8 * (m2 : Int)) = false := by simp
    have hzB := B.out.size
    go_wp2_with fail
    go_loopw [22, 23] (fun s i wr => ∃ (k : Nat) (A' : Option Addr) (c' : Nat), k ≤ 8 * m2 ∧ i = .int .i64 k ∧ s = .slice A' k c' ∧ Own wr w11.heap.size A' k c' (bitsAt zs (lineW zs) k) ∧ Below w11.heap.size w11 wr) (fun _ i _ => 8 * m2 - (intOf i).toNat)
    case atStart => exact ⟨0, _, _, by omega, rfl, rfl, Own.empty w11 (Nat.le_refl _), (Below.refl _ _).alloc (Nat.le_refl _) _⟩
    case round =>
      obtain ⟨k, A', c', hk, rfl, rfl, hown, hbel⟩ := hrel
      have hsz := hbel.size
      by_cases hlt : k < 8 * m2
      · have hin := LI.out k (by rw [← LD.out]; exact hlt)
        have hst := hide (bitsAt_succ zs (lineW zs) k)
        obtain ⟨j, hj⟩ : ∃ j : Nat, nth (lineW zs) k = (j : Int) := ⟨(nth (lineW zs) k).toNat, by omega⟩
        have hjl : j < m1 := by have := l1.out; omega
        obtain ⟨bw, ow, ewA, hbw, hcw⟩ := (W.out.below hbel).rd.at_ (by omega)
        obtain ⟨bp, op, epA, hbp, hcp⟩ := (P.out.below hbel).rd.at_ (by omega)
        have hck := hcw k hlt
        have hcj := hcp j hjl
        rw [hj] at hck
        have hI := P.out.i64.get j
        have hst2 : Hid (bitsAt zs (lineW zs) (k + 1) = bitsAt zs (lineW zs) k ++ [nth zs j]) := by
          show _ = _
          rw [hst.out, hj, Int.toNat_natCast]
        clear hst hcw hcp hin hj
        subst ewA epA
        generalize nth zs j = y at hcj hI hst2
        have z1 : (0 : Int) ≤ (k : Int) := by omega
        have z2 : (k : Int) < ((8 * m2 : Nat) : Int) := by omega
        have z3 : (0 : Int) ≤ (j : Int) := by omega
        have z4 : (j : Int) < (m1 : Int) := by omega
        have z5 := decide_eq_false (show ¬ (j : Int) < 0 by omega)
        have z6 := decide_eq_false (show ¬ (m1 : Int) ≤ (j : Int) by omega)
        go_wp2_with (at_builtin; refine append_new rfl _ _ rfl w11.heap.size rfl hown _ [y] 1 rfl (I64.one hI.1 hI.2) rfl rfl (by omega) hsz ?_; intro A3 c3 w3 own3 gr3)
        have hb3 := below_own hbel hsz hown (Nat.le_refl _) gr3
        rw [← hst2.out] at own3
        go_roundw
        case rel => exact ⟨k + 1, A3, c3, by omega, by go_num, rfl, own3, hb3⟩
        case measure => simp [intOf]; omega
      · obtain rfl : k = 8 * m2 := by omega
        go_wp2_with fail
        refine (bitsToBytes_any _ _ (bitsAt zs (lineW zs) (8 * m2)) m2 _ hown.rd (by rw [LD.out]; exact BL.out)).mono ?_
        rintro e w12 ⟨A12, c12, rfl, own12, b12⟩
        rw [show bytes8 (bitsAt zs (lineW zs) (8 * m2)) m2 = lineD zs by rw [LD.out]; exact LB.out] at own12
        have bb := below_trans hbel b12
        replace DD := hide (DD.out.below bb)
        replace B := hide (below_trans B.out bb)
        have N := hide own12
        have ez2 := eqB_self (lineD zs)
        clear own12 b12
        go_wp2_with fail
        refine (likeInts_b _ _ _ _ _ _ _ _ _ N.out.rd DD.out.rd).mono ?_
        rintro e w13 ⟨rfl, b13⟩
        rw [ez2]
        go_wp2_with fail
        go_ret
        exact ⟨rfl, below_trans B.out b13⟩
  · have t2 : (lnC zs != 0) = true := by simpa using hC
    clear hC
    go_wp2_with fail
    go_ret
    exact ⟨rfl, B.out⟩
end Go.Proofs.Ytdodhjahihfaiaa
