/- The contract of the function that draws a line from a source. -/
import Derived.Test.YtdodhjahihfaiaaDrawB
import Derived.Test.YtdodhjahihfaiaaCells
namespace Go.Proofs.Ytdodhjahihfaiaa
open Go.RowKit
set_option linter.unusedVariables false
set_option linter.unusedSimpArgs false

/-- the beginning of an owned row -/
theorem Own.take {w : World} {B m d : Nat} {A : Option Addr} {zs : List Int} (h : Own w B A m d zs) {k : Nat} (hk : k ≤ m) (h0 : 0 < m) : Own w B A k d (zs.take k) := by
  rcases h.1.2 with ⟨_, hn⟩ | ⟨g, cap, cur, hv, hg, hh, hnc, hm, hs, ht⟩
  · omega
  · simp at hv
    obtain ⟨rfl, rfl⟩ := hv
    have hl := h.len
    refine ⟨⟨by rw [ints_length, List.length_take]; omega, .inr ⟨g, d, cur, rfl, hg, hh, by omega, hm, hs, ?_⟩⟩, fun z hz => h.i64 z (List.mem_of_mem_take hz)⟩
    have e : ints (zs.take k) = (ints zs).take k := by simp [ints, List.map_take]
    rw [e, ← ht, List.take_take]
    congr 1
    omega
theorem padR_bits {zs : List Int} {a b : Int} : allB 0 1 (padR zs a b) = true := by
  rw [padR]
  split
  · rename_i h
    have hb : bitsB zs = true := by
      by_cases hb : bitsB zs = true
      · exact hb
      · rw [Bool.not_eq_true] at hb
        simp [padC, hb] at h
    rw [allB_append, allB_append, bits_all hb]
    simp [allB]
  · rfl
theorem padR_len {zs : List Int} {a b : Int} : (padR zs a b).length ≤ 8192 := by
  rw [padR]
  split
  · rename_i h
    by_cases hb : bitsB zs = true
    · by_cases h1 : inB 0 8192 a = true
      · by_cases h2 : inB 0 8192 b = true
        · have ha := inB_true h1
          have hb' := inB_true h2
          simp [padC, hb, h1, h2] at h
          simp
          omega
        · rw [Bool.not_eq_true] at h2
          simp [padC, hb, h2] at h
      · rw [Bool.not_eq_true] at h1
        simp [padC, hb, h1] at h
    · rw [Bool.not_eq_true] at hb
      simp [padC, hb] at h
  · simp
theorem allB_setB {lo hi x : Int} {zs : List Int} (h : allB lo hi zs = true) (k : Nat) (h1 : lo ≤ x) (h2 : x ≤ hi) : allB lo hi (zs.set k x) = true := by
  rw [allB, List.all_eq_true] at h ⊢
  intro z hz
  rcases List.mem_or_eq_of_mem_set hz with hz | rfl
  · exact h z hz
  · simp [h1, h2]
theorem neq_false {a b : Int} (h : a = b) : (a != b) = false := by simp [h]
theorem neq_true {a b : Int} (h : ¬ a = b) : (a != b) = true := by simp [h]

set_option maxHeartbeats 3200000 in
theorem l18Draw_d (g : Nat) (A : Option Addr) (n c : Nat) (bs : List Int) (w : World) (h : Sd w g A n c bs) :
    Calls Try.prog 96 #[.pointer (some ⟨g, 0, none⟩)] w (GotL w g A n c bs 10000) := by
  have hu := hide h.1.under
  have hg0 := h.lt
  go_enter Try.func96, Try.ntmps96
  go_wp2_with fail
  refine (l01DrawBytes_d _ _ _ _ _ _ _ h (by omega) (by omega)).mono ?_
  rintro e w1 ⟨A1, m1, c1, zs, rfl, hm1, own1, h1, g1⟩
  go_wp2_with fail
  refine (l18DrawPreamble_d _ _ _ _ _ _ h1).mono ?_
  rintro e w2 ⟨p, rfl, p0, p1, h2, g2⟩
  have o2 := own1.next h1 g2
  have g3 := hide (grown_trans g1 g2)
  clear own1 h1 g1 g2
  go_wp2_with fail
  refine (sCellsOf_c _ _ _ _ _ _ o2.rd (by omega) (by omega)).mono ?_
  rintro e w3 ⟨A3, m3, c3, rfl, own3, bel3, hm3⟩
  have h3 := h2.below bel3
  have g4 := hide (grown_trans g3.out (grownBy_of_below bel3 _))
  have own4 := hide (own3.mono (B' := w.heap.size) g3.out.size)
  clear o2 h2 g3 own3 bel3
  by_cases hC : cellsC zs p = 0
  · have t0 := neq_false hC
    clear hC
    go_wp2_with fail
    refine (next_d _ _ _ _ _ _ _ h3).mono ?_
    rintro e w5 ⟨z, rfl, z0, z1, h5, g5⟩
    have o5 := hide (own4.out.next h3 g5)
    have g6 := hide (grown_trans g4.out g5)
    clear z1 h3 g4 own4 g5
    by_cases e0 : z = 0
    · subst e0
      go_wp2_with fail
      refine (l01DrawBits_d _ _ _ _ _ _ _ h5 (by omega) (by omega)).mono ?_
      rintro e w6 ⟨A6, m6, c6, zs6, rfl, hm6, own6, h6, g7⟩
      go_wp2_with fail
      go_ret
      exact ⟨_, _, _, _, rfl, by omega, own6.mono g6.out.size, h6, grown_trans g6.out g7⟩
    · have f0 : (z == 0) = false := by simpa using e0
      go_wp2_with fail
      refine (next_d _ _ _ _ _ _ _ h5).mono ?_
      rintro e w6 ⟨x, rfl, x0, x1, h6, g7⟩
      have xm : x < 4 := x1 (by omega)
      clear x1
      go_wp2_with fail
      refine (next_d _ _ _ _ _ _ _ h6).mono ?_
      rintro e w7 ⟨y, rfl, y0, y1, h7, g8⟩
      have ym : y < 4 := y1 (by omega)
      have o7 := ((o5.out.next h5 g7).next h6 g8).rd
      have g9 := hide (grown_trans (grown_trans g6.out g7) g8)
      clear y1 h5 h6 g7 g8 g6 o5 f0
      go_wp2_with fail
      refine (sPadLine_c _ _ _ _ _ _ _ o7 (by omega) (by omega) (by omega)).mono ?_
      rintro e w8 ⟨A8, m8, c8, rfl, own8, bel8, hm8⟩
      have h8 := h7.below bel8
      have g10 := hide (grown_trans g9.out (grownBy_of_below bel8 _))
      have own9 := hide (own8.mono (B' := w.heap.size) g9.out.size)
      have hm8' : m8 ≤ 8192 := by
        have h0 := own8.len
        have h1 := padR_len (zs := cellsR zs p) (a := x) (b := y)
        omega
      have hbits := hide (padR_bits (zs := cellsR zs p) (a := x) (b := y))
      generalize padR (cellsR zs p) x y = ps at own9 hbits
      clear o7 h7 g9 own8 bel8
      go_wp2_with fail
      refine (next_d _ _ _ _ _ _ _ h8).mono ?_
      rintro e w9 ⟨q, rfl, q0, q1, h9, g11⟩
      have o9 := own9.out.next h8 g11
      have g12 := grown_trans g10.out g11
      clear q1 h8 g10 own9 g11
      by_cases e1 : q = 0
      · subst e1
        go_wp2_with fail
        refine (next_d _ _ _ _ _ _ _ h9).mono ?_
        rintro e w10 ⟨r, rfl, r0, r1, h10, g13⟩
        have rm : r < 3 := r1 (by omega)
        have O10 := hide (o9.next h9 g13)
        have G14 := hide (grown_trans g12 g13)
        clear r1 h9 o9 g12 g13
        go_wp2_with fail
        go_loopw [5] (fun i wr => ∃ (j : Int) (ts : List Int), i = .int .i64 j ∧ 0 ≤ j ∧ j ≤ 3 ∧ Own wr w.heap.size A8 m8 c8 ts ∧ Hid (allB 0 1 ts = true) ∧ Sd wr g A n c bs ∧ w.grownBy wr (some g)) (fun i _ => (intOf i).toNat)
        case atStart => exact ⟨1 + r, ps, rfl, by omega, by omega, O10.out, hbits, h10, G14.out⟩
        case round =>
          obtain ⟨j, ts, rfl, j0, j3, own, hbt, hsd, hg⟩ := hrel
          by_cases hj : 0 < j
          · by_cases hm : 0 < m8
            · rcases own.form with ⟨_, h0, _⟩ | ⟨gb, rfl, gb1, gb2⟩
              · omega
              go_wp2_with fail
              refine (next_d _ _ _ _ _ _ _ hsd).mono ?_
              rintro e w11 ⟨y, rfl, y0, y1, h11, g15⟩
              obtain ⟨k, rfl⟩ := Int.eq_ofNat_of_zero_le y0
              have km : k < m8 := by have := y1 (by omega); omega
              have o11 := own.next hsd g15
              have g16 := grown_trans hg g15
              have hst := o11.cell (k := k) km
              have hfz := o11.frozen k
              have hbk := allB_get hbt.out k (by rw [own.len]; exact km)
              have o12 := hide (o11.set k (x := 1 - nth ts k) (by omega) (by omega))
              have gs := o11.set_grown k (1 - nth ts k)
              have h12 := hide (h11.own hu.out o11 gs)
              have g17 := hide (grown_own g16 o11 (Nat.le_refl _) gs)
              have hb2 : Hid (allB 0 1 (ts.set k (1 - nth ts k)) = true) := allB_setB hbt.out k (by omega) (by omega)
              have z1 : (0 : Int) ≤ (k : Int) := by omega
              have z2 : (k : Int) < (m8 : Int) := by omega
              clear y1 own hsd hg g15 o11 g16 gs hbt h10
              go_wp2_with fail
              go_roundw
              case rel => exact ⟨j - 1, _, rfl, by omega, by omega, o12.out, hb2, h12.out, g17.out⟩
              case measure => simp [intOf]; omega
            · obtain rfl : m8 = 0 := by omega
              go_wp2_with fail
              go_ret
              exact ⟨_, _, _, _, rfl, by omega, own, hsd, hg⟩
          · go_wp2_with fail
            go_ret
            exact ⟨_, _, _, _, rfl, by omega, own, hsd, hg⟩
      · by_cases e2 : q = 1
        · subst e2
          by_cases hm : 0 < m8
          · go_wp2_with fail
            refine (next_d _ _ _ _ _ _ _ h9).mono ?_
            rintro e w10 ⟨r, rfl, r0, r1, h10, g13⟩
            obtain ⟨k, rfl⟩ := Int.eq_ofNat_of_zero_le r0
            have km : k < m8 := by have := r1 (by omega); omega
            have o10 := o9.next h9 g13
            have o11 := hide (o10.take (k := k) (by omega) hm)
            have cp := o10.cap
            clear r1
            rcases o10.form with ⟨_, h0, _⟩ | ⟨gb, rfl, gb1, gb2⟩
            · omega
            go_wp2_with fail
            go_ret
            exact ⟨_, _, _, _, rfl, by omega, o11.out, h10, grown_trans g12 g13⟩
          · obtain rfl : m8 = 0 := by omega
            go_wp2_with fail
            go_ret
            exact ⟨_, _, _, _, rfl, by omega, o9, h9, g12⟩
        · have f0 : (q == 0) = false := by simpa using e1
          have f1 : (q == 1) = false := by simpa using e2
          go_wp2_with fail
          go_ret
          exact ⟨_, _, _, _, rfl, by omega, o9, h9, g12⟩
  · have t0 := neq_true hC
    clear hC
    go_wp2_with fail
    refine (l01DrawBits_d _ _ _ _ _ _ _ h3 (by omega) (by omega)).mono ?_
    rintro e w6 ⟨A6, m6, c6, zs6, rfl, hm6, own6, h6, g7⟩
    go_wp2_with fail
    go_ret
    exact ⟨_, _, _, _, rfl, by omega, own6.mono g4.out.size, h6, grown_trans g4.out g7⟩
end Go.Proofs.Ytdodhjahihfaiaa
