/- Contracts: demands drawn out of a source. -/
import Derived.Test.YtcbejjkbjompfaaDrawD
import Derived.Deep.RegionLaw
import Derived.Deep.AppendLies
namespace Go.Proofs.Ytcbejjkbjompfaa
open Go.RowKit
set_option linter.unusedVariables false
set_option linter.unusedSimpArgs false

def lit6 : List Int := [1, 2, 4, 8, 2, 4]
theorem lit6_bounds (k : Nat) : 0 ≤ nth lit6 k ∧ nth lit6 k ≤ 8 := by
  by_cases h : k < lit6.length
  · exact allB_get (by decide : allB 0 8 lit6 = true) k h
  · rw [nth_out (by omega)]; omega
theorem lit6_el (k : Nat) (h : k < [Value.int .i64 1, .int .i64 2, .int .i64 4, .int .i64 8, .int .i64 2, .int .i64 4].length) : [Value.int .i64 1, .int .i64 2, .int .i64 4, .int .i64 8, .int .i64 2, .int .i64 4][k]'h = .int .i64 (nth lit6 k) := by
  have h8 : k < 6 := h
  have : k = 0 ∨ k = 1 ∨ k = 2 ∨ k = 3 ∨ k = 4 ∨ k = 5 := by omega
  rcases this with rfl | rfl | rfl | rfl | rfl | rfl <;> rfl
theorem lit6_own (W : World) : Own (W.alloc (.cells #[.int .i64 1, .int .i64 2, .int .i64 4, .int .i64 8, .int .i64 2, .int .i64 4] 2)) W.heap.size (some ⟨W.heap.size, 0, none⟩) 6 6 lit6 :=
  Own.lit W (Nat.le_refl _) _ lit6 rfl (by intro z hz; simp [lit6] at hz; omega) 6 rfl (by omega)
section
variable {w w' : World} {g : Nat} {A : Option Addr} {n c : Nat} {bs : List Int} {T : TypeId} {k B m d : Nat} {A' : Option Addr} {vs : List Int}
theorem OwnF.notSrc (h : OwnF T k w B A' m d vs) (hs : Src w g A n c) (hT : 54 ≠ T) : (Value.slice A' m d).ownBlock ≠ some g := by
  obtain ⟨a, s, _, _, _, hs⟩ := hs
  rcases h.1.2 with ⟨hv, _⟩ | ⟨g', cap, cur, hv, _, hh, hnc, hm, hcs, htk⟩
  · rw [hv]; simp [Value.ownBlock]
  · rw [hv]
    intro e
    simp [Value.ownBlock] at e
    subst e
    unfold SrcAt at hs
    rw [hs] at hh
    simp at hh
    exact hT hh.2
theorem OwnF.next (h : OwnF T k w B A' m d vs) (hT : 54 ≠ T) (hs : Sd w g A n c bs) (hg : w.grownBy w' (some g)) : OwnF T k w' B A' m d vs :=
  h.keepG hg (.inr (h.notSrc hs.2 hT))
theorem Sd.ownF (h : Sd w g A n c bs) (hu : Under B A n) (ho : OwnF T k w B A' m d vs) (hT : 54 ≠ T) (hg : w.grownBy w' (Value.slice A' m d).ownBlock) : Sd w' g A n c bs := by
  refine ⟨?_, ?_⟩
  · obtain ⟨h1, h2, h3, h4, h5⟩ := h.1
    refine ⟨h1, h2, h3, h4, fun hn => ?_⟩
    obtain ⟨b, off, hA, hl, hc⟩ := h.1.at_ hn
    refine ⟨b, off, hA, fun j hj => (World.cell?_of_block (hg.block b hl (fun e => ?_))).trans (hc j hj)⟩
    have := (ho.1.lt b e.symm).1
    have := hu b off _ hA hn
    omega
  · have hne := ho.notSrc h.2 hT
    have hl := h.lt
    obtain ⟨a, s, h1, h2, h3, h4⟩ := h.2
    exact ⟨a, s, h1, h2, h3, (hg.block g hl (fun e => hne e.symm)).trans h4⟩
end
/-- what is carried while demands are drawn -/
def DB (w : World) (g : Nat) (A : Option Addr) (n c : Nat) (bs : List Int) (A' : Option Addr) (k d : Nat) (vs : List Int) (W : World) : Prop :=
  Sd W g A n c bs ∧ OwnF 38 3 W w.heap.size A' k d vs ∧ w.grownBy W (some g)
section
variable {w W W' : World} {g : Nat} {A : Option Addr} {n c : Nat} {bs : List Int} {A' : Option Addr} {k d : Nat} {vs : List Int}
theorem DB.alloc (h : DB w g A n c bs A' k d vs W) (o : Obj) : DB w g A n c bs A' k d vs (W.alloc o) :=
  ⟨h.1.below ((Below.refl _ _).alloc (Nat.le_refl _) o), h.2.1.alloc o, grown_trans h.2.2 (grown_alloc W o _)⟩
theorem DB.drew (h : DB w g A n c bs A' k d vs W) : DB w g A n c bs A' k d vs W.drew := ⟨h.1, h.2.1, grown_drew h.2.2⟩
theorem DB.size (h : DB w g A n c bs A' k d vs W) : w.heap.size ≤ W.heap.size := h.2.2.size
theorem DB.step (h : DB w g A n c bs A' k d vs W) (hs : Sd W' g A n c bs) (hg : W.grownBy W' (some g)) : DB w g A n c bs A' k d vs W' :=
  ⟨hs, h.2.1.next (by decide) h.1 hg, grown_trans h.2.2 hg⟩
theorem grown_ownF {w0 : World} {T : TypeId} {B : Nat} (h0 : w0.grownBy W (some g)) (h : OwnF T 3 W B A' k d vs) (hB : w0.heap.size ≤ B) (hg : W.grownBy W' (Value.slice A' k d).ownBlock) : w0.grownBy W' (some g) := by
  refine ⟨hg.os.trans h0.os, hg.tape.trans h0.tape, hg.output.trans h0.output, Nat.le_trans h0.size hg.size, fun i hi hne => ?_⟩
  rw [hg.block i (Nat.lt_of_lt_of_le hi h0.size) (fun e => by have := (h.1.lt i e.symm).1; omega)]
  exact h0.block i hi hne
theorem DB.own (h : DB w g A n c bs A' k d vs W) (hu : Under w.heap.size A n) {A2 : Option Addr} {k2 d2 : Nat} {vs2 : List Int} (ho : OwnF 38 3 W' w.heap.size A2 k2 d2 vs2) (hg : W.grownBy W' (Value.slice A' k d).ownBlock) : DB w g A n c bs A2 k2 d2 vs2 W' :=
  ⟨h.1.ownF hu h.2.1 (by decide) hg, ho, grown_ownF h.2.2 h.2.1 (Nat.le_refl _) hg⟩
theorem nx (m : Int) (h : DB w g A n c bs A' k d vs W) : Calls Try.prog 26 #[.pointer (some ⟨g, 0, none⟩), .int .i64 m] W fun e W' => ∃ x, e = .returned (.int .i64 x) ∧ 0 ≤ x ∧ (0 < m → x < m) ∧ DB w g A n c bs A' k d vs W' ∧ (∀ L, Own W L (some ⟨L, 0, none⟩) 6 6 lit6 → Own W' L (some ⟨L, 0, none⟩) 6 6 lit6) :=
  (next_d g A n c bs W m h.1).mono fun _ _ ⟨x, he, h0, h1, hs, hg⟩ => ⟨x, he, h0, h1, h.step hs hg, fun _ hl => hl.next h.1 hg⟩
end
theorem step_append_dem {ops : Array Oper} {o : Oper} {a : Act} {w : World} {K : Act → World → Prop} {Q : Exit → Act → World → Prop} {E : Prop} {A : Option Addr} {n c : Nat} {vs : List Int} (hgd : o.guard = none) (s x : Operand)
    (ho : o.op = .call { callee := .builtin .append, args := #[s, x], argTypes := #[24, 24] })
    (B : Nat) (hs : a.eval s = .slice A n c) (hown : OwnF 38 3 w B A n c vs) (ad : Addr) (c' : Nat) (p q r : Int) (hx : a.eval x = .slice (some ad) 1 c') (hnews : ∀ (j : Nat) (u : Value), (ints [p, q, r])[j]? = some u → w.cell? (ad.add j) = some u) (hn : n + 1 ≤ 16777216) (hB : B ≤ w.heap.size) (hy : I64 [p, q, r])
    (h : ∀ A' c' w', OwnF 38 3 w' B A' (n + 1) c' (vs ++ [p, q, r]) → w.grownBy w' (Value.slice A n c).ownBlock → K (a.put o.dst (.slice A' (n + 1) c')) w') :
    if Region.wanted o (yielded ops a.tmps) = true then Oper.wp Try.prog o a w K Q else E := by
  obtain ⟨i0, hi, hz0, hz1, hz2⟩ := info_parts info_dem
  refine step_append_lies w hgd s x 24 ho B 38 i0 _ 3 24 Try.underlying24 hi hz0 hz1 hz2 rfl (by decide) (.slice A n c) n (ints vs) hs hown.1 ad 1 c' (ints [p, q, r]) hx (by rw [ints_length]; rfl) hnews (ints_oneCell _) (by omega) (by simp only [maxLen]; omega) (by omega) hB w.heap.size rfl ?_
  intro g cap w' hrow hg _ _
  rw [← ints_append] at hrow
  exact h (some ⟨g, 0, none⟩) cap w' ⟨hrow, hown.i64.append hy⟩ hg
theorem OwnF.set {T : TypeId} {k : Nat} {w : World} {B b n c : Nat} {vs : List Int} (h : OwnF T k w B (some ⟨b, 0, none⟩) n c vs) (j : Nat) {x : Int} (h1 : -9223372036854775808 ≤ x) (h2 : x ≤ 9223372036854775807) :
    OwnF T k (w.setCell ⟨b, j, none⟩ (.int .i64 x)) B (some ⟨b, 0, none⟩) n c (vs.set j x) ∧ w.grownBy (w.setCell ⟨b, j, none⟩ (.int .i64 x)) (Value.slice (some ⟨b, 0, none⟩) n c).ownBlock := by
  have := h.1.stored j (.int .i64 x)
  rw [ints_set] at this
  exact ⟨⟨this.1, h.2.set j h1 h2⟩, this.2⟩
theorem i64_3 {p q r : Int} (h1 : -9223372036854775808 ≤ p ∧ p ≤ 9223372036854775807) (h2 : -9223372036854775808 ≤ q ∧ q ≤ 9223372036854775807) (h3 : -9223372036854775808 ≤ r ∧ r ≤ 9223372036854775807) : I64 [p, q, r] := by
  intro z hz
  simp at hz
  rcases hz with rfl | rfl | rfl <;> assumption
def sliceLen : Value → Nat
  | .slice _ n _ => n
  | _ => 0
def GotD (w : World) (g : Nat) (A : Option Addr) (n c : Nat) (bs : List Int) (e : Ending) (w' : World) : Prop :=
  ∃ (ds : List Dem) (A' : Option Addr) (k d : Nat), e = .returned (.slice A' k d) ∧ ds.length = k ∧ k ≤ 100 ∧ DB w g A n c bs A' k d (flatD ds) w'
set_option maxHeartbeats 12800000 in
set_option maxRecDepth 100000 in
theorem l16Draw_d (g : Nat) (A : Option Addr) (n c : Nat) (bs : List Int) (w : World) (h : Sd w g A n c bs) :
    Calls Try.prog 13 #[.pointer (some ⟨g, 0, none⟩)] w (GotD w g A n c bs) := by
  have hu := hide h.1.under
  have hg0 := h.lt
  have D0 : DB w g A n c bs (some ⟨w.heap.size, 0, none⟩) 0 0 (flatD []) (w.alloc (.cells #[] 38)) :=
    ⟨h.below ((Below.refl _ _).alloc (Nat.le_refl _) _), OwnF.empty w (Nat.le_refl _), grown_alloc w _ _⟩
  go_enter Try.func13, Try.ntmps13
  go_wp2_with fail
  refine (nx 12 D0).mono ?_
  rintro e w1 ⟨x, rfl, x0, x1, D1, _⟩
  have xm : x < 12 := x1 (by omega)
  clear D0 x1
  go_wp2_with fail
  go_loopw [3, 4] (fun s i wr => ∃ (j : Int) (ds : List Dem) (A2 : Option Addr) (d2 : Nat), 0 ≤ j ∧ j < 12 ∧ i = .int .i64 j ∧ s = .slice A2 ds.length d2 ∧ ds.length + j ≤ 11 ∧ DB w g A n c bs A2 ds.length d2 (flatD ds) wr) (fun _ i _ => (intOf i).toNat)
  case atStart => exact ⟨x, [], _, _, by omega, by omega, rfl, rfl, by simp; omega, D1⟩
  case round =>
    obtain ⟨j, ds, A2, d2, hj0, hj, rfl, rfl, hlen, hD⟩ := hrel
    have hsz := hD.size
    by_cases hlt : 0 < j
    · have E0 := hD.drew
      have E0l := (hD.alloc (.cells #[.int .i64 1, .int .i64 2, .int .i64 4, .int .i64 8, .int .i64 2, .int .i64 4] 2)).drew
      have L0 := hide ((lit6_own wr).drew)
      have HD := hide hD
      clear hD
      go_wp2_with fail
      go_region_law (first | (refine step_append_dem rfl _ _ rfl w.heap.size (by rfl) (DC.2.1.alloc (.cells #[.int .i64 y1, .int .i64 (nth lit6 j2), .int .i64 (IntKind.i64.wrap (1 + y3))] 38)) _ 1 y1 (nth lit6 j2) (IntKind.i64.wrap (1 + y3)) (by rfl) (World.news_of_block (cs := #[.int .i64 y1, .int .i64 (nth lit6 j2), .int .i64 (IntKind.i64.wrap (1 + y3))]) (heap_alloc_new _ _)) (by omega) (by have := DC.size; simp; omega) (i64_3 (by omega) (by omega) (by rw [IntWalk.i64_in _ (by omega)]; omega)) ?_; intro A4 d4 w5 O4 g4; rw [IntWalk.i64_in (1 + y3) (by omega)] at O4; have D5 := DB.own (DC.alloc _) hu.out O4 g4) | (refine step_append_dem rfl _ _ rfl w.heap.size (by rfl) ((DC.alloc (.cells #[.int .i64 1, .int .i64 2, .int .i64 4, .int .i64 8, .int .i64 2, .int .i64 4] 2)).2.1.alloc (.cells #[.int .i64 y1, .int .i64 (nth lit6 j2), .int .i64 (IntKind.i64.wrap (1 + y3))] 38)) _ 1 y1 (nth lit6 j2) (IntKind.i64.wrap (1 + y3)) (by rfl) (World.news_of_block (cs := #[.int .i64 y1, .int .i64 (nth lit6 j2), .int .i64 (IntKind.i64.wrap (1 + y3))]) (by have e := heap_alloc_new (w4.alloc (.cells #[.int .i64 1, .int .i64 2, .int .i64 4, .int .i64 8, .int .i64 2, .int .i64 4] 2)) (.cells #[.int .i64 y1, .int .i64 (nth lit6 j2), .int .i64 (IntKind.i64.wrap (1 + y3))] 38); rw [World.size_alloc] at e; exact e)) (by omega) (by have := DC.size; simp; omega) (i64_3 (by omega) (by omega) (by rw [IntWalk.i64_in _ (by omega)]; omega)) ?_; intro A4 d4 w5 O4 g4; rw [IntWalk.i64_in (1 + y3) (by omega)] at O4; have D5 := DB.own ((DC.alloc (.cells #[.int .i64 1, .int .i64 2, .int .i64 4, .int .i64 8, .int .i64 2, .int .i64 4] 2)).alloc _) hu.out O4 g4) | (go_simp; (first | (go_at_call 26; (with_reducible refine (nx 5 E0).mono ?_); rintro e w2 ⟨y1, rfl, a1, b1, DA, kA⟩; have c1 := b1 (by omega); clear b1) | (go_at_call 26; (with_reducible refine (nx 5 E0l).mono ?_); rintro e w2 ⟨y1, rfl, a1, b1, DA, kA⟩; have c1 := b1 (by omega); have LT := hide (kA _ L0.out); clear b1) | (go_at_call 26; have LTx := LT; (with_reducible refine (nx 6 DA).mono ?_); rintro e w3 ⟨y2, rfl, a2, b2, DE, kB⟩; have c2 := b2 (by omega); obtain ⟨j2, rfl⟩ := Int.eq_ofNat_of_zero_le a2; have j6 : j2 < 6 := (by omega); have LB := lit6_bounds j2; have hel := lit6_el j2; clear b2; have LT2 := hide (kB _ LT.out); have lc2 := LT2.out.cell j6; clear LTx) | (go_at_call 26; (with_reducible refine (nx 6 (DA.alloc (.cells #[.int .i64 1, .int .i64 2, .int .i64 4, .int .i64 8, .int .i64 2, .int .i64 4] 2))).mono ?_); rintro e w3 ⟨y2, rfl, a2, b2, DE, kB⟩; have c2 := b2 (by omega); obtain ⟨j2, rfl⟩ := Int.eq_ofNat_of_zero_le a2; have j6 : j2 < 6 := (by omega); have LB := lit6_bounds j2; have hel := lit6_el j2; clear b2; have LT2 := hide (kB _ (lit6_own w2)); have lc2 := LT2.out.cell j6) | (go_at_call 26; (with_reducible refine (nx 6 DA).mono ?_); rintro e w3 ⟨y2, rfl, a2, b2, DE, kB⟩; have c2 := b2 (by omega); obtain ⟨j2, rfl⟩ := Int.eq_ofNat_of_zero_le a2; have j6 : j2 < 6 := (by omega); have LB := lit6_bounds j2; have hel := lit6_el j2; clear b2) | (go_at_call 26; have LTx := LT2; (with_reducible refine (nx 9 DE).mono ?_); rintro e w4 ⟨y3, rfl, a3, b3, DC, kC⟩; have c3 := b3 (by omega); have LT3 := hide (kC _ LT2.out); have lc3 := LT3.out.cell j6; clear b3 LTx) | (go_at_call 26; (with_reducible refine (nx 9 (DE.alloc (.cells #[.int .i64 1, .int .i64 2, .int .i64 4, .int .i64 8, .int .i64 2, .int .i64 4] 2))).mono ?_); rintro e w4 ⟨y3, rfl, a3, b3, DC, kC⟩; have c3 := b3 (by omega); have LT3 := hide (kC _ (lit6_own w3)); have lc3 := LT3.out.cell j6; clear b3) | (go_at_call 26; (with_reducible refine (nx 9 DE).mono ?_); rintro e w4 ⟨y3, rfl, a3, b3, DC, kC⟩; have c3 := b3 (by omega); clear b3)); go_wp2_with fail))
      all_goals
        have D6 : DB w g A n c bs A4 (ds ++ [(⟨y1, nth lit6 j2, 1 + y3⟩ : Dem)]).length d4 (flatD (ds ++ [(⟨y1, nth lit6 j2, 1 + y3⟩ : Dem)])) w5 := by
          rw [flatD_append, List.length_append]; exact D5
        go_wp2_with fail
        go_roundw
        case rel => exact ⟨j - 1, ds ++ [(⟨y1, nth lit6 j2, 1 + y3⟩ : Dem)], A4, d4, by omega, by omega, by go_num, by simp, by simp; omega, D6⟩
        case measure => simp [intOf]; omega
    · cases ds with
      | nil =>
        go_wp2_with fail
        go_ret
        exact ⟨[], A2, 0, d2, rfl, rfl, by omega, hD⟩
      | cons d ds =>
        have hl1 : (0 : Int) < ((d :: ds).length : Int) := by simp <;> omega
        have hl2 : 0 < (d :: ds).length := by simp
        go_wp2_with fail
        refine (nx 30 hD).mono ?_
        rintro e w2 ⟨y, rfl, y0, y1, DA', _⟩
        have DA := hide DA'
        clear DA' hD y1
        by_cases e0 : y = 0
        · subst e0
          have ba := (Below.refl w2.heap.size w2).alloc (Nat.le_refl _) (.cells #[.int .i64 0, .int .i64 3, .int .i64 16] 2)
          have H2 := hide (DA.out.1.below ba)
          have DL := hide (DA.out.alloc (.cells #[.int .i64 0, .int .i64 3, .int .i64 16] 2))
          clear ba
          go_wp2_with fail
          refine (next_d _ _ _ _ _ _ _ H2.out).mono ?_
          rintro e w3 ⟨z, rfl, z0, z1, h3, g3⟩
          have zm : z < 3 := z1 (by omega)
          have lc := lit_cell g3 (show g < w2.heap.size by have := DA.out.2.2.size; omega)
          have D3 := DL.out.step h3 g3
          clear z1 g3 h3
          obtain ⟨g2, rfl⟩ : ∃ g2, A2 = some ⟨g2, 0, none⟩ := by
            rcases D3.2.1.form with ⟨_, h0, _⟩ | ⟨g2, hA, _⟩
            · simp at h0
            · exact ⟨g2, hA⟩
          have oc := D3.2.1.cell (j := 1) (by simp; omega)
          have of := D3.2.1.frozen 1
          have HD3 := hide D3
          clear D3
          have hz : z = 0 ∨ z = 1 ∨ z = 2 := by omega
          rcases hz with rfl | rfl | rfl
          · have q0 := lc 0
            have q1 := lc 1
            have q2 := lc 2
            clear lc
            simp only [List.getElem?_toArray, List.getElem?_cons_zero, List.getElem?_cons_succ] at q0 q1 q2
            go_wp2_with fail
            go_ret
            exact ⟨⟨d.nd, 0, d.sz⟩ :: ds, _, _, _, rfl, rfl, by simp at hlen ⊢; omega, DB.own HD3.out hu.out (HD3.out.2.1.set 1 (x := 0) (by omega) (by omega)).1 (HD3.out.2.1.set 1 (x := 0) (by omega) (by omega)).2⟩
          · have q0 := lc 0
            have q1 := lc 1
            have q2 := lc 2
            clear lc
            simp only [List.getElem?_toArray, List.getElem?_cons_zero, List.getElem?_cons_succ] at q0 q1 q2
            go_wp2_with fail
            go_ret
            exact ⟨⟨d.nd, 3, d.sz⟩ :: ds, _, _, _, rfl, rfl, by simp at hlen ⊢; omega, DB.own HD3.out hu.out (HD3.out.2.1.set 1 (x := 3) (by omega) (by omega)).1 (HD3.out.2.1.set 1 (x := 3) (by omega) (by omega)).2⟩
          · have q0 := lc 0
            have q1 := lc 1
            have q2 := lc 2
            clear lc
            simp only [List.getElem?_toArray, List.getElem?_cons_zero, List.getElem?_cons_succ] at q0 q1 q2
            go_wp2_with fail
            go_ret
            exact ⟨⟨d.nd, 16, d.sz⟩ :: ds, _, _, _, rfl, rfl, by simp at hlen ⊢; omega, DB.own HD3.out hu.out (HD3.out.2.1.set 1 (x := 16) (by omega) (by omega)).1 (HD3.out.2.1.set 1 (x := 16) (by omega) (by omega)).2⟩
        by_cases e1 : y = 1
        · subst e1
          have ba := (Below.refl w2.heap.size w2).alloc (Nat.le_refl _) (.cells #[.int .i64 0, .int .i64 32, .int .i64 33] 2)
          have H2 := hide (DA.out.1.below ba)
          have DL := hide (DA.out.alloc (.cells #[.int .i64 0, .int .i64 32, .int .i64 33] 2))
          clear ba
          go_wp2_with fail
          refine (next_d _ _ _ _ _ _ _ H2.out).mono ?_
          rintro e w3 ⟨z, rfl, z0, z1, h3, g3⟩
          have zm : z < 3 := z1 (by omega)
          have lc := lit_cell g3 (show g < w2.heap.size by have := DA.out.2.2.size; omega)
          have D3 := DL.out.step h3 g3
          clear z1 g3 h3
          obtain ⟨g2, rfl⟩ : ∃ g2, A2 = some ⟨g2, 0, none⟩ := by
            rcases D3.2.1.form with ⟨_, h0, _⟩ | ⟨g2, hA, _⟩
            · simp at h0
            · exact ⟨g2, hA⟩
          have oc := D3.2.1.cell (j := 2) (by simp; omega)
          have of := D3.2.1.frozen 2
          have HD3 := hide D3
          clear D3
          have hz : z = 0 ∨ z = 1 ∨ z = 2 := by omega
          rcases hz with rfl | rfl | rfl
          · have q0 := lc 0
            have q1 := lc 1
            have q2 := lc 2
            clear lc
            simp only [List.getElem?_toArray, List.getElem?_cons_zero, List.getElem?_cons_succ] at q0 q1 q2
            go_wp2_with fail
            go_ret
            exact ⟨⟨d.nd, d.ev, 0⟩ :: ds, _, _, _, rfl, rfl, by simp at hlen ⊢; omega, DB.own HD3.out hu.out (HD3.out.2.1.set 2 (x := 0) (by omega) (by omega)).1 (HD3.out.2.1.set 2 (x := 0) (by omega) (by omega)).2⟩
          · have q0 := lc 0
            have q1 := lc 1
            have q2 := lc 2
            clear lc
            simp only [List.getElem?_toArray, List.getElem?_cons_zero, List.getElem?_cons_succ] at q0 q1 q2
            go_wp2_with fail
            go_ret
            exact ⟨⟨d.nd, d.ev, 32⟩ :: ds, _, _, _, rfl, rfl, by simp at hlen ⊢; omega, DB.own HD3.out hu.out (HD3.out.2.1.set 2 (x := 32) (by omega) (by omega)).1 (HD3.out.2.1.set 2 (x := 32) (by omega) (by omega)).2⟩
          · have q0 := lc 0
            have q1 := lc 1
            have q2 := lc 2
            clear lc
            simp only [List.getElem?_toArray, List.getElem?_cons_zero, List.getElem?_cons_succ] at q0 q1 q2
            go_wp2_with fail
            go_ret
            exact ⟨⟨d.nd, d.ev, 33⟩ :: ds, _, _, _, rfl, rfl, by simp at hlen ⊢; omega, DB.own HD3.out hu.out (HD3.out.2.1.set 2 (x := 33) (by omega) (by omega)).1 (HD3.out.2.1.set 2 (x := 33) (by omega) (by omega)).2⟩
        by_cases e2 : y = 2
        · subst e2
          have ba := (Below.refl w2.heap.size w2).alloc (Nat.le_refl _) (.cells #[.int .i64 (-1), .int .i64 32] 2)
          have H2 := hide (DA.out.1.below ba)
          have DL := hide (DA.out.alloc (.cells #[.int .i64 (-1), .int .i64 32] 2))
          clear ba
          go_wp2_with fail
          refine (next_d _ _ _ _ _ _ _ H2.out).mono ?_
          rintro e w3 ⟨z, rfl, z0, z1, h3, g3⟩
          have zm : z < 2 := z1 (by omega)
          have lc := lit_cell g3 (show g < w2.heap.size by have := DA.out.2.2.size; omega)
          have D3 := DL.out.step h3 g3
          clear z1 g3 h3
          obtain ⟨g2, rfl⟩ : ∃ g2, A2 = some ⟨g2, 0, none⟩ := by
            rcases D3.2.1.form with ⟨_, h0, _⟩ | ⟨g2, hA, _⟩
            · simp at h0
            · exact ⟨g2, hA⟩
          have oc := D3.2.1.cell (j := 0) (by simp <;> omega)
          have of := D3.2.1.frozen 0
          have HD3 := hide D3
          clear D3
          have hz : z = 0 ∨ z = 1 := by omega
          rcases hz with rfl | rfl
          · have q0 := lc 0
            have q1 := lc 1
            clear lc
            simp only [List.getElem?_toArray, List.getElem?_cons_zero, List.getElem?_cons_succ] at q0 q1
            go_wp2_with fail
            go_ret
            exact ⟨⟨(-1), d.ev, d.sz⟩ :: ds, _, _, _, rfl, rfl, by simp at hlen ⊢; omega, DB.own HD3.out hu.out (HD3.out.2.1.set 0 (x := (-1)) (by omega) (by omega)).1 (HD3.out.2.1.set 0 (x := (-1)) (by omega) (by omega)).2⟩
          · have q0 := lc 0
            have q1 := lc 1
            clear lc
            simp only [List.getElem?_toArray, List.getElem?_cons_zero, List.getElem?_cons_succ] at q0 q1
            go_wp2_with fail
            go_ret
            exact ⟨⟨32, d.ev, d.sz⟩ :: ds, _, _, _, rfl, rfl, by simp at hlen ⊢; omega, DB.own HD3.out hu.out (HD3.out.2.1.set 0 (x := 32) (by omega) (by omega)).1 (HD3.out.2.1.set 0 (x := 32) (by omega) (by omega)).2⟩
        have f0 : (y == 0) = false := by simpa using e0
        have f1 : (y == 1) = false := by simpa using e1
        have f2 : (y == 2) = false := by simpa using e2
        by_cases e3 : y = 3
        · subst e3
          go_wp2_with fail
          go_loopw [3] (fun s wr => ∃ (es : List Dem) (A3 : Option Addr) (d3 : Nat), (d :: es).length ≤ 41 ∧ s = .slice A3 (d :: es).length d3 ∧ DB w g A n c bs A3 (d :: es).length d3 (flatD (d :: es)) wr) (fun s _ => 42 - sliceLen s)
          case atStart => exact ⟨ds, A2, d2, by simp at hlen ⊢; omega, rfl, DA.out⟩
          case round =>
            obtain ⟨es, A3, d3, hle, rfl, hD2⟩ := hrel
            obtain ⟨g2, rfl⟩ : ∃ g2, A3 = some ⟨g2, 0, none⟩ := by
              rcases hD2.2.1.form with ⟨_, h0, _⟩ | ⟨g2, hA, _⟩
              · simp at h0
              · exact ⟨g2, hA⟩
            have HL := hide (show (d :: es).length = es.length + 1 from rfl)
            go_wp2_with fail
            refine (nx 2 hD2).mono ?_
            rintro e w3 ⟨z, rfl, z0, z1, D3, _⟩
            have zm : z < 2 := z1 (by omega)
            have o0 := D3.2.1.cell (j := 0) (by simp <;> omega)
            have o1 := D3.2.1.cell (j := 1) (by simp; omega)
            have o2 := D3.2.1.cell (j := 2) (by simp; omega)
            simp only [flatD_cons, nth, List.getD_cons_zero, List.getD_cons_succ] at o0 o1 o2
            have hi := D3.2.1.i64
            have HI := hide (i64_3 (p := d.nd) (q := d.ev) (r := d.sz) (hi _ (by simp [flatD_cons])) (hi _ (by simp [flatD_cons])) (hi _ (by simp [flatD_cons])))
            have hszs := D3.size
            clear z1 hD2 hi
            have hle2 : es.length + 1 ≤ 41 := by simpa using hle
            by_cases hlt : (es.length : Int) + 1 < 40 + z
            · go_wp2_with (at_builtin; refine append_dem rfl _ _ rfl w.heap.size rfl D3.2.1 d.nd d.ev d.sz HI.out rfl (by omega) hszs ?_; intro A4 d4 w5 O4 g4)
              have D5 := DB.own D3 hu.out O4 g4
              have D6 : DB w g A n c bs A4 (d :: (es ++ [d])).length d4 (flatD (d :: (es ++ [d]))) w5 := by
                rw [← List.cons_append, flatD_append, List.length_append]; exact D5
              go_roundw
              case rel => exact ⟨es ++ [d], A4, d4, by simp; omega, by simp, D6⟩
              case measure => simp [sliceLen]; omega
            · go_wp2_with fail
              go_ret
              exact ⟨d :: es, _, _, d3, rfl, rfl, by simp; omega, D3⟩
        · have f3 : (y == 3) = false := by simpa using e3
          go_wp2_with fail
          go_ret
          exact ⟨d :: ds, A2, _, d2, rfl, rfl, by simp at hlen ⊢; omega, DA.out⟩
end Go.Proofs.Ytcbejjkbjompfaa
