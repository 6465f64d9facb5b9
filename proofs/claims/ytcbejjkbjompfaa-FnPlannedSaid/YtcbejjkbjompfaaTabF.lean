/- Contracts: an empty table, by the program and by the reference. -/
import Derived.Test.YtcbejjkbjompfaaTab
namespace Go.Proofs.Ytcbejjkbjompfaa
open Go.RowKit
set_option linter.unusedVariables false
set_option linter.unusedSimpArgs false

theorem info_row : (Try.prog.info? 56).map (fun i => (i.zero, i.size, i.bytes)) = some (some (.slice none 0 0), 1, 24) := by kernel_rfl
section
variable {w w' : World} {B : Nat} {hs : List (Nat × Nat)} {A : Option Addr} {n c m : Nat} {T : Nat → Nat → Int}
theorem append_row {ops : Array Oper} {rest : List Oper} {o : Oper} {a : Act} {Q : Exit → Act → World → Prop} (hgd : o.guard = none) (s x : Operand)
    (ho : o.op = .call { callee := .builtin .append, args := #[s, x], argTypes := #[46, 46] })
    (B : Nat) {xs : List Value} (hs : a.eval s = .slice A n c) (hown : w.ownsRow B 56 1 (.slice A n c) n xs) (v : Value) (hv : v.oneCell' = true)
    (hx : a.eval x = .slice (some ⟨w.heap.size, 0, none⟩) 1 1) (hn : n + 1 ≤ 16777216) (hB : B ≤ w.heap.size)
    (h : ∀ A' c' w', w'.ownsRow B 56 1 (.slice A' (n + 1) c') (n + 1) (xs ++ [v]) → w.grownBy w' (Value.slice A n c).ownBlock → wpList Try.prog ops Q rest (a.put o.dst (.slice A' (n + 1) c')) w') :
    wpList Try.prog ops Q (o :: rest) a (w.alloc (.cells #[v] 56)) := by
  obtain ⟨i0, hi, hz0, hz1, hz2⟩ := info_parts info_row
  refine wpList_append_own _ hgd s x 46 ho B 56 i0 (.slice none 0 0) 1 24 Try.underlying46 hi hz0 hz1 hz2 rfl (by decide) (.slice A n c) n xs hs (hown.alloc _)
    ⟨w.heap.size, 0, none⟩ 1 1 [v] hx rfl ?_ (by intro u hu; simp at hu; subst hu; exact hv) (by simp only [maxLen]; omega) (by omega) (by simp; omega) ?_
  · intro j u hu
    have hj : j = 0 := by
      have := (List.getElem?_eq_some_iff.1 hu).1
      simp at this; exact this
    subst hj
    simp at hu
    subst hu
    simp [Addr.add]
  · intro v' w' hrow hg _
    rcases hrow.2 with ⟨rfl, h0⟩ | ⟨g, cap, cur, rfl, r⟩
    · omega
    · exact h _ _ w' ⟨hrow.1, .inr ⟨g, cap, cur, rfl, r⟩⟩ (grown_trans (World.grownBy_alloc w _ _) hg)
theorem TabH.push (h : TabH w B hs A n c m T) {g cc c' : Nat} {A' : Option Addr} {f : Nat → Int} (hr : Own w' B (some ⟨g, 0, none⟩) m cc (rowL m f)) (hout : w'.ownsRow B 56 1 (.slice A' (n + 1) c') (n + 1) (hs.map (rowV m) ++ [rowV m (g, cc)]))
    (hg : w.grownBy w' (Value.slice A n c).ownBlock) (hnew : ∀ p ∈ hs, p.1 ≠ g) : TabH w' B (hs ++ [(g, cc)]) A' (n + 1) c' m (fun r => if r = n then f else T r) := by
  have hl := h.hl
  refine ⟨by simp [hl], by rw [List.map_append]; exact hout, fun r hr' => ?_, fun r s hr' hs' e => ?_⟩
  · by_cases e : r = n
    · subst e
      rw [if_pos rfl]
      have := hd_app_at hs (g, cc)
      rw [hl] at this
      rw [this]; exact hr
    · rw [if_neg e, hd_app_lt (by omega)]
      refine (h.row r (by omega)).keepG hg (.inr ?_)
      intro e2
      exact row_block_ne h h.out (by decide) (r := r) (by omega) (e2.symm.trans (by simp [Value.ownBlock]))
  · have hlast := hd_app_at hs (g, cc)
    rw [hl] at hlast
    by_cases er : r = n
    · by_cases es : s = n
      · omega
      · subst er
        rw [hlast, hd_app_lt (by omega)] at e
        exact absurd e.symm (hnew _ (hd_mem (by omega)))
    · by_cases es : s = n
      · subst es
        rw [hlast, hd_app_lt (by omega)] at e
        exact absurd e (hnew _ (hd_mem (by omega)))
      · rw [hd_app_lt (by omega), hd_app_lt (by omega)] at e
        exact h.inj _ _ (by omega) (by omega) e
theorem TabH.empty (w : World) {B : Nat} (hB : B ≤ w.heap.size) (m : Nat) (T : Nat → Nat → Int) : TabH (w.alloc (.cells #[] 56)) B [] (some ⟨w.heap.size, 0, none⟩) 0 0 m T :=
  ⟨rfl, World.ownsRow_made (e := 56) (size := 1) w #[] 0 hB (by simp [maxLen]) (by simp), fun r h => absurd h (by omega), fun r s h => absurd h (by omega)⟩
end
theorem own_some {w : World} {B n c : Nat} {A : Option Addr} {zs : List Int} (h : Own w B A n c zs) (hn : 0 < n) : ∃ g, A = some ⟨g, 0, none⟩ ∧ B ≤ g := by
  rcases h.form with ⟨_, h0, _⟩ | ⟨g, hA, hg, _⟩
  · omega
  · exact ⟨g, hA, hg⟩
def T0 : Nat → Nat → Int := fun _ _ => -1
def TabOut (w : World) (n m : Nat) (e : Ending) (w' : World) : Prop :=
  ∃ (hs : List (Nat × Nat)) (A' : Option Addr) (c' : Nat), e = .returned (.slice A' n c') ∧ TabH w' w.heap.size hs A' n c' m T0 ∧ Below w.heap.size w w'
set_option maxHeartbeats 1600000 in
theorem emptyTable_any (n m : Nat) (w : World) (hn : n ≤ 8) (hm : 1 ≤ m ∧ m ≤ 16) : Calls Try.prog 29 #[.int .i64 n, .int .i64 m] w (TabOut w n m) := by
  go_enter Try.func29, Try.ntmps29
  go_wp2
  go_loopw [5, 8] (fun s i wr => ∃ (k : Nat) (hs : List (Nat × Nat)) (A' : Option Addr) (c' : Nat), k ≤ n ∧ i = .int .i64 k ∧ s = .slice A' k c' ∧ TabH wr w.heap.size hs A' k c' m T0 ∧ Below w.heap.size w wr) (fun _ i _ => n - (intOf i).toNat)
  case atStart => exact ⟨0, [], _, _, by omega, rfl, rfl, TabH.empty w (Nat.le_refl _) m T0, (Below.refl _ _).alloc (Nat.le_refl _) _⟩
  case round =>
    obtain ⟨k, hs, A', c', hk, rfl, rfl, htab, hbel⟩ := hrel
    have hsz := hbel.size
    by_cases hlt : k < n
    · have HL := hide (Own.lit wr (B := wr.heap.size) (Nat.le_refl _) #[.int .i64 (-1)] [-1] rfl (I64.one (by omega) (by omega)) 1 rfl (by omega))
      have ba := (Below.refl wr.heap.size wr).alloc (Nat.le_refl _) (.cells #[.int .i64 (-1)] 2)
      have B1 := hide (below_trans hbel ba)
      have T1 := hide (htab.below ba)
      clear ba
      go_wp2_with (first | (go_at_call 40; refine (repeatLib_any _ _ (-1) (m : Int) _ HL.out.rd (by omega) (by omega)).mono ?_; rintro e w1 ⟨A1, c1, rfl, own1, bel1⟩; simp only [Int.toNat_natCast] at own1 ⊢; obtain ⟨g1, rfl, hg1⟩ := own_some own1 (by omega); have T2 := hide (T1.out.below bel1); have B2 := hide (below_trans B1.out bel1); have O2 := hide own1; have hz2 : w.heap.size ≤ w1.heap.size := B2.out.size; have hg2 : wr.heap.size < g1 := (by simp at hg1; omega); clear own1 bel1 hg1) | (at_builtin; refine append_row rfl _ _ rfl w.heap.size rfl T2.out.out (rowV m (g1, c1)) rfl rfl (by omega) hz2 ?_; intro A3 c3 w3 hout gr3))
      have hnew : ∀ p ∈ hs, p.1 ≠ g1 := fun p hp e => by have := (htab.base p hp).2; omega
      have hr : Own w3 w.heap.size (some ⟨g1, 0, none⟩) m c1 (rowL m (fun _ => -1)) := by
        rw [rowL_rep]
        refine (O2.out.mono (B' := w.heap.size) B1.out.size).keepG gr3 ?_
        cases e : (Value.slice A' k c').ownBlock with
        | none => right; simp [Value.ownBlock]
        | some g => right; intro e2; have h1 := (htab.out.lt g e).2; simp [Value.ownBlock] at e2; omega
      have hb3 : Below w.heap.size w w3 := B2.out.grown gr3 hz2 (fun j hj => (T2.out.out.lt j hj).1)
      have T3 := (T2.out.push hr hout gr3 hnew).congr (T' := T0) (fun r s hr hs => by by_cases e : r = k <;> simp [e, T0])
      go_roundw
      case rel => exact ⟨k + 1, _, A3, c3, by omega, by go_num, rfl, T3, hb3⟩
      case measure => simp [intOf]; omega
    · obtain rfl : k = n := by omega
      go_wp2
      go_ret
      exact ⟨hs, A', c', rfl, htab, hbel⟩
set_option maxHeartbeats 3200000 in
theorem l16Free_any (n m : Nat) (w : World) (hn : n ≤ 8) (hm : 1 ≤ m ∧ m ≤ 16) : Calls Try.prog 32 #[.int .i64 n, .int .i64 m] w (TabOut w n m) := by
  go_enter Try.func32, Try.ntmps32
  go_wp2
  go_loopw [5, 6] (fun s i wr => ∃ (k : Nat) (hs : List (Nat × Nat)) (A' : Option Addr) (c' : Nat), k ≤ n ∧ i = .int .i64 k ∧ s = .slice A' k c' ∧ TabH wr w.heap.size hs A' k c' m T0 ∧ Below w.heap.size w wr) (fun _ i _ => n - (intOf i).toNat)
  case atStart => exact ⟨0, [], _, _, by omega, rfl, rfl, TabH.empty w (Nat.le_refl _) m T0, (Below.refl _ _).alloc (Nat.le_refl _) _⟩
  case round =>
    obtain ⟨k, hs, A', c', hk, rfl, rfl, htab, hbel⟩ := hrel
    have hsz := hbel.size
    by_cases hlt : k < n
    · go_wp2
      obtain ⟨wo, rfl⟩ : ∃ wo, wo = wr := ⟨_, rfl⟩
      go_loopw [7, 8] (fun s i wr => ∃ (j : Nat) (A2 : Option Addr) (c2 : Nat), j ≤ m ∧ i = .int .i64 j ∧ s = .slice A2 j c2 ∧ Own wr wo.heap.size A2 j c2 (List.replicate j (-1)) ∧ Below wo.heap.size wo wr) (fun _ i _ => m - (intOf i).toNat)
      case atStart => exact ⟨0, _, _, by omega, rfl, rfl, Own.empty wo (Nat.le_refl _), (Below.refl _ _).alloc (Nat.le_refl _) _⟩
      case round =>
        obtain ⟨j, A2, c2, hj, rfl, rfl, own2, bel2⟩ := hrel
        have hsz2 := bel2.size
        by_cases hjm : j < m
        · go_wp2_with (at_builtin; refine append_new rfl _ _ rfl wo.heap.size rfl own2 _ [-1] 1 rfl (I64.one (by omega) (by omega)) rfl rfl (by omega) hsz2 ?_; intro A3 c3 w3 own3 gr3)
          have hb3 := below_own bel2 hsz2 own2 (Nat.le_refl _) gr3
          rw [← rep_succ] at own3
          go_roundw
          case rel => exact ⟨j + 1, A3, c3, by omega, by go_num, rfl, own3, hb3⟩
          case measure => simp [intOf]; omega
        · obtain rfl : j = m := by omega
          obtain ⟨g1, rfl, hg1⟩ := own_some own2 (by omega)
          have T2 := hide (htab.below bel2)
          have B2 := hide (below_trans hbel bel2)
          have hz2 : w.heap.size ≤ wr.heap.size := B2.out.size
          go_wp2_with (at_builtin; refine append_row rfl _ _ rfl w.heap.size rfl T2.out.out (rowV j (g1, c2)) rfl rfl (by omega) hz2 ?_; intro A3 c3 w3 hout gr3)
          have hnew : ∀ p ∈ hs, p.1 ≠ g1 := fun p hp e => by have := (htab.base p hp).2; omega
          have hr : Own w3 w.heap.size (some ⟨g1, 0, none⟩) j c2 (rowL j (fun _ => -1)) := by
            rw [rowL_rep]
            refine (own2.mono (B' := w.heap.size) hsz).keepG gr3 ?_
            cases e : (Value.slice A' k c').ownBlock with
            | none => right; simp [Value.ownBlock]
            | some g => right; intro e2; have h1 := (htab.out.lt g e).2; simp [Value.ownBlock] at e2; omega
          have hb3 : Below w.heap.size w w3 := B2.out.grown gr3 hz2 (fun j hj => (T2.out.out.lt j hj).1)
          have T3 := (T2.out.push hr hout gr3 hnew).congr (T' := T0) (fun r s hr hs => by by_cases e : r = k <;> simp [e, T0])
          go_roundw
          case rel => exact ⟨k + 1, _, A3, c3, by omega, by go_num, rfl, T3, hb3⟩
          case measure => simp [intOf]; omega
    · obtain rfl : k = n := by omega
      go_wp2
      go_ret
      exact ⟨hs, A', c', rfl, htab, hbel⟩
end Go.Proofs.Ytcbejjkbjompfaa
