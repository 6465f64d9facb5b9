/- Demands sorted, by the implementation: the copy, the stable sort. -/
import Derived.Test.YtcbejjkbjompfaaSortE
import Derived.WalkSpells
namespace Go.Proofs.Ytcbejjkbjompfaa
open Go.RowKit
set_option linter.unusedVariables false
set_option linter.unusedSimpArgs false

theorem append_demF {w : World} {A : Option Addr} {n c : Nat} {vs : List Int} {ops : Array Oper} {rest : List Oper} {o : Oper} {a : Act} {Q : Exit → Act → World → Prop} (hgd : o.guard = none) (s x : Operand)
    (ho : o.op = .call { callee := .builtin .append, args := #[s, x], argTypes := #[24, 24] })
    (B : Nat) (hs : a.eval s = .slice A n c) (hown : OwnF 38 3 w B A n c vs) {A2 : Option Addr} {m c2 : Nat} {ys : List Int} (hr : RdF 3 w A2 m c2 ys)
    (hx : a.eval x = .slice A2 m c2) (hn : n + m ≤ 16777216) (hB : B ≤ w.heap.size)
    (h : ∀ A' c' w', OwnF 38 3 w' B A' (n + m) c' (vs ++ ys) → w.grownBy w' (Value.slice A n c).ownBlock → wpList Try.prog ops Q rest (a.put o.dst (.slice A' (n + m) c')) w') :
    wpList Try.prog ops Q (o :: rest) a w := by
  obtain ⟨i0, hi, hz0, hz1, hz2⟩ := info_parts info_dem
  cases A2 with
  | none =>
    have hm : m = 0 := by
      rcases Nat.eq_zero_or_pos m with h0 | h0
      · exact h0
      · obtain ⟨_, _, h1, _⟩ := hr.at_ h0
        cases h1
    subst hm
    have hy : ys = [] := List.eq_nil_of_length_eq_zero (by have := hr.len; omega)
    subst hy
    refine wpList_append_own_none hgd s x 24 ho B 38 i0 3 Try.underlying24 hi (.slice A n c) n (ints vs) hs hown.1 (by rw [hx, hr.none0 rfl]) ?_
    exact h A c w (by simpa using hown) (grown_refl _ _)
  | some ad =>
    have hlen := hr.len
    refine wpList_append_own _ hgd s x 24 ho B 38 i0 _ 3 24 Try.underlying24 hi hz0 hz1 hz2 rfl (by decide) (.slice A n c) n (ints vs) hs hown.1
      ad m c2 (ints ys) hx (by rw [ints_length, hr.len]) ?_ (ints_oneCell ys) (by simp only [maxLen]; omega) (by omega) hB ?_
    · intro j u hu
      have hj : j < ys.length := by
        have := (List.getElem?_eq_some_iff.1 hu).1
        rwa [ints_length] at this
      obtain ⟨b, off, hA, _, hc⟩ := hr.at_ (by omega)
      simp only [Option.some.injEq] at hA
      subst hA
      have e : (⟨b, off, none⟩ : Addr).add j = ⟨b, off + j, none⟩ := by
        unfold Addr.add
        split
        · rename_i h0
          subst h0
          rfl
        · rfl
      rw [e, hc j (by omega), ← ints_get ys j hj]
      exact hu
    · intro v' w' hrow hg _
      rw [← ints_append] at hrow
      obtain ⟨A', c', rfl, ho'⟩ := ownF_of_row hrow rfl (hown.i64.append hr.i64)
      exact h A' c' w' ho' hg
theorem cloneD_any (A : Option Addr) (n c : Nat) (vs : List Int) (w : World) (h : RdF 3 w A n c vs) (hn : n ≤ 1048576) :
    Calls Try.prog 22 #[.slice A n c] w fun e w' => ∃ A' c', e = .returned (.slice A' n c') ∧ OwnF 38 3 w' w.heap.size A' n c' vs ∧ Below w.heap.size w w' := by
  have hcap := h.cap
  cases A with
  | none =>
    have hc := h.none0 rfl
    subst hc
    obtain rfl : n = 0 := by omega
    have hz : vs = [] := List.eq_nil_of_length_eq_zero (by have := h.len; omega)
    subst hz
    have e1 := Lib.run_eql_slice_nil (P := Try.prog)
    go_enter Try.func22, Try.ntmps22
    go_wp2
    go_ret
    exact ⟨none, 0, rfl, OwnF.nil _ _, Below.refl _ _⟩
  | some ad =>
    have e1 := Lib.run_eql_slice_nil (P := Try.prog)
    go_enter Try.func22, Try.ntmps22
    go_wp2_with (at_builtin; refine append_demF rfl _ _ rfl w.heap.size rfl (OwnF.empty w (Nat.le_refl _)) (h.below ((Below.refl _ _).alloc (Nat.le_refl _) _)) rfl (by omega) (by simp) ?_; intro A2 c2 w2 own2 gr2)
    go_ret
    refine ⟨A2, c2, ?_, by simpa using own2, below_ownF ((Below.refl _ _).alloc (Nat.le_refl _) _) (by simp) (OwnF.empty (T := 38) (k := 3) w (Nat.le_refl _)) (Nat.le_refl _) gr2⟩
    simp
/-- two blocks of twenty sorted -/
def B20 (n : Nat) (es : List Dem) : Prop := Srt 0 (min 20 n) es ∧ Srt 20 n es
set_option maxHeartbeats 6400000 in
set_option maxRecDepth 100000 in
theorem stable_any (B g n c : Nat) (ds : List Dem) (w : World) (h : OwnF 38 3 w B (some ⟨g, 0, none⟩) n c (flatD ds)) (hs : Sml ds) (hn : n ≤ 40) :
    Calls Try.prog 36 #[.slice (some ⟨g, 0, none⟩) n c, .int .i64 (n : Int), .func (.func 24) #[] #[]] w (RowOut w B g n c fun es => SP 0 n ds es ∧ Srt 0 n es) := by
  have hcap := h.cap
  have hlen : ds.length = n := by have := h.len; rw [flatD_len] at this; omega
  go_enter Try.func36, Try.ntmps36
  go_wp2
  go_loopw [7, 8] (fun p q wr => ∃ (a b : Nat) (es : List Dem), p = .int .i64 a ∧ q = .int .i64 b ∧ b = a + 20 ∧ (a = 0 ∨ a = 20 ∨ a = 40) ∧ a ≤ n ∧ Hid (SP 0 n ds es ∧ (a ≠ 0 → Srt 0 20 es) ∧ (a = 40 → Srt 20 40 es)) ∧ OwnF 38 3 wr B (some ⟨g, 0, none⟩) n c (flatD es) ∧ w.grownBy wr (some g)) (fun p _ _ => n - (intOf p).toNat)
  case atStart => exact ⟨0, 20, ds, by go_num, by go_num, rfl, .inl rfl, by omega, hide ⟨SP.refl _ _ _, fun hh => absurd rfl hh, fun hh => by omega⟩, h, grown_refl _ _⟩
  case round =>
    obtain ⟨a, b, es, rfl, rfl, hab, ha3, han, hes, hown, hgr⟩ := hrel
    have hsm := hs.sp hes.out.1
    have HAB := hide hab
    have HA3 := hide ha3
    have hb60 : b ≤ 60 := by omega
    have hlab : a < b := by omega
    clear hab ha3
    by_cases hbn : b ≤ n
    · have hk := insertion_any B g n c a b es wr hown hsm hlab hbn (by omega)
      go_wp2_with (go_at_call 42; refine hk.mono ?_; rintro x w2 ⟨rfl, fs, O2, P2, S2, G2⟩)
      go_roundw
      case rel =>
        refine ⟨b, b + 20, fs, rfl, by go_num, rfl, by have := HAB.out; have := HA3.out; omega, hbn, hide ⟨hes.out.1.trans (P2.mono (by omega) hbn), fun _ => ?_, fun h40 => ?_⟩, O2, grown_trans hgr G2⟩
        · rcases HA3.out with h9 | h9 | h9
          · have h8 : b = 20 := by have := HAB.out; omega
            rw [h9, h8] at S2
            exact S2
          · have h7 := hes.out.2.1 (by omega)
            exact fun u v g1 g2 g3 => by rw [P2.out u (by omega), P2.out v (by omega)]; exact h7 u v g1 g2 g3
          · have := HAB.out; omega
        · have h8 : a = 20 := by have := HAB.out; omega
          rw [h8, h40] at S2
          exact S2
      case measure => simp [intOf]; have := HAB.out; omega
    · have hmin : min 20 n ≤ n := by omega
      have hk : Calls Try.prog 42 #[.slice (some ⟨g, 0, none⟩) n c, .int .i64 (a : Int), .int .i64 (n : Int), .func (.func 24) #[] #[]] wr (RowOut w B g n c fun fs => SP 0 n ds fs ∧ B20 n fs) := by
        rcases Nat.lt_or_eq_of_le han with hlt | rfl
        · refine (insertion_any B g n c a n es wr hown hsm hlt (Nat.le_refl _) (by omega)).mono ?_
          rintro x w2 ⟨rfl, fs, O2, P2, S2, G2⟩
          refine ⟨rfl, fs, O2, ⟨hes.out.1.trans (P2.mono (by omega) (Nat.le_refl _)), ?_⟩, grown_trans hgr G2⟩
          rcases HA3.out with h9 | h9 | h9
          · rw [h9] at S2
            exact ⟨fun u v g1 g2 g3 => S2 u v g1 g2 (by omega), fun u v g1 g2 g3 => S2 u v (by omega) g2 g3⟩
          · have h7 := hes.out.2.1 (by omega)
            rw [h9] at S2
            exact ⟨fun u v g1 g2 g3 => by rw [P2.out u (by omega), P2.out v (by omega)]; exact h7 u v g1 g2 (by omega), S2⟩
          · omega
        · refine (insertion_none B g a c a (some ⟨g, 0, none⟩) es wr (by omega)).mono ?_
          rintro x w2 ⟨rfl, rfl⟩
          refine ⟨rfl, es, hown, ⟨hes.out.1, ?_⟩, hgr⟩
          rcases HA3.out with h9 | h9 | h9
          · exact ⟨fun u v g1 g2 g3 => by omega, fun u v g1 g2 g3 => by omega⟩
          · have h7 := hes.out.2.1 (by omega)
            exact ⟨fun u v g1 g2 g3 => h7 u v g1 g2 (by omega), fun u v g1 g2 g3 => by omega⟩
          · have h7 := hes.out.2.1 (by omega)
            have h6 := hes.out.2.2 h9
            exact ⟨fun u v g1 g2 g3 => h7 u v g1 g2 (by omega), fun u v g1 g2 g3 => h6 u v g1 g2 (by omega)⟩
      clear hown hgr hsm hes
      go_wp2_with (go_at_call 42; refine hk.mono ?_; rintro x w2 ⟨rfl, fs, O2, ⟨P2, B2⟩, G2⟩)
      clear hk
      have PB := hide (And.intro P2 B2)
      clear P2 B2
      go_loopw [6, 7, 8, 9] (fun s p q r wr => ∃ (z : Nat) (es : List Dem), s = .int .i64 z ∧ (z = 20 ∨ z = 40) ∧ Hid (SP 0 n ds es ∧ (z = 20 → B20 n es) ∧ (z = 40 → Srt 0 n es)) ∧ OwnF 38 3 wr B (some ⟨g, 0, none⟩) n c (flatD es) ∧ w.grownBy wr (some g)) (fun s _ _ _ _ => 60 - (intOf s).toNat)
      case atStart => exact ⟨20, fs, by go_num, .inl rfl, hide ⟨PB.out.1, fun _ => PB.out.2, fun hh => by omega⟩, O2, G2⟩
      case round =>
        obtain ⟨z, es, rfl, hz, hes, hown, hgr⟩ := hrel
        by_cases hzn : z < n
        · have z20 : z = 20 := by omega
          have zi : (z : Int) = 20 := by omega
          have hn20 : 20 < n := by omega
          have HH := hide (And.intro hes.out.1 (hes.out.2.1 z20))
          have e20 : decide ((20 : Int) < (n : Int)) = true := decide_eq_true (by omega)
          rw [zi]
          have ZI := hide zi
          clear hes hz hzn z20 zi
          go_wp2
          go_loopw [7, 8] (fun p q wr => ∃ (es : List Dem), ((p = .int .i64 0 ∧ q = .int .i64 40 ∧ Hid (SP 0 n ds es ∧ B20 n es)) ∨ (p = .int .i64 40 ∧ q = .int .i64 80 ∧ n = 40 ∧ Hid (SP 0 n ds es ∧ Srt 0 n es))) ∧ OwnF 38 3 wr B (some ⟨g, 0, none⟩) n c (flatD es) ∧ w.grownBy wr (some g)) (fun p _ _ => 40 - (intOf p).toNat)
          case atStart => exact ⟨es, .inl ⟨rfl, rfl, hide HH.out⟩, hown, hgr⟩
          case round =>
            obtain ⟨fs, hfs, hown2, hgr2⟩ := hrel
            rcases hfs with ⟨rfl, rfl, hfs⟩ | ⟨rfl, rfl, h40, hfs⟩
            · have hsm2 := hs.sp hfs.out.1
              have HF := hide hfs.out
              clear hfs HH
              by_cases hn40 : n = 40
              · have H40 := hide hn40
                have d40 : (40 : Int) ≤ n := by omega
                have e40 : decide ((40 : Int) ≤ (n : Int)) = true := decide_eq_true d40
                clear hn40
                have hk : Calls Try.prog 43 #[.slice (some ⟨g, 0, none⟩) n c, .int .i64 0, .int .i64 20, .int .i64 40, .func (.func 24) #[] #[]] wr (RowOut wr B g n c fun gs => SP 0 40 fs gs ∧ Srt 0 40 gs) := sym_all B g n c (by omega) 41 0 20 40 fs wr (by omega) hown2 hsm2 (by omega) (by omega) (by omega) (fun u v g1 g2 g3 => HF.out.2.1 u v g1 g2 (by omega)) (fun u v g1 g2 g3 => HF.out.2.2 u v g1 g2 (by omega))
                go_wp2_with (go_at_call 43; refine hk.mono ?_; rintro x w2 ⟨rfl, gs, O3, ⟨P3, S3⟩, G3⟩)
                go_roundw
                case rel => exact ⟨gs, .inr ⟨rfl, rfl, H40.out, hide ⟨HF.out.1.trans (P3.mono (by omega) (by omega)), by rw [H40.out]; exact S3⟩⟩, O3, grown_trans hgr2 G3⟩
                case measure => simp [intOf]
              · have d40 : ¬ (40 : Int) ≤ n := by omega
                have e40 : decide ((40 : Int) ≤ (n : Int)) = false := decide_eq_false d40
                have hk : Calls Try.prog 43 #[.slice (some ⟨g, 0, none⟩) n c, .int .i64 0, .int .i64 20, .int .i64 (n : Int), .func (.func 24) #[] #[]] wr (RowOut wr B g n c fun gs => SP 0 n fs gs ∧ Srt 0 n gs) := sym_all B g n c (by omega) (n + 1) 0 20 n fs wr (by omega) hown2 hsm2 (by omega) (by omega) (by omega) (fun u v g1 g2 g3 => HF.out.2.1 u v g1 g2 (by omega)) HF.out.2.2
                go_wp2_with (go_at_call 43; refine hk.mono ?_; rintro x w2 ⟨rfl, gs, O3, ⟨P3, S3⟩, G3⟩)
                go_roundw
                case rel => exact ⟨40, gs, by go_num, .inr rfl, hide ⟨HF.out.1.trans P3, fun hh => by omega, fun _ => S3⟩, O3, grown_trans hgr2 G3⟩
                case measure => simp [intOf]
            · go_wp2
              go_roundw
              case rel => exact ⟨40, fs, by go_num, .inr rfl, hide ⟨hfs.out.1, fun hh => by omega, fun _ => hfs.out.2⟩, hown2, hgr2⟩
              case measure => simp [intOf]
        · go_wp2
          go_end0
          refine ⟨rfl, es, hown, ⟨hes.out.1, ?_⟩, hgr⟩
          rcases hz with h9 | h9
          · have h8 := (hes.out.2.1 h9).1
            rwa [show min 20 n = n by omega] at h8
          · exact hes.out.2.2 h9
end Go.Proofs.Ytcbejjkbjompfaa
