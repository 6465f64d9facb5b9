/- Contracts: a scan's next cell, by the reference: a full byte. Written by gen_scang.py. -/
import Derived.Test.YtdodhjahihfaiaaScanF
import Derived.Deep.AppendLies
namespace Go.Proofs.Ytdodhjahihfaiaa
open Go.RowKit
set_option linter.unusedVariables false
set_option linter.unusedSimpArgs false

/-- append onto an own row, at a step of a region that draws its order -/
theorem step_append_new {ops : Array Oper} {o : Oper} {a : Act} {w : World} {K : Act → World → Prop} {Q : Exit → Act → World → Prop} {E : Prop} {A : Option Addr} {n c : Nat} {zs : List Int} (hgd : o.guard = none) (s x : Operand)
    (ho : o.op = .call { callee := .builtin .append, args := #[s, x], argTypes := #[25, 25] })
    (B : Nat) (hs : a.eval s = .slice A n c) (hown : Own w B A n c zs) (ad : Addr) (m c' : Nat) (ys : List Int) (hx : a.eval x = .slice (some ad) m c') (hnews : ∀ (j : Nat) (u : Value), (ints ys)[j]? = some u → w.cell? (ad.add j) = some u) (hm : ys.length = m) (h0 : 0 < m) (hn : n + m ≤ 16777216) (hB : B ≤ w.heap.size) (hy : I64 ys)
    (h : ∀ A' c' w', Own w' B A' (n + m) c' (zs ++ ys) → w.grownBy w' (Value.slice A n c).ownBlock → K (a.put o.dst (.slice A' (n + m) c')) w') :
    if Region.wanted o (yielded ops a.tmps) = true then Oper.wp Try.prog o a w K Q else E := by
  obtain ⟨i0, hi, hz0, hz1, hz2⟩ := info_parts info_i64
  refine step_append_lies w hgd s x 25 ho B 2 i0 (.int .i64 0) 1 8 Try.underlying25 hi hz0 hz1 hz2 rfl (by decide) (.slice A n c) n (ints zs) hs hown.1 ad m c' (ints ys) hx (by rw [ints_length]; omega) hnews (ints_oneCell ys) h0 (by simp only [maxLen]; omega) (by omega) hB w.heap.size rfl ?_
  intro g cap w' hrow hg _ _
  rw [← ints_append] at hrow
  exact h (some ⟨g, 0, none⟩) cap w' ⟨hrow, hown.i64.append hy⟩ hg

set_option maxHeartbeats 3200000 in
theorem sstep4n (vl : Int) (bs : List Int) (x : Int) (A : Option Addr) (n c : Nat) (w : World) (h : Rd w A n c bs) (hvl : 0 ≤ vl ∧ vl ≤ 255) (hn : n ≤ 1048576) (hx : x = 0 ∨ x = 1) :
    Calls Try.prog 88 #[.agg #[.int .i64 4, .int .i64 7, .int .i64 vl, .slice A n c], .int .i64 x] w (SpecOut ⟨2, 0, 0, bs ++ [2 * vl + x]⟩ n w) := by
  have hx1 : 0 ≤ x ∧ x ≤ 1 := by omega
  have hi : I64 [2 * vl + x] := I64.one (by omega) (by omega)
  have W0 := hide (show Below w.heap.size w ((w.alloc (.cells #[.int .i64 4, .int .i64 7, .int .i64 vl, .slice A n c] 30)).alloc (.cells #[.int .i64 0, .int .i64 0, .int .i64 0, .slice none 0 0] 30)) by (repeat (first | exact Below.refl _ _ | (refine Below.alloc ?_ (by simp <;> omega) _) | (refine Below.setCell ?_ (by simp <;> omega) _))))
  have S0 := hide ((ScnAt.fresh w #[.int .i64 4, .int .i64 7, .int .i64 vl, .slice A n c]).below ((Below.refl _ _).alloc (Nat.le_refl _) (.cells #[.int .i64 0, .int .i64 0, .int .i64 0, .slice none 0 0] 30)))
  have R0 := hide (ScnAt.fresh1 w (.cells #[.int .i64 4, .int .i64 7, .int .i64 vl, .slice A n c] 30) #[.int .i64 0, .int .i64 0, .int .i64 0, .slice none 0 0])
  have H0 := hide (h.below W0.out)
  clear h
  go_enter Try.func88, Try.ntmps88
  go_wp2_with fail
  refine (l19To_any _ _ _ _ _ _ A n c bs _ H0.out hn).mono ?_
  rintro e w2 ⟨A2, c2, rfl, own2, b2⟩
  have b3 := ((Below.refl w2.heap.size w2).alloc (Nat.le_refl _) (.cells #[.int .i64 7, .int .i64 7, .int .i64 vl, .slice A2 n c2] 30)).drew
  have HS := hide ((S0.out.below b2).below b3)
  have HR := hide ((R0.out.below b2).below b3)
  have B3 := hide (below_trans (below_trans W0.out b2) b3)
  have H3 := hide ((H0.out.below b2).below b3)
  have hl0 : w.heap.size < w2.heap.size := (S0.out.below b2).lt
  have hl1 : w.heap.size + 1 < w2.heap.size := (R0.out.below b2).lt
  have c0 : w2.cell? ⟨w.heap.size, 0, none⟩ = some (.int .i64 4) := (S0.out.below b2).cell 0
  have c1 : w2.cell? ⟨w.heap.size, 1, none⟩ = some (.int .i64 7) := (S0.out.below b2).cell 1
  have c2' : w2.cell? ⟨w.heap.size, 2, none⟩ = some (.int .i64 vl) := (S0.out.below b2).cell 2
  have c3 : w2.cell? ⟨w.heap.size, 3, none⟩ = some (.slice A n c) := (S0.out.below b2).cell 3
  clear b2 b3 own2
  go_wp2_with fail
  have ew1 : IntKind.i64.wrap (2 * vl) = 2 * vl := IntWalk.i64_in _ (by omega)
  have ew2 : IntKind.i64.wrap (2 * vl + x) = 2 * vl + x := IntWalk.i64_in _ (by omega)
  refine wp_region_held_drew (S := (fun w' => w'.cell? ⟨w.heap.size, 0, none⟩ = some (.int .i64 4) ∧ w'.cell? ⟨w.heap.size, 1, none⟩ = some (.int .i64 7) ∧ w'.cell? ⟨w.heap.size, 2, none⟩ = some (.int .i64 vl) ∧ w'.cell? ⟨w.heap.size, 3, none⟩ = some (.slice A n c))) (by kernel_rfl) ?_ (fun hHeld => ?_)
  · (try dsimp only)
    go_keep
  refine wpAnyH_take (i := 0) (v := ?v1) rfl (by kernel_rfl) (by kernel_rfl) (by kernel_rfl) (fun _ _ _ h => h) (Or.inl ⟨by rfl, ?hy1⟩) (by assumption) ?rest1
  case hy1 => (intro wz hSw; (try dsimp only at hSw); go_simp; all_goals with_reducible rfl)
  try simp only [Act.put, List.setIfInBounds_toArray, List.set_cons_zero, List.set_cons_succ]
  refine wpAnyH_take (i := 1) (v := ?v2) rfl (by kernel_rfl) (by kernel_rfl) (by kernel_rfl) (fun _ _ _ h => h) (Or.inl ⟨by rfl, ?hy2⟩) (by assumption) ?rest2
  case hy2 => (intro wz hSw; (try dsimp only at hSw); go_simp; all_goals with_reducible rfl)
  try simp only [Act.put, List.setIfInBounds_toArray, List.set_cons_zero, List.set_cons_succ]
  refine wpAnyH_take (i := 3) (v := ?v3) rfl (by kernel_rfl) (by kernel_rfl) (by kernel_rfl) (fun _ _ _ h => h) (Or.inl ⟨by rfl, ?hy3⟩) (by assumption) ?rest3
  case hy3 => (intro wz hSw; (try dsimp only at hSw); go_simp; all_goals with_reducible rfl)
  try simp only [Act.put, List.setIfInBounds_toArray, List.set_cons_zero, List.set_cons_succ]
  refine wpAnyH_take (i := 4) (v := ?v4) rfl (by kernel_rfl) (by kernel_rfl) (by kernel_rfl) (fun _ _ _ h => h) (Or.inl ⟨by rfl, ?hy4⟩) (by assumption) ?rest4
  case hy4 => (intro wz hSw; (try dsimp only at hSw); go_simp; all_goals with_reducible rfl)
  try simp only [Act.put, List.setIfInBounds_toArray, List.set_cons_zero, List.set_cons_succ]
  refine wpAnyH_take (i := 5) (v := ?v5) rfl (by kernel_rfl) (by kernel_rfl) (by kernel_rfl) (fun _ _ _ h => h) (Or.inl ⟨by rfl, ?hy5⟩) (by assumption) ?rest5
  case hy5 => (intro wz hSw; (try dsimp only at hSw); go_simp; all_goals with_reducible rfl)
  try simp only [Act.put, List.setIfInBounds_toArray, List.set_cons_zero, List.set_cons_succ]
  refine wpAnyH_take (i := 6) (v := ?v6) rfl (by kernel_rfl) (by kernel_rfl) (by kernel_rfl) (fun _ _ _ h => h) (Or.inl ⟨by rfl, ?hy6⟩) (by assumption) ?rest6
  case hy6 => (intro wz hSw; (try dsimp only at hSw); go_simp; all_goals with_reducible rfl)
  try simp only [Act.put, List.setIfInBounds_toArray, List.set_cons_zero, List.set_cons_succ]
  refine wpAnyH_take (i := 7) (v := ?v7) rfl (by kernel_rfl) (by kernel_rfl) (by kernel_rfl) (fun _ _ _ h => h) (Or.inl ⟨by rfl, ?hy7⟩) (by assumption) ?rest7
  case hy7 => (intro wz hSw; (try dsimp only at hSw); go_simp; all_goals with_reducible rfl)
  try simp only [Act.put, List.setIfInBounds_toArray, List.set_cons_zero, List.set_cons_succ]
  refine wpAnyH_ready (rs := [2, 8]) (by kernel_rfl) (by simp) ?_
  refine AllReadyH.cons rfl (fun K hK => ?_) (AllReadyH.cons rfl (fun K hK => ?_) AllReadyH.nil)
  · go_simp
    refine (l01Own_any A n c bs _ H3.out hn).mono ?_
    rintro e w4 ⟨A4, c4, rfl, own4, b4⟩
    have HS4 := hide (HS.out.below b4)
    have HR4 := hide (HR.out.below b4)
    have B4 := hide (below_trans B3.out b4)
    have O4 := hide (own4.mono (B' := w.heap.size) B3.out.size)
    clear b4 own4
    have s0 : w4.cell? ⟨w.heap.size, 0, none⟩ = some (.int .i64 4) := HS4.out.cell 0
    have s1 : w4.cell? ⟨w.heap.size, 1, none⟩ = some (.int .i64 7) := HS4.out.cell 1
    have s2 : w4.cell? ⟨w.heap.size, 2, none⟩ = some (.int .i64 vl) := HS4.out.cell 2
    have s3 : w4.cell? ⟨w.heap.size, 3, none⟩ = some (.slice A n c) := HS4.out.cell 3
    go_wp2_with fail
    refine hK.out _ _ ?_ (fun hHeld8 => ?_)
    · (try dsimp only)
      go_keep
    clear hK K
    try simp only [Act.put, List.setIfInBounds_toArray, List.set_cons_zero, List.set_cons_succ]
    refine wpAnyH_ready (rs := [8]) (by kernel_rfl) (by simp) ?_
    refine AllReadyH.cons rfl (fun K hK => ?_) AllReadyH.nil
    go_simp
    refine hK.out _ _ ?_ (fun hHeld9 => ?_)
    · (try dsimp only)
      go_keep
    clear hK K
    try simp only [Act.put, List.setIfInBounds_toArray, List.set_cons_zero, List.set_cons_succ]
    have bl := (Below.refl w4.heap.size w4).alloc (Nat.le_refl _) (.cells #[.int .i64 (2 * vl + x)] 2)
    have B4l := hide (below_trans B4.out bl)
    have O4l := hide (O4.out.below bl)
    have HS4l := hide (HS4.out.below bl)
    have HR4l := hide (HR4.out.below bl)
    clear bl s0 s1 s2 s3
    refine wpAnyH_ready (rs := [9]) (by kernel_rfl) (by simp) ?_
    refine AllReadyH.cons rfl (fun K hK => ?_) AllReadyH.nil
    refine step_append_new rfl _ _ rfl w.heap.size (by rfl) O4l.out _ 1 1 [2 * vl + x] (by rfl) (World.news_of_block (cs := #[.int .i64 (2 * vl + x)]) (heap_alloc_new w4 _)) rfl (by omega) (by omega) (by first | exact B4l.out.size | (have := B4l.out.size; simp <;> omega)) hi ?_
    intro A5 c5 w5 own5 gr5
    have HS5 := hide (HS4l.out.keepOwn O4l.out gr5)
    have HR5 := hide (HR4l.out.keepOwn O4l.out gr5)
    have B5 := hide (below_own B4l.out B4l.out.size O4l.out (Nat.le_refl _) gr5)
    clear gr5
    have s0 : w5.cell? ⟨w.heap.size, 0, none⟩ = some (.int .i64 4) := HS5.out.cell 0
    have s1 : w5.cell? ⟨w.heap.size, 1, none⟩ = some (.int .i64 7) := HS5.out.cell 1
    have s2 : w5.cell? ⟨w.heap.size, 2, none⟩ = some (.int .i64 vl) := HS5.out.cell 2
    have s3 : w5.cell? ⟨w.heap.size, 3, none⟩ = some (.slice A n c) := HS5.out.cell 3
    have r0 : w5.cell? ⟨w.heap.size + 1, 0, none⟩ = some (.int .i64 0) := HR5.out.cell 0
    have q0 : w5.frozen? ⟨w.heap.size + 1, 0, none⟩ = false := HR5.out.frozen 0
    have r1 : w5.cell? ⟨w.heap.size + 1, 1, none⟩ = some (.int .i64 0) := HR5.out.cell 1
    have q1 : w5.frozen? ⟨w.heap.size + 1, 1, none⟩ = false := HR5.out.frozen 1
    have r2 : w5.cell? ⟨w.heap.size + 1, 2, none⟩ = some (.int .i64 0) := HR5.out.cell 2
    have q2 : w5.frozen? ⟨w.heap.size + 1, 2, none⟩ = false := HR5.out.frozen 2
    have r3 : w5.cell? ⟨w.heap.size + 1, 3, none⟩ = some (.slice none 0 0) := HR5.out.cell 3
    have q3 : w5.frozen? ⟨w.heap.size + 1, 3, none⟩ = false := HR5.out.frozen 3
    refine hK.out _ _ ?_ (fun hHeld10 => ?_)
    · (try dsimp only)
      go_keep
    clear hK K
    try simp only [Act.put, List.setIfInBounds_toArray, List.set_cons_zero, List.set_cons_succ]
    refine wpAnyH_take (i := 10) (v := ?v11) rfl (by kernel_rfl) (by kernel_rfl) (by kernel_rfl) (fun _ _ _ h => h) (Or.inl ⟨by rfl, ?hy11⟩) (by assumption) ?rest11
    case hy11 => (intro wz hSw; (try dsimp only at hSw); go_simp; all_goals with_reducible rfl)
    try simp only [Act.put, List.setIfInBounds_toArray, List.set_cons_zero, List.set_cons_succ]
    refine wpAnyH_ready (rs := [11]) (by kernel_rfl) (by simp) ?_
    refine AllReadyH.cons rfl (fun K hK => ?_) AllReadyH.nil
    go_simp
    refine hK.out _ _ ?_ (fun hHeld12 => ?_)
    · (try dsimp only)
      go_keep
    clear hK K
    try simp only [Act.put, List.setIfInBounds_toArray, List.set_cons_zero, List.set_cons_succ]
    refine wpAnyH_done (by kernel_rfl) ?_ _
    go_wp2_with fail
    have fin := HR5.out.put4 (.int .i64 2) (.int .i64 0) (.int .i64 0) (.slice A5 (n + 1) c5)
    have hO := own5.set4 (g := w.heap.size + 1) ⟨_, HR5.out⟩ (.int .i64 2) (.int .i64 0) (.int .i64 0) (.slice A5 (n + 1) c5)
    have hB := below_set4 B5.out (g := w.heap.size + 1) (by omega) (.int .i64 2) (.int .i64 0) (.int .i64 0) (.slice A5 (n + 1) c5)
    have hres := fun (tmps : Array Value) (hp : tmps.getD 4 undef = .pointer (some ⟨w.heap.size + 1, 0, none⟩)) => results_scn (tmps := tmps) Try.results88 hp fin
    refine bodyPost_ret (hres _ rfl) rfl ?_
    exact ⟨A5, n + 1, c5, rfl, hO, hB, by omega⟩
  · go_simp
    refine hK.out _ _ ?_ (fun hHeld13 => ?_)
    · (try dsimp only)
      go_keep
    clear hK K
    try simp only [Act.put, List.setIfInBounds_toArray, List.set_cons_zero, List.set_cons_succ]
    have bl0 := ((Below.refl _ (w2.alloc (.cells #[.int .i64 7, .int .i64 7, .int .i64 vl, .slice A2 n c2] 30))).alloc (Nat.le_refl _) (.cells #[.int .i64 (2 * vl + x)] 2)).drew
    have bl : Below (w2.alloc (.cells #[.int .i64 7, .int .i64 7, .int .i64 vl, .slice A2 n c2] 30)).drew.heap.size (w2.alloc (.cells #[.int .i64 7, .int .i64 7, .int .i64 vl, .slice A2 n c2] 30)).drew ((w2.alloc (.cells #[.int .i64 7, .int .i64 7, .int .i64 vl, .slice A2 n c2] 30)).alloc (.cells #[.int .i64 (2 * vl + x)] 2)).drew := ⟨bl0.os, bl0.tape, bl0.output, bl0.size, bl0.block⟩
    have L3 : (((w2.alloc (.cells #[.int .i64 7, .int .i64 7, .int .i64 vl, .slice A2 n c2] 30)).alloc (.cells #[.int .i64 (2 * vl + x)] 2)).drew).heap[w2.heap.size + 1]? = some (.cells #[.int .i64 (2 * vl + x)] 2 (0, 0)) := by
      have := heap_alloc_new (w2.alloc (.cells #[.int .i64 7, .int .i64 7, .int .i64 vl, .slice A2 n c2] 30)) (.cells #[.int .i64 (2 * vl + x)] 2)
      rwa [show (w2.alloc (.cells #[.int .i64 7, .int .i64 7, .int .i64 vl, .slice A2 n c2] 30)).heap.size = w2.heap.size + 1 by simp] at this
    have HS3 := hide (ScnAt.below HS.out bl)
    have HR3 := hide (ScnAt.below HR.out bl)
    have B3l := hide (below_trans B3.out bl)
    have H3l := hide (H3.out.below bl)
    have L := hide L3
    clear bl bl0 L3
    refine wpAnyH_ready (rs := [2]) (by kernel_rfl) (by simp) ?_
    refine AllReadyH.cons rfl (fun K hK => ?_) AllReadyH.nil
    go_simp
    refine (l01Own_any A n c bs _ H3l.out hn).mono ?_
    rintro e w4 ⟨A4, c4, rfl, own4, b4⟩
    have HS4 := hide (HS3.out.below b4)
    have HR4 := hide (HR3.out.below b4)
    have B4 := hide (below_trans B3l.out b4)
    have O4 := hide (own4.mono (B' := w.heap.size) B3l.out.size)
    have L4 := hide ((b4.block (w2.heap.size + 1) (Array.getElem?_eq_some_iff.1 L.out).1).trans L.out)
    clear b4 own4
    have s0 : w4.cell? ⟨w.heap.size, 0, none⟩ = some (.int .i64 4) := HS4.out.cell 0
    have s1 : w4.cell? ⟨w.heap.size, 1, none⟩ = some (.int .i64 7) := HS4.out.cell 1
    have s2 : w4.cell? ⟨w.heap.size, 2, none⟩ = some (.int .i64 vl) := HS4.out.cell 2
    have s3 : w4.cell? ⟨w.heap.size, 3, none⟩ = some (.slice A n c) := HS4.out.cell 3
    go_wp2_with fail
    refine hK.out _ _ ?_ (fun hHeld14 => ?_)
    · (try dsimp only)
      go_keep
    clear hK K
    try simp only [Act.put, List.setIfInBounds_toArray, List.set_cons_zero, List.set_cons_succ]
    clear s0 s1 s2 s3
    refine wpAnyH_ready (rs := [9]) (by kernel_rfl) (by simp) ?_
    refine AllReadyH.cons rfl (fun K hK => ?_) AllReadyH.nil
    refine step_append_new rfl _ _ rfl w.heap.size (by rfl) O4.out _ 1 1 [2 * vl + x] (by rfl) (World.news_of_block (cs := #[.int .i64 (2 * vl + x)]) L4.out) rfl (by omega) (by omega) (by first | exact B4.out.size | (have := B4.out.size; simp <;> omega)) hi ?_
    intro A5 c5 w5 own5 gr5
    have HS5 := hide (HS4.out.keepOwn O4.out gr5)
    have HR5 := hide (HR4.out.keepOwn O4.out gr5)
    have B5 := hide (below_own B4.out B4.out.size O4.out (Nat.le_refl _) gr5)
    clear gr5
    have s0 : w5.cell? ⟨w.heap.size, 0, none⟩ = some (.int .i64 4) := HS5.out.cell 0
    have s1 : w5.cell? ⟨w.heap.size, 1, none⟩ = some (.int .i64 7) := HS5.out.cell 1
    have s2 : w5.cell? ⟨w.heap.size, 2, none⟩ = some (.int .i64 vl) := HS5.out.cell 2
    have s3 : w5.cell? ⟨w.heap.size, 3, none⟩ = some (.slice A n c) := HS5.out.cell 3
    have r0 : w5.cell? ⟨w.heap.size + 1, 0, none⟩ = some (.int .i64 0) := HR5.out.cell 0
    have q0 : w5.frozen? ⟨w.heap.size + 1, 0, none⟩ = false := HR5.out.frozen 0
    have r1 : w5.cell? ⟨w.heap.size + 1, 1, none⟩ = some (.int .i64 0) := HR5.out.cell 1
    have q1 : w5.frozen? ⟨w.heap.size + 1, 1, none⟩ = false := HR5.out.frozen 1
    have r2 : w5.cell? ⟨w.heap.size + 1, 2, none⟩ = some (.int .i64 0) := HR5.out.cell 2
    have q2 : w5.frozen? ⟨w.heap.size + 1, 2, none⟩ = false := HR5.out.frozen 2
    have r3 : w5.cell? ⟨w.heap.size + 1, 3, none⟩ = some (.slice none 0 0) := HR5.out.cell 3
    have q3 : w5.frozen? ⟨w.heap.size + 1, 3, none⟩ = false := HR5.out.frozen 3
    refine hK.out _ _ ?_ (fun hHeld15 => ?_)
    · (try dsimp only)
      go_keep
    clear hK K
    try simp only [Act.put, List.setIfInBounds_toArray, List.set_cons_zero, List.set_cons_succ]
    refine wpAnyH_take (i := 10) (v := ?v16) rfl (by kernel_rfl) (by kernel_rfl) (by kernel_rfl) (fun _ _ _ h => h) (Or.inl ⟨by rfl, ?hy16⟩) (by assumption) ?rest16
    case hy16 => (intro wz hSw; (try dsimp only at hSw); go_simp; all_goals with_reducible rfl)
    try simp only [Act.put, List.setIfInBounds_toArray, List.set_cons_zero, List.set_cons_succ]
    refine wpAnyH_ready (rs := [11]) (by kernel_rfl) (by simp) ?_
    refine AllReadyH.cons rfl (fun K hK => ?_) AllReadyH.nil
    go_simp
    refine hK.out _ _ ?_ (fun hHeld17 => ?_)
    · (try dsimp only)
      go_keep
    clear hK K
    try simp only [Act.put, List.setIfInBounds_toArray, List.set_cons_zero, List.set_cons_succ]
    refine wpAnyH_done (by kernel_rfl) ?_ _
    go_wp2_with fail
    have fin := HR5.out.put4 (.int .i64 2) (.int .i64 0) (.int .i64 0) (.slice A5 (n + 1) c5)
    have hO := own5.set4 (g := w.heap.size + 1) ⟨_, HR5.out⟩ (.int .i64 2) (.int .i64 0) (.int .i64 0) (.slice A5 (n + 1) c5)
    have hB := below_set4 B5.out (g := w.heap.size + 1) (by omega) (.int .i64 2) (.int .i64 0) (.int .i64 0) (.slice A5 (n + 1) c5)
    have hres := fun (tmps : Array Value) (hp : tmps.getD 4 undef = .pointer (some ⟨w.heap.size + 1, 0, none⟩)) => results_scn (tmps := tmps) Try.results88 hp fin
    refine bodyPost_ret (hres _ rfl) rfl ?_
    exact ⟨A5, n + 1, c5, rfl, hO, hB, by omega⟩
end Go.Proofs.Ytdodhjahihfaiaa
