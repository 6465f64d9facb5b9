/- Contracts: a scan's next cell, by the reference: behind a byte. Written by a program. -/
import Derived.Test.YtdodhjahihfaiaaScanE
import Derived.Deep.RegionHeld3
namespace Go.Proofs.Ytdodhjahihfaiaa
open Go.RowKit
set_option linter.unusedVariables false
set_option linter.unusedSimpArgs false

set_option maxHeartbeats 3200000 in
theorem sstep20 (ct vl : Int) (bs : List Int) (A : Option Addr) (n c : Nat) (w : World) (h : Rd w A n c bs) (hct : 0 ≤ ct ∧ ct ≤ 15) (hvl : 0 ≤ vl ∧ vl ≤ 255) (hn : n ≤ 1048576) :
    Calls Try.prog 88 #[.agg #[.int .i64 2, .int .i64 ct, .int .i64 vl, .slice A n c], .int .i64 0] w (SpecOut ⟨5, ct, vl, bs⟩ n w) := by
  have W0 := hide (show Below w.heap.size w ((w.alloc (.cells #[.int .i64 2, .int .i64 ct, .int .i64 vl, .slice A n c] 30)).alloc (.cells #[.int .i64 0, .int .i64 0, .int .i64 0, .slice none 0 0] 30)) by (repeat (first | exact Below.refl _ _ | (refine Below.alloc ?_ (by simp <;> omega) _) | (refine Below.setCell ?_ (by simp <;> omega) _))))
  have S0 := hide ((ScnAt.fresh w #[.int .i64 2, .int .i64 ct, .int .i64 vl, .slice A n c]).below ((Below.refl _ _).alloc (Nat.le_refl _) (.cells #[.int .i64 0, .int .i64 0, .int .i64 0, .slice none 0 0] 30)))
  have R0 := hide (ScnAt.fresh1 w (.cells #[.int .i64 2, .int .i64 ct, .int .i64 vl, .slice A n c] 30) #[.int .i64 0, .int .i64 0, .int .i64 0, .slice none 0 0])
  have H0 := hide (h.below W0.out)
  clear h
  go_enter Try.func88, Try.ntmps88
  go_wp2_with fail
  refine (l19To_any _ _ _ _ _ _ A n c bs _ H0.out hn).mono ?_
  rintro e w2 ⟨A2, c2, rfl, own2, b2⟩
  have b3 := (Below.refl w2.heap.size w2).alloc (Nat.le_refl _) (.cells #[.int .i64 7, .int .i64 ct, .int .i64 vl, .slice A2 n c2] 30)
  have b5 := (Below.refl _ (w2.alloc (.cells #[.int .i64 7, .int .i64 ct, .int .i64 vl, .slice A2 n c2] 30))).alloc (Nat.le_refl _) (.cells #[.int .i64 5, .int .i64 3] 2)
  replace b5 := b5.drew
  have HS := hide (((S0.out.below b2).below b3).below b5)
  have HR := hide (((R0.out.below b2).below b3).below b5)
  have B3 := hide (below_trans (below_trans (below_trans W0.out b2) b3) b5)
  have H3 := hide (((H0.out.below b2).below b3).below b5)
  have hl0 : w.heap.size < w2.heap.size := (S0.out.below b2).lt
  have hl1 : w.heap.size + 1 < w2.heap.size := (R0.out.below b2).lt
  have c0 : w2.cell? ⟨w.heap.size, 0, none⟩ = some (.int .i64 2) := (S0.out.below b2).cell 0
  have c1 : w2.cell? ⟨w.heap.size, 1, none⟩ = some (.int .i64 ct) := (S0.out.below b2).cell 1
  have c2' : w2.cell? ⟨w.heap.size, 2, none⟩ = some (.int .i64 vl) := (S0.out.below b2).cell 2
  have c3 : w2.cell? ⟨w.heap.size, 3, none⟩ = some (.slice A n c) := (S0.out.below b2).cell 3
  clear b2 b3 b5 own2
  go_wp2_with fail
  refine wp_region_held_drew (S := (fun w' => w'.cell? ⟨w.heap.size, 0, none⟩ = some (.int .i64 2) ∧ w'.cell? ⟨w.heap.size, 1, none⟩ = some (.int .i64 ct) ∧ w'.cell? ⟨w.heap.size, 2, none⟩ = some (.int .i64 vl) ∧ w'.cell? ⟨w.heap.size, 3, none⟩ = some (.slice A n c))) (by kernel_rfl) ?_ (fun hHeld => ?_)
  · (try dsimp only)
    go_keep
  refine wpAnyH_take (i := 0) (v := ?v0) rfl (by kernel_rfl) (by kernel_rfl) (by kernel_rfl) (fun _ _ _ h => h) (Or.inl ⟨by rfl, ?hy0⟩) (by assumption) ?rest0
  case hy0 => (intro wz hSw; (try dsimp only at hSw); go_simp; all_goals with_reducible rfl)
  try simp only [Act.put, List.setIfInBounds_toArray, List.set_cons_zero, List.set_cons_succ]
  refine wpAnyH_take (i := 2) (v := ?v2) rfl (by kernel_rfl) (by kernel_rfl) (by kernel_rfl) (fun _ _ _ h => h) (Or.inl ⟨by rfl, ?hy2⟩) (by assumption) ?rest2
  case hy2 => (intro wz hSw; (try dsimp only at hSw); go_simp; all_goals with_reducible rfl)
  try simp only [Act.put, List.setIfInBounds_toArray, List.set_cons_zero, List.set_cons_succ]
  refine wpAnyH_take (i := 5) (v := ?v5) rfl (by kernel_rfl) (by kernel_rfl) (by kernel_rfl) (fun _ _ _ h => h) (Or.inl ⟨by rfl, ?hy5⟩) (by assumption) ?rest5
  case hy5 => (intro wz hSw; (try dsimp only at hSw); go_simp; all_goals with_reducible rfl)
  try simp only [Act.put, List.setIfInBounds_toArray, List.set_cons_zero, List.set_cons_succ]
  refine wpAnyH_take (i := 6) (v := ?v6) rfl (by kernel_rfl) (by kernel_rfl) (by kernel_rfl) (fun _ _ _ h => h) (Or.inl ⟨by rfl, ?hy6⟩) (by assumption) ?rest6
  case hy6 => (intro wz hSw; (try dsimp only at hSw); go_simp; all_goals with_reducible rfl)
  try simp only [Act.put, List.setIfInBounds_toArray, List.set_cons_zero, List.set_cons_succ]
  refine wpAnyH_take (i := 7) (v := ?v7) rfl (by kernel_rfl) (by kernel_rfl) (by kernel_rfl) (fun _ _ _ h => h) (Or.inl ⟨by rfl, ?hy7⟩) (by assumption) ?rest7
  case hy7 => (intro wz hSw; (try dsimp only at hSw); go_simp; all_goals with_reducible rfl)
  try simp only [Act.put, List.setIfInBounds_toArray, List.set_cons_zero, List.set_cons_succ]
  refine wpAnyH_take (i := 8) (v := ?v8) rfl (by kernel_rfl) (by kernel_rfl) (by kernel_rfl) (fun _ _ _ h => h) (Or.inl ⟨by rfl, ?hy8⟩) (by assumption) ?rest8
  case hy8 => (intro wz hSw; (try dsimp only at hSw); go_simp; all_goals with_reducible rfl)
  try simp only [Act.put, List.setIfInBounds_toArray, List.set_cons_zero, List.set_cons_succ]
  refine wpAnyH_ready (rs := [1]) (by kernel_rfl) (by simp) ?_
  refine AllReadyH.cons rfl (fun K hK => ?_) AllReadyH.nil
  go_simp
  refine hK.out _ _ ?_ (fun hHeld1 => ?_)
  · (try dsimp only)
    go_keep
  clear hK K
  try simp only [Act.put, List.setIfInBounds_toArray, List.set_cons_zero, List.set_cons_succ]
  refine wpAnyH_take (i := 3) (v := ?v3) rfl (by kernel_rfl) (by kernel_rfl) (by kernel_rfl) (fun _ _ _ h => h) (Or.inl ⟨by rfl, ?hy3⟩) (by assumption) ?rest3
  case hy3 => (intro wz hSw; (try dsimp only at hSw); go_simp; all_goals with_reducible rfl)
  try simp only [Act.put, List.setIfInBounds_toArray, List.set_cons_zero, List.set_cons_succ]
  refine wpAnyH_ready (rs := [4]) (by kernel_rfl) (by simp) ?_
  refine AllReadyH.cons rfl (fun K hK => ?_) AllReadyH.nil
  go_simp
  refine hK.out _ _ ?_ (fun hHeld4 => ?_)
  · (try dsimp only)
    go_keep
  clear hK K
  try simp only [Act.put, List.setIfInBounds_toArray, List.set_cons_zero, List.set_cons_succ]
  refine wpAnyH_ready (rs := [9]) (by kernel_rfl) (by simp) ?_
  refine AllReadyH.cons rfl (fun K hK => ?_) AllReadyH.nil
  go_simp
  (go_at_call 91; (with_reducible refine (l19To_any _ _ _ _ _ _ A n c bs _ H3.out hn).mono ?_); rintro e w4 ⟨A4, c4, rfl, own4, b4⟩; have HR4 := hide (HR.out.below b4); have B4 := hide (below_trans B3.out b4); have O4 := hide (own4.mono (B' := w.heap.size) B3.out.size); have r0 : w4.cell? ⟨w.heap.size + 1, 0, none⟩ = some (.int .i64 0) := HR4.out.cell 0; have r1 : w4.cell? ⟨w.heap.size + 1, 1, none⟩ = some (.int .i64 0) := HR4.out.cell 1; have r2 : w4.cell? ⟨w.heap.size + 1, 2, none⟩ = some (.int .i64 0) := HR4.out.cell 2; have r3 : w4.cell? ⟨w.heap.size + 1, 3, none⟩ = some (.slice none 0 0) := HR4.out.cell 3; have q0 := HR4.out.frozen 0; have q1 := HR4.out.frozen 1; have q2 := HR4.out.frozen 2; have q3 := HR4.out.frozen 3; have HS4 := HS.out.below b4; have s0 : w4.cell? ⟨w.heap.size, 0, none⟩ = some (.int .i64 2) := HS4.cell 0; have s1 : w4.cell? ⟨w.heap.size, 1, none⟩ = some (.int .i64 ct) := HS4.cell 1; have s2 : w4.cell? ⟨w.heap.size, 2, none⟩ = some (.int .i64 vl) := HS4.cell 2; have s3 : w4.cell? ⟨w.heap.size, 3, none⟩ = some (.slice A n c) := HS4.cell 3; clear HS4)
  go_wp2_with fail
  refine hK.out _ _ ?_ (fun hHeld9 => ?_)
  · (try dsimp only)
    go_keep
  clear hK K
  try simp only [Act.put, List.setIfInBounds_toArray, List.set_cons_zero, List.set_cons_succ]
  refine wpAnyH_ready (rs := [10]) (by kernel_rfl) (by simp) ?_
  refine AllReadyH.cons rfl (fun K hK => ?_) AllReadyH.nil
  go_simp
  refine hK.out _ _ ?_ (fun hHeld10 => ?_)
  · (try dsimp only)
    go_keep
  clear hK K
  try simp only [Act.put, List.setIfInBounds_toArray, List.set_cons_zero, List.set_cons_succ]
  refine wpAnyH_done (by kernel_rfl) ?_ _
  all_goals
    go_wp2_with fail
    have fin := HR4.out.put4 (.int .i64 5) (.int .i64 ct) (.int .i64 vl) (.slice A4 n c4)
    have hO := O4.out.set4 (g := w.heap.size + 1) ⟨_, HR4.out⟩ (.int .i64 5) (.int .i64 ct) (.int .i64 vl) (.slice A4 n c4)
    have hB := below_set4 B4.out (g := w.heap.size + 1) (by omega) (.int .i64 5) (.int .i64 ct) (.int .i64 vl) (.slice A4 n c4)
    have hres := fun (tmps : Array Value) (hp : tmps.getD 4 undef = .pointer (some ⟨w.heap.size + 1, 0, none⟩)) => results_scn (tmps := tmps) Try.results88 hp fin
    refine bodyPost_ret (hres _ rfl) rfl ?_
    exact ⟨A4, n, c4, rfl, hO, hB, by omega⟩

set_option maxHeartbeats 3200000 in
theorem sstep21 (ct vl : Int) (bs : List Int) (A : Option Addr) (n c : Nat) (w : World) (h : Rd w A n c bs) (hct : 0 ≤ ct ∧ ct ≤ 15) (hvl : 0 ≤ vl ∧ vl ≤ 255) (hn : n ≤ 1048576) :
    Calls Try.prog 88 #[.agg #[.int .i64 2, .int .i64 ct, .int .i64 vl, .slice A n c], .int .i64 1] w (SpecOut ⟨3, ct, vl, bs⟩ n w) := by
  have W0 := hide (show Below w.heap.size w ((w.alloc (.cells #[.int .i64 2, .int .i64 ct, .int .i64 vl, .slice A n c] 30)).alloc (.cells #[.int .i64 0, .int .i64 0, .int .i64 0, .slice none 0 0] 30)) by (repeat (first | exact Below.refl _ _ | (refine Below.alloc ?_ (by simp <;> omega) _) | (refine Below.setCell ?_ (by simp <;> omega) _))))
  have S0 := hide ((ScnAt.fresh w #[.int .i64 2, .int .i64 ct, .int .i64 vl, .slice A n c]).below ((Below.refl _ _).alloc (Nat.le_refl _) (.cells #[.int .i64 0, .int .i64 0, .int .i64 0, .slice none 0 0] 30)))
  have R0 := hide (ScnAt.fresh1 w (.cells #[.int .i64 2, .int .i64 ct, .int .i64 vl, .slice A n c] 30) #[.int .i64 0, .int .i64 0, .int .i64 0, .slice none 0 0])
  have H0 := hide (h.below W0.out)
  clear h
  go_enter Try.func88, Try.ntmps88
  go_wp2_with fail
  refine (l19To_any _ _ _ _ _ _ A n c bs _ H0.out hn).mono ?_
  rintro e w2 ⟨A2, c2, rfl, own2, b2⟩
  have b3 := (Below.refl w2.heap.size w2).alloc (Nat.le_refl _) (.cells #[.int .i64 7, .int .i64 ct, .int .i64 vl, .slice A2 n c2] 30)
  have b5 := (Below.refl _ (w2.alloc (.cells #[.int .i64 7, .int .i64 ct, .int .i64 vl, .slice A2 n c2] 30))).alloc (Nat.le_refl _) (.cells #[.int .i64 5, .int .i64 3] 2)
  replace b5 := b5.drew
  have HS := hide (((S0.out.below b2).below b3).below b5)
  have HR := hide (((R0.out.below b2).below b3).below b5)
  have B3 := hide (below_trans (below_trans (below_trans W0.out b2) b3) b5)
  have H3 := hide (((H0.out.below b2).below b3).below b5)
  have hl0 : w.heap.size < w2.heap.size := (S0.out.below b2).lt
  have hl1 : w.heap.size + 1 < w2.heap.size := (R0.out.below b2).lt
  have c0 : w2.cell? ⟨w.heap.size, 0, none⟩ = some (.int .i64 2) := (S0.out.below b2).cell 0
  have c1 : w2.cell? ⟨w.heap.size, 1, none⟩ = some (.int .i64 ct) := (S0.out.below b2).cell 1
  have c2' : w2.cell? ⟨w.heap.size, 2, none⟩ = some (.int .i64 vl) := (S0.out.below b2).cell 2
  have c3 : w2.cell? ⟨w.heap.size, 3, none⟩ = some (.slice A n c) := (S0.out.below b2).cell 3
  clear b2 b3 b5 own2
  go_wp2_with fail
  refine wp_region_held_drew (S := (fun w' => w'.cell? ⟨w.heap.size, 0, none⟩ = some (.int .i64 2) ∧ w'.cell? ⟨w.heap.size, 1, none⟩ = some (.int .i64 ct) ∧ w'.cell? ⟨w.heap.size, 2, none⟩ = some (.int .i64 vl) ∧ w'.cell? ⟨w.heap.size, 3, none⟩ = some (.slice A n c))) (by kernel_rfl) ?_ (fun hHeld => ?_)
  · (try dsimp only)
    go_keep
  refine wpAnyH_take (i := 0) (v := ?v0) rfl (by kernel_rfl) (by kernel_rfl) (by kernel_rfl) (fun _ _ _ h => h) (Or.inl ⟨by rfl, ?hy0⟩) (by assumption) ?rest0
  case hy0 => (intro wz hSw; (try dsimp only at hSw); go_simp; all_goals with_reducible rfl)
  try simp only [Act.put, List.setIfInBounds_toArray, List.set_cons_zero, List.set_cons_succ]
  refine wpAnyH_take (i := 2) (v := ?v2) rfl (by kernel_rfl) (by kernel_rfl) (by kernel_rfl) (fun _ _ _ h => h) (Or.inl ⟨by rfl, ?hy2⟩) (by assumption) ?rest2
  case hy2 => (intro wz hSw; (try dsimp only at hSw); go_simp; all_goals with_reducible rfl)
  try simp only [Act.put, List.setIfInBounds_toArray, List.set_cons_zero, List.set_cons_succ]
  refine wpAnyH_take (i := 5) (v := ?v5) rfl (by kernel_rfl) (by kernel_rfl) (by kernel_rfl) (fun _ _ _ h => h) (Or.inl ⟨by rfl, ?hy5⟩) (by assumption) ?rest5
  case hy5 => (intro wz hSw; (try dsimp only at hSw); go_simp; all_goals with_reducible rfl)
  try simp only [Act.put, List.setIfInBounds_toArray, List.set_cons_zero, List.set_cons_succ]
  refine wpAnyH_take (i := 6) (v := ?v6) rfl (by kernel_rfl) (by kernel_rfl) (by kernel_rfl) (fun _ _ _ h => h) (Or.inl ⟨by rfl, ?hy6⟩) (by assumption) ?rest6
  case hy6 => (intro wz hSw; (try dsimp only at hSw); go_simp; all_goals with_reducible rfl)
  try simp only [Act.put, List.setIfInBounds_toArray, List.set_cons_zero, List.set_cons_succ]
  refine wpAnyH_take (i := 7) (v := ?v7) rfl (by kernel_rfl) (by kernel_rfl) (by kernel_rfl) (fun _ _ _ h => h) (Or.inl ⟨by rfl, ?hy7⟩) (by assumption) ?rest7
  case hy7 => (intro wz hSw; (try dsimp only at hSw); go_simp; all_goals with_reducible rfl)
  try simp only [Act.put, List.setIfInBounds_toArray, List.set_cons_zero, List.set_cons_succ]
  refine wpAnyH_take (i := 8) (v := ?v8) rfl (by kernel_rfl) (by kernel_rfl) (by kernel_rfl) (fun _ _ _ h => h) (Or.inl ⟨by rfl, ?hy8⟩) (by assumption) ?rest8
  case hy8 => (intro wz hSw; (try dsimp only at hSw); go_simp; all_goals with_reducible rfl)
  try simp only [Act.put, List.setIfInBounds_toArray, List.set_cons_zero, List.set_cons_succ]
  refine wpAnyH_ready (rs := [1]) (by kernel_rfl) (by simp) ?_
  refine AllReadyH.cons rfl (fun K hK => ?_) AllReadyH.nil
  go_simp
  refine hK.out _ _ ?_ (fun hHeld1 => ?_)
  · (try dsimp only)
    go_keep
  clear hK K
  try simp only [Act.put, List.setIfInBounds_toArray, List.set_cons_zero, List.set_cons_succ]
  refine wpAnyH_take (i := 3) (v := ?v3) rfl (by kernel_rfl) (by kernel_rfl) (by kernel_rfl) (fun _ _ _ h => h) (Or.inl ⟨by rfl, ?hy3⟩) (by assumption) ?rest3
  case hy3 => (intro wz hSw; (try dsimp only at hSw); go_simp; all_goals with_reducible rfl)
  try simp only [Act.put, List.setIfInBounds_toArray, List.set_cons_zero, List.set_cons_succ]
  refine wpAnyH_ready (rs := [4]) (by kernel_rfl) (by simp) ?_
  refine AllReadyH.cons rfl (fun K hK => ?_) AllReadyH.nil
  go_simp
  refine hK.out _ _ ?_ (fun hHeld4 => ?_)
  · (try dsimp only)
    go_keep
  clear hK K
  try simp only [Act.put, List.setIfInBounds_toArray, List.set_cons_zero, List.set_cons_succ]
  refine wpAnyH_ready (rs := [9]) (by kernel_rfl) (by simp) ?_
  refine AllReadyH.cons rfl (fun K hK => ?_) AllReadyH.nil
  go_simp
  (go_at_call 91; (with_reducible refine (l19To_any _ _ _ _ _ _ A n c bs _ H3.out hn).mono ?_); rintro e w4 ⟨A4, c4, rfl, own4, b4⟩; have HR4 := hide (HR.out.below b4); have B4 := hide (below_trans B3.out b4); have O4 := hide (own4.mono (B' := w.heap.size) B3.out.size); have r0 : w4.cell? ⟨w.heap.size + 1, 0, none⟩ = some (.int .i64 0) := HR4.out.cell 0; have r1 : w4.cell? ⟨w.heap.size + 1, 1, none⟩ = some (.int .i64 0) := HR4.out.cell 1; have r2 : w4.cell? ⟨w.heap.size + 1, 2, none⟩ = some (.int .i64 0) := HR4.out.cell 2; have r3 : w4.cell? ⟨w.heap.size + 1, 3, none⟩ = some (.slice none 0 0) := HR4.out.cell 3; have q0 := HR4.out.frozen 0; have q1 := HR4.out.frozen 1; have q2 := HR4.out.frozen 2; have q3 := HR4.out.frozen 3; have HS4 := HS.out.below b4; have s0 : w4.cell? ⟨w.heap.size, 0, none⟩ = some (.int .i64 2) := HS4.cell 0; have s1 : w4.cell? ⟨w.heap.size, 1, none⟩ = some (.int .i64 ct) := HS4.cell 1; have s2 : w4.cell? ⟨w.heap.size, 2, none⟩ = some (.int .i64 vl) := HS4.cell 2; have s3 : w4.cell? ⟨w.heap.size, 3, none⟩ = some (.slice A n c) := HS4.cell 3; clear HS4)
  go_wp2_with fail
  refine hK.out _ _ ?_ (fun hHeld9 => ?_)
  · (try dsimp only)
    go_keep
  clear hK K
  try simp only [Act.put, List.setIfInBounds_toArray, List.set_cons_zero, List.set_cons_succ]
  refine wpAnyH_ready (rs := [10]) (by kernel_rfl) (by simp) ?_
  refine AllReadyH.cons rfl (fun K hK => ?_) AllReadyH.nil
  go_simp
  refine hK.out _ _ ?_ (fun hHeld10 => ?_)
  · (try dsimp only)
    go_keep
  clear hK K
  try simp only [Act.put, List.setIfInBounds_toArray, List.set_cons_zero, List.set_cons_succ]
  refine wpAnyH_done (by kernel_rfl) ?_ _
  all_goals
    go_wp2_with fail
    have fin := HR4.out.put4 (.int .i64 3) (.int .i64 ct) (.int .i64 vl) (.slice A4 n c4)
    have hO := O4.out.set4 (g := w.heap.size + 1) ⟨_, HR4.out⟩ (.int .i64 3) (.int .i64 ct) (.int .i64 vl) (.slice A4 n c4)
    have hB := below_set4 B4.out (g := w.heap.size + 1) (by omega) (.int .i64 3) (.int .i64 ct) (.int .i64 vl) (.slice A4 n c4)
    have hres := fun (tmps : Array Value) (hp : tmps.getD 4 undef = .pointer (some ⟨w.heap.size + 1, 0, none⟩)) => results_scn (tmps := tmps) Try.results88 hp fin
    refine bodyPost_ret (hres _ rfl) rfl ?_
    exact ⟨A4, n, c4, rfl, hO, hB, by omega⟩

end Go.Proofs.Ytdodhjahihfaiaa
