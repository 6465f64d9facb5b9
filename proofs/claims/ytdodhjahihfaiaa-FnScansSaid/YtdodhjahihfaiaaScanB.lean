/- Contracts: a scan by value: its next cell, by the program: a byte is complete. -/
import Derived.Test.YtdodhjahihfaiaaScanA
namespace Go.Proofs.Ytdodhjahihfaiaa
open Go.RowKit
set_option linter.unusedVariables false
set_option linter.unusedSimpArgs false

/-- a block holds a scan -/
def ScnAt (w : World) (g : Nat) (cs : Array Value) : Prop := w.heap[g]? = some (.cells cs 30 (0, 0))
theorem ScnAt.lt {w : World} {g : Nat} {cs : Array Value} (h : ScnAt w g cs) : g < w.heap.size := (Array.getElem?_eq_some_iff.1 h).1
theorem ScnAt.cell {w : World} {g : Nat} {cs : Array Value} (h : ScnAt w g cs) (i : Nat) : w.cell? ⟨g, i, none⟩ = cs[i]? := cell_of_row w g i _ _ (0, 0) h
theorem ScnAt.frozen {w : World} {g : Nat} {cs : Array Value} (h : ScnAt w g cs) (i : Nat) : w.frozen? ⟨g, i, none⟩ = false := frozen_of_row w g i _ _ h
theorem Own.notScn {w : World} {g : Nat} {cs : Array Value} {B m d : Nat} {A' : Option Addr} {zs : List Int} (h : Own w B A' m d zs) (hs : ScnAt w g cs) : (Value.slice A' m d).ownBlock ≠ some g := by
  rcases h.1.2 with ⟨hv, _⟩ | ⟨g', cap, cur, hv, _, hh, _⟩
  · rw [hv]; simp [Value.ownBlock]
  · rw [hv]
    intro e
    simp [Value.ownBlock] at e
    subst e
    unfold ScnAt at hs
    rw [hs] at hh
    simp at hh
theorem Own.keepScn {w w' : World} {g : Nat} {cs : Array Value} {B m d : Nat} {A' : Option Addr} {zs : List Int} (h : Own w B A' m d zs) (hs : ScnAt w g cs) (hg : w.grownBy w' (some g)) : Own w' B A' m d zs :=
  h.keepG hg (.inr (h.notScn hs))
theorem ScnAt.keepOwn {w w' : World} {g : Nat} {cs : Array Value} {B m d : Nat} {A' : Option Addr} {zs : List Int} (hs : ScnAt w g cs) (h : Own w B A' m d zs) (hg : w.grownBy w' (Value.slice A' m d).ownBlock) : ScnAt w' g cs :=
  (hg.block g hs.lt (fun e => h.notScn hs e.symm)).trans hs
theorem ScnAt.fresh (w : World) (cs : Array Value) : ScnAt (w.alloc (.cells cs 30)) w.heap.size cs := by
  unfold ScnAt World.alloc
  simp
theorem ScnAt.fresh1 (w : World) (o : Obj) (cs : Array Value) : ScnAt ((w.alloc o).alloc (.cells cs 30)) (w.heap.size + 1) cs := by
  have h := ScnAt.fresh (w.alloc o) cs
  rwa [show (w.alloc o).heap.size = w.heap.size + 1 by simp] at h
theorem ScnAt.put4 {w : World} {g : Nat} {p q r t : Value} (h : ScnAt w g #[p, q, r, t]) (a b c d : Value) : ScnAt ((((w.setCell ⟨g, 0, none⟩ a).setCell ⟨g, 1, none⟩ b).setCell ⟨g, 2, none⟩ c).setCell ⟨g, 3, none⟩ d) g #[a, b, c, d] := by
  unfold ScnAt at h ⊢
  have h1 := heap_setCell_same w g 0 _ _ a h
  have h2 := heap_setCell_same _ g 1 _ _ b h1
  have h3 := heap_setCell_same _ g 2 _ _ c h2
  exact heap_setCell_same _ g 3 _ _ d h3
theorem ScnAt.other {w : World} {g g' : Nat} {cs : Array Value} (h : ScnAt w g cs) (hne : g ≠ g') (i : Nat) (u : Value) : ScnAt (w.setCell ⟨g', i, none⟩ u) g cs := (heap_setCell_other w ⟨g', i, none⟩ g u (fun x => hne x)).trans h
theorem results_scn {fn : Func} {t : Tmp} (h : fn.results = #[.cell t 30]) {tmps : Array Value} {w : World} {g : Nat} {a b c d : Value} (hp : tmps.getD t undef = .pointer (some ⟨g, 0, none⟩)) (hs : ScnAt w g #[a, b, c, d]) :
    (results fn tmps).run Try.prog w = .ok (.agg #[a, b, c, d]) w := by
  have d0 : w.cell? ⟨g, 0, none⟩ = some a := hs.cell 0
  have d1 : w.cell? ⟨g, 1, none⟩ = some b := hs.cell 1
  have d2 : w.cell? ⟨g, 2, none⟩ = some c := hs.cell 2
  have d3 : w.cell? ⟨g, 3, none⟩ = some d := hs.cell 3
  rw [Array.getD_eq_getD_getElem?] at hp
  simp [results, h, hp, go_sem, d0, d1, d2, d3]
theorem ScnAt.set {w : World} {g : Nat} (h : ∃ cs, ScnAt w g cs) (g' i : Nat) (u : Value) : ∃ cs, ScnAt (w.setCell ⟨g', i, none⟩ u) g cs := by
  obtain ⟨cs, h⟩ := h
  by_cases e : g' = g
  · subst e
    unfold ScnAt at h ⊢
    rw [heap_setCell_same w g' i _ _ _ h]
    exact ⟨_, rfl⟩
  · exact ⟨cs, (heap_setCell_other w ⟨g', i, none⟩ g u (fun x => e x.symm)).trans h⟩
theorem Own.setScn {w : World} {g : Nat} {B m d : Nat} {A' : Option Addr} {zs : List Int} (h : Own w B A' m d zs) (hs : ∃ cs, ScnAt w g cs) (i : Nat) (u : Value) : Own (w.setCell ⟨g, i, none⟩ u) B A' m d zs := by
  obtain ⟨cs, hs⟩ := hs
  exact h.keepScn hs (grown_set w g i u)
theorem grown_setNew {w w' : World} {row : Option Nat} (h : w.grownBy w' row) {g : Nat} (hg : w.heap.size ≤ g) (i : Nat) (u : Value) : w.grownBy (w'.setCell ⟨g, i, none⟩ u) row := by
  refine ⟨h.os, h.tape, h.output, by simpa using h.size, fun k hk hne => (heap_setCell_other w' ⟨g, i, none⟩ k u (fun e => ?_)).trans (h.block k hk hne)⟩
  simp at e
  omega
theorem grown_after {w w1 w2 : World} {row : Option Nat} (hb : Below w.heap.size w w1) (hg : w1.grownBy w2 row) : w.grownBy w2 row :=
  ⟨hg.os.trans hb.os, hg.tape.trans hb.tape, hg.output.trans hb.output, Nat.le_trans hb.size hg.size, fun k hk hne => (hg.block k (Nat.lt_of_lt_of_le hk hb.size) hne).trans (hb.block k hk)⟩
theorem ScnAt.below {w w' : World} {g : Nat} {cs : Array Value} (h : ScnAt w g cs) (hb : Below w.heap.size w w') : ScnAt w' g cs := (hb.block g h.lt).trans h
set_option maxHeartbeats 1600000 in
theorem step4n (B : Nat) (vl : Int) (bs : List Int) (x : Int) (A : Option Addr) (n c : Nat) (w : World) (hown : Own w B A n c bs) (hB : B ≤ w.heap.size) (hvl : 0 ≤ vl ∧ vl ≤ 255) (hn : n ≤ 1048576) (hx : x = 0 ∨ x = 1) :
    Calls Try.prog 94 #[.agg #[.int .i64 4, .int .i64 7, .int .i64 vl, .slice A n c], .int .i64 x] w (StepOut B ⟨2, 0, 0, bs ++ [2 * vl + x]⟩ A n c w) := by
  have hx1 : 0 ≤ x ∧ x ≤ 1 := by omega
  have hi : I64 [2 * vl + x] := I64.one (by omega) (by omega)
  go_enter Try.func94, Try.ntmps94
  have hb0 := Below.refl w.heap.size w
  have hs0 := ((ScnAt.fresh w #[.int .i64 4, .int .i64 8, .int .i64 (2 * vl + x), .slice A n c]).below ((Below.refl _ _).alloc (Nat.le_refl _) (.cells #[.int .i64 0, .int .i64 0, .int .i64 0, .slice none 0 0] 30)))
  have hr0 := ScnAt.fresh1 w (.cells #[.int .i64 4, .int .i64 8, .int .i64 (2 * vl + x), .slice A n c] 30) #[.int .i64 0, .int .i64 0, .int .i64 0, .slice none 0 0]
  have hw0 : Below w.heap.size w ((w.alloc (.cells #[.int .i64 4, .int .i64 8, .int .i64 (2 * vl + x), .slice A n c] 30)).alloc (.cells #[.int .i64 0, .int .i64 0, .int .i64 0, .slice none 0 0] 30)) := by (repeat (first | exact Below.refl _ _ | (refine Below.alloc ?_ (by simp <;> omega) _) | (refine Below.setCell ?_ (by simp <;> omega) _)))
  have H0 := hide hs0
  have R0 := hide hr0
  have W0 := hide hw0
  have O0 := hide (hown.below hw0)
  clear hs0 hr0 hw0 hb0
  go_wp2_with (at_builtin; go_must (refine append_newL rfl _ _ rfl B rfl O0.out _ [2 * vl + x] 1 _ rfl hi rfl rfl (by simp) (by omega) (by simp <;> omega) ?_); intro A2 c4 w2 own2 gr2; have hs2 := H0.out.keepOwn O0.out gr2; have hr2 := R0.out.keepOwn O0.out gr2; have c0 : w2.cell? ⟨w.heap.size, 0, none⟩ = some (.int .i64 4) := hs2.cell 0; have c1 : w2.cell? ⟨w.heap.size, 1, none⟩ = some (.int .i64 8) := hs2.cell 1; have c2 : w2.cell? ⟨w.heap.size, 2, none⟩ = some (.int .i64 (2 * vl + x)) := hs2.cell 2; have c3 : w2.cell? ⟨w.heap.size, 3, none⟩ = some (.slice A n c) := hs2.cell 3; have f0 := hs2.frozen 0; have f1 := hs2.frozen 1; have f2 := hs2.frozen 2; have f3 := hs2.frozen 3; have r0 : w2.cell? ⟨w.heap.size + 1, 0, none⟩ = some (.int .i64 0) := hr2.cell 0; have r1 : w2.cell? ⟨w.heap.size + 1, 1, none⟩ = some (.int .i64 0) := hr2.cell 1; have r2 : w2.cell? ⟨w.heap.size + 1, 2, none⟩ = some (.int .i64 0) := hr2.cell 2; have r3 : w2.cell? ⟨w.heap.size + 1, 3, none⟩ = some (.slice none 0 0) := hr2.cell 3; have q0 := hr2.frozen 0; have q1 := hr2.frozen 1; have q2 := hr2.frozen 2; have q3 := hr2.frozen 3; have HS := hide hs2; have HR := hide hr2; clear hs2 hr2)
  have G := grown_after W0.out gr2
  have hs := HS.out
  have hr := HR.out
  have hr1 : ScnAt ((((w2.setCell ⟨w.heap.size, 3, none⟩ (.slice A2 (n + 1) c4)).setCell ⟨w.heap.size, 0, none⟩ (.int .i64 2)).setCell ⟨w.heap.size, 1, none⟩ (.int .i64 0)).setCell ⟨w.heap.size, 2, none⟩ (.int .i64 0)) (w.heap.size + 1) #[.int .i64 0, .int .i64 0, .int .i64 0, .slice none 0 0] :=
    (((hr.other (by omega) 3 _).other (by omega) 0 _).other (by omega) 1 _).other (by omega) 2 _
  have fin := hr1.put4 (.int .i64 2) (.int .i64 0) (.int .i64 0) (.slice A2 (n + 1) c4)
  have hres := fun (tmps : Array Value) (hp : tmps.getD 4 undef = .pointer (some ⟨w.heap.size + 1, 0, none⟩)) => results_scn (tmps := tmps) Try.results94 hp fin
  refine bodyPost_ret (hres _ rfl) rfl ?_
  refine ⟨A2, n + 1, c4, rfl, ?_, ?_, Nat.le_refl _⟩
  · have e0 : ∃ cs, ScnAt w2 w.heap.size cs := ⟨_, HS.out⟩
    have e1 : ∃ cs, ScnAt w2 (w.heap.size + 1) cs := ⟨_, HR.out⟩
    refine Own.setScn (Own.setScn (Own.setScn (Own.setScn (Own.setScn (Own.setScn (Own.setScn (Own.setScn own2 e0 _ _) ?_ _ _) ?_ _ _) ?_ _ _) ?_ _ _) ?_ _ _) ?_ _ _) ?_ _ _
    all_goals repeat (first | refine ScnAt.set ?_ _ _ _ | exact e0 | exact e1)
  · exact grown_setNew (grown_setNew (grown_setNew (grown_setNew (grown_setNew (grown_setNew (grown_setNew (grown_setNew G (by omega) _ _) (by omega) _ _) (by omega) _ _) (by omega) _ _) (by omega) _ _) (by omega) _ _) (by omega) _ _) (by omega) _ _
end Go.Proofs.Ytdodhjahihfaiaa
