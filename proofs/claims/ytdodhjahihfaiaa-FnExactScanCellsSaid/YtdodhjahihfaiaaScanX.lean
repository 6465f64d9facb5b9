/- Contracts of the statements' package on scans: copied, compared, marked, held, sized. -/
import Derived.Test.YtdodhjahihfaiaaScanD
namespace Go.Proofs.Ytdodhjahihfaiaa
open Go.RowKit
set_option linter.unusedVariables false
set_option linter.unusedSimpArgs false

/-- a block holds a scan of the statements' package -/
def LScnAt (w : World) (g : Nat) (cs : Array Value) : Prop := w.heap[g]? = some (.cells cs 27 (0, 0))
theorem LScnAt.lt {w : World} {g : Nat} {cs : Array Value} (h : LScnAt w g cs) : g < w.heap.size := (Array.getElem?_eq_some_iff.1 h).1
theorem LScnAt.cell {w : World} {g : Nat} {cs : Array Value} (h : LScnAt w g cs) (i : Nat) : w.cell? ⟨g, i, none⟩ = cs[i]? := cell_of_row w g i _ _ (0, 0) h
theorem LScnAt.fresh (w : World) (cs : Array Value) : LScnAt (w.alloc (.cells cs 27)) w.heap.size cs := by
  unfold LScnAt World.alloc
  simp
theorem LScnAt.below {w w' : World} {g : Nat} {cs : Array Value} (h : LScnAt w g cs) (hb : Below w.heap.size w w') : LScnAt w' g cs := (hb.block g h.lt).trans h
theorem Own.notLScn {w : World} {g : Nat} {cs : Array Value} {B m d : Nat} {A' : Option Addr} {zs : List Int} (h : Own w B A' m d zs) (hs : LScnAt w g cs) : (Value.slice A' m d).ownBlock ≠ some g := by
  rcases h.1.2 with ⟨hv, _⟩ | ⟨g', cap, cur, hv, _, hh, _⟩
  · rw [hv]; simp [Value.ownBlock]
  · rw [hv]
    intro e
    simp [Value.ownBlock] at e
    subst e
    unfold LScnAt at hs
    rw [hs] at hh
    simp at hh
theorem LScnAt.keepOwn {w w' : World} {g : Nat} {cs : Array Value} {B m d : Nat} {A' : Option Addr} {zs : List Int} (hs : LScnAt w g cs) (h : Own w B A' m d zs) (hg : w.grownBy w' (Value.slice A' m d).ownBlock) : LScnAt w' g cs :=
  (hg.block g hs.lt (fun e => h.notLScn hs e.symm)).trans hs
theorem below_drewL {B : Nat} {a w : World} (h : Below B a.drew w) : Below B a w := ⟨h.os, h.tape, h.output, h.size, h.block⟩
theorem szInt64S_big (A : Option Addr) (n c : Nat) (w : World) (hc : n ≤ 9223372036854775807) (h : 1048576 < n) :
    Calls Try.prog 77 #[.slice A n c, .int .i64 1048576] w fun e w' => e = .returned (.int .i64 (-1)) ∧ Below w.heap.size w w' := by
  go_enter Try.func77, Try.ntmps77
  go_wp2
  go_ret
  exact ⟨rfl, Below.refl _ _⟩
theorem szInt64S_ok (A : Option Addr) (n c : Nat) (w : World) (h : n ≤ 1048576) :
    Calls Try.prog 77 #[.slice A n c, .int .i64 1048576] w fun e w' => e = .returned (.int .i64 (1048576 - n)) ∧ Below w.heap.size w w' := by
  go_enter Try.func77, Try.ntmps77
  go_wp2
  go_ret
  exact ⟨rfl, Below.refl _ _⟩
theorem szScan_big (a b d : Int) (A : Option Addr) (n c : Nat) (w : World) (hc : n ≤ 9223372036854775807) (h : 1048576 < n) :
    Calls Try.prog 24 #[.agg #[.int .i64 a, .int .i64 b, .int .i64 d, .slice A n c], .int .i64 1048576] w fun e w' => e = .returned (.int .i64 (-1)) ∧ Below w.heap.size w w' := by
  have B0 := hide ((Below.refl w.heap.size w).alloc (Nat.le_refl _) (.cells #[.int .i64 a, .int .i64 b, .int .i64 d, .slice A n c] 27))
  go_enter Try.func24, Try.ntmps24
  go_wp2_with (go_at_call 77; (with_reducible refine (szInt64S_big A n c _ hc h).mono ?_); rintro e w2 ⟨rfl, b2⟩)
  go_ret
  exact ⟨rfl, below_trans B0.out b2⟩
theorem szScan_ok (a b d : Int) (A : Option Addr) (n c : Nat) (w : World) (h : n ≤ 1048576) :
    Calls Try.prog 24 #[.agg #[.int .i64 a, .int .i64 b, .int .i64 d, .slice A n c], .int .i64 1048576] w fun e w' => e = .returned (.int .i64 (1048576 - n)) ∧ Below w.heap.size w w' := by
  have B0 := hide ((Below.refl w.heap.size w).alloc (Nat.le_refl _) (.cells #[.int .i64 a, .int .i64 b, .int .i64 d, .slice A n c] 27))
  go_enter Try.func24, Try.ntmps24
  go_wp2_with (go_at_call 77; (with_reducible refine (szInt64S_ok A n c _ h).mono ?_); rintro e w2 ⟨rfl, b2⟩)
  go_ret
  exact ⟨rfl, below_trans B0.out b2⟩
theorem ScnAt.fresh2 (w : World) (o p : Obj) (cs : Array Value) : ScnAt (((w.alloc o).alloc p).alloc (.cells cs 30)) (w.heap.size + 1 + 1) cs := by
  have h := ScnAt.fresh ((w.alloc o).alloc p) cs
  rwa [show ((w.alloc o).alloc p).heap.size = w.heap.size + 1 + 1 by simp] at h
set_option maxHeartbeats 1600000 in
theorem toScan_any (a b d : Int) (A : Option Addr) (n c : Nat) (zs : List Int) (w : World) (h : Rd w A n c zs) (hn : n ≤ 1048576) :
    Calls Try.prog 26 #[.agg #[.int .i64 a, .int .i64 b, .int .i64 d, .slice A n c]] w fun e w' => ∃ g, e = .returned (.agg #[.int .i64 a, .int .i64 b, .int .i64 d, .slice (some ⟨g, 0, none⟩) n n]) ∧ Own w' w.heap.size (some ⟨g, 0, none⟩) n n zs ∧ Below w.heap.size w w' := by
  have W0 := hide (show Below w.heap.size w (((w.alloc (.cells #[.int .i64 a, .int .i64 b, .int .i64 d, .slice A n c] 27)).alloc (.cells #[.int .i64 0, .int .i64 0, .int .i64 0, .slice none 0 0] 30)).alloc (.cells #[.int .i64 a, .int .i64 b, .int .i64 d, .slice none 0 0] 30)) by (repeat (first | exact Below.refl _ _ | (refine Below.alloc ?_ (by simp <;> omega) _) | (refine Below.setCell ?_ (by simp <;> omega) _))))
  have R0 := hide ((ScnAt.fresh1 w (.cells #[.int .i64 a, .int .i64 b, .int .i64 d, .slice A n c] 27) #[.int .i64 0, .int .i64 0, .int .i64 0, .slice none 0 0]).below ((Below.refl _ _).alloc (Nat.le_refl _) (.cells #[.int .i64 a, .int .i64 b, .int .i64 d, .slice none 0 0] 30)))
  have S0 := hide (ScnAt.fresh2 w (.cells #[.int .i64 a, .int .i64 b, .int .i64 d, .slice A n c] 27) (.cells #[.int .i64 0, .int .i64 0, .int .i64 0, .slice none 0 0] 30) #[.int .i64 a, .int .i64 b, .int .i64 d, .slice none 0 0])
  have H0 := hide (h.below W0.out)
  go_enter Try.func26, Try.ntmps26
  go_wp2_with fail
  refine (toInt64S_any A n c zs _ H0.out (by omega)).mono ?_
  rintro e w2 ⟨g, rfl, own2, b2⟩
  have HR := hide (R0.out.below b2)
  have HS := hide (S0.out.below b2)
  have B2 := hide (below_trans W0.out b2)
  have O2 := hide (own2.mono (B' := w.heap.size) W0.out.size)
  have r0 : w2.cell? ⟨w.heap.size + 1, 0, none⟩ = some (.int .i64 0) := HR.out.cell 0
  have r1 : w2.cell? ⟨w.heap.size + 1, 1, none⟩ = some (.int .i64 0) := HR.out.cell 1
  have r2 : w2.cell? ⟨w.heap.size + 1, 2, none⟩ = some (.int .i64 0) := HR.out.cell 2
  have r3 : w2.cell? ⟨w.heap.size + 1, 3, none⟩ = some (.slice none 0 0) := HR.out.cell 3
  have q0 := HR.out.frozen 0
  have q1 := HR.out.frozen 1
  have q2 := HR.out.frozen 2
  have q3 := HR.out.frozen 3
  have s0 : w2.cell? ⟨w.heap.size + 1 + 1, 0, none⟩ = some (.int .i64 a) := HS.out.cell 0
  have s1 : w2.cell? ⟨w.heap.size + 1 + 1, 1, none⟩ = some (.int .i64 b) := HS.out.cell 1
  have s2 : w2.cell? ⟨w.heap.size + 1 + 1, 2, none⟩ = some (.int .i64 d) := HS.out.cell 2
  have s3 : w2.cell? ⟨w.heap.size + 1 + 1, 3, none⟩ = some (.slice none 0 0) := HS.out.cell 3
  have p3 := HS.out.frozen 3
  clear b2 own2
  go_wp2_with fail
  have hr1 := HR.out.other (g' := w.heap.size + 1 + 1) (by omega) 3 (.slice (some ⟨g, 0, none⟩) n n)
  have fin := hr1.put4 (.int .i64 a) (.int .i64 b) (.int .i64 d) (.slice (some ⟨g, 0, none⟩) n n)
  have hO := (O2.out.setScn (g := w.heap.size + 1 + 1) ⟨_, HS.out⟩ 3 (.slice (some ⟨g, 0, none⟩) n n)).set4 (g := w.heap.size + 1) ⟨_, hr1⟩ (.int .i64 a) (.int .i64 b) (.int .i64 d) (.slice (some ⟨g, 0, none⟩) n n)
  have hB := below_set4 (B2.out.setCell (p := ⟨w.heap.size + 1 + 1, 3, none⟩) (by show w.heap.size ≤ w.heap.size + 1 + 1; omega) (.slice (some ⟨g, 0, none⟩) n n)) (g := w.heap.size + 1) (by omega) (.int .i64 a) (.int .i64 b) (.int .i64 d) (.slice (some ⟨g, 0, none⟩) n n)
  have hres := fun (tmps : Array Value) (hp : tmps.getD 2 undef = .pointer (some ⟨w.heap.size + 1, 0, none⟩)) => results_scn (tmps := tmps) Try.results26 hp fin
  refine bodyPost_ret (hres _ rfl) rfl ?_
  exact ⟨g, rfl, hO, hB⟩
set_option maxHeartbeats 1600000 in
theorem eqScan_eq (a b d : Int) (A A' : Option Addr) (n c n' c' : Nat) (zs : List Int) (w : World) (h : Rd w A n c zs) (h' : Rd w A' n' c' zs) :
    Calls Try.prog 28 #[.agg #[.int .i64 a, .int .i64 b, .int .i64 d, .slice A n c], .agg #[.int .i64 a, .int .i64 b, .int .i64 d, .slice A' n' c']] w fun e w' => e = .returned (.bool true) ∧ Below w.heap.size w w' := by
  have ez := eqB_self zs
  have ta : (a != a) = false := by simp
  have tb : (b != b) = false := by simp
  have td : (d != d) = false := by simp
  have W0 := hide (show Below w.heap.size w ((w.alloc (.cells #[.int .i64 a, .int .i64 b, .int .i64 d, .slice A n c] 30)).alloc (.cells #[.int .i64 a, .int .i64 b, .int .i64 d, .slice A' n' c'] 30)) by (repeat (first | exact Below.refl _ _ | (refine Below.alloc ?_ (by simp <;> omega) _) | (refine Below.setCell ?_ (by simp <;> omega) _))))
  have H0 := hide (h.below W0.out)
  have H1 := hide (h'.below W0.out)
  go_enter Try.func28, Try.ntmps28
  go_wp2_with fail
  refine (eqInt64S_b A A' n n' c c' zs zs _ H0.out H1.out).mono ?_
  rintro e w2 ⟨rfl, b2⟩
  go_wp2_with fail
  go_ret
  exact ⟨rfl, below_trans W0.out b2⟩
set_option maxHeartbeats 1600000 in
theorem markScan_any (a b d : Int) (A : Option Addr) (n c : Nat) (zs : List Int) (B : Nat) (w : World) (h : Own w B A n c zs) (hB : B ≤ w.heap.size) (hn : n ≤ 16777216) :
    Calls Try.prog 51 #[.agg #[.int .i64 a, .int .i64 b, .int .i64 d, .slice A n c], .int .i64 1] w fun e w' => e = .returned (.int .i64 (1 + n)) ∧ Own w' B A n c (marks 1 n) ∧ w.grownBy w' (Value.slice A n c).ownBlock := by
  have B0 := hide ((Below.refl w.heap.size w).alloc (Nat.le_refl _) (.cells #[.int .i64 a, .int .i64 b, .int .i64 d, .slice A n c] 30))
  have H0 := hide (h.below B0.out)
  go_enter Try.func51, Try.ntmps51
  go_wp2_with (go_at_call 35; (with_reducible refine (markInt64S_any A n c zs B 1 _ H0.out hn (by omega) (by omega)).mono ?_); rintro e w2 ⟨rfl, o2, g2⟩)
  go_ret
  exact ⟨rfl, o2, grown_after B0.out g2⟩
set_option maxHeartbeats 1600000 in
theorem heldScan_any (a b d : Int) (A : Option Addr) (n c : Nat) (w : World) (h : Rd w A n c (marks 1 n)) (hn : n ≤ 16777216) :
    Calls Try.prog 52 #[.agg #[.int .i64 a, .int .i64 b, .int .i64 d, .slice A n c], .int .i64 1] w fun e w' => e = .returned (.int .i64 (1 + n)) ∧ Below w.heap.size w w' := by
  have B0 := hide ((Below.refl w.heap.size w).alloc (Nat.le_refl _) (.cells #[.int .i64 a, .int .i64 b, .int .i64 d, .slice A n c] 30))
  have H0 := hide (h.below B0.out)
  go_enter Try.func52, Try.ntmps52
  go_wp2_with (go_at_call 36; (with_reducible refine (heldInt64S_b A n c 1 _ H0.out hn (by omega) (by omega)).mono ?_); rintro e w2 ⟨rfl, b2⟩)
  go_ret
  exact ⟨rfl, below_trans B0.out b2⟩
end Go.Proofs.Ytdodhjahihfaiaa
