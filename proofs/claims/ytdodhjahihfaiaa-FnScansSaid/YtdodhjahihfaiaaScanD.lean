/- Contracts: a scan's next cell, by the reference. -/
import Derived.Test.YtdodhjahihfaiaaScanC
namespace Go.Proofs.Ytdodhjahihfaiaa
open Go.RowKit
set_option linter.unusedVariables false
set_option linter.unusedSimpArgs false

theorem l01Own_any (A : Option Addr) (n c : Nat) (zs : List Int) (w : World) (h : Rd w A n c zs) (hn : n ≤ 1048576) :
    Calls Try.prog 110 #[.slice A n c] w fun e w' => ∃ A' c', e = .returned (.slice A' n c') ∧ Own w' w.heap.size A' n c' zs ∧ Below w.heap.size w w' := by
  have b1 := (Below.refl w.heap.size w).alloc (Nat.le_refl _) (.cells #[] 2)
  have O1 := hide (Own.empty w (Nat.le_refl _))
  have H1 := hide (h.below b1)
  have B1 := hide b1
  clear b1
  go_enter Try.func110, Try.ntmps110
  go_wp2_with (at_builtin; go_must (refine append_rd rfl _ _ rfl w.heap.size rfl O1.out H1.out rfl (by omega) (by simp) ?_); intro A2 c2 w2 own2 gr2)
  have B2 := below_own B1.out B1.out.size O1.out (Nat.le_refl _) gr2
  rw [Nat.zero_add] at own2
  go_ret
  exact ⟨A2, c2, rfl, own2, B2⟩
set_option maxHeartbeats 1600000 in
theorem l19To_any (a b d p ct vl : Int) (A : Option Addr) (n c : Nat) (zs : List Int) (w : World) (h : Rd w A n c zs) (hn : n ≤ 1048576) :
    Calls Try.prog 91 #[.agg #[.int .i64 a, .int .i64 b, .int .i64 d, .slice A n c], .int .i64 p, .int .i64 ct, .int .i64 vl] w fun e w' => ∃ A' c', e = .returned (.agg #[.int .i64 p, .int .i64 ct, .int .i64 vl, .slice A' n c']) ∧ Own w' w.heap.size A' n c' zs ∧ Below w.heap.size w w' := by
  have W0 := hide (show Below w.heap.size w ((w.alloc (.cells #[.int .i64 a, .int .i64 b, .int .i64 d, .slice A n c] 30)).alloc (.cells #[.int .i64 0, .int .i64 0, .int .i64 0, .slice none 0 0] 30)) by (repeat (first | exact Below.refl _ _ | (refine Below.alloc ?_ (by simp <;> omega) _) | (refine Below.setCell ?_ (by simp <;> omega) _))))
  have R0 := hide (ScnAt.fresh1 w (.cells #[.int .i64 a, .int .i64 b, .int .i64 d, .slice A n c] 30) #[.int .i64 0, .int .i64 0, .int .i64 0, .slice none 0 0])
  have H0 := hide (h.below W0.out)
  go_enter Try.func91, Try.ntmps91
  go_wp2_with fail
  refine (l01Own_any A n c zs _ H0.out hn).mono ?_
  rintro e w2 ⟨A2, c2, rfl, own2, b2⟩
  have HR := hide (R0.out.below b2)
  have B2 := hide (below_trans W0.out b2)
  have O2 := hide (own2.mono (B' := w.heap.size) W0.out.size)
  have r0 : w2.cell? ⟨w.heap.size + 1, 0, none⟩ = some (.int .i64 0) := HR.out.cell 0
  have r1 : w2.cell? ⟨w.heap.size + 1, 1, none⟩ = some (.int .i64 0) := HR.out.cell 1
  have r2 : w2.cell? ⟨w.heap.size + 1, 2, none⟩ = some (.int .i64 0) := HR.out.cell 2
  have r3 : w2.cell? ⟨w.heap.size + 1, 3, none⟩ = some (.slice none 0 0) := HR.out.cell 3
  have q0 := HR.out.frozen 0
  have q1 := HR.out.frozen 1
  have q2 := HR.out.frozen 2
  have q3 := HR.out.frozen 3
  clear b2 own2
  go_wp2_with fail
  have fin := HR.out.put4 (.int .i64 p) (.int .i64 ct) (.int .i64 vl) (.slice A2 n c2)
  have hO := O2.out.set4 (g := w.heap.size + 1) ⟨_, HR.out⟩ (.int .i64 p) (.int .i64 ct) (.int .i64 vl) (.slice A2 n c2)
  have hB := below_set4 B2.out (g := w.heap.size + 1) (by omega) (.int .i64 p) (.int .i64 ct) (.int .i64 vl) (.slice A2 n c2)
  have hres := fun (tmps : Array Value) (hp : tmps.getD 8 undef = .pointer (some ⟨w.heap.size + 1, 0, none⟩)) => results_scn (tmps := tmps) Try.results91 hp fin
  refine bodyPost_ret (hres _ rfl) rfl ?_
  exact ⟨A2, c2, rfl, hO, hB⟩
end Go.Proofs.Ytdodhjahihfaiaa
