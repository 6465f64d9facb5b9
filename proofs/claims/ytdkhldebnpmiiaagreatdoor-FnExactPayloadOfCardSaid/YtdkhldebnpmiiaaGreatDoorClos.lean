/- Contracts: the closures of the tables. -/
import Derived.Test.YtdkhldebnpmiiaaGreatDoorName
namespace Go.Proofs.YtdkhldebnpmiiaaGreatDoor
open Go.RowKit
set_option linter.unusedVariables false
set_option linter.unusedSimpArgs false

def BoolOut (b : Bool) (w : World) (e : Ending) (w' : World) : Prop := e = .returned (.bool b) ∧ Below w.heap.size w w'
theorem bool_out {b c : Bool} {w : World} {e : Ending} {w' : World} (h : BoolOut b w e w') (hb : b = c) : BoolOut c w e w' := hb ▸ h
set_option maxHeartbeats 800000 in
theorem same_name (y : Nod) (g : Nat) (nm : ByteArray) (w : World) (h : w.cell? ⟨g, 1, none⟩ = some (.string nm)) :
    Calls Tryz.prog 156 #[.agg #[.int .i64 y.id, .string y.nm, .int .i64 y.dr, .bool y.pas], .pointer (some ⟨g, 0, none⟩)] w (BoolOut (y.nm.toList == nm.toList) w) := by
  have hg := World.block_lt_of_cell? w _ h
  have h2 := ((Below.refl w.heap.size w).alloc (Nat.le_refl _) (.cells #[.int .i64 y.id, .string y.nm, .int .i64 y.dr, .bool y.pas] 68)).cell (p := ⟨g, 1, none⟩) hg
  rw [h] at h2
  go_enter Tryz.func156, Tryz.ntmps156
  go_wp2
  go_ret
  exact ⟨rfl, by (repeat (first | exact Below.refl _ _ | (refine Below.alloc ?_ (by simp <;> omega) _) | (refine Below.setCell ?_ (by simp <;> omega) _)))⟩
set_option maxHeartbeats 800000 in
theorem same_id (y : Nod) (g : Nat) (id : Int) (w : World) (h : w.cell? ⟨g, 0, none⟩ = some (.int .i64 id)) :
    Calls Tryz.prog 133 #[.agg #[.int .i64 y.id, .string y.nm, .int .i64 y.dr, .bool y.pas], .pointer (some ⟨g, 0, none⟩)] w (BoolOut (y.id == id) w) := by
  have hg := World.block_lt_of_cell? w _ h
  have h2 := ((Below.refl w.heap.size w).alloc (Nat.le_refl _) (.cells #[.int .i64 y.id, .string y.nm, .int .i64 y.dr, .bool y.pas] 68)).cell (p := ⟨g, 0, none⟩) hg
  rw [h] at h2
  go_enter Tryz.func133, Tryz.ntmps133
  go_wp2
  go_ret
  exact ⟨rfl, by (repeat (first | exact Below.refl _ _ | (refine Below.alloc ?_ (by simp <;> omega) _) | (refine Below.setCell ?_ (by simp <;> omega) _)))⟩
def slotB (a b c : Int) (y : Slt) : Bool := y.md == a && (y.rd == b && y.sl == c)
set_option maxHeartbeats 1600000 in
theorem same_slot (y : Slt) (g : Nat) (a b c : Int) (w : World) (h0 : w.cell? ⟨g, 0, none⟩ = some (.int .i64 a)) (h1 : w.cell? ⟨g + 1, 0, none⟩ = some (.int .i64 b)) (h2 : w.cell? ⟨g + 1 + 1, 0, none⟩ = some (.int .i64 c)) :
    Calls Tryz.prog 173 #[.agg #[.int .i64 y.md, .int .i64 y.rd, .int .i64 y.sl, .int .i64 y.nd, .int .i64 y.kd, .int .i64 y.sz, .int .i64 y.du, .bool y.ch], .pointer (some ⟨g, 0, none⟩), .pointer (some ⟨g + 1, 0, none⟩), .pointer (some ⟨g + 1 + 1, 0, none⟩)] w (BoolOut (slotB a b c y) w) := by
  have B0 := (Below.refl w.heap.size w).alloc (Nat.le_refl _) (.cells #[.int .i64 y.md, .int .i64 y.rd, .int .i64 y.sl, .int .i64 y.nd, .int .i64 y.kd, .int .i64 y.sz, .int .i64 y.du, .bool y.ch] 61)
  have g0 := (B0.cell (p := ⟨g, 0, none⟩) (World.block_lt_of_cell? w _ h0)).trans h0
  have g1 := (B0.cell (p := ⟨g + 1, 0, none⟩) (World.block_lt_of_cell? w _ h1)).trans h1
  have g2 := (B0.cell (p := ⟨g + 1 + 1, 0, none⟩) (World.block_lt_of_cell? w _ h2)).trans h2
  have HB := hide B0
  clear B0 h0 h1 h2
  have HS := hide (show slotB a b c y = (y.md == a && (y.rd == b && y.sl == c)) from rfl)
  cases e1 : (y.md == a)
  · rw [e1] at HS
    have E := hide (show slotB a b c y = false from HS.out)
    go_enter Tryz.func173, Tryz.ntmps173
    go_wp2
    go_ret
    exact ⟨by rw [E.out]; rfl, HB.out⟩
  · cases e2 : (y.rd == b)
    · rw [e1, e2] at HS
      have E := hide (show slotB a b c y = false from HS.out)
      go_enter Tryz.func173, Tryz.ntmps173
      go_wp2
      go_ret
      exact ⟨by rw [E.out]; rfl, HB.out⟩
    · rw [e1, e2] at HS
      have E := hide (show slotB a b c y = (y.sl == c) from HS.out)
      go_enter Tryz.func173, Tryz.ntmps173
      go_wp2
      go_ret
      exact ⟨by rw [E.out]; rfl, HB.out⟩
def coldB (y : Slt) : Bool := y.kd == 3 && y.md != 0
set_option maxHeartbeats 1600000 in
theorem cold_any (y : Slt) (w : World) :
    Calls Tryz.prog 136 #[.agg #[.int .i64 y.md, .int .i64 y.rd, .int .i64 y.sl, .int .i64 y.nd, .int .i64 y.kd, .int .i64 y.sz, .int .i64 y.du, .bool y.ch]] w (BoolOut (coldB y) w) := by
  have HB := hide ((Below.refl w.heap.size w).alloc (Nat.le_refl _) (.cells #[.int .i64 y.md, .int .i64 y.rd, .int .i64 y.sl, .int .i64 y.nd, .int .i64 y.kd, .int .i64 y.sz, .int .i64 y.du, .bool y.ch] 61))
  have HS := hide (show coldB y = (y.kd == 3 && y.md != 0) from rfl)
  cases e1 : (y.kd == 3)
  · rw [e1] at HS
    have E := hide (show coldB y = false from HS.out)
    go_enter Tryz.func136, Tryz.ntmps136
    go_wp2
    go_ret
    exact ⟨by rw [E.out]; rfl, HB.out⟩
  · rw [e1] at HS
    have E := hide (show coldB y = (y.md != 0) from HS.out)
    go_enter Tryz.func136, Tryz.ntmps136
    go_wp2
    go_ret
    exact ⟨by rw [E.out]; rfl, HB.out⟩
end Go.Proofs.YtdkhldebnpmiiaaGreatDoor
