/- Contracts of the statements' dice: a number in its range comes out; only the dice's block turns. -/
import Derived.Test.YtdodhjahihfaiaaDrawX
import Derived.Laws.BitsAllLaws
import Derived.Laws.BitsLemmas
namespace Go.Proofs.Ytdodhjahihfaiaa
open Go.RowKit
set_option linter.unusedVariables false
set_option linter.unusedSimpArgs false

def DiceAt (w : World) (g : Nat) (A : Option Addr) (n c : Nat) (i h : Int) : Prop :=
  w.heap[g]? = some (.cells #[.slice A n c, .int .i64 i, .int .u64 h] 94 (0, 0))
def Dice (w : World) (g : Nat) (A : Option Addr) (n c : Nat) (bs : List Int) : Prop := Rd8 w A n c bs ∧ ∃ (i : Nat) (h : Int), i ≤ n ∧ DiceAt w g A n c i h
section
variable {w w' : World} {A : Option Addr} {n c g : Nat} {bs : List Int} {i h : Int}
theorem DiceAt.lt (d : DiceAt w g A n c i h) : g < w.heap.size := (Array.getElem?_eq_some_iff.1 d).1
theorem DiceAt.cell (d : DiceAt w g A n c i h) (k : Nat) : w.cell? ⟨g, k, none⟩ = #[Value.slice A n c, .int .i64 i, .int .u64 h][k]? := cell_of_row w g k _ _ (0, 0) d
theorem DiceAt.frozen (d : DiceAt w g A n c i h) (k : Nat) : w.frozen? ⟨g, k, none⟩ = false := frozen_of_row w g k _ _ d
theorem DiceAt.setH (d : DiceAt w g A n c i h) (h' : Int) : DiceAt (w.setCell ⟨g, 2, none⟩ (.int .u64 h')) g A n c i h' := by
  unfold DiceAt at d ⊢
  rw [heap_setCell_same w g 2 _ _ _ d]
  rfl
theorem DiceAt.setI (d : DiceAt w g A n c i h) (i' : Int) : DiceAt (w.setCell ⟨g, 1, none⟩ (.int .i64 i')) g A n c i' h := by
  unfold DiceAt at d ⊢
  rw [heap_setCell_same w g 1 _ _ _ d]
  rfl
theorem DiceAt.drew (d : DiceAt w g A n c i h) : DiceAt w.drew g A n c i h := d
theorem DiceAt.drewN (d : DiceAt w g A n c i h) (k : Nat) : DiceAt (w.drewN k) g A n c i h := d
theorem DiceAt.below (d : DiceAt w g A n c i h) (hb : Below w.heap.size w w') : DiceAt w' g A n c i h := (hb.block g d.lt).trans d
theorem Dice.lt (d : Dice w g A n c bs) : g < w.heap.size := by obtain ⟨_, i, h, _, d⟩ := d; exact d.lt
theorem Dice.below (d : Dice w g A n c bs) (hb : Below w.heap.size w w') : Dice w' g A n c bs := by
  obtain ⟨r, i, h, hi, d⟩ := d
  exact ⟨r.below hb, i, h, hi, d.below hb⟩
/-- the code does not lie in the dice's block -/
theorem Rd8.apartD {b off : Nat} (r : Rd8 w (some ⟨b, off, none⟩) n c bs) (hs : DiceAt w g (some ⟨b, off, none⟩) n c i h) (hn : 0 < n) : b ≠ g := by
  rintro rfl
  obtain ⟨b', off', hA, _, hc⟩ := r.at_ hn
  simp at hA
  obtain ⟨rfl, rfl⟩ := hA
  have h1 := hc 0 hn
  rw [hs.cell] at h1
  match off + 0, h1 with
  | 0, h1 => simp at h1
  | 1, h1 => simp at h1
  | 2, h1 => simp at h1
  | j + 3, h1 => simp at h1
theorem Rd8.grownD (r : Rd8 w A n c bs) (hs : DiceAt w g A n c i h) (hg : w.grownBy w' (some g)) : Rd8 w' A n c bs := by
  refine ⟨r.1, r.2.1, r.2.2.1, r.2.2.2.1, fun hn => ?_⟩
  obtain ⟨b, off, hA, hl, hc⟩ := r.at_ hn
  subst hA
  have hne := r.apartD hs hn
  exact ⟨b, off, rfl, fun j hj => (World.cell?_of_block (hg.block b hl (by simpa using hne))).trans (hc j hj)⟩
theorem Own.notDice {B m d : Nat} {A' : Option Addr} {zs : List Int} (o : Own w B A' m d zs) (hs : DiceAt w g A n c i h) : (Value.slice A' m d).ownBlock ≠ some g := by
  rcases o.1.2 with ⟨hv, _⟩ | ⟨g', cap, cur, hv, _, hh, _⟩
  · rw [hv]; simp [Value.ownBlock]
  · rw [hv]
    intro e
    simp [Value.ownBlock] at e
    subst e
    unfold DiceAt at hs
    rw [hs] at hh
    simp at hh
theorem Own.keepDice {B m d : Nat} {A' : Option Addr} {zs : List Int} (o : Own w B A' m d zs) (hs : Dice w g A n c bs) (hg : w.grownBy w' (some g)) : Own w' B A' m d zs := by
  obtain ⟨_, i, h, _, hs⟩ := hs
  exact o.keepG hg (.inr (o.notDice hs))
end
set_option maxHeartbeats 1600000 in
theorem roll_any (A : Option Addr) (n c : Nat) (bs : List Int) (w : World) (s : Int) (r : Rd8 w A n c bs) (hn : n ≤ 4096) (hs : 0 ≤ s ∧ s ≤ 100000) :
    Calls Try.prog 63 #[.slice A n c, .int .u64 s] w fun e w' => ∃ g, e = .returned (.pointer (some ⟨g, 0, none⟩)) ∧ w.heap.size ≤ g ∧ Dice w' g A n c bs ∧ Below w.heap.size w w' := by
  have hlen := r.le
  have hcap := r.cap
  go_enter Try.func63, Try.ntmps63
  go_wp2
  go_loopw [6] (fun i wr => ∃ (k : Nat) (h : Int), k ≤ n ∧ i = .int .i64 k ∧ DiceAt wr w.heap.size A n c ((0 : Nat) : Int) h ∧ Below w.heap.size w wr) (fun i _ => n - (intOf i).toNat)
  case atStart => exact ⟨0, _, by omega, rfl, heap_alloc_new w _, (Below.refl _ _).alloc (Nat.le_refl _) _⟩
  case round =>
    obtain ⟨k, h, hk, rfl, hd, hbel⟩ := hrel
    by_cases hlt : k < n
    · obtain ⟨b, off, rfl, hbb, hc⟩ := r.at_ (by omega)
      have hck := (hbel.cell (p := ⟨b, off + k, none⟩) hbb).trans (hc k hlt)
      have hby := r.byte k
      have hcs : wr.cell? ⟨w.heap.size, 2, none⟩ = some (.int .u64 h) := hd.cell 2
      have hfz := hd.frozen 2
      have z1 : (0 : Int) ≤ (k : Int) := by omega
      have z2 : (k : Int) < (n : Int) := by omega
      have hD := hide hd
      have hB := hide hbel
      clear hc hd hbel
      go_wp2
      go_region
      all_goals go_wp2
      all_goals go_roundw
      case rel => exact ⟨k + 1, _, by omega, by go_num, (hD.out.setH _).drew, (hB.out.setCell (p := ⟨w.heap.size, 2, none⟩) (Nat.le_refl _) _).drew⟩
      case measure => simp [intOf]; omega
    · go_wp2
      go_ret
      exact ⟨_, rfl, Nat.le_refl _, ⟨r.below hbel, 0, h, by omega, hd⟩, hbel⟩
theorem dice_bits (a : Int) (h0 : 0 ≤ a) (h1 : a < 18446744073709551616) : 0 ≤ wrap64 (bits .and .u64 (a / 8589934592) 16777215) ∧ wrap64 (bits .and .u64 (a / 8589934592) 16777215) ≤ 16777215 := by
  obtain ⟨x, hx⟩ : ∃ x : Nat, a / 8589934592 = (x : Int) := ⟨(a / 8589934592).toNat, by omega⟩
  have hb : x < 18446744073709551616 := by omega
  have e := u64_and_nat x 16777215 hb (by omega)
  rw [hx, show ((16777215 : Int)) = ((16777215 : Nat) : Int) from rfl, e]
  have : x &&& 16777215 ≤ 16777215 := Nat.and_le_right
  unfold wrap64
  omega
theorem u64_range (a : Int) : 0 ≤ IntKind.u64.wrap a ∧ IntKind.u64.wrap a < 18446744073709551616 := by
  rw [IntKind.wrap_u64]; omega
set_option maxHeartbeats 1600000 in
theorem below_d (g : Nat) (A : Option Addr) (n c : Nat) (bs : List Int) (w : World) (m : Int) (d : Dice w g A n c bs) (hm : 1 ≤ m) (hm2 : m ≤ 1048576) (hn : n ≤ 4096) :
    Calls Try.prog 64 #[.pointer (some ⟨g, 0, none⟩), .int .i64 m] w fun e w' => ∃ x, e = .returned (.int .i64 x) ∧ 0 ≤ x ∧ x < m ∧ Dice w' g A n c bs ∧ w.grownBy w' (some g) := by
  obtain ⟨r, i, h, hi, hd⟩ := d
  have hcap := r.cap
  have c0 : w.cell? ⟨g, 0, none⟩ = some (.slice A n c) := hd.cell 0
  have c1 : w.cell? ⟨g, 1, none⟩ = some (.int .i64 i) := hd.cell 1
  have c2 : w.cell? ⟨g, 2, none⟩ = some (.int .u64 h) := hd.cell 2
  have f1 := hd.frozen 1
  have f2 := hd.frozen 2
  have hD := hide hd
  clear hd
  go_enter Try.func64, Try.ntmps64
  go_wp2
  have hq := u64_range (IntKind.u64.wrap (h * 6364136223846793005) + 1442695040888963407)
  obtain ⟨x0, x1⟩ := dice_bits _ hq.1 hq.2
  clear hq
  generalize wrap64 (bits .and .u64 (IntKind.u64.wrap (IntKind.u64.wrap (h * 6364136223846793005) + 1442695040888963407) / 8589934592) 16777215) = x at x0 x1 ⊢
  generalize IntKind.u64.wrap (IntKind.u64.wrap (h * 6364136223846793005) + 1442695040888963407) = h2
  have hm0 : m ≠ 0 := by omega
  by_cases hlt : i < n
  · obtain ⟨b, off, rfl, hbb, hc⟩ := r.at_ (by omega)
    have hne : b ≠ g := r.apartD hD.out (by omega)
    have hck := hc i hlt
    have hby := r.byte i
    have z1 : (0 : Int) ≤ (i : Int) := by omega
    have z2 : (i : Int) < (n : Int) := by omega
    have tl : decide ((i : Int) < (n : Int)) = true := decide_eq_true z2
    have hrd := hide r
    clear hc r
    go_quiet (fail)
    go_wp2
    go_quiet (fail)
    go_wp2
    go_ret
    refine ⟨_, rfl, Int.emod_nonneg _ hm0, Int.emod_lt_of_pos _ (by omega), ⟨hrd.out.grownD hD.out ?_, i + 1, h2, by omega, ?_⟩, ?_⟩
    · exact grown_trans (grown_drewN (grown_set _ _ _ _) _) (grown_set _ _ _ _)
    · rw [Int.natCast_add]
      exact ((hD.out.setH h2).drewN _).setI ((i : Int) + 1)
    · exact grown_trans (grown_drewN (grown_set _ _ _ _) _) (grown_set _ _ _ _)
  · have tl : decide ((i : Int) < (n : Int)) = false := decide_eq_false (by omega)
    have hrd := hide r
    clear r
    go_quiet (fail)
    go_wp2
    go_ret
    exact ⟨_, rfl, Int.emod_nonneg _ hm0, Int.emod_lt_of_pos _ (by omega), ⟨hrd.out.grownD hD.out (grown_drewN (grown_set _ _ _ _) _), i, h2, hi, (hD.out.setH h2).drewN _⟩, grown_drewN (grown_set _ _ _ _) _⟩
end Go.Proofs.Ytdodhjahihfaiaa
