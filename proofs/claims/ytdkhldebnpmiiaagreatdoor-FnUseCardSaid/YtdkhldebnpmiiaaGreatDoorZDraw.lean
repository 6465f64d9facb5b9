/- Contracts of the source from which inputs are drawn: what it yields lies in its range; only its own block turns. -/
import Derived.Test.YtdkhldebnpmiiaaGreatDoorZBkA
import Derived.Deep.OwnRows
import Derived.RegionTactic
namespace Go.Proofs.YtdkhldebnpmiiaaGreatDoor
open Go.RowKit
set_option linter.unusedVariables false
set_option linter.unusedSimpArgs false
/-- a slice of bytes that reads as bs -/
def Rd8 (w : World) (A : Option Addr) (n c : Nat) (bs : List Int) : Prop :=
  bs.length = n ∧ n ≤ c ∧ c ≤ maxLen ∧ (∀ j, 0 ≤ nth bs j ∧ nth bs j ≤ 255) ∧
    (0 < n → ∃ b off, A = some ⟨b, off, none⟩ ∧ ∀ j, j < n → w.cell? ⟨b, off + j, none⟩ = some (.int .u8 (nth bs j)))
/-- the source's block: the code, the place in it, the seed -/
def SrcAt (w : World) (g : Nat) (A : Option Addr) (n c : Nat) (a s : Int) : Prop :=
  w.heap[g]? = some (.cells #[.slice A n c, .int .i64 a, .int .i64 s] 94 (0, 0))
def Src (w : World) (g : Nat) (A : Option Addr) (n c : Nat) : Prop := ∃ (a : Nat) (s : Int), a ≤ n ∧ 0 ≤ s ∧ s < 2147483647 ∧ SrcAt w g A n c a s
section
variable {w w' : World} {A : Option Addr} {n c g : Nat} {bs : List Int} {a s : Int}
theorem Rd8.cap (h : Rd8 w A n c bs) : n ≤ c ∧ c ≤ 9223372036854775807 := ⟨h.2.1, h.2.2.1⟩
theorem Rd8.le (h : Rd8 w A n c bs) : n ≤ bs.length ∧ bs.length ≤ n := ⟨by have := h.1; omega, by have := h.1; omega⟩
theorem Rd8.byte (h : Rd8 w A n c bs) (j : Nat) : 0 ≤ nth bs j ∧ nth bs j ≤ 255 := h.2.2.2.1 j
theorem Rd8.at_ (h : Rd8 w A n c bs) (hn : 0 < n) : ∃ b off, A = some ⟨b, off, none⟩ ∧ b < w.heap.size ∧ ∀ j, j < n → w.cell? ⟨b, off + j, none⟩ = some (.int .u8 (nth bs j)) := by
  obtain ⟨b, off, hA, hc⟩ := h.2.2.2.2 hn
  exact ⟨b, off, hA, World.block_lt_of_cell? w _ (hc 0 hn), hc⟩
theorem Rd8.below (h : Rd8 w A n c bs) (hb : Below w.heap.size w w') : Rd8 w' A n c bs := by
  refine ⟨h.1, h.2.1, h.2.2.1, h.2.2.2.1, fun hn => ?_⟩
  obtain ⟨b, off, hA, hl, hc⟩ := h.at_ hn
  exact ⟨b, off, hA, fun j hj => (hb.cell (p := ⟨b, off + j, none⟩) hl).trans (hc j hj)⟩
theorem SrcAt.lt (h : SrcAt w g A n c a s) : g < w.heap.size := (Array.getElem?_eq_some_iff.1 h).1
theorem SrcAt.cell (h : SrcAt w g A n c a s) (i : Nat) : w.cell? ⟨g, i, none⟩ = #[Value.slice A n c, .int .i64 a, .int .i64 s][i]? := cell_of_row w g i _ _ (0, 0) h
theorem SrcAt.code (h : SrcAt w g A n c a s) : w.cell? ⟨g, 0, none⟩ = some (.slice A n c) := h.cell 0
theorem SrcAt.place (h : SrcAt w g A n c a s) : w.cell? ⟨g, 1, none⟩ = some (.int .i64 a) := h.cell 1
theorem SrcAt.seed (h : SrcAt w g A n c a s) : w.cell? ⟨g, 2, none⟩ = some (.int .i64 s) := h.cell 2
theorem SrcAt.frozen (h : SrcAt w g A n c a s) (i : Nat) : w.frozen? ⟨g, i, none⟩ = false := frozen_of_row w g i _ _ h
theorem SrcAt.setSeed (h : SrcAt w g A n c a s) (s' : Int) : SrcAt (w.setCell ⟨g, 2, none⟩ (.int .i64 s')) g A n c a s' := by
  unfold SrcAt at h ⊢
  rw [heap_setCell_same w g 2 _ _ _ h]
  rfl
theorem SrcAt.setPlace (h : SrcAt w g A n c a s) (a' : Int) : SrcAt (w.setCell ⟨g, 1, none⟩ (.int .i64 a')) g A n c a' s := by
  unfold SrcAt at h ⊢
  rw [heap_setCell_same w g 1 _ _ _ h]
  rfl
theorem SrcAt.drewN (h : SrcAt w g A n c a s) (k : Nat) : SrcAt (w.drewN k) g A n c a s := h
theorem SrcAt.drew (h : SrcAt w g A n c a s) : SrcAt w.drew g A n c a s := h
theorem grown_set (w : World) (g i : Nat) (u : Value) : w.grownBy (w.setCell ⟨g, i, none⟩ u) (some g) :=
  ⟨rfl, rfl, rfl, by simp, fun k _ hk => heap_setCell_other w ⟨g, i, none⟩ k u (fun e => hk (by simp [e]))⟩
theorem grown_drewN (h : w.grownBy w' (some g)) (k : Nat) : w.grownBy (w'.drewN k) (some g) := ⟨h.os, h.tape, h.output, h.size, h.block⟩
theorem Src.lt (h : Src w g A n c) : g < w.heap.size := by obtain ⟨a, s, _, _, _, h⟩ := h; exact h.lt
/-- the code does not lie in the source's block -/
theorem Rd8.apart {b off : Nat} (h : Rd8 w (some ⟨b, off, none⟩) n c bs) (hs : SrcAt w g (some ⟨b, off, none⟩) n c a s) (hn : 0 < n) : b ≠ g := by
  rintro rfl
  obtain ⟨b', off', hA, _, hc⟩ := h.at_ hn
  simp at hA
  obtain ⟨rfl, rfl⟩ := hA
  have h1 := hc 0 hn
  rw [hs.cell] at h1
  match off + 0, h1 with
  | 0, h1 => simp at h1
  | 1, h1 => simp at h1
  | 2, h1 => simp at h1
  | j + 3, h1 => simp at h1
theorem Src.apartB (h : Rd8 w A n c bs) (hs : Src w g A n c) (hn : 0 < n) : ∀ b off, A = some ⟨b, off, none⟩ → b ≠ g := by
  rintro b off rfl
  obtain ⟨a, s, _, _, _, hs⟩ := hs
  exact h.apart hs hn
theorem Rd8.grown (h : Rd8 w A n c bs) (hs : Src w g A n c) (hg : w.grownBy w' (some g)) : Rd8 w' A n c bs := by
  refine ⟨h.1, h.2.1, h.2.2.1, h.2.2.2.1, fun hn => ?_⟩
  obtain ⟨b, off, hA, hl, hc⟩ := h.at_ hn
  have hne := hs.apartB h hn b off hA
  exact ⟨b, off, hA, fun j hj => (World.cell?_of_block (hg.block b hl (by simpa using hne))).trans (hc j hj)⟩
theorem Src.below (h : Src w g A n c) (hb : Below w.heap.size w w') : Src w' g A n c := by
  have hl := h.lt
  obtain ⟨a, s, h1, h2, h3, h4⟩ := h
  exact ⟨a, s, h1, h2, h3, (hb.block g hl).trans h4⟩
/-- an owned row is not the source's block -/
theorem Own.notSrc {B m d : Nat} {A' : Option Addr} {zs : List Int} (h : Own w B A' m d zs) (hs : Src w g A n c) : (Value.slice A' m d).ownBlock ≠ some g := by
  obtain ⟨a, s, _, _, _, hs⟩ := hs
  rcases h.1.2 with ⟨hv, _⟩ | ⟨g', cap, cur, hv, _, hh, _⟩
  · rw [hv]; simp [Value.ownBlock]
  · rw [hv]
    intro e
    simp [Value.ownBlock] at e
    subst e
    unfold SrcAt at hs
    rw [hs] at hh
    simp at hh
theorem Own.keepSrc {B m d : Nat} {A' : Option Addr} {zs : List Int} (h : Own w B A' m d zs) (hs : Src w g A n c) (hg : w.grownBy w' (some g)) : Own w' B A' m d zs :=
  h.keepG hg (.inr (h.notSrc hs))
theorem Src.keepOwn {B m d : Nat} {A' : Option Addr} {zs : List Int} (hs : Src w g A n c) (h : Own w B A' m d zs) (hg : w.grownBy w' (Value.slice A' m d).ownBlock) : Src w' g A n c := by
  have hne := h.notSrc hs
  have hl := hs.lt
  obtain ⟨a, s, h1, h2, h3, h4⟩ := hs
  exact ⟨a, s, h1, h2, h3, (hg.block g hl (fun e => hne e.symm)).trans h4⟩
end
set_option maxHeartbeats 800000 in
theorem l01From_any (A : Option Addr) (n c : Nat) (bs : List Int) (w : World) (h : Rd8 w A n c bs) (hn : n ≤ 4096) :
    Calls Tryz.prog 45 #[.slice A n c] w fun e w' => ∃ g, e = .returned (.pointer (some ⟨g, 0, none⟩)) ∧ w.heap.size ≤ g ∧ Src w' g A n c ∧ Below w.heap.size w w' := by
  have hlen := h.le
  have hcap := h.cap
  go_enter Tryz.func45, Tryz.ntmps45
  go_wp2
  go_loopw [4] (fun i wr => ∃ (k : Nat) (s : Int), k ≤ n ∧ i = .int .i64 k ∧ 0 ≤ s ∧ s < 2147483647 ∧ SrcAt wr w.heap.size A n c ((0 : Nat) : Int) s ∧ Below w.heap.size w wr) (fun i _ => n - (intOf i).toNat)
  case atStart => exact ⟨0, 40009, by omega, rfl, by omega, by omega, heap_alloc_new w _, (Below.refl _ _).alloc (Nat.le_refl _) _⟩
  case round =>
    obtain ⟨k, s, hk, rfl, hs0, hs1, hsrc, hbel⟩ := hrel
    by_cases hlt : k < n
    · by_cases h64 : k < 64
      · obtain ⟨b, off, rfl, hbb, hc⟩ := h.at_ (by omega)
        have hck := (hbel.cell (p := ⟨b, off + k, none⟩) hbb).trans (hc k hlt)
        have hby := h.byte k
        have hcs := hsrc.seed
        have hfz := hsrc.frozen 2
        have z1 : (0 : Int) ≤ (k : Int) := by omega
        have z2 : (k : Int) < (n : Int) := by omega
        have hS := hide hsrc
        have hB := hide hbel
        clear hc hsrc hbel
        go_wp2
        go_region
        all_goals go_wp2
        all_goals go_roundw
        case rel => exact ⟨k + 1, _, by omega, by go_num, by omega, by omega, (hS.out.setSeed _).drew, (hB.out.setCell (p := ⟨w.heap.size, 2, none⟩) (Nat.le_refl _) _).drew⟩
        case measure => simp [intOf]; omega
      · go_wp2
        go_ret
        exact ⟨_, rfl, Nat.le_refl _, ⟨0, s, by omega, hs0, hs1, hsrc⟩, hbel⟩
    · go_wp2
      go_ret
      exact ⟨_, rfl, Nat.le_refl _, ⟨0, s, by omega, hs0, hs1, hsrc⟩, hbel⟩
theorem Src.of {w : World} {A : Option Addr} {n c g a : Nat} {s : Int} (h : SrcAt w g A n c ((a : Int) + 1) s) (ha : a + 1 ≤ n) (h0 : 0 ≤ s) (h1 : s < 2147483647) : Src w g A n c :=
  ⟨a + 1, s, ha, h0, h1, by rw [Int.natCast_add]; exact h⟩
theorem mod_fact {x m : Int} (h : 1 < m) : 0 ≤ x % m ∧ (0 < m → x % m < m) := ⟨Int.emod_nonneg _ (by omega), fun _ => Int.emod_lt_of_pos _ (by omega)⟩
set_option maxHeartbeats 3200000 in
theorem l01Next_any (g : Nat) (A : Option Addr) (n c : Nat) (bs : List Int) (w : World) (m : Int) (h : Rd8 w A n c bs) (hs : Src w g A n c) :
    Calls Tryz.prog 47 #[.pointer (some ⟨g, 0, none⟩), .int .i64 m] w fun e w' => ∃ x, e = .returned (.int .i64 x) ∧ 0 ≤ x ∧ (0 < m → x < m) ∧ Src w' g A n c ∧ w.grownBy w' (some g) := by
  have hcap := h.cap
  have hS := hide hs
  have hH := hide h
  obtain ⟨a, s, ha, hs0, hs1, hsrc⟩ := hs
  have c0 := hsrc.code
  have c1 := hsrc.place
  have c2 := hsrc.seed
  have f1 := hsrc.frozen 1
  have f2 := hsrc.frozen 2
  have hR := hide hsrc
  clear hsrc h
  go_enter Tryz.func47, Tryz.ntmps47
  by_cases h1 : m ≤ 1
  · go_wp2
    go_ret
    exact ⟨0, rfl, by omega, fun h => h, hS.out, grown_refl _ _⟩
  · have hs'0 : 0 ≤ (s * 48271 + 17) % 2147483647 := Int.emod_nonneg _ (by decide)
    have hs'1 : (s * 48271 + 17) % 2147483647 < 2147483647 := Int.emod_lt_of_pos _ (by decide)
    by_cases hlt : a < n
    · have hltb : decide (a < n) = true := decide_eq_true hlt
      obtain ⟨b, off, rfl, hbb, hc⟩ := hH.out.at_ (by omega)
      have hbg : b ≠ g := hH.out.apart hR.out (by omega)
      have hca := hc a hlt
      have hby := hH.out.byte a
      clear hc
      by_cases h256 : m ≤ 256
      · by_cases hev : ((a : Int) + 1) % 2 = 0
        · go_wp2
          go_quiet (fail)
          go_wp2
          go_quiet (fail)
          go_wp2
          go_quiet (fail)
          go_wp2
          go_ret
          exact ⟨_, rfl, (mod_fact h1).1, (mod_fact h1).2, Src.of ((((hR.out.setSeed _).drewN _).setPlace _).drewN _) (by omega) hs'0 hs'1, grown_drewN (grown_trans (grown_drewN (grown_set _ _ _ _) _) (grown_set _ _ _ _)) _⟩
        · go_wp2
          go_quiet (fail)
          go_wp2
          go_quiet (fail)
          go_wp2
          go_ret
          exact ⟨_, rfl, (mod_fact h1).1, (mod_fact h1).2, Src.of (((hR.out.setSeed _).drewN _).setPlace _) (by omega) hs'0 hs'1, grown_trans (grown_drewN (grown_set _ _ _ _) _) (grown_set _ _ _ _)⟩
      · go_wp2
        go_quiet (fail)
        go_wp2
        go_quiet (fail)
        go_wp2
        go_ret
        exact ⟨_, rfl, (mod_fact h1).1, (mod_fact h1).2, Src.of (((hR.out.setSeed _).drewN _).setPlace _) (by omega) hs'0 hs'1, grown_trans (grown_drewN (grown_set _ _ _ _) _) (grown_set _ _ _ _)⟩
    · have hltb : decide (a < n) = false := decide_eq_false hlt
      go_wp2
      go_quiet (fail)
      go_wp2
      go_ret
      exact ⟨_, rfl, (mod_fact h1).1, (mod_fact h1).2, ⟨a, _, ha, hs'0, hs'1, (hR.out.setSeed _).drewN _⟩, grown_drewN (grown_set _ _ _ _) _⟩
end Go.Proofs.YtdkhldebnpmiiaaGreatDoor
