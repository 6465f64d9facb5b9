/- The laws' own copies of an argument. -/
import Derived.Test.YtdkhldebnpmiiaaGreatDoorSz
import Derived.Test.YtdkhldebnpmiiaaGreatDoorCopy
import Derived.Laws.MakeOwn
namespace Go.Proofs.YtdkhldebnpmiiaaGreatDoor
open Go.RowKit
set_option linter.unusedVariables false
set_option linter.unusedSimpArgs false

section
variable {α : Type} {f : α → List Value} {k : Nat} {T : TypeId} {w w' : World} {A : Option Addr} {n c B : Nat} {l : List α}
theorem made_flat (hk : ∀ x, (f x).length = k) (hk0 : 0 < k) (z : Array Value) (x0 : α) (hz : z.toList = f x0) (n : Nat) : (madeCells z (n * k)).toList = (List.replicate n x0).flatMap f := by
  have hzs : z.size = k := by rw [← Array.length_toList, hz, hk]
  apply List.ext_getElem?
  intro q
  have hq : q = q / k * k + q % k := by rw [Nat.mul_comm]; exact (Nat.div_add_mod q k).symm
  have hm : q % k < k := Nat.mod_lt _ hk0
  have e := flat_get hk (List.replicate n x0) (q / k) (q % k) hm
  rw [← hq] at e
  rw [e, Array.getElem?_toList]
  by_cases h : q < n * k
  · have h1 : q / k < n := Nat.div_lt_of_lt_mul (by rw [Nat.mul_comm]; exact h)
    rw [List.getElem?_replicate, if_pos h1, Option.bind_some, ← hz, Array.getElem?_toList]
    simp [madeCells, h, hzs]
    rw [Array.getElem!_eq_getD, Array.getD_eq_getD_getElem?, Array.getElem?_eq_getElem (by rw [hzs]; exact hm)]
    simp
  · have h1 : ¬ q / k < n := fun h2 => h (by
      have : (q / k + 1) * k ≤ n * k := Nat.mul_le_mul_right k h2
      rw [Nat.succ_mul] at this
      omega)
    rw [List.getElem?_replicate, if_neg h1]
    simp [madeCells, h]
theorem OwnR.made (hk : ∀ x, (f x).length = k) (hk0 : 0 < k) (z : Array Value) (x0 : α) (hz : z.toList = f x0) (w : World) (hB : B ≤ w.heap.size) {n : Nat} (hn : n ≤ 9223372036854775807) :
    OwnR T f k (w.alloc (.cells (madeCells z (n * k)) T)) B (some ⟨w.heap.size, 0, none⟩) n n (List.replicate n x0) :=
  OwnR.lit w hB hk _ _ (made_flat hk hk0 z x0 hz n) (by simp) hn
/-- make of a row of records -/
theorem make_rec {t e : TypeId} {z : Value} {bytes : Nat} (ht : Tryz.prog.underlying t = some (.slice e)) (hinfo : (Tryz.prog.info? e).map (fun i => (i.zero, i.size, i.bytes)) = some (some z, k, bytes)) (n : Nat) (hbytes : bytes * n ≤ 281474976710656) (h63 : n ≤ 9223372036854775807) (w : World) :
    (Instr.makeSlice t (.int .i64 (n : Int)) (.int .i64 (n : Int))).run Tryz.prog w = .ok (.slice (some ⟨w.heap.size, 0, none⟩) n n) (w.alloc (.cells (madeCells z.cells (n * k)) e)) := by
  obtain ⟨i, hi, hzz⟩ := Option.map_eq_some_iff.1 hinfo
  simp only [Prod.mk.injEq] at hzz
  obtain ⟨hz, hs, hb⟩ := hzz
  have hb' : (i.bytes : Int) * (n : Int) ≤ 281474976710656 := by
    have h : ((i.bytes * n : Nat) : Int) ≤ 281474976710656 := by rw [hb]; omega
    rwa [Int.natCast_mul] at h
  have hr := run_make (P := Tryz.prog) w t e i z ht hi hz .i64 .i64 n n (by omega) (Int.le_refl _) hb' (by omega)
  simp only [Int.toNat_natCast, hs] at hr
  exact hr
theorem fill_step {ls : List α} {x0 : α} {n j : Nat} (hj : ls.length = j) (hn : j < n) (x : α) : (ls ++ List.replicate (n - j) x0).set j x = (ls ++ [x]) ++ List.replicate (n - (j + 1)) x0 := by
  subst hj
  rw [List.set_append_right _ _ (Nat.le_refl _), Nat.sub_self, show n - ls.length = (n - (ls.length + 1)) + 1 by omega, List.replicate_succ]
  simp
end
section
variable {T : TypeId} {w w' : World} {A : Option Addr} {n c B g i : Nat}
theorem OwnR.putN {l : List Nod} (h : OwnR T Nod.v 4 w B (some ⟨g, 0, none⟩) n c l) (hi : i < n) (x : Nod) :
    let w' := (((w.setCell ⟨g, i * 4, none⟩ (.int .i64 x.id)).setCell ⟨g, i * 4 + 1, none⟩ (.string x.nm)).setCell ⟨g, i * 4 + 2, none⟩ (.int .i64 x.dr)).setCell ⟨g, i * 4 + 3, none⟩ (.bool x.pas)
    OwnR T Nod.v 4 w' B (some ⟨g, 0, none⟩) n c (l.set i x) ∧ w.grownBy w' (some g) := h.put hi x
theorem OwnR.putMo {l : List Mod} (h : OwnR T Mod.v 3 w B (some ⟨g, 0, none⟩) n c l) (hi : i < n) (x : Mod) :
    let w' := ((w.setCell ⟨g, i * 3, none⟩ (.int .i64 x.rd)).setCell ⟨g, i * 3 + 1, none⟩ (.int .i64 x.sl)).setCell ⟨g, i * 3 + 2, none⟩ (.slice x.A x.n x.c)
    OwnR T Mod.v 3 w' B (some ⟨g, 0, none⟩) n c (l.set i x) ∧ w.grownBy w' (some g) := h.put hi x
theorem OwnR.putS {l : List Slt} (h : OwnR T Slt.v 8 w B (some ⟨g, 0, none⟩) n c l) (hi : i < n) (x : Slt) :
    let w' := (((((((w.setCell ⟨g, i * 8, none⟩ (.int .i64 x.md)).setCell ⟨g, i * 8 + 1, none⟩ (.int .i64 x.rd)).setCell ⟨g, i * 8 + 2, none⟩ (.int .i64 x.sl)).setCell ⟨g, i * 8 + 3, none⟩ (.int .i64 x.nd)).setCell ⟨g, i * 8 + 4, none⟩ (.int .i64 x.kd)).setCell ⟨g, i * 8 + 5, none⟩ (.int .i64 x.sz)).setCell ⟨g, i * 8 + 6, none⟩ (.int .i64 x.du)).setCell ⟨g, i * 8 + 7, none⟩ (.bool x.ch)
    OwnR T Slt.v 8 w' B (some ⟨g, 0, none⟩) n c (l.set i x) ∧ w.grownBy w' (some g) := h.put hi x
end
theorem info_nod : (Tryz.prog.info? 68).map (fun i => (i.zero, i.size, i.bytes)) = some (some (.agg #[.int .i64 0, .string ⟨#[]⟩, .int .i64 0, .bool false]), 4, 40) := by kernel_rfl
theorem info_mod : (Tryz.prog.info? 107).map (fun i => (i.zero, i.size, i.bytes)) = some (some (.agg #[.int .i64 0, .int .i64 0, .slice none 0 0]), 3, 40) := by kernel_rfl
theorem info_slt : (Tryz.prog.info? 61).map (fun i => (i.zero, i.size, i.bytes)) = some (some (.agg #[.int .i64 0, .int .i64 0, .int .i64 0, .int .i64 0, .int .i64 0, .int .i64 0, .int .i64 0, .bool false]), 8, 64) := by kernel_rfl
def nod0 : Nod := ⟨0, ⟨#[]⟩, 0, false⟩
def mod0 : Mod := ⟨0, 0, none, 0, 0, []⟩
def slt0 : Slt := ⟨0, 0, 0, 0, 0, 0, 0, false⟩
set_option maxHeartbeats 800000 in
theorem toNodeInfo_any (x : Nod) (w : World) :
    Calls Tryz.prog 93 #[.agg #[.int .i64 x.id, .string x.nm, .int .i64 x.dr, .bool x.pas]] w fun e w' => e = .returned (.agg #[.int .i64 x.id, .string x.nm, .int .i64 x.dr, .bool x.pas]) ∧ Below w.heap.size w w' := by
  go_enter Tryz.func93, Tryz.ntmps93
  go_wp2
  refine bodyPost_ret (v := .agg #[.int .i64 x.id, .string x.nm, .int .i64 x.dr, .bool x.pas]) (by simp [results, Tryz.results93, go_sem]) rfl ?_
  exact ⟨rfl, (((Below.refl _ _).alloc (by simp) _).alloc (by simp <;> omega) _).alloc (by simp <;> omega) _⟩
set_option maxHeartbeats 800000 in
theorem toDescriptor_any (x : Slt) (w : World) :
    Calls Tryz.prog 118 #[.agg #[.int .i64 x.nd, .int .i64 x.kd, .int .i64 x.sz, .int .i64 x.du, .bool x.ch]] w fun e w' => e = .returned (.agg #[.int .i64 x.nd, .int .i64 x.kd, .int .i64 x.sz, .int .i64 x.du, .bool x.ch]) ∧ w' = ((w.alloc (.cells #[.int .i64 x.nd, .int .i64 x.kd, .int .i64 x.sz, .int .i64 x.du, .bool x.ch] 110)).alloc (.cells #[.int .i64 x.nd, .int .i64 x.kd, .int .i64 x.sz, .int .i64 x.du, .bool x.ch] 59)).alloc (.cells #[.int .i64 x.nd, .int .i64 x.kd, .int .i64 x.sz, .int .i64 x.du, .bool x.ch] 59) := by
  go_enter Tryz.func118, Tryz.ntmps118
  go_wp2
  refine bodyPost_ret (v := .agg #[.int .i64 x.nd, .int .i64 x.kd, .int .i64 x.sz, .int .i64 x.du, .bool x.ch]) (by simp [results, Tryz.results118, go_sem]) rfl ?_
  exact ⟨rfl, rfl⟩
theorem results_8 {fn : Func} {t : Tmp} (h : fn.results = #[.cell t 61]) {tmps : Array Value} {w : World} {g : Nat} {a b c d e f i j : Value} (hp : tmps.getD t undef = .pointer (some ⟨g, 0, none⟩))
    (d0 : w.cell? ⟨g, 0, none⟩ = some a) (d1 : w.cell? ⟨g, 1, none⟩ = some b) (d2 : w.cell? ⟨g, 2, none⟩ = some c) (d3 : w.cell? ⟨g, 3, none⟩ = some d) (d4 : w.cell? ⟨g, 4, none⟩ = some e) (d5 : w.cell? ⟨g, 5, none⟩ = some f) (d6 : w.cell? ⟨g, 6, none⟩ = some i) (d7 : w.cell? ⟨g, 7, none⟩ = some j) :
    (results fn tmps).run Tryz.prog w = .ok (.agg #[a, b, c, d, e, f, i, j]) w := by
  rw [Array.getD_eq_getD_getElem?] at hp
  simp [results, h, hp, go_sem, d0, d1, d2, d3, d4, d5, d6, d7]
set_option maxHeartbeats 1600000 in
theorem toSlotInfo_any (x : Slt) (w : World) :
    Calls Tryz.prog 95 #[.agg #[.int .i64 x.md, .int .i64 x.rd, .int .i64 x.sl, .int .i64 x.nd, .int .i64 x.kd, .int .i64 x.sz, .int .i64 x.du, .bool x.ch]] w fun e w' => e = .returned (.agg #[.int .i64 x.md, .int .i64 x.rd, .int .i64 x.sl, .int .i64 x.nd, .int .i64 x.kd, .int .i64 x.sz, .int .i64 x.du, .bool x.ch]) ∧ Below w.heap.size w w' := by
  go_enter Tryz.func95, Tryz.ntmps95
  go_wp2_with fail
  refine (toDescriptor_any x _).mono ?_
  rintro e w1 ⟨rfl, rfl⟩
  go_wp2
  refine bodyPost_ret (v := .agg #[.int .i64 x.md, .int .i64 x.rd, .int .i64 x.sl, .int .i64 x.nd, .int .i64 x.kd, .int .i64 x.sz, .int .i64 x.du, .bool x.ch]) (by simp [results, Tryz.results95, go_sem]) rfl ?_
  exact ⟨rfl, by (repeat (first | exact Below.refl _ _ | (refine Below.alloc ?_ (by simp <;> omega) _) | (refine Below.setCell ?_ (by simp <;> omega) _)))⟩
theorem OwnR.spotN {T : TypeId} {w : World} {n c B g i : Nat} {l : List Nod} (h : OwnR T Nod.v 4 w B (some ⟨g, 0, none⟩) n c l) (hi : i < n) : ∃ x : Nod, l[i]? = some x ∧ (w.cell? ⟨g, i * 4, none⟩ = some (.int .i64 x.id) ∧ w.cell? ⟨g, i * 4 + 1, none⟩ = some (.string x.nm) ∧ w.cell? ⟨g, i * 4 + 2, none⟩ = some (.int .i64 x.dr) ∧ w.cell? ⟨g, i * 4 + 3, none⟩ = some (.bool x.pas)) ∧ (w.frozen? ⟨g, i * 4, none⟩ = false ∧ w.frozen? ⟨g, i * 4 + 1, none⟩ = false ∧ w.frozen? ⟨g, i * 4 + 2, none⟩ = false ∧ w.frozen? ⟨g, i * 4 + 3, none⟩ = false) := by
  obtain ⟨b, off, x, hA, hb, hx, hc⟩ := h.rd.at_ hi
  rcases h.form with ⟨h0, _⟩ | ⟨g', h0, _⟩
  · cases h0
  have hc' : ∀ j v, (Nod.v x)[j]? = some v → w.cell? ⟨g, i * 4 + j, none⟩ = some v := fun j v hv => by
    have hj : j < 4 := (List.getElem?_eq_some_iff.1 hv).1
    have hlt : i * 4 + j < n * 4 := by omega
    rw [h.1.cellAt _ hlt, flat_get h.2.2 l i j hj, hx]
    exact hv
  exact ⟨x, hx, ⟨hc' 0 _ rfl, hc' 1 _ rfl, hc' 2 _ rfl, hc' 3 _ rfl⟩, h.frozen _, h.frozen _, h.frozen _, h.frozen _⟩
theorem OwnR.spotMo {T : TypeId} {w : World} {n c B g i : Nat} {l : List Mod} (h : OwnR T Mod.v 3 w B (some ⟨g, 0, none⟩) n c l) (hi : i < n) : ∃ x : Mod, l[i]? = some x ∧ (w.cell? ⟨g, i * 3, none⟩ = some (.int .i64 x.rd) ∧ w.cell? ⟨g, i * 3 + 1, none⟩ = some (.int .i64 x.sl) ∧ w.cell? ⟨g, i * 3 + 2, none⟩ = some (.slice x.A x.n x.c)) ∧ (w.frozen? ⟨g, i * 3, none⟩ = false ∧ w.frozen? ⟨g, i * 3 + 1, none⟩ = false ∧ w.frozen? ⟨g, i * 3 + 2, none⟩ = false) := by
  obtain ⟨b, off, x, hA, hb, hx, hc⟩ := h.rd.at_ hi
  rcases h.form with ⟨h0, _⟩ | ⟨g', h0, _⟩
  · cases h0
  have hc' : ∀ j v, (Mod.v x)[j]? = some v → w.cell? ⟨g, i * 3 + j, none⟩ = some v := fun j v hv => by
    have hj : j < 3 := (List.getElem?_eq_some_iff.1 hv).1
    have hlt : i * 3 + j < n * 3 := by omega
    rw [h.1.cellAt _ hlt, flat_get h.2.2 l i j hj, hx]
    exact hv
  exact ⟨x, hx, ⟨hc' 0 _ rfl, hc' 1 _ rfl, hc' 2 _ rfl⟩, h.frozen _, h.frozen _, h.frozen _⟩
theorem OwnR.spotS {T : TypeId} {w : World} {n c B g i : Nat} {l : List Slt} (h : OwnR T Slt.v 8 w B (some ⟨g, 0, none⟩) n c l) (hi : i < n) : ∃ x : Slt, l[i]? = some x ∧ (w.cell? ⟨g, i * 8, none⟩ = some (.int .i64 x.md) ∧ w.cell? ⟨g, i * 8 + 1, none⟩ = some (.int .i64 x.rd) ∧ w.cell? ⟨g, i * 8 + 2, none⟩ = some (.int .i64 x.sl) ∧ w.cell? ⟨g, i * 8 + 3, none⟩ = some (.int .i64 x.nd) ∧ w.cell? ⟨g, i * 8 + 4, none⟩ = some (.int .i64 x.kd) ∧ w.cell? ⟨g, i * 8 + 5, none⟩ = some (.int .i64 x.sz) ∧ w.cell? ⟨g, i * 8 + 6, none⟩ = some (.int .i64 x.du) ∧ w.cell? ⟨g, i * 8 + 7, none⟩ = some (.bool x.ch)) ∧ (w.frozen? ⟨g, i * 8, none⟩ = false ∧ w.frozen? ⟨g, i * 8 + 1, none⟩ = false ∧ w.frozen? ⟨g, i * 8 + 2, none⟩ = false ∧ w.frozen? ⟨g, i * 8 + 3, none⟩ = false ∧ w.frozen? ⟨g, i * 8 + 4, none⟩ = false ∧ w.frozen? ⟨g, i * 8 + 5, none⟩ = false ∧ w.frozen? ⟨g, i * 8 + 6, none⟩ = false ∧ w.frozen? ⟨g, i * 8 + 7, none⟩ = false) := by
  obtain ⟨b, off, x, hA, hb, hx, hc⟩ := h.rd.at_ hi
  rcases h.form with ⟨h0, _⟩ | ⟨g', h0, _⟩
  · cases h0
  have hc' : ∀ j v, (Slt.v x)[j]? = some v → w.cell? ⟨g, i * 8 + j, none⟩ = some v := fun j v hv => by
    have hj : j < 8 := (List.getElem?_eq_some_iff.1 hv).1
    have hlt : i * 8 + j < n * 8 := by omega
    rw [h.1.cellAt _ hlt, flat_get h.2.2 l i j hj, hx]
    exact hv
  exact ⟨x, hx, ⟨hc' 0 _ rfl, hc' 1 _ rfl, hc' 2 _ rfl, hc' 3 _ rfl, hc' 4 _ rfl, hc' 5 _ rfl, hc' 6 _ rfl, hc' 7 _ rfl⟩, h.frozen _, h.frozen _, h.frozen _, h.frozen _, h.frozen _, h.frozen _, h.frozen _, h.frozen _⟩
set_option maxHeartbeats 1600000 in
theorem toNodeInfoS_any (A : Option Addr) (n c : Nat) (l : List Nod) (w : World) (h : RdR Nod.v 4 w A n c l) (hn : n ≤ 16777216) :
    Calls Tryz.prog 61 #[.slice A n c] w fun e w' => ∃ g, e = .returned (.slice (some ⟨g, 0, none⟩) n n) ∧ OwnR 68 Nod.v 4 w' w.heap.size (some ⟨g, 0, none⟩) n n l ∧ Below w.heap.size w w' := by
  have hcap := h.cap
  have hlen := hide h.len
  have hmk := make_rec Tryz.underlying24 info_nod n (by omega) (by omega)
  go_enter Tryz.func61, Tryz.ntmps61
  go_wp2
  go_loopw [4] (fun i wr => ∃ k : Nat, k ≤ n ∧ i = .int .i64 k ∧ OwnR 68 Nod.v 4 wr w.heap.size (some ⟨w.heap.size, 0, none⟩) n n (l.take k ++ List.replicate (n - k) nod0) ∧ Below w.heap.size w wr) (fun i _ => n - (intOf i).toNat)
  case atStart => exact ⟨0, Nat.zero_le _, rfl, OwnR.made Nod.k (by decide) _ nod0 rfl w (Nat.le_refl _) (by omega), (Below.refl _ _).alloc (Nat.le_refl _) _⟩
  case round =>
    obtain ⟨k, hk, rfl, hown, hbel⟩ := hrel
    by_cases hlt : k < n
    · obtain ⟨b, off, x, rfl, hb, hx, c0, c1, c2, c3⟩ := nod_at (h.below hbel) hlt
      have HO := hide hown
      have HB := hide hbel
      have HX := hide hx
      clear hown hbel hx hmk
      go_wp2_with fail
      refine (toNodeInfo_any x wr).mono ?_
      rintro e w1 ⟨rfl, b1⟩
      have O1 := HO.out.below b1
      have B1 := below_trans HB.out b1
      obtain ⟨y, _, ⟨s0, s1, s2, s3⟩, z0, z1, z2, z3⟩ := O1.spotN hlt
      have PP := O1.putN hlt x
      have BB := hide (below_ownR B1 B1.size O1 (Nat.le_refl _) PP.2)
      have P1 := hide PP.1
      clear PP O1 B1 b1 HB HO
      go_wp2
      go_roundw
      case rel =>
        have e := P1.out
        rw [fill_step (by rw [List.length_take, hlen.out]; omega) hlt, ← take_one HX.out] at e
        exact ⟨k + 1, by omega, by go_num, e, BB.out⟩
      case measure => simp [intOf]; omega
    · obtain rfl : k = n := by omega
      rw [Nat.sub_self, List.replicate_zero, List.append_nil, List.take_of_length_le (by rw [hlen.out]; exact Nat.le_refl _)] at hown
      go_wp2
      go_ret
      exact ⟨_, rfl, hown, hbel⟩
set_option maxHeartbeats 1600000 in
theorem toSlotInfoS_any (A : Option Addr) (n c : Nat) (l : List Slt) (w : World) (h : RdR Slt.v 8 w A n c l) (hn : n ≤ 16777216) :
    Calls Tryz.prog 63 #[.slice A n c] w fun e w' => ∃ g, e = .returned (.slice (some ⟨g, 0, none⟩) n n) ∧ OwnR 61 Slt.v 8 w' w.heap.size (some ⟨g, 0, none⟩) n n l ∧ Below w.heap.size w w' := by
  have hcap := h.cap
  have hlen := hide h.len
  have hmk := make_rec Tryz.underlying26 info_slt n (by omega) (by omega)
  go_enter Tryz.func63, Tryz.ntmps63
  go_wp2
  go_loopw [4] (fun i wr => ∃ k : Nat, k ≤ n ∧ i = .int .i64 k ∧ OwnR 61 Slt.v 8 wr w.heap.size (some ⟨w.heap.size, 0, none⟩) n n (l.take k ++ List.replicate (n - k) slt0) ∧ Below w.heap.size w wr) (fun i _ => n - (intOf i).toNat)
  case atStart => exact ⟨0, Nat.zero_le _, rfl, OwnR.made Slt.k (by decide) _ slt0 rfl w (Nat.le_refl _) (by omega), (Below.refl _ _).alloc (Nat.le_refl _) _⟩
  case round =>
    obtain ⟨k, hk, rfl, hown, hbel⟩ := hrel
    by_cases hlt : k < n
    · obtain ⟨b, off, x, rfl, hb, hx, c0, c1, c2, c3, c4, c5, c6, c7⟩ := slt_at (h.below hbel) hlt
      have HO := hide hown
      have HB := hide hbel
      have HX := hide hx
      clear hown hbel hx hmk
      go_wp2_with fail
      refine (toSlotInfo_any x wr).mono ?_
      rintro e w1 ⟨rfl, b1⟩
      have O1 := HO.out.below b1
      have B1 := below_trans HB.out b1
      obtain ⟨y, _, ⟨s0, s1, s2, s3, s4, s5, s6, s7⟩, z0, z1, z2, z3, z4, z5, z6, z7⟩ := O1.spotS hlt
      have PP := O1.putS hlt x
      have BB := hide (below_ownR B1 B1.size O1 (Nat.le_refl _) PP.2)
      have P1 := hide PP.1
      clear PP O1 B1 b1 HB HO
      go_wp2
      go_roundw
      case rel =>
        have e := P1.out
        rw [fill_step (by rw [List.length_take, hlen.out]; omega) hlt, ← take_one HX.out] at e
        exact ⟨k + 1, by omega, by go_num, e, BB.out⟩
      case measure => simp [intOf]; omega
    · obtain rfl : k = n := by omega
      rw [Nat.sub_self, List.replicate_zero, List.append_nil, List.take_of_length_le (by rw [hlen.out]; exact Nat.le_refl _)] at hown
      go_wp2
      go_ret
      exact ⟨_, rfl, hown, hbel⟩
end Go.Proofs.YtdkhldebnpmiiaaGreatDoor
