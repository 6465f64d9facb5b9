/- Contracts: slices.Chunk at a list of 8 * m cells: the iterator hands out m parts of eight; the bytes of a list of bits. -/
import Derived.RangeFuncNested
import Derived.RangeFuncBound
import Derived.RangeFuncCalls
import Derived.RangeFuncLeaves
import Derived.RangeFuncBox
import Derived.Shelf.Abstract
import Derived.Shelf.RegionOpen
import Derived.Shelf.RegionOpenV
import Derived.WalkKit
import Derived.OwnWalkIn
import Derived.TacticsInMore
import Derived.LoopNIn
import Derived.LoopIn
import Derived.Maps.AppendAt
import Derived.Test.YtdodhjahihfaiaaRead
import Derived.Test.YtdodhjahihfaiaaCells
import Derived.Test.YtdodhjahihfaiaaMoreMath
namespace Go.Proofs.Ytdodhjahihfaiaa
open Go.RowKit Go.Shelf
set_option linter.unusedVariables false
set_option linter.unusedSimpArgs false
attribute [local go_sem] Oper.semAt_some

/-- what a round of the loop keeps for the iterator: its two boxes -/
def KpC (Bs Bn : Nat) (W W' : World) : Prop := W'.cell? ⟨Bs, 0, none⟩ = W.cell? ⟨Bs, 0, none⟩ ∧ W'.cell? ⟨Bn, 0, none⟩ = W.cell? ⟨Bn, 0, none⟩
theorem KpC.t {Bs Bn : Nat} {A B C : World} (h : KpC Bs Bn A B) (k : KpC Bs Bn B C) : KpC Bs Bn A C := ⟨k.1.trans h.1, k.2.trans h.2⟩
set_option maxRecDepth 100000 in
set_option maxHeartbeats 2000000 in
theorem chunk1_in (F : Fence) (n : Nat) (hF : F.fn 124) (hro : F.round = none) (hn : 1 ≤ n) (l Bs Bn b off c m : Nat) (hm : 8 * m ≤ 1048576) (hc : 8 * m ≤ c) (hcb : c ≤ 9223372036854775807) (J Jx : List (Fin m) → World → Prop) (hJd : ∀ s W k, J s W → J s (W.drewN k))
    (hY : ∀ pre (x : Fin m) W, J pre W → pre.length < m → YieldAt F (n - 1) Try.prog l #[.slice (some ⟨b, off + 8 * x.1, none⟩) 8 8] W fun e W' =>
      (e = .returned (.bool true) ∧ J (pre ++ [x]) W' ∧ KpC Bs Bn W W') ∨ (e = .returned (.bool false) ∧ Jx (pre ++ [x]) W'))
    (W : World) (hs : W.cell? ⟨Bs, 0, none⟩ = some (.slice (some ⟨b, off, none⟩) (8 * m) c)) (h8 : W.cell? ⟨Bn, 0, none⟩ = some (.int .i64 8)) (h0 : J [] W) :
    CallsIn F n Try.prog 124 #[.func (.yield l) #[] #[], .pointer (some ⟨Bs, 0, none⟩), .pointer (some ⟨Bn, 0, none⟩)] W fun e W' => (∃ v, e = .returned v) ∧
      ((∃ ys, ys.map Fin.val = List.range m ∧ J ys W') ∨ (∃ pre, True ∧ Jx pre W')) := by
  refine callsIn_of_wp Try.func124 rfl hF ?_ hro
  simp only [Try.ntmps124, List.size_toArray, List.length_cons, List.length_nil, Nat.reduceAdd, Nat.reduceSub, Array.replicate_succ, Array.replicate_zero, List.push_toArray, List.append_toArray, List.nil_append, List.cons_append]
  have hmx : Try.prog.follows .mixedOrders = true := by kernel_rfl
  gi_wp2
  gi_loopw [4] (fun i wr => ∃ (k : Nat) (pre : List (Fin m)), k ≤ m ∧ i = .int .i64 ((8 * k : Nat) : Int) ∧ pre.map Fin.val = List.range k ∧ J pre wr ∧ wr.cell? ⟨Bs, 0, none⟩ = some (.slice (some ⟨b, off, none⟩) (8 * m) c) ∧ wr.cell? ⟨Bn, 0, none⟩ = some (.int .i64 8))
    (fun i _ => 8 * m - (intOf i).toNat)
  case atStart => exact ⟨0, [], Nat.zero_le _, rfl, rfl, h0, hs, h8⟩
  case round =>
    obtain ⟨k, pre, hk, rfl, hp, hJs, hsr, h8r⟩ := hrel
    by_cases hlt : k < m
    · have hlen : pre.length = k := by have := congrArg List.length hp; simpa using this
      have z1 : (0 : Int) ≤ ((8 * k : Nat) : Int) := by omega
      have z2 : ((8 * k : Nat) : Int) < ((8 * m : Nat) : Int) := by omega
      have hck : ¬ c = 8 * k := by omega
      have zm : min (8 : Int) ((8 * m - 8 * k : Nat) : Int) = 8 := by omega
      gi_wp2
      gi_big_quiet_th_v (fail)
      obtain ⟨fn, tmps, assign, body, hy, hR⟩ := hY pre ⟨k, hlt⟩ (wr.drewN nq) (hJd _ _ _ hJs) (by omega)
      dsimp only at hy
      gi_wp2
      refine hR.mono ?_
      rintro e W3 (⟨rfl, hJ3, hk3⟩ | ⟨rfl, hJx3⟩)
      · have hs3 := hk3.1.trans hsr
        have h83 := hk3.2.trans h8r
        gi_wp2
        go_roundw
        case rel => exact ⟨k + 1, pre ++ [⟨k, hlt⟩], by omega, by go_num, by rw [List.map_append, hp, List.range_succ]; rfl, hJ3, hs3, h83⟩
        case measure => simp [intOf]; omega
      · gi_wp2
        refine bodyPost_ret (results_none rfl _ _ _) rfl ?_
        exact ⟨⟨_, rfl⟩, .inr ⟨_, trivial, hJx3⟩⟩
    · obtain rfl : k = m := by omega
      gi_wp2
      go_end0
      exact ⟨⟨_, rfl⟩, .inl ⟨_, hp, hJs⟩⟩
set_option maxRecDepth 100000 in
set_option maxHeartbeats 1000000 in
theorem chunk0_in (F : Fence) (n : Nat) (hF : F.fn 124) (hro : F.round = none) (l Bs Bn : Nat) (A : Option Addr) (c : Nat) (J Jx : List (Fin 0) → World → Prop)
    (W : World) (hs : W.cell? ⟨Bs, 0, none⟩ = some (.slice A 0 c)) (h8 : W.cell? ⟨Bn, 0, none⟩ = some (.int .i64 8)) (h0 : J [] W) :
    CallsIn F n Try.prog 124 #[.func (.yield l) #[] #[], .pointer (some ⟨Bs, 0, none⟩), .pointer (some ⟨Bn, 0, none⟩)] W fun e W' => (∃ v, e = .returned v) ∧
      ((∃ ys : List (Fin 0), ys.map Fin.val = List.range 0 ∧ J ys W') ∨ (∃ pre, True ∧ Jx pre W')) := by
  refine callsIn_of_wp Try.func124 rfl hF ?_ hro
  simp only [Try.ntmps124, List.size_toArray, List.length_cons, List.length_nil, Nat.reduceAdd, Nat.reduceSub, Array.replicate_succ, Array.replicate_zero, List.push_toArray, List.append_toArray, List.nil_append, List.cons_append]
  gi_wp2
  gi_loopw [4] (fun i wr => i = .int .i64 0 ∧ J [] wr ∧ wr.cell? ⟨Bs, 0, none⟩ = some (.slice A 0 c) ∧ wr.cell? ⟨Bn, 0, none⟩ = some (.int .i64 8)) (fun _ _ => 0)
  case atStart => exact ⟨rfl, h0, hs, h8⟩
  case round =>
    obtain ⟨rfl, hJs, hs, h8⟩ := hrel
    gi_wp2
    go_end0
    exact ⟨⟨_, rfl⟩, .inl ⟨[], rfl, hJs⟩⟩
set_option maxHeartbeats 1000000 in
theorem chunk_in (F : Fence) (n : Nat) (hF : F.fn 119) (hro : F.round = none) (A : Option Addr) (k c : Nat) (w : World) :
    CallsIn F n Try.prog 119 #[.slice A k c, .int .i64 8] w fun e w' => e = .returned (.func (.func 124) #[] #[.pointer (some ⟨w.heap.size, 0, none⟩), .pointer (some ⟨w.heap.size + 1, 0, none⟩)]) ∧ w' = (w.alloc (.cells #[.slice A k c] 25)).alloc (.cells #[.int .i64 8] 3) := by
  refine callsIn_of_wp Try.func119 rfl hF ?_ hro
  simp only [Try.ntmps119, List.size_toArray, List.length_cons, List.length_nil, Nat.reduceAdd, Nat.reduceSub, Array.replicate_succ, Array.replicate_zero, List.push_toArray, List.append_toArray, List.nil_append, List.cons_append]
  gi_wp2
  go_ret
  exact ⟨rfl, rfl⟩
def part8 (A : Option Addr) {m : Nat} (x : Fin m) : Array Value := #[.slice (A.map fun p => ⟨p.block, p.off + 8 * x.1, none⟩) 8 8]
theorem chunk_stops (F : Fence) (n : Nat) (hF : F.fn 124) (hro : F.round = none) (hn : 1 ≤ n) (Bs Bn : Nat) (A : Option Addr) (c m : Nat) (zs : List Int) (w : World) (hr : Rd w A (8 * m) c zs) (hm : 8 * m ≤ 1048576) (hBs : Bs < w.heap.size) (hBn : Bn < w.heap.size)
    (hs : w.cell? ⟨Bs, 0, none⟩ = some (.slice A (8 * m) c)) (h8 : w.cell? ⟨Bn, 0, none⟩ = some (.int .i64 8)) :
    SeqStopsK F n Try.prog 124 #[.pointer (some ⟨Bs, 0, none⟩), .pointer (some ⟨Bn, 0, none⟩)] (fun x : Fin m => part8 A x) (KpC Bs Bn) (fun ys => ys.map Fin.val = List.range m) (fun _ => True) m w := fun l J Jx W hW hJ _ hY h0 => by
  have hs' := (hW.cell (p := ⟨Bs, 0, none⟩) hBs).trans hs
  have h8' := (hW.cell (p := ⟨Bn, 0, none⟩) hBn).trans h8
  by_cases h0m : m = 0
  · subst h0m
    exact chunk0_in F n hF hro l Bs Bn A c J Jx W hs' h8' h0
  · obtain ⟨b, off, rfl, _⟩ := hr.at_ (by omega)
    have hc := hr.cap
    exact chunk1_in F n hF hro hn l Bs Bn b off c m hm hc.1 hc.2 J Jx (fun s W k hJs => hJ s W _ none hJs ⟨rfl, rfl, rfl, Nat.le_refl _, fun _ _ _ => rfl⟩ (fun r e => by cases e)) hY W hs' h8' h0
theorem KpC.put {Bs Bn D : Nat} (h1 : Bs < D) (h2 : Bn < D) (W : World) (l : Nat) (o o' : Obj) (hl : D ≤ l) (_ : W.heap[l]? = some o) (_ : o.isCells = false) (_ : o.isWalk = false) : KpC Bs Bn W (W.putObj l o') :=
  ⟨World.cell?_of_block (World.putObj_heap_other (by dsimp only; omega)), World.cell?_of_block (World.putObj_heap_other (by dsimp only; omega))⟩
def num8s (zs : List Int) {m : Nat} (pre : List (Fin m)) : List Int := pre.map fun x => numTo zs (8 * x.1) 8
theorem num8s_done {zs : List Int} {m : Nat} {ys : List (Fin m)} (h : ys.map Fin.val = List.range m) : num8s zs ys = bytes8 zs m := by
  rw [bytes8, ← h, List.map_map]; rfl
theorem bytes8_i64 {zs : List Int} (hb : allB 0 1 zs = true) (m : Nat) (hl : zs.length = 8 * m) : I64 (bytes8 zs m) := by
  intro z hz
  simp only [bytes8, List.mem_map, List.mem_range] at hz
  obtain ⟨i, hi, rfl⟩ := hz
  have := numTo_bounds hb (8 * i) 8 (by omega)
  omega
theorem part8_reads {w : World} {A : Option Addr} {c m : Nat} {zs : List Int} (h : Rd w A (8 * m) c zs) (x : Fin m) : Rd w (A.map fun p => ⟨p.block, p.off + 8 * x.1, none⟩) 8 8 ((zs.take (8 * x.1 + 8)).drop (8 * x.1)) := by
  have hx := x.2
  have hl := h.len
  obtain ⟨b, off, rfl, hb, hc⟩ := h.at_ (by omega)
  have e := h.sub (8 * x.1) (8 * x.1 + 8) (by omega) (by omega)
  rw [show 8 * x.1 + 8 - 8 * x.1 = 8 by omega] at e
  exact ⟨e.1, Nat.le_refl _, by simp [maxLen], ⟨e.i64, fun h => by cases h⟩, e.2.2.2.2⟩
theorem num_sub8 {zs : List Int} {q : Nat} : numTo ((zs.take (q + 8)).drop q) 0 8 = numTo zs q 8 :=
  numTo_shift 8 fun j hj => by rw [nth_drop, nth_take _ _ _ (by omega), Nat.zero_add]
theorem step_append_in {F : Fence} {nn : Nat} {ops : Array Oper} {o : Oper} {a : Act} {w : World} {K : Act → World → Prop} {Q : Exit → Act → World → Prop} {E : Prop} (hgd : o.guard = none) (s x : Operand)
    (ho : o.op = .call { callee := .builtin .append, args := #[s, x], argTypes := #[25, 25] })
    (base : Nat) {i : TypeInfo} (hi : Try.prog.info? 2 = some i) (hz : i.zero = some (.int .i64 0)) (hsize : i.size = 1) (hby : i.bytes = 8)
    (v : Value) (n : Nat) (xs : List Value) (hs : a.eval s = v) (hown : w.ownsRow base 2 1 v n xs)
    (ad : Addr) (m c : Nat) (news : List Value) (hx : a.eval x = .slice (some ad) m c) (hl : news.length = m * 1) (hnews : ∀ j u, news[j]? = some u → w.cell? (ad.add j) = some u) (h1 : ∀ u ∈ news, u.oneCell' = true)
    (h63 : n + m ≤ maxLen) (hbytes : (n + m) * 8 ≤ 140737488355328) (hbase : base ≤ w.heap.size)
    (h : ∀ v' w', w'.ownsRow base 2 1 v' (n + m) (xs ++ news) → w.grownBy w' v.ownBlock → K (a.put o.dst v') w') :
    if Region.wanted o (yielded ops a.tmps) = true then Oper.wpIn F nn Try.prog o a w K Q else E := by
  obtain ⟨v', w', hrun, r1, r2, r3⟩ := run_append_own (P := Try.prog) w base 25 o.type 2 i (.int .i64 0) 1 8 Try.underlying25 hi hz hsize hby rfl (by decide) v n xs hown ad m c news hl hnews h1 h63 hbytes hbase
  rw [if_pos (by simp [Region.wanted, hgd])]
  unfold Oper.wpIn
  refine ⟨?_, ?_⟩
  · simp [Oper.about, ho, resolve, Target.leads, Sem.run_pure]
  · rw [Oper.semAt_plain F _ _ (by rw [ho]; intro c hc'; cases hc')]
    simp [execOp, ho, resolve, invoke, builtin, hs, hx, hrun, Result.andThen]
    exact h _ _ r1 r2
theorem num8s_snoc (zs : List Int) {m : Nat} (pre : List (Fin m)) (x : Fin m) : num8s zs (pre ++ [x]) = num8s zs pre ++ [numTo zs (8 * x.1) 8] := by simp [num8s]
theorem box2_own {β : Type} (B1 B2 : Nat) (t1 t2 : TypeId) (v1 v2 : Value) : Go.Own (fun (_ : β) W => Boxed W B1 t1 v1 ∧ Boxed W B2 t2 v2) := by
  rintro s X Y row ⟨h1, h2⟩ hg hrow
  refine ⟨h1.kept hg (fun e' => ?_), h2.kept hg (fun e' => ?_)⟩
  · obtain ⟨o, ho, hc⟩ := hrow B1 e'.symm
    rw [show X.heap[B1]? = _ from h1] at ho; cases ho; cases hc
  · obtain ⟨o, ho, hc⟩ := hrow B2 e'.symm
    rw [show X.heap[B2]? = _ from h2] at ho; cases ho; cases hc
theorem hnew0 (w : World) : ((w.alloc (.cells #[] 2)).alloc (.cells #[.slice (some ⟨w.heap.size, 0, none⟩) 0 0] 25)).ownsRow w.heap.size 2 1 (.slice (some ⟨w.heap.size, 0, none⟩) 0 0) 0 [] := by
  have e := ((Own.empty w (Nat.le_refl w.heap.size)).below ((Below.refl _ _).alloc (Nat.le_refl _) (.cells #[.slice (some ⟨w.heap.size, 0, none⟩) 0 0] 25))).row
  exact e
set_option maxRecDepth 100000 in
set_option maxHeartbeats 2000000 in
theorem toBytes_any (A : Option Addr) (c : Nat) (zs : List Int) (m : Nat) (w : World) (h : Rd w A (8 * m) c zs) (hm : 8 * m ≤ 1048576) (hb : allB 0 1 zs = true) :
    Calls Try.prog 103 #[.slice A (8 * m) c] w fun e w' => ∃ A' c', e = .returned (.slice A' m c') ∧ Own w' w.heap.size A' m c' (bytes8 zs m) ∧ Below w.heap.size w w' := by
  obtain ⟨i0, hi, hz0, hz1, hz2⟩ := info_parts info_i64
  have hmx : Try.prog.follows .mixedOrders = true := by kernel_rfl
  refine (callsIn_wide (n := 5)).1 ?_
  refine callsIn_of_wp_marks Try.func103 rfl trivial ?_ rfl
  simp only [Try.ntmps103, List.size_toArray, List.length_cons, List.length_nil, Nat.reduceAdd, Nat.reduceSub, Array.replicate_succ, Array.replicate_zero, List.push_toArray, List.append_toArray, List.nil_append, List.cons_append]
  gi_wp2_with (refine ⟨trivial, ?_⟩; gi_at_call 119; refine (chunk_in Fence.wide _ trivial rfl _ _ _ _).mono ?_; rintro e w' ⟨rfl, rfl⟩)
  have bO := Boxed.new (w.alloc (.cells #[] 2)) 25 (.slice (some ⟨w.heap.size, 0, none⟩) 0 0)
  rw [World.size_alloc] at bO
  obtain ⟨W0, hW0⟩ : ∃ W0, (w.alloc (.cells #[] 2)).alloc (.cells #[.slice (some ⟨w.heap.size, 0, none⟩) 0 0] 25) = W0 := ⟨_, rfl⟩
  have hB0 : Below w.heap.size w W0 := by rw [← hW0]; exact ((Below.refl _ w).alloc (Nat.le_refl _) _).alloc (by simp) _
  have hz0' : W0.heap.size = w.heap.size + 2 := by rw [← hW0]; simp
  have hO0 : W0.ownsRow w.heap.size 2 1 (.slice (some ⟨w.heap.size, 0, none⟩) 0 0) 0 [] := by
    rw [← hW0]; exact hnew0 w
  rw [hW0] at bO ⊢
  obtain ⟨W1, hW1⟩ : ∃ W1, (W0.alloc (.cells #[.slice A (8 * m) c] 25)).alloc (.cells #[.int .i64 8] 3) = W1 := ⟨_, rfl⟩
  have hb01 : Below W0.heap.size W0 W1 := by rw [← hW1]; exact ((Below.refl _ W0).alloc (Nat.le_refl _) _).alloc (by simp) _
  have hB1 : Below w.heap.size w W1 := hB0.trans (hb01.mono (by omega))
  have hz1' : W1.heap.size = w.heap.size + 4 := by rw [← hW1]; simp; omega
  have bx1 : Boxed W1 (w.heap.size + 1 + 1) 25 (.slice A (8 * m) c) := by
    have e := (Boxed.new W0 25 (.slice A (8 * m) c)).alloc (.cells #[.int .i64 8] 3)
    rw [hW1, hz0'] at e; exact e
  have bx2 : Boxed W1 (w.heap.size + 1 + 1 + 1) 3 (.int .i64 8) := by
    have e := Boxed.new (W0.alloc (.cells #[.slice A (8 * m) c] 25)) 3 (.int .i64 8)
    rw [hW1, World.size_alloc, hz0'] at e; exact e
  have hc1 : W1.cell? ⟨w.heap.size + 1 + 1, 0, none⟩ = some (.slice A (8 * m) c) := by
    have e := (Boxed.new W0 25 (.slice A (8 * m) c)).alloc (.cells #[.int .i64 8] 3)
    rw [hW1, hz0'] at e; exact e.cell
  have hc2 : W1.cell? ⟨w.heap.size + 1 + 1 + 1, 0, none⟩ = some (.int .i64 8) := by
    have e := Boxed.new (W0.alloc (.cells #[.slice A (8 * m) c] 25)) 3 (.int .i64 8)
    rw [hW1, World.size_alloc, hz0'] at e; exact e.cell
  have bO1 : Boxed W1 (w.heap.size + 1) 25 (.slice (some ⟨w.heap.size, 0, none⟩) 0 0) := by
    rw [← hW1]; exact (bO.alloc _).alloc _
  have hO1 : W1.ownsRow w.heap.size 2 1 (.slice (some ⟨w.heap.size, 0, none⟩) 0 0) 0 [] := by
    rw [← hW1]; exact (hO0.alloc _).alloc _
  rw [hW1]
  refine wpIn_rangeFunc_ownG (α := Fin m) rfl (by omega) (gf := 124) (lb := #[.pointer (some ⟨w.heap.size + 1 + 1, 0, none⟩), .pointer (some ⟨w.heap.size + 1 + 1 + 1, 0, none⟩)]) rfl trivial (enters_of Try.func124 (by kernel_rfl) rfl)
    (chunk_stops Fence.wide _ trivial rfl (by omega) (w.heap.size + 1 + 1) (w.heap.size + 1 + 1 + 1) A c m zs W1 (h.below hB1) hm (by omega) (by omega) hc1 hc2) KpC.t (KpC.put (by omega) (by omega)) (Below.refl _ _) (fun _ => rfl)
    (fun pre W => (∃ v, Boxed W (w.heap.size + 1) 25 v ∧ W.ownsRow w.heap.size 2 1 v pre.length (ints (num8s zs pre)) ∧ ∃ A' c', v = .slice A' pre.length c') ∧ (Boxed W (w.heap.size + 1 + 1) 25 (.slice A (8 * m) c) ∧ Boxed W (w.heap.size + 1 + 1 + 1) 3 (.int .i64 8)) ∧ Below w.heap.size w W)
    (fun _ _ _ => False)
    (OwnFrom.and (Own.from (holdsRow_own w.heap.size (w.heap.size + 1) 25 2 1 (fun pre => pre.length) (fun pre => ints (num8s zs pre)) (fun pre v => ∃ A' c', v = .slice A' pre.length c')) _) (OwnFrom.and (Own.from (box2_own _ _ _ _ _ _) _) (ownFrom_below (Nat.le_refl _) (by omega))))
    (fun _ _ _ _ _ hs _ _ => hs)
    ⟨⟨_, bO1, hO1, _, _, rfl⟩, ⟨bx1, bx2⟩, hB1⟩
    (fun x => { tmps := #[.slice A (8 * m) c, undef, .slice none 0 0, .pointer (some ⟨w.heap.size + 1, 0, none⟩), .slice (A.map fun p => ⟨p.block, p.off + 8 * x.1, none⟩) 8 8, .slice (some ⟨w.heap.size, 0, none⟩) 0 0, .slice A (8 * m) c, .func (.func 124) #[] #[.pointer (some ⟨w.heap.size + 1 + 1, 0, none⟩), .pointer (some ⟨w.heap.size + 1 + 1 + 1, 0, none⟩)], .slice (A.map fun p => ⟨p.block, p.off + 8 * x.1, none⟩) 8 8, undef, undef, undef, undef, undef, undef], defers := [] }) ?assign ?body ?done ?stop
  case assign =>
    intro l x W K hK
    simp only [part8]
    gi_wp2
    exact hK
  case body =>
    rintro l pre x W ⟨⟨v, hv, hrow, A', c', rfl⟩, ⟨xs0, xn0⟩, hB⟩ hlt
    have hc := hv.cell
    have hk8 := part8_reads (h.below hB) x
    have hb8 := bits_sub hb (8 * x.1) (8 * x.1 + 8)
    have hpl : pre.length ≤ 1048576 := by omega
    have hN : Calls Try.prog 113 #[.slice (A.map fun p => ⟨p.block, p.off + 8 * x.1, none⟩) 8 8] W.drew fun e w' => e = .returned (.int .i64 (numTo zs (8 * x.1) 8)) ∧ W.drew = w' := by
      have e := numberOf_any _ _ _ _ hk8.drew hb8
      rwa [num_sub8] at e
    have hlv := hv.lt
    gi_wp2
    refine wpIn_region_any hmx ?_
    change wpAnyIn _ _ _ _ _ _ _ _ _ (World.drew _)
    refine wpAnyIn_ready (rs := [0, 1]) (by kernel_rfl) (by simp) ?_
    refine AllReadyIn.cons rfl (fun K hK => ?_) (AllReadyIn.cons rfl (fun K hK => ?_) (AllReadyIn.nil))
    · go_simp
      refine hK _ _ ?_
      clear hK K
      refine wpAnyIn_ready (rs := [1]) (by kernel_rfl) (by simp) ?_
      refine AllReadyIn.cons rfl (fun K hK => ?_) (AllReadyIn.nil)
      go_simp
      refine hK _ _ ?_
      clear hK K
      refine wpAnyIn_ready (rs := [2]) (by kernel_rfl) (by simp) ?_
      refine AllReadyIn.cons rfl (fun K hK => ?_) (AllReadyIn.nil)
      go_simp
      refine ⟨trivial, ?_⟩
      refine (CallsIn.inRound l (callsIn_wide.2 hN)).mono ?_
      rintro e w' ⟨rfl, rfl⟩
      refine hK _ _ ?_
      clear hK K
      refine wpAnyIn_ready (rs := [3]) (by kernel_rfl) (by simp) ?_
      refine AllReadyIn.cons rfl (fun K hK => ?_) (AllReadyIn.nil)
      go_simp
      refine hK _ _ ?_
      clear hK K
      refine wpAnyIn_ready (rs := [4]) (by kernel_rfl) (by simp) ?_
      refine AllReadyIn.cons rfl (fun K hK => ?_) AllReadyIn.nil
      refine step_append_in rfl _ _ rfl w.heap.size hi hz0 hz1 hz2 (.slice A' pre.length c') pre.length (ints (num8s zs pre)) (by rfl) (hrow.alloc _) ⟨W.heap.size, 0, none⟩ 1 1 [.int .i64 (numTo zs (8 * x.1) 8)] (by rfl) rfl (cell_one_new _ _ _) (by simp [Value.oneCell']) (by simp only [maxLen]; omega) (by omega) (by have := hB.size; simp; omega) ?_
      intro v' w1 hown' hgrow
      obtain ⟨g', cap', rfl⟩ := ownsRow_succ hown'
      have hgr : (W.alloc (.cells #[.int .i64 (numTo zs (8 * x.1) 8)] 2)).grownBy w1 (Value.slice A' pre.length c').ownBlock := ⟨hgrow.os, hgrow.tape, hgrow.output, hgrow.size, hgrow.block⟩
      obtain ⟨hv1, hv2, hr2, hk2, hb2⟩ := hv.appended (by decide) hrow hB.size (by omega) hown' hgr
      have xs1 : Boxed w1 _ _ _ := (xs0.alloc (.cells #[.int .i64 (numTo zs (8 * x.1) 8)] 2)).kept hgr (xs0.not_row (by decide) hrow)
      have xn1 : Boxed w1 _ _ _ := (xn0.alloc (.cells #[.int .i64 (numTo zs (8 * x.1) 8)] 2)).kept hgr (xn0.not_row (by decide) hrow)
      have xs2 := xs1.kept (grownBy_setCell' w1 (w.heap.size + 1) (.slice (some ⟨g', 0, none⟩) (pre.length + 1) cap')) (by simp <;> omega)
      have xn2 := xn1.kept (grownBy_setCell' w1 (w.heap.size + 1) (.slice (some ⟨g', 0, none⟩) (pre.length + 1) cap')) (by simp <;> omega)
      have hr3 : (w1.setCell ⟨w.heap.size + 1, 0, none⟩ (.slice (some ⟨g', 0, none⟩) (pre.length + 1) cap')).ownsRow w.heap.size 2 1 (.slice (some ⟨g', 0, none⟩) (pre.length + 1) cap') (pre ++ [x]).length (ints (num8s zs (pre ++ [x]))) := by
        rw [num8s_snoc, ints_append, List.length_append]; exact hr2
      have hc1 := hv1.cell
      have hf1 := hv1.frozen
      refine hK _ _ ?_
      clear hK K
      refine wpAnyIn_ready (rs := [5]) (by kernel_rfl) (by simp) ?_
      refine AllReadyIn.cons rfl (fun K hK => ?_) AllReadyIn.nil
      go_simp
      refine hK _ _ ?_
      clear hK K
      refine wpAnyIn_done (by kernel_rfl) ?_ _
      gi_wp2
      exact ⟨hk2.from _, ⟨xs2.cell.trans xs0.cell.symm, xn2.cell.trans xn0.cell.symm⟩, ⟨_, hv2, hr3, some ⟨g', 0, none⟩, cap', by simp⟩, ⟨xs2, xn2⟩, hB.trans hb2⟩
    · go_simp
      refine hK _ _ ?_
      clear hK K
      refine wpAnyIn_ready (rs := [0, 2]) (by kernel_rfl) (by simp) ?_
      refine AllReadyIn.cons rfl (fun K hK => ?_) (AllReadyIn.cons rfl (fun K hK => ?_) (AllReadyIn.nil))
      · go_simp
        refine hK _ _ ?_
        clear hK K
        refine wpAnyIn_ready (rs := [2]) (by kernel_rfl) (by simp) ?_
        refine AllReadyIn.cons rfl (fun K hK => ?_) (AllReadyIn.nil)
        go_simp
        refine ⟨trivial, ?_⟩
        refine (CallsIn.inRound l (callsIn_wide.2 hN)).mono ?_
        rintro e w' ⟨rfl, rfl⟩
        refine hK _ _ ?_
        clear hK K
        refine wpAnyIn_ready (rs := [3]) (by kernel_rfl) (by simp) ?_
        refine AllReadyIn.cons rfl (fun K hK => ?_) (AllReadyIn.nil)
        go_simp
        refine hK _ _ ?_
        clear hK K
        refine wpAnyIn_ready (rs := [4]) (by kernel_rfl) (by simp) ?_
        refine AllReadyIn.cons rfl (fun K hK => ?_) AllReadyIn.nil
        refine step_append_in rfl _ _ rfl w.heap.size hi hz0 hz1 hz2 (.slice A' pre.length c') pre.length (ints (num8s zs pre)) (by rfl) (hrow.alloc _) ⟨W.heap.size, 0, none⟩ 1 1 [.int .i64 (numTo zs (8 * x.1) 8)] (by rfl) rfl (cell_one_new _ _ _) (by simp [Value.oneCell']) (by simp only [maxLen]; omega) (by omega) (by have := hB.size; simp; omega) ?_
        intro v' w1 hown' hgrow
        obtain ⟨g', cap', rfl⟩ := ownsRow_succ hown'
        have hgr : (W.alloc (.cells #[.int .i64 (numTo zs (8 * x.1) 8)] 2)).grownBy w1 (Value.slice A' pre.length c').ownBlock := ⟨hgrow.os, hgrow.tape, hgrow.output, hgrow.size, hgrow.block⟩
        obtain ⟨hv1, hv2, hr2, hk2, hb2⟩ := hv.appended (by decide) hrow hB.size (by omega) hown' hgr
        have xs1 : Boxed w1 _ _ _ := (xs0.alloc (.cells #[.int .i64 (numTo zs (8 * x.1) 8)] 2)).kept hgr (xs0.not_row (by decide) hrow)
        have xn1 : Boxed w1 _ _ _ := (xn0.alloc (.cells #[.int .i64 (numTo zs (8 * x.1) 8)] 2)).kept hgr (xn0.not_row (by decide) hrow)
        have xs2 := xs1.kept (grownBy_setCell' w1 (w.heap.size + 1) (.slice (some ⟨g', 0, none⟩) (pre.length + 1) cap')) (by simp <;> omega)
        have xn2 := xn1.kept (grownBy_setCell' w1 (w.heap.size + 1) (.slice (some ⟨g', 0, none⟩) (pre.length + 1) cap')) (by simp <;> omega)
        have hr3 : (w1.setCell ⟨w.heap.size + 1, 0, none⟩ (.slice (some ⟨g', 0, none⟩) (pre.length + 1) cap')).ownsRow w.heap.size 2 1 (.slice (some ⟨g', 0, none⟩) (pre.length + 1) cap') (pre ++ [x]).length (ints (num8s zs (pre ++ [x]))) := by
          rw [num8s_snoc, ints_append, List.length_append]; exact hr2
        have hc1 := hv1.cell
        have hf1 := hv1.frozen
        refine hK _ _ ?_
        clear hK K
        refine wpAnyIn_ready (rs := [5]) (by kernel_rfl) (by simp) ?_
        refine AllReadyIn.cons rfl (fun K hK => ?_) AllReadyIn.nil
        go_simp
        refine hK _ _ ?_
        clear hK K
        refine wpAnyIn_done (by kernel_rfl) ?_ _
        gi_wp2
        exact ⟨hk2.from _, ⟨xs2.cell.trans xs0.cell.symm, xn2.cell.trans xn0.cell.symm⟩, ⟨_, hv2, hr3, some ⟨g', 0, none⟩, cap', by simp⟩, ⟨xs2, xn2⟩, hB.trans hb2⟩
      · go_simp
        refine ⟨trivial, ?_⟩
        refine (CallsIn.inRound l (callsIn_wide.2 hN)).mono ?_
        rintro e w' ⟨rfl, rfl⟩
        refine hK _ _ ?_
        clear hK K
        refine wpAnyIn_ready (rs := [0, 3]) (by kernel_rfl) (by simp) ?_
        refine AllReadyIn.cons rfl (fun K hK => ?_) (AllReadyIn.cons rfl (fun K hK => ?_) (AllReadyIn.nil))
        · go_simp
          refine hK _ _ ?_
          clear hK K
          refine wpAnyIn_ready (rs := [3]) (by kernel_rfl) (by simp) ?_
          refine AllReadyIn.cons rfl (fun K hK => ?_) (AllReadyIn.nil)
          go_simp
          refine hK _ _ ?_
          clear hK K
          refine wpAnyIn_ready (rs := [4]) (by kernel_rfl) (by simp) ?_
          refine AllReadyIn.cons rfl (fun K hK => ?_) AllReadyIn.nil
          refine step_append_in rfl _ _ rfl w.heap.size hi hz0 hz1 hz2 (.slice A' pre.length c') pre.length (ints (num8s zs pre)) (by rfl) (hrow.alloc _) ⟨W.heap.size, 0, none⟩ 1 1 [.int .i64 (numTo zs (8 * x.1) 8)] (by rfl) rfl (cell_one_new _ _ _) (by simp [Value.oneCell']) (by simp only [maxLen]; omega) (by omega) (by have := hB.size; simp; omega) ?_
          intro v' w1 hown' hgrow
          obtain ⟨g', cap', rfl⟩ := ownsRow_succ hown'
          have hgr : (W.alloc (.cells #[.int .i64 (numTo zs (8 * x.1) 8)] 2)).grownBy w1 (Value.slice A' pre.length c').ownBlock := ⟨hgrow.os, hgrow.tape, hgrow.output, hgrow.size, hgrow.block⟩
          obtain ⟨hv1, hv2, hr2, hk2, hb2⟩ := hv.appended (by decide) hrow hB.size (by omega) hown' hgr
          have xs1 : Boxed w1 _ _ _ := (xs0.alloc (.cells #[.int .i64 (numTo zs (8 * x.1) 8)] 2)).kept hgr (xs0.not_row (by decide) hrow)
          have xn1 : Boxed w1 _ _ _ := (xn0.alloc (.cells #[.int .i64 (numTo zs (8 * x.1) 8)] 2)).kept hgr (xn0.not_row (by decide) hrow)
          have xs2 := xs1.kept (grownBy_setCell' w1 (w.heap.size + 1) (.slice (some ⟨g', 0, none⟩) (pre.length + 1) cap')) (by simp <;> omega)
          have xn2 := xn1.kept (grownBy_setCell' w1 (w.heap.size + 1) (.slice (some ⟨g', 0, none⟩) (pre.length + 1) cap')) (by simp <;> omega)
          have hr3 : (w1.setCell ⟨w.heap.size + 1, 0, none⟩ (.slice (some ⟨g', 0, none⟩) (pre.length + 1) cap')).ownsRow w.heap.size 2 1 (.slice (some ⟨g', 0, none⟩) (pre.length + 1) cap') (pre ++ [x]).length (ints (num8s zs (pre ++ [x]))) := by
            rw [num8s_snoc, ints_append, List.length_append]; exact hr2
          have hc1 := hv1.cell
          have hf1 := hv1.frozen
          refine hK _ _ ?_
          clear hK K
          refine wpAnyIn_ready (rs := [5]) (by kernel_rfl) (by simp) ?_
          refine AllReadyIn.cons rfl (fun K hK => ?_) AllReadyIn.nil
          go_simp
          refine hK _ _ ?_
          clear hK K
          refine wpAnyIn_done (by kernel_rfl) ?_ _
          gi_wp2
          exact ⟨hk2.from _, ⟨xs2.cell.trans xs0.cell.symm, xn2.cell.trans xn0.cell.symm⟩, ⟨_, hv2, hr3, some ⟨g', 0, none⟩, cap', by simp⟩, ⟨xs2, xn2⟩, hB.trans hb2⟩
        · go_simp
          refine hK _ _ ?_
          clear hK K
          refine wpAnyIn_ready (rs := [0]) (by kernel_rfl) (by simp) ?_
          refine AllReadyIn.cons rfl (fun K hK => ?_) (AllReadyIn.nil)
          go_simp
          refine hK _ _ ?_
          clear hK K
          refine wpAnyIn_ready (rs := [4]) (by kernel_rfl) (by simp) ?_
          refine AllReadyIn.cons rfl (fun K hK => ?_) AllReadyIn.nil
          refine step_append_in rfl _ _ rfl w.heap.size hi hz0 hz1 hz2 (.slice A' pre.length c') pre.length (ints (num8s zs pre)) (by rfl) (hrow.alloc _) ⟨W.heap.size, 0, none⟩ 1 1 [.int .i64 (numTo zs (8 * x.1) 8)] (by rfl) rfl (cell_one_new _ _ _) (by simp [Value.oneCell']) (by simp only [maxLen]; omega) (by omega) (by have := hB.size; simp; omega) ?_
          intro v' w1 hown' hgrow
          obtain ⟨g', cap', rfl⟩ := ownsRow_succ hown'
          have hgr : (W.alloc (.cells #[.int .i64 (numTo zs (8 * x.1) 8)] 2)).grownBy w1 (Value.slice A' pre.length c').ownBlock := ⟨hgrow.os, hgrow.tape, hgrow.output, hgrow.size, hgrow.block⟩
          obtain ⟨hv1, hv2, hr2, hk2, hb2⟩ := hv.appended (by decide) hrow hB.size (by omega) hown' hgr
          have xs1 : Boxed w1 _ _ _ := (xs0.alloc (.cells #[.int .i64 (numTo zs (8 * x.1) 8)] 2)).kept hgr (xs0.not_row (by decide) hrow)
          have xn1 : Boxed w1 _ _ _ := (xn0.alloc (.cells #[.int .i64 (numTo zs (8 * x.1) 8)] 2)).kept hgr (xn0.not_row (by decide) hrow)
          have xs2 := xs1.kept (grownBy_setCell' w1 (w.heap.size + 1) (.slice (some ⟨g', 0, none⟩) (pre.length + 1) cap')) (by simp <;> omega)
          have xn2 := xn1.kept (grownBy_setCell' w1 (w.heap.size + 1) (.slice (some ⟨g', 0, none⟩) (pre.length + 1) cap')) (by simp <;> omega)
          have hr3 : (w1.setCell ⟨w.heap.size + 1, 0, none⟩ (.slice (some ⟨g', 0, none⟩) (pre.length + 1) cap')).ownsRow w.heap.size 2 1 (.slice (some ⟨g', 0, none⟩) (pre.length + 1) cap') (pre ++ [x]).length (ints (num8s zs (pre ++ [x]))) := by
            rw [num8s_snoc, ints_append, List.length_append]; exact hr2
          have hc1 := hv1.cell
          have hf1 := hv1.frozen
          refine hK _ _ ?_
          clear hK K
          refine wpAnyIn_ready (rs := [5]) (by kernel_rfl) (by simp) ?_
          refine AllReadyIn.cons rfl (fun K hK => ?_) AllReadyIn.nil
          go_simp
          refine hK _ _ ?_
          clear hK K
          refine wpAnyIn_done (by kernel_rfl) ?_ _
          gi_wp2
          exact ⟨hk2.from _, ⟨xs2.cell.trans xs0.cell.symm, xn2.cell.trans xn0.cell.symm⟩, ⟨_, hv2, hr3, some ⟨g', 0, none⟩, cap', by simp⟩, ⟨xs2, xn2⟩, hB.trans hb2⟩
  case done =>
    rintro D ys W hD hys ⟨⟨v, hv, hrow, A', c', rfl⟩, ⟨xs0, xn0⟩, hB⟩ hK
    have hc := hv.cell
    gi_wp2
    refine ⟨by simp, .inl ⟨_, _, rfl, run_takeDeferred hK, ?_⟩⟩
    have hlen : ys.length = m := by have := congrArg List.length hys; simpa using this
    have hrow' := ownsRow_putObj hrow (.deferred none) hK rfl
    rw [num8s_done hys, hlen] at hrow'
    rw [hlen]
    exact ⟨_, results_tmp rfl _ _ _, A', c', rfl, ⟨hrow', bytes8_i64 hb m h.len⟩, hB.trans (belowK_b (w := w) (Nat.le_refl _) W D _ _ (by omega) hK rfl rfl)⟩
  case stop =>
    rintro D c pre W _ _ h _
    exact h.elim
end Go.Proofs.Ytdodhjahihfaiaa
