/- Plain: the slots of all modes; a table that has just them. Contracts: the table is complete, by the reference. -/
import Derived.Test.YtdkhldebnpmiiaaGreatDoorZBkC
import Derived.Test.YtdkhldebnpmiiaaGreatDoorZSTab2
namespace Go.Proofs.YtdkhldebnpmiiaaGreatDoor
open Go.RowKit
set_option linter.unusedVariables false
set_option linter.unusedSimpArgs false
abbrev Key := Int × Int × Int
def key (x : Slt) : Key := (x.md, x.rd, x.sl)
def slA (ms : List PMod) (k : Nat) : Nat := match ms[k]? with | some x => x.sl.toNat | none => 0
def gE (k S i : Nat) : Key := ((k : Int), ((i / S : Nat) : Int), ((i % S : Nat) : Int))
def blockE (ms : List PMod) (k : Nat) : List Key := (List.range (rdA ms k * slA ms k)).map (gE k (slA ms k))
def Eto (ms : List PMod) (k : Nat) : List Key := (List.range k).flatMap (blockE ms)
def preE (ms : List PMod) (k i : Nat) : List Key := Eto ms k ++ (List.range i).map (gE k (slA ms k))
def compB (m : Mdl) : Bool := decide (m.ss.map key = Eto m.ms m.ms.length)
theorem Eto_succ (ms : List PMod) (k : Nat) : Eto ms (k + 1) = Eto ms k ++ blockE ms k := by simp [Eto, List.range_succ, List.flatMap_append]
theorem preE_zero (ms : List PMod) (k : Nat) : preE ms k 0 = Eto ms k := by simp [preE]
theorem preE_full (ms : List PMod) (k : Nat) : preE ms k (rdA ms k * slA ms k) = Eto ms (k + 1) := by rw [Eto_succ]; rfl
theorem preE_succ (ms : List PMod) (k i : Nat) : preE ms k (i + 1) = preE ms k i ++ [gE k (slA ms k) i] := by simp [preE, List.range_succ]
theorem Eto_get (ms : List PMod) {k i : Nat} (hi : i < rdA ms k * slA ms k) : ∀ K, k < K → (Eto ms K)[(preE ms k i).length]? = some (gE k (slA ms k) i) := by
  intro K
  induction K with
  | zero => intro h; omega
  | succ K ih =>
    intro h
    rw [Eto_succ]
    by_cases e : k < K
    · have := ih e
      rw [List.getElem?_append_left (List.getElem?_eq_some_iff.1 this).1]
      exact this
    · obtain rfl : k = K := by omega
      rw [preE, List.length_append, List.getElem?_append_right (by omega), List.length_map, List.length_range, Nat.add_sub_cancel_left, blockE, List.getElem?_map, List.getElem?_range hi]
      rfl
theorem comp_at {m : Mdl} {k i p : Nat} (hk : k < m.ms.length) (hi : i < rdA m.ms k * slA m.ms k) (hp : p ≤ m.ss.length) (hpre : (m.ss.take p).map key = preE m.ms k i) (hc : compB m = true) : ∃ y, m.ss[p]? = some y ∧ key y = gE k (slA m.ms k) i := by
  have h := Eto_get m.ms hi m.ms.length hk
  have hl := congrArg List.length hpre
  rw [List.length_map, List.length_take, Nat.min_eq_left hp] at hl
  rw [← of_decide_eq_true hc, ← hl, List.getElem?_map] at h
  cases hy : m.ss[p]? with
  | none => rw [hy] at h; cases h
  | some y =>
    rw [hy] at h
    exact ⟨y, rfl, Option.some.inj h⟩
theorem comp_none {m : Mdl} {k i p : Nat} (hk : k < m.ms.length) (hi : i < rdA m.ms k * slA m.ms k) (hp : p = m.ss.length) (hpre : (m.ss.take p).map key = preE m.ms k i) : compB m = false := by
  cases hc : compB m with
  | false => rfl
  | true =>
    obtain ⟨y, h1, h2⟩ := comp_at hk hi (by omega) hpre hc
    have := get_lt h1
    omega
theorem comp_bad {m : Mdl} {k i p : Nat} {y : Slt} (hk : k < m.ms.length) (hi : i < rdA m.ms k * slA m.ms k) (hy : m.ss[p]? = some y) (hne : key y ≠ gE k (slA m.ms k) i) (hpre : (m.ss.take p).map key = preE m.ms k i) : compB m = false := by
  cases hc : compB m with
  | false => rfl
  | true =>
    have := get_lt hy
    obtain ⟨z, h1, h2⟩ := comp_at hk hi (by omega) hpre hc
    rw [hy] at h1
    obtain rfl := Option.some.inj h1
    exact absurd h2 hne
theorem comp_end {m : Mdl} {p : Nat} (hp : p ≤ m.ss.length) (hpre : (m.ss.take p).map key = Eto m.ms m.ms.length) : compB m = decide (p = m.ss.length) := by
  rw [compB]
  apply decide_eq_decide.mpr
  have hl := congrArg List.length hpre
  rw [List.length_map, List.length_take, Nat.min_eq_left hp] at hl
  constructor
  · intro h
    rw [hl, ← h, List.length_map]
  · intro h
    rw [← hpre, h, List.take_length]
theorem cmpS_zero (x y : Slt) : cmpS x y = 0 ↔ key x = key y := by
  rw [cmpS]
  simp only [key, Prod.mk.injEq, cmpI]
  split
  · split
    · omega
    · split <;> omega
  · split
    · split
      · omega
      · split <;> omega
    · split
      · omega
      · split <;> omega
/-- what the reference looks for -/
def hasE (ss : List Slt) (e : Key) : Bool := ss.any (slotB e.1 e.2.1 e.2.2)
theorem hasE_mem {ss : List Slt} {e : Key} : hasE ss e = true ↔ e ∈ ss.map key := by
  rw [hasE, List.any_eq_true, List.mem_map]
  constructor
  · rintro ⟨y, hy, h⟩
    refine ⟨y, hy, ?_⟩
    simp [slotB] at h
    simp [key, h]
  · rintro ⟨y, hy, rfl⟩
    exact ⟨y, hy, by simp [slotB, key]⟩
def cd (e : Key) : Int := e.1 * 1000000 + e.2.1 * 1000 + e.2.2
theorem sub_of {α : Type} (f : α → Int) : ∀ L2 L1 : List α, L1.Pairwise (fun a b => f a < f b) → L2.Pairwise (fun a b => f a < f b) → (∀ a ∈ L1, a ∈ L2) → L1.Sublist L2
  | [], L1, _, _, h => by
    cases L1 with
    | nil => exact List.Sublist.refl _
    | cons e E => have := h e (by simp); cases this
  | s :: S, [], _, _, _ => List.nil_sublist _
  | s :: S, e :: E, h1, h2, h => by
    rw [List.pairwise_cons] at h1 h2
    have he := h e (by simp)
    by_cases hes : e = s
    · subst hes
      refine List.Sublist.cons_cons _ (sub_of f S E h1.2 h2.2 fun a ha => ?_)
      rcases List.mem_cons.1 (h a (by simp [ha])) with r | r
      · have := h1.1 a ha
        subst r
        omega
      · exact r
    · have heS : e ∈ S := by
        rcases List.mem_cons.1 he with r | r
        · exact absurd r hes
        · exact r
      refine List.Sublist.cons _ (sub_of f S (e :: E) (List.pairwise_cons.2 h1) h2.2 fun a ha => ?_)
      rcases List.mem_cons.1 (h a ha) with r | r
      · subst r
        have q := h2.1 e heS
        rcases List.mem_cons.1 ha with r2 | r2
        · exact absurd r2.symm hes
        · have := h1.1 _ r2
          omega
      · exact r
theorem eq_of_sub {α : Type} (f : α → Int) {L1 L2 : List α} (h1 : L1.Pairwise (fun a b => f a < f b)) (h2 : L2.Pairwise (fun a b => f a < f b)) (h : ∀ a ∈ L1, a ∈ L2) (hl : L1.length = L2.length) : L1 = L2 := (sub_of f L2 L1 h1 h2 h).eq_of_length hl
theorem Rds.at_ {ms : List PMod} (h : Rds ms) (k : Nat) : rdA ms k ≤ 8 ∧ slA ms k ≤ 16 := by
  rw [rdA, slA]
  cases hk : ms[k]? with
  | none => simp
  | some x =>
    have := h x (List.mem_of_getElem? hk)
    simp only
    omega
theorem gE_bound {k S i R : Nat} (hi : i < R * S) (hR : R ≤ 8) (hS : S ≤ 16) : i / S < 8 ∧ i % S < 16 := by
  have hS0 : 0 < S := by
    rcases Nat.eq_zero_or_pos S with rfl | h
    · simp at hi
    · exact h
  have h1 : i / S < R := Nat.div_lt_of_lt_mul (by rw [Nat.mul_comm]; exact hi)
  have h2 := Nat.mod_lt i hS0
  omega
theorem mem_block {ms : List PMod} (h : Rds ms) {k : Nat} {e : Key} (he : e ∈ blockE ms k) : e.1 = k ∧ 0 ≤ e.2.1 ∧ e.2.1 < 8 ∧ 0 ≤ e.2.2 ∧ e.2.2 < 16 := by
  rw [blockE, List.mem_map] at he
  obtain ⟨i, hi, rfl⟩ := he
  have hb := h.at_ k
  have := gE_bound (k := k) (List.mem_range.1 hi) hb.1 hb.2
  simp only [gE]
  generalize i / slA ms k = q at *
  generalize i % slA ms k = t at *
  refine ⟨trivial, ?_⟩
  show (0 : Int) ≤ (q : Int) ∧ (q : Int) < 8 ∧ (0 : Int) ≤ (t : Int) ∧ (t : Int) < 16
  omega
theorem mem_Eto {ms : List PMod} (h : Rds ms) {K : Nat} {e : Key} (he : e ∈ Eto ms K) : e.1 < K ∧ 0 ≤ e.2.1 ∧ e.2.1 < 8 ∧ 0 ≤ e.2.2 ∧ e.2.2 < 16 := by
  rw [Eto, List.mem_flatMap] at he
  obtain ⟨k, hk, hb⟩ := he
  have := mem_block h hb
  have := List.mem_range.1 hk
  omega
theorem Eto_sorted {ms : List PMod} (h : Rds ms) : ∀ K, (Eto ms K).Pairwise (fun a b => cd a < cd b)
  | 0 => by simp [Eto]
  | K + 1 => by
    rw [Eto_succ, List.pairwise_append]
    refine ⟨Eto_sorted h K, ?_, fun a ha b hb => ?_⟩
    · rw [blockE, List.pairwise_map]
      have hb := h.at_ K
      refine (List.pairwise_lt_range (n := rdA ms K * slA ms K)).imp_of_mem fun {i j} hi hj hij => ?_
      have b1 := gE_bound (k := K) (List.mem_range.1 hi) hb.1 hb.2
      have b2 := gE_bound (k := K) (List.mem_range.1 hj) hb.1 hb.2
      have hd : i / slA ms K ≤ j / slA ms K := Nat.div_le_div_right (by omega)
      have e1 := Nat.div_add_mod i (slA ms K)
      have e2 := Nat.div_add_mod j (slA ms K)
      simp only [cd, gE]
      by_cases e : i / slA ms K = j / slA ms K
      · rw [← e] at e2 ⊢
        omega
      · omega
    · have h1 := mem_Eto h ha
      have h2 := mem_block h hb
      simp only [cd]
      omega
theorem all_ok {l : List Slt} (h : stB l = true) {k : Nat} (hk : k < l.length) : okS l k = true := by
  rw [stB, Bool.and_eq_true] at h
  exact List.all_eq_true.1 h.1 k (List.mem_range.2 hk)
theorem stB_at {l : List Slt} (h : stB l = true) {k : Nat} {x : Slt} (hx : l[k]? = some x) : sltB x = true := by
  have := all_ok h (get_lt hx)
  rw [okS, Bool.and_eq_true, sltA_eq hx] at this
  exact this.1
theorem slt_bounds {x : Slt} (h : sltB x = true) : (0 ≤ x.md ∧ x.md ≤ 15) ∧ (0 ≤ x.rd ∧ x.rd ≤ 7) ∧ (0 ≤ x.sl ∧ x.sl ≤ 15) ∧ (0 ≤ x.nd ∧ x.nd ≤ 31) ∧ (0 ≤ x.kd ∧ x.kd ≤ 3) ∧ szB x.kd x.sz = true ∧ cellI x.kd x.sz + 20 ≤ x.du ∧ x.du ≤ 1000 := by
  simp only [sltB, descB, inB, Bool.and_eq_true, decide_eq_true_iff] at h
  exact ⟨h.1, h.2.1, h.2.2.1, h.2.2.2.1, h.2.2.2.2.1, h.2.2.2.2.2.1, h.2.2.2.2.2.2.2.1, h.2.2.2.2.2.2.2.2⟩
theorem cmpS_cd {x y : Slt} (hx : sltB x = true) (hy : sltB y = true) (h : cmpS x y < 0) : cd (key x) < cd (key y) := by
  have a := slt_bounds hx
  have b := slt_bounds hy
  simp only [cd, key]
  revert h
  rw [cmpS]
  simp only [cmpI]
  repeat' split
  all_goals omega
theorem stB_sorted {l : List Slt} (h : stB l = true) : (l.map key).Pairwise (fun a b => cd a < cd b) := by
  have step : ∀ k x y, l[k]? = some x → l[k + 1]? = some y → cd (key x) < cd (key y) := fun k x y hx hy => by
    have := all_ok h (get_lt hy)
    rw [okS, Bool.and_eq_true, Nat.add_sub_cancel, sltA_eq hx, sltA_eq hy, Bool.or_eq_true, decide_eq_true_iff, decide_eq_true_iff] at this
    refine cmpS_cd (stB_at h hx) (stB_at h hy) ?_
    rcases this.2 with q | q
    · omega
    · exact q
  have far : ∀ d k x y, l[k]? = some x → l[k + 1 + d]? = some y → cd (key x) < cd (key y) := by
    intro d
    induction d with
    | zero => exact fun k x y hx hy => step k x y hx hy
    | succ d ih =>
      intro k x y hx hy
      have hlt := get_lt hy
      have hz : l[k + 1 + d]? = some l[k + 1 + d] := List.getElem?_eq_getElem (by omega)
      have := ih k x _ hx hz
      have := step (k + 1 + d) _ y hz hy
      omega
  rw [List.pairwise_map, List.pairwise_iff_getElem]
  intro i j hi hj hij
  exact far (j - (i + 1)) i _ _ (List.getElem?_eq_getElem hi) (by rw [show i + 1 + (j - (i + 1)) = j by omega]; exact List.getElem?_eq_getElem hj)
theorem comp_all {m : Mdl} (hs : stB m.ss = true) (hr : Rds m.ms) (hall : ∀ e ∈ Eto m.ms m.ms.length, hasE m.ss e = true) : compB m = decide ((Eto m.ms m.ms.length).length = m.ss.length) := by
  rw [compB]
  apply decide_eq_decide.mpr
  constructor
  · intro h
    rw [← h, List.length_map]
  · intro h
    exact (eq_of_sub cd (Eto_sorted hr _) (stB_sorted hs) (fun a ha => hasE_mem.1 (hall a ha)) (by rw [h, List.length_map])).symm
theorem comp_miss {m : Mdl} {e : Key} (he : e ∈ Eto m.ms m.ms.length) (hn : hasE m.ss e = false) : compB m = false := by
  cases hc : compB m with
  | false => rfl
  | true =>
    rw [← of_decide_eq_true hc] at he
    rw [hasE_mem.2 he] at hn
    cases hn
end Go.Proofs.YtdkhldebnpmiiaaGreatDoor
namespace Go.Proofs.YtdkhldebnpmiiaaGreatDoor
open Go.RowKit
set_option linter.unusedVariables false
set_option linter.unusedSimpArgs false
theorem int_beq (a b : Nat) : ((a : Int) == (b : Int)) = decide (a = b) := Bool.eq_iff_iff.mpr (by rw [beq_iff_eq, decide_eq_true_iff]; omega)
def allE (m : Mdl) (l : List Key) : Bool := l.all (hasE m.ss)
theorem allE_snoc (m : Mdl) (l : List Key) (e : Key) : allE m (l ++ [e]) = (allE m l && hasE m.ss e) := by simp [allE, List.all_append]
theorem row_gE {k S r s : Nat} (hs : s < S) : gE k S (r * S + s) = ((k : Int), (r : Int), (s : Int)) := by
  have hS : 0 < S := by omega
  have h1 : (r * S + s) / S = r := by rw [Nat.mul_comm, Nat.mul_add_div hS, Nat.div_eq_of_lt hs, Nat.add_zero]
  have h2 : (r * S + s) % S = s := by rw [Nat.mul_comm, Nat.mul_add_mod, Nat.mod_eq_of_lt hs]
  rw [gE, h1, h2]
theorem pre_mem {ms : List PMod} {k i K : Nat} (hi : i < rdA ms k * slA ms k) (hk : k < K) : gE k (slA ms k) i ∈ Eto ms K := List.mem_of_getElem? (Eto_get ms hi K hk)
set_option maxHeartbeats 6400000 in
theorem l13Complete_any (v : Value) (m : Mdl) (w : World) (h : RdM w v m) (hr : Rds m.ms) (hs : stB m.ss = true) (hm16 : m.ms.length ≤ 16) :
    Calls Tryz.prog 147 #[v] w (BoolOut (compB m) w) := by
  obtain ⟨A1, n1, c1, A2, n2, c2, A3, n3, c3, rfl, h1, h2, h3⟩ := h
  have hlen2 := hide h2.len
  have hlen := hide h3.len
  rw [hlen2.out] at hm16
  have hcap2 := h2.cap
  have hcap := h3.cap
  have HT := hide hs
  obtain ⟨W0, hW0⟩ : ∃ W0, W0 = w.alloc (.cells #[.int .i64 m.id, .slice A1 n1 c1, .slice A2 n2 c2, .slice A3 n3 c3] 28) := ⟨_, rfl⟩
  have F0 : At W0 w.heap.size 28 #[.int .i64 m.id, .slice A1 n1 c1, .slice A2 n2 c2, .slice A3 n3 c3] := by rw [hW0]; exact At.fresh _ _ _
  have BA := hide (show Below w.heap.size w W0 by rw [hW0]; exact (Below.refl _ _).alloc (Nat.le_refl _) _)
  have H2 := hide (h2.below BA.out)
  have H3 := hide (h3.below BA.out)
  have d2 := F0.cell 2
  have d3 := F0.cell 3
  simp at d2 d3
  have HW := hide hW0
  clear hW0 F0 h1 h2 h3 hs
  go_enter Tryz.func147, Tryz.ntmps147
  go_wp2_with fail
  rw [← HW.out]
  go_loopw [3, 4] (fun q i wr => ∃ k p : Nat, k ≤ n2 ∧ i = .int .i64 k ∧ q = .int .i64 p ∧ p ≤ 128 * k ∧ Hid (p = (Eto m.ms k).length) ∧ Hid (allE m (Eto m.ms k) = true) ∧ wr = W0) (fun _ i _ => n2 - (intOf i).toNat)
  case atStart => exact ⟨0, 0, by omega, rfl, rfl, by omega, hide (by simp [Eto]), hide (by simp [Eto, allE]), rfl⟩
  case round =>
    obtain ⟨k, p, hk, rfl, rfl, hp, hpl, hall, rfl⟩ := hrel
    by_cases hlt : k < n2
    · obtain ⟨b, off, x, rfl, hb, hx, rx, c0, c1, c2⟩ := mod_at H2.out hlt
      have hrx := hr _ (List.mem_of_getElem? hx)
      have hrx2 : 1 ≤ x.rd ∧ x.rd ≤ 8 ∧ 1 ≤ x.sl ∧ x.sl ≤ 16 := hrx
      obtain ⟨R, hR⟩ : ∃ R : Nat, x.rd = R := ⟨x.rd.toNat, by omega⟩
      obtain ⟨S, hS⟩ : ∃ S : Nat, x.sl = S := ⟨x.sl.toNat, by omega⟩
      have HRA := hide (show rdA m.ms k = R by rw [rdA, hx]; show x.rd.toNat = R; rw [hR]; rfl)
      have HSA := hide (show slA m.ms k = S by rw [slA, hx]; show x.sl.toNat = S; rw [hS]; rfl)
      have HL := hide (get_lt hx)
      have hR8 : R ≤ 8 := by omega
      have hS16 : S ≤ 16 := by omega
      rw [hR] at c0
      rw [hS] at c1
      clear hx hrx hrx2 rx hR hS
      go_wp2_with fail
      go_loopw [3, 5] (fun q i wr2 => ∃ r p2 : Nat, r ≤ R ∧ i = .int .i64 r ∧ q = .int .i64 p2 ∧ p2 ≤ 128 * k + 16 * r ∧ Hid (p2 = (preE m.ms k (r * S)).length) ∧ Hid (allE m (preE m.ms k (r * S)) = true) ∧ wr2 = wr) (fun _ i _ => R - (intOf i).toNat)
      case atStart => exact ⟨0, p, by omega, rfl, rfl, by omega, hide (by rw [Nat.zero_mul, preE_zero]; exact hpl.out), hide (by rw [Nat.zero_mul, preE_zero]; exact hall.out), rfl⟩
      case round =>
        obtain ⟨r, p2, hrr, rfl, rfl, hp2, hpl2, hall2, rfl⟩ := hrel
        by_cases hlr : r < R
        · go_wp2_with fail
          go_loopw [3, 6] (fun q i wr3 => ∃ s p3 : Nat, s ≤ S ∧ i = .int .i64 s ∧ q = .int .i64 p3 ∧ p3 ≤ 128 * k + 16 * r + s ∧ Hid (p3 = (preE m.ms k (r * S + s)).length) ∧ Hid (allE m (preE m.ms k (r * S + s)) = true) ∧ wr3 = wr) (fun _ i _ => S - (intOf i).toNat)
          case atStart => exact ⟨0, p2, by omega, rfl, rfl, by omega, hpl2, hall2, rfl⟩
          case round =>
            obtain ⟨s, p3, hss, rfl, rfl, hp3, hpl3, hall3, rfl⟩ := hrel
            by_cases hls : s < S
            · have hge : -1 ≤ idx (slotB k r s) m.ss := idx_ge _ _
              have HI := hide (idx_any (slotB k r s) m.ss)
              obtain ⟨z, hz⟩ : ∃ z, z = idx (slotB k r s) m.ss := ⟨_, rfl⟩
              rw [← hz] at HI hge
              have HZ := hide hz
              clear hz
              have hii : r * S + s < rdA m.ms k * slA m.ms k := by
                rw [HRA.out, HSA.out]
                have : (r + 1) * S ≤ R * S := Nat.mul_le_mul_right _ hlr
                rw [Nat.add_mul] at this
                omega
              have HE := hide (show gE k (slA m.ms k) (r * S + s) = ((k : Int), (r : Int), (s : Int)) by rw [HSA.out]; exact row_gE hls)
              have HM := hide (pre_mem hii HL.out)
              clear hii
              go_wp2_with fail
              go_at_call 167
              (with_reducible refine (l12Find_any _ _ _ _ _ _ _ _ H3.out).mono ?_)
              rintro ee w1 ⟨rfl, rfl⟩
              rw [← HZ.out]
              by_cases hneg : z < 0
              · have t1 : decide (z < 0) = true := decide_eq_true hneg
                have E := hide (comp_miss HM.out (show hasE m.ss (gE k (slA m.ms k) (r * S + s)) = false by rw [HE.out, hasE, ← HI.out]; exact decide_eq_false (by omega)))
                clear hneg hge
                go_wp2
                go_ret
                exact ⟨by rw [E.out]; rfl, BA.out⟩
              · have t1 : decide (z < 0) = false := decide_eq_false hneg
                have N1 := hide (show p3 + 1 = (preE m.ms k (r * S + (s + 1))).length by rw [show r * S + (s + 1) = r * S + s + 1 by omega, preE_succ, List.length_append, ← hpl3.out]; rfl)
                have N2 := hide (show allE m (preE m.ms k (r * S + (s + 1))) = true by
                  rw [show r * S + (s + 1) = r * S + s + 1 by omega, preE_succ, allE_snoc, hall3.out, HE.out, hasE, ← HI.out, decide_eq_true (by omega)]
                  rfl)
                clear hneg hge
                go_wp2
                go_roundw
                case rel => exact ⟨s + 1, p3 + 1, by omega, by go_num, by go_num, by omega, N1, N2, trivial⟩
                case measure => simp [intOf]; omega
            · obtain rfl : s = S := by omega
              have N1 := hide (show p3 = (preE m.ms k ((r + 1) * s)).length by rw [Nat.add_mul, Nat.one_mul]; exact hpl3.out)
              have N2 := hide (show allE m (preE m.ms k ((r + 1) * s)) = true by rw [Nat.add_mul, Nat.one_mul]; exact hall3.out)
              go_wp2
              go_roundw
              case rel => exact ⟨r + 1, p3, by omega, by go_num, rfl, by omega, N1, N2, trivial⟩
              case measure => simp [intOf]; omega
        · obtain rfl : r = R := by omega
          have N1 := hide (show p2 = (Eto m.ms (k + 1)).length by rw [← preE_full, HRA.out, HSA.out]; exact hpl2.out)
          have N2 := hide (show allE m (Eto m.ms (k + 1)) = true by rw [← preE_full, HRA.out, HSA.out]; exact hall2.out)
          go_wp2
          go_roundw
          case rel => exact ⟨k + 1, p2, by omega, by go_num, rfl, by omega, N1, N2, trivial⟩
          case measure => simp [intOf]; omega
    · obtain rfl : k = n2 := by omega
      have E := hide (show compB m = decide (p = n3) by
        rw [← hlen.out, hpl.out, ← hlen2.out]
        refine comp_all HT.out hr fun e he => ?_
        have := hall.out
        rw [← hlen2.out] at this
        exact List.all_eq_true.1 this e he)
      go_wp2
      go_ret
      exact ⟨by rw [E.out, ← int_beq]; rfl, BA.out⟩
end Go.Proofs.YtdkhldebnpmiiaaGreatDoor
