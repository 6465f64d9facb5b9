/- Plain: when a node sends in a cycle; the gaps between its slots. Plain: the end of the first slot of a node from a time on; the worst chain of two nodes. Plain: the greatest and the least gap; gaps add up to the cycle; the bounds of a chain. Words for memory: two rows of the call's own that lie apart; an append that tells where the new row lies. Contracts: the starts of slots, by the reference. -/
import Derived.Test.YtdkhldebnpmiiaaGreatDoorZBkH
import Derived.Test.YtdkhldebnpmiiaaGreatDoorZBkA
import Derived.Deep.AppendLies
namespace Go.Proofs.YtdkhldebnpmiiaaGreatDoor
open Go.RowKit
set_option linter.unusedVariables false
set_option linter.unusedSimpArgs false
/-- the starts of a node's slots, from a time on -/
def sta (nd : Int) : Int → List Slt → List Int
  | _, [] => []
  | a, x :: l => (if x.nd == nd then [a] else []) ++ sta nd (a + x.du) l
/-- their ends -/
def ens (nd : Int) : Int → List Slt → List Int
  | _, [] => []
  | a, x :: l => (if x.nd == nd then [a + x.du] else []) ++ ens nd (a + x.du) l
theorem durs_nil : durs [] = 0 := rfl
theorem durs_cons (x : Slt) (l : List Slt) : durs (x :: l) = x.du + durs l := by simp [durs]
theorem sta_snoc (nd : Int) (l : List Slt) (x : Slt) : ∀ a, sta nd a (l ++ [x]) = sta nd a l ++ (if x.nd == nd then [a + durs l] else []) := by
  induction l with
  | nil => intro a; simp [sta, durs_nil]
  | cons y l ih => intro a; rw [List.cons_append, sta, sta, ih, List.append_assoc, durs_cons, Int.add_assoc]
theorem ens_snoc (nd : Int) (l : List Slt) (x : Slt) : ∀ a, ens nd a (l ++ [x]) = ens nd a l ++ (if x.nd == nd then [a + durs l + x.du] else []) := by
  induction l with
  | nil => intro a; simp [ens, durs_nil]
  | cons y l ih => intro a; rw [List.cons_append, ens, ens, ih, List.append_assoc, durs_cons, Int.add_assoc a]
def stL (nd : Int) (l : List Slt) : List Int := sta nd 0 l
def enL (nd : Int) (l : List Slt) : List Int := ens nd 0 l
theorem stL_snoc (nd : Int) (l : List Slt) (x : Slt) : stL nd (l ++ [x]) = stL nd l ++ (if x.nd == nd then [durs l] else []) := by rw [stL, sta_snoc, Int.zero_add]; rfl
theorem enL_snoc (nd : Int) (l : List Slt) (x : Slt) : enL nd (l ++ [x]) = enL nd l ++ (if x.nd == nd then [durs l + x.du] else []) := by rw [enL, ens_snoc, Int.zero_add]; rfl
theorem sta_len (nd : Int) (l : List Slt) : ∀ a, (sta nd a l).length = (ens nd a l).length := by
  induction l with
  | nil => intro a; rfl
  | cons y l ih =>
    intro a
    rw [sta, ens, List.length_append, List.length_append, ih]
    split <;> rfl
theorem stL_len (nd : Int) (l : List Slt) : (enL nd l).length = (stL nd l).length := (sta_len nd l 0).symm
theorem sta_le (nd : Int) (l : List Slt) : ∀ a, (sta nd a l).length ≤ l.length := by
  induction l with
  | nil => intro a; exact Nat.le_refl _
  | cons y l ih =>
    intro a
    have := ih (a + y.du)
    rw [sta, List.length_append, List.length_cons]
    split <;> simp <;> omega
theorem stL_le (nd : Int) (l : List Slt) : (stL nd l).length ≤ l.length := sta_le nd l 0
theorem sta_bound (nd : Int) {l : List Slt} (h : Durs l) : ∀ a, ∀ z ∈ sta nd a l, a ≤ z ∧ z ≤ a + durs l := by
  induction l with
  | nil => intro a z hz; cases hz
  | cons y l ih =>
    intro a z hz
    have hy := h y (by simp)
    have hd := durs_bound (l := l) (fun x hx => h x (by simp [hx]))
    rw [sta, List.mem_append] at hz
    rw [durs_cons]
    rcases hz with hz | hz
    · split at hz
      · simp at hz; omega
      · cases hz
    · have := ih (fun x hx => h x (by simp [hx])) (a + y.du) z hz
      omega
theorem stL_bound {nd : Int} {l : List Slt} (h : Durs l) {z : Int} (hz : z ∈ stL nd l) : 0 ≤ z ∧ z ≤ durs l := by
  have := sta_bound nd h 0 z hz
  omega
/-- what the reference's start adds up -/
def befB (md rd sl : Int) (x : Slt) : Bool := x.md == md && (decide (x.rd < rd) || (x.rd == rd && decide (x.sl < sl)))
def startL (md rd sl : Int) (l : List Slt) : Int := durs (l.filter (befB md rd sl))
theorem startL_snoc (md rd sl : Int) (l : List Slt) (x : Slt) : startL md rd sl (l ++ [x]) = startL md rd sl l + (if befB md rd sl x then x.du else 0) := by
  rw [startL, List.filter_append]
  cases h : befB md rd sl x
  · simp [h, startL]
  · simp [h, startL, durs]
theorem cd_lt_of {x y : Slt} (hx : sltB x = true) (hy : sltB y = true) (he : x.md = y.md) : (cd (key x) < cd (key y)) ↔ (x.rd < y.rd ∨ (x.rd = y.rd ∧ x.sl < y.sl)) := by
  have a := slt_bounds hx
  have b := slt_bounds hy
  simp only [cd, key, he]
  omega
theorem startL_at {l : List Slt} (h : stB l = true) {i : Nat} {x : Slt} (hx : l[i]? = some x) : startL x.md x.rd x.sl l = durs (modeL x.md (l.take i)) := by
  have hi := get_lt hx
  have hs := stB_sorted h
  rw [List.pairwise_map, List.pairwise_iff_getElem] at hs
  have hxe : l[i] = x := (List.getElem?_eq_some_iff.1 hx).2
  have e1 : (l.take i).filter (befB x.md x.rd x.sl) = modeL x.md (l.take i) := by
    rw [modeL]
    apply List.filter_congr
    intro y hy
    obtain ⟨j, hj, rfl⟩ := List.getElem_of_mem hy
    rw [List.length_take] at hj
    rw [List.getElem_take]
    have hyb := stB_at h (List.getElem?_eq_getElem (l := l) (i := j) (by omega))
    have hlt := hs j i (by omega) hi (by omega)
    rw [hxe] at hlt
    rw [befB]
    cases hm : (l[j].md == x.md)
    · rfl
    · have := (cd_lt_of hyb (stB_at h hx) (by simpa using hm)).1 hlt
      rcases this with q | ⟨q1, q2⟩
      · rw [decide_eq_true q]; rfl
      · rw [q1, decide_eq_true q2]; simp
  have e2 : (l.drop i).filter (befB x.md x.rd x.sl) = [] := by
    rw [List.filter_eq_nil_iff]
    intro y hy hb
    obtain ⟨j, hj, rfl⟩ := List.getElem_of_mem hy
    rw [List.length_drop] at hj
    rw [List.getElem_drop] at hb
    have hyb := stB_at h (List.getElem?_eq_getElem (l := l) (i := i + j) (by omega))
    simp only [befB, Bool.and_eq_true, Bool.or_eq_true, decide_eq_true_iff, beq_iff_eq] at hb
    have hlt := (cd_lt_of hyb (stB_at h hx) hb.1).2 hb.2
    rcases Nat.eq_zero_or_pos j with h0 | h0
    · subst h0
      rw [show l[i + 0] = x from hxe] at hlt
      omega
    · have := hs i (i + j) hi (by omega) (by omega)
      rw [hxe] at this
      omega
  rw [startL]
  conv => lhs; rw [← List.take_append_drop i l]
  rw [List.filter_append, e1, e2, List.append_nil]
/-- the gaps between starts, in cycles that follow one another -/
def gapAt (ss : List Int) (c : Int) (k : Nat) : Int := (if k + 1 < ss.length then nth ss (k + 1) else c + nth ss 0) - nth ss k
def gapTo (ss : List Int) (c : Int) (k : Nat) : List Int := (List.range k).map (gapAt ss c)
def gapL (ss : List Int) (c : Int) : List Int := gapTo ss c ss.length
theorem gapTo_succ (ss : List Int) (c : Int) (k : Nat) : gapTo ss c (k + 1) = gapTo ss c k ++ [gapAt ss c k] := by simp [gapTo, List.range_succ]
theorem gapTo_len (ss : List Int) (c : Int) (k : Nat) : (gapTo ss c k).length = k := by simp [gapTo]
theorem gapL_len (ss : List Int) (c : Int) : (gapL ss c).length = ss.length := gapTo_len _ _ _
/-- where each start lies in the cycle, gaps are small -/
def InC (ss : List Int) (c : Int) : Prop := (∀ z ∈ ss, 0 ≤ z ∧ z ≤ c) ∧ 0 ≤ c ∧ c ≤ 120000
theorem InC.nth {ss : List Int} {c : Int} (h : InC ss c) (k : Nat) : 0 ≤ nth ss k ∧ nth ss k ≤ 120000 := by
  by_cases hk : k < ss.length
  · have := h.1 _ (nth_mem hk)
    have := h.2
    omega
  · rw [nth_out (by omega)]
    omega
theorem InC.i64 {ss : List Int} {c : Int} (h : InC ss c) : I64 ss := fun z hz => by
  have := h.1 z hz
  have := h.2
  omega
theorem InC.of {nd : Int} {l : List Slt} (h : Durs l) (hl : l.length ≤ 120) : InC (stL nd l) (durs l) := by
  have := durs_bound h
  exact ⟨fun z hz => stL_bound h hz, by omega, by omega⟩
theorem gapAt_bound {ss : List Int} {c : Int} (h : InC ss c) (k : Nat) : -120000 ≤ gapAt ss c k ∧ gapAt ss c k ≤ 240000 := by
  have h1 := h.nth k
  have h2 := h.nth (k + 1)
  have h3 := h.nth 0
  have h4 := h.2
  rw [gapAt]
  split <;> omega
def Durs20 (l : List Slt) : Prop := ∀ x ∈ l, 20 ≤ x.du ∧ x.du ≤ 1000
theorem Durs20.durs {l : List Slt} (h : Durs20 l) : Durs l := fun x hx => by have := h x hx; omega
/-- who is seen in a round sends in it -/
theorem seenV_mem (md rd : Int) (l : List Slt) : ∀ i, (seenV md rd l).testBit i = true → ∃ x ∈ l, x.md = md ∧ x.nd.toNat = i := by
  refine snoc_ind (P := fun l => ∀ i, (seenV md rd l).testBit i = true → ∃ x ∈ l, x.md = md ∧ x.nd.toNat = i) ?_ ?_ l
  · intro i h
    rw [show seenV md rd [] = 0 from rfl, Nat.zero_testBit] at h
    cases h
  · intro l x ih i hi
    rw [seenV_snoc] at hi
    split at hi
    · rename_i hm
      rw [orV, or_pow_bit, Bool.or_eq_true, decide_eq_true_iff] at hi
      rcases hi with h | h
      · obtain ⟨y, hy, h2⟩ := ih i h
        exact ⟨y, by simp [hy], h2⟩
      · simp at hm
        exact ⟨x, by simp, hm.1, h⟩
    · obtain ⟨y, hy, h2⟩ := ih i hi
      exact ⟨y, by simp [hy], h2⟩
theorem sta_some (nd : Int) : ∀ (l : List Slt) (a : Int), (∃ x ∈ l, x.nd = nd) → sta nd a l ≠ []
  | [], a, h => by
    obtain ⟨x, hx, _⟩ := h
    cases hx
  | y :: l, a, h => by
    rw [sta]
    cases e : (y.nd == nd)
    · obtain ⟨x, hx, hn⟩ := h
      rcases List.mem_cons.1 hx with rfl | hx
      · simp [hn] at e
      · simpa using sta_some nd l (a + y.du) ⟨x, hx, hn⟩
    · simp
/-- a node that is no passive one sends in each mode -/
theorem sends_of {m : Mdl} {mode : Int} {zs : List Int} (h : scB m mode zs = 0) {z : Int} (hz : z ∈ zs) : stL z (modeL mode m.ss) ≠ [] := by
  obtain ⟨hn, ha⟩ := scB_act h
  obtain ⟨hmd, m0, m1⟩ := mcB_zero (scB_zero h)
  obtain ⟨_, hnt, hmt, hst, _, _, _, _, hserv, _⟩ := mdB_iff.1 hmd
  have hz1 := List.all_eq_true.1 ha z hz
  have hid := hasN_id (ids_of hnt) (List.all_eq_true.1 hn z hz)
  obtain ⟨k, rfl⟩ := Int.eq_ofNat_of_zero_le m0
  have hk : k < m.ms.length := by omega
  have hrd := (rds_of hmt).1 _ (List.getElem_mem hk)
  have h1 := List.all_eq_true.1 hserv k (List.mem_range.2 hk)
  have h2 := List.all_eq_true.1 h1 0 (List.mem_range.2 (by rw [rdA, List.getElem?_eq_getElem hk]; show 0 < (m.ms[k]).rd.toNat; omega))
  have h3 : seenV k (0 : Nat) m.ss = actV m.ns := by simpa using h2
  rw [actB, ← h3] at hz1
  obtain ⟨x, hx, hxm, hxn⟩ := seenV_mem _ _ _ _ hz1
  have hxb := nds_of hst x hx
  exact sta_some z _ 0 ⟨x, List.mem_filter.2 ⟨hx, by simp [hxm]⟩, by omega⟩
theorem durs20_of {l : List Slt} (h : stB l = true) : Durs20 l := fun x hx => by
  obtain ⟨k, hk, rfl⟩ := List.getElem_of_mem hx
  have b := slt_bounds (stB_at h (List.getElem?_eq_getElem hk))
  have := cellI_le (kd := l[k].kd) (szB_ge b.2.2.2.2.2.1)
  omega
theorem Durs20.modeL {l : List Slt} (h : Durs20 l) (mode : Int) : Durs20 (modeL mode l) := fun x hx => h x (List.mem_filter.1 hx).1
end Go.Proofs.YtdkhldebnpmiiaaGreatDoor
namespace Go.Proofs.YtdkhldebnpmiiaaGreatDoor
open Go.RowKit
set_option linter.unusedVariables false
set_option linter.unusedSimpArgs false
/-- starts and ends, in pairs -/
def prs (nd : Int) : Int → List Slt → List (Int × Int)
  | _, [] => []
  | a, x :: l => (if x.nd == nd then [(a, a + x.du)] else []) ++ prs nd (a + x.du) l
def prL (nd : Int) (l : List Slt) : List (Int × Int) := prs nd 0 l
theorem prs_append (nd : Int) (l2 : List Slt) : ∀ (l1 : List Slt) (a : Int), prs nd a (l1 ++ l2) = prs nd a l1 ++ prs nd (a + durs l1) l2
  | [], a => by simp [prs, durs_nil]
  | x :: l1, a => by rw [List.cons_append, prs, prs, prs_append nd l2 l1, List.append_assoc, durs_cons, Int.add_assoc]
theorem prs_fst (nd : Int) : ∀ (l : List Slt) (a : Int), (prs nd a l).map (·.1) = sta nd a l
  | [], a => rfl
  | x :: l, a => by
    rw [prs, sta, List.map_append, prs_fst nd l]
    split <;> rfl
theorem prs_snd (nd : Int) : ∀ (l : List Slt) (a : Int), (prs nd a l).map (·.2) = ens nd a l
  | [], a => rfl
  | x :: l, a => by
    rw [prs, ens, List.map_append, prs_snd nd l]
    split <;> rfl
theorem prL_fst (nd : Int) (l : List Slt) : (prL nd l).map (·.1) = stL nd l := prs_fst nd l 0
theorem prL_snd (nd : Int) (l : List Slt) : (prL nd l).map (·.2) = enL nd l := prs_snd nd l 0
theorem prL_len (nd : Int) (l : List Slt) : (prL nd l).length = (stL nd l).length := by rw [← prL_fst, List.length_map]
theorem prL_get (nd : Int) (l : List Slt) {k : Nat} (hk : k < (stL nd l).length) : (prL nd l)[k]? = some (nth (stL nd l) k, nth (enL nd l) k) := by
  have hl := prL_len nd l
  have h1 : nth (stL nd l) k = ((prL nd l)[k]'(by omega)).1 := by
    rw [nth_eq hk]
    simp only [← prL_fst, List.getElem_map]
  have h2 : nth (enL nd l) k = ((prL nd l)[k]'(by omega)).2 := by
    rw [nth_eq (by rw [stL_len]; exact hk)]
    simp only [← prL_snd, List.getElem_map]
  rw [List.getElem?_eq_getElem (by omega), h1, h2]
def hdE (ps : List (Int × Int)) : Int := match ps with | [] => 0 | p :: _ => p.2
def lateB (c t : Int) (p : Int × Int) : Bool := decide (t ≤ t / c * c + p.1)
/-- the end of the first slot that starts at a time or later, in endless cycles -/
def ansL (ps : List (Int × Int)) (c t : Int) : Int := match ps.find? (lateB c t) with
  | some p => t / c * c + p.2
  | none => t / c * c + c + hdE ps
theorem find_at {α : Type} {p : α → Bool} : ∀ {l : List α} {k : Nat} {x : α}, l[k]? = some x → p x = true → (∀ j y, j < k → l[j]? = some y → p y = false) → l.find? p = some x
  | [], k, x, h, _, _ => by cases h
  | y :: l, 0, x, h, hp, _ => by
    obtain rfl : y = x := by simpa using h
    rw [List.find?_cons, hp]
  | y :: l, k + 1, x, h, hp, hb => by
    rw [List.find?_cons, hb 0 y (by omega) rfl]
    exact find_at (l := l) (k := k) (by simpa using h) hp (fun j z hj hz => hb (j + 1) z (by omega) (by simpa using hz))
theorem ans_at {ps : List (Int × Int)} {c t : Int} {k : Nat} {p : Int × Int} (h : ps[k]? = some p) (hp : t ≤ t / c * c + p.1) (hb : ∀ j y, j < k → ps[j]? = some y → t / c * c + y.1 < t) : ansL ps c t = t / c * c + p.2 := by
  rw [ansL, find_at (p := lateB c t) h (show lateB c t p = true from decide_eq_true hp) (fun j y hj hy => show lateB c t y = false from decide_eq_false (by have := hb j y hj hy; omega))]
theorem ans_next {ps : List (Int × Int)} {c t : Int} (hb : ∀ y ∈ ps, t / c * c + y.1 < t) : ansL ps c t = t / c * c + c + hdE ps := by
  rw [ansL]
  have : ps.find? (lateB c t) = none := by
    rw [List.find?_eq_none]
    intro y hy
    have := hb y hy
    rw [lateB, decide_eq_false (by omega)]
    simp
  rw [this]
theorem div_bounds {t c : Int} (ht : 0 ≤ t) (hc : 0 < c) : 0 ≤ t / c * c ∧ t / c * c ≤ t ∧ t < t / c * c + c := by
  have h1 := Int.mul_ediv_add_emod t c
  have h2 := Int.emod_nonneg t (by omega : c ≠ 0)
  have h3 := Int.emod_lt_of_pos t hc
  have h4 : 0 ≤ t / c := Int.ediv_nonneg ht (by omega)
  have h5 : 0 ≤ t / c * c := Int.mul_nonneg h4 (by omega)
  rw [Int.mul_comm] at h1
  omega
/-- well-formed pairs -/
structure WfP (c : Int) (ps : List (Int × Int)) : Prop where
  ord : ps.Pairwise (fun a b => a.1 < b.1)
  each : ∀ p ∈ ps, 0 ≤ p.1 ∧ p.1 + 20 ≤ p.2 ∧ p.2 ≤ p.1 + 1000 ∧ p.2 ≤ c
theorem prs_wf (nd : Int) : ∀ (l : List Slt) (a : Int), 0 ≤ a → Durs20 l → (prs nd a l).Pairwise (fun p q => p.1 < q.1) ∧ ∀ p ∈ prs nd a l, a ≤ p.1 ∧ p.1 + 20 ≤ p.2 ∧ p.2 ≤ p.1 + 1000 ∧ p.2 ≤ a + durs l
  | [], a, _, _ => ⟨by simp [prs], fun p hp => by cases hp⟩
  | x :: l, a, ha, h => by
    have hx := h x (by simp)
    have ih := prs_wf nd l (a + x.du) (by omega) (fun y hy => h y (by simp [hy]))
    have hd := durs_bound (l := l) (fun y hy => by have := h y (by simp [hy]); omega)
    rw [prs, durs_cons]
    constructor
    · rw [List.pairwise_append]
      refine ⟨by split <;> simp, ih.1, fun p hp q hq => ?_⟩
      have := ih.2 q hq
      split at hp
      · simp at hp
        subst hp
        show a < q.1
        omega
      · cases hp
    · intro p hp
      rcases List.mem_append.1 hp with hp | hp
      · split at hp
        · simp at hp
          subst hp
          show a ≤ a ∧ a + 20 ≤ a + x.du ∧ a + x.du ≤ a + 1000 ∧ a + x.du ≤ a + (x.du + durs l)
          omega
        · cases hp
      · have := ih.2 p hp
        omega
theorem WfP.of (nd : Int) {l : List Slt} (h : Durs20 l) : WfP (durs l) (prL nd l) := by
  have := prs_wf nd l 0 (by omega) h
  refine ⟨this.1, fun p hp => ?_⟩
  have := this.2 p hp
  omega
/-- the worst chain over the first k starts -/
def chnAt (pa pb : List (Int × Int)) (c s : Int) : Int := ansL pb c (ansL pa c (s + 1)) - (s + 1)
def chnTo (pa pb : List (Int × Int)) (c : Int) (ss : List Int) (k : Nat) : Int := (ss.take k).foldl (fun w s => max w (chnAt pa pb c s)) 0
def chnL (pa pb : List (Int × Int)) (c : Int) (ss : List Int) : Int := chnTo pa pb c ss ss.length
theorem chnTo_succ (pa pb : List (Int × Int)) (c : Int) (ss : List Int) {k : Nat} (hk : k < ss.length) : chnTo pa pb c ss (k + 1) = max (chnTo pa pb c ss k) (chnAt pa pb c (nth ss k)) := by
  rw [chnTo, List.take_add_one, List.getElem?_eq_getElem hk, List.foldl_append, nth_eq hk]
  rfl
/-- the end lies behind the time, within two cycles -/
theorem ans_bound {ps : List (Int × Int)} {c t : Int} (h : WfP c ps) (hne : ps ≠ []) (ht : 0 ≤ t) (hc : 0 < c) : t + 20 ≤ ansL ps c t ∧ ansL ps c t ≤ t + 2 * c := by
  have hd := div_bounds ht hc
  rw [ansL]
  cases hf : ps.find? (lateB c t) with
  | some p =>
    have hp := h.each p (List.mem_of_find?_eq_some hf)
    have hl : lateB c t p = true := List.find?_some hf
    rw [lateB, decide_eq_true_iff] at hl
    show t + 20 ≤ t / c * c + p.2 ∧ t / c * c + p.2 ≤ t + 2 * c
    omega
  | none =>
    obtain ⟨p, r, rfl⟩ := List.exists_cons_of_ne_nil hne
    have hp := h.each p (by simp)
    show t + 20 ≤ t / c * c + c + p.2 ∧ t / c * c + c + p.2 ≤ t + 2 * c
    omega
end Go.Proofs.YtdkhldebnpmiiaaGreatDoor
namespace Go.Proofs.YtdkhldebnpmiiaaGreatDoor
open Go.RowKit
set_option linter.unusedVariables false
set_option linter.unusedSimpArgs false
/-- the greatest element, the least one -/
def mxL : List Int → Int
  | [] => 0
  | x :: l => l.foldl max x
def mnL : List Int → Int
  | [] => 0
  | x :: l => l.foldl min x
theorem mxL_snoc {l : List Int} (x : Int) (h : l ≠ []) : mxL (l ++ [x]) = max (mxL l) x := by
  obtain ⟨y, r, rfl⟩ := List.exists_cons_of_ne_nil h
  rw [List.cons_append, mxL, List.foldl_append]
  rfl
theorem mnL_snoc {l : List Int} (x : Int) (h : l ≠ []) : mnL (l ++ [x]) = min (mnL l) x := by
  obtain ⟨y, r, rfl⟩ := List.exists_cons_of_ne_nil h
  rw [List.cons_append, mnL, List.foldl_append]
  rfl
theorem fmax_mem : ∀ (l : List Int) (x : Int), l.foldl max x = x ∨ l.foldl max x ∈ l
  | [], x => .inl rfl
  | y :: l, x => by
    rw [List.foldl_cons]
    rcases fmax_mem l (max x y) with h | h
    · rw [h]
      rcases Int.le_total x y with q | q
      · right; rw [Int.max_eq_right q]; simp
      · left; exact Int.max_eq_left q
    · right; simp [h]
theorem fmin_mem : ∀ (l : List Int) (x : Int), l.foldl min x = x ∨ l.foldl min x ∈ l
  | [], x => .inl rfl
  | y :: l, x => by
    rw [List.foldl_cons]
    rcases fmin_mem l (min x y) with h | h
    · rw [h]
      rcases Int.le_total x y with q | q
      · left; exact Int.min_eq_left q
      · right; rw [Int.min_eq_right q]; simp
    · right; simp [h]
theorem fmax_ge : ∀ (l : List Int) (x : Int), x ≤ l.foldl max x ∧ ∀ z ∈ l, z ≤ l.foldl max x
  | [], x => ⟨Int.le_refl _, fun z h => by cases h⟩
  | y :: l, x => by
    have := fmax_ge l (max x y)
    rw [List.foldl_cons]
    refine ⟨by omega, fun z hz => ?_⟩
    rcases List.mem_cons.1 hz with rfl | h
    · omega
    · exact this.2 z h
theorem fmin_le : ∀ (l : List Int) (x : Int), l.foldl min x ≤ x ∧ ∀ z ∈ l, l.foldl min x ≤ z
  | [], x => ⟨Int.le_refl _, fun z h => by cases h⟩
  | y :: l, x => by
    have := fmin_le l (min x y)
    rw [List.foldl_cons]
    refine ⟨by omega, fun z hz => ?_⟩
    rcases List.mem_cons.1 hz with rfl | h
    · omega
    · exact this.2 z h
theorem mxL_mem {l : List Int} (h : l ≠ []) : mxL l ∈ l := by
  obtain ⟨y, r, rfl⟩ := List.exists_cons_of_ne_nil h
  rw [mxL]
  rcases fmax_mem r y with e | e
  · rw [e]; simp
  · simp [e]
theorem mnL_mem {l : List Int} (h : l ≠ []) : mnL l ∈ l := by
  obtain ⟨y, r, rfl⟩ := List.exists_cons_of_ne_nil h
  rw [mnL]
  rcases fmin_mem r y with e | e
  · rw [e]; simp
  · simp [e]
theorem mxL_ge {l : List Int} {z : Int} (h : z ∈ l) : z ≤ mxL l := by
  cases l with
  | nil => cases h
  | cons y r =>
    have := fmax_ge r y
    rw [mxL]
    rcases List.mem_cons.1 h with rfl | h
    · exact this.1
    · exact this.2 z h
theorem mnL_le {l : List Int} {z : Int} (h : z ∈ l) : mnL l ≤ z := by
  cases l with
  | nil => cases h
  | cons y r =>
    have := fmin_le r y
    rw [mnL]
    rcases List.mem_cons.1 h with rfl | h
    · exact this.1
    · exact this.2 z h
theorem mnL_le_mxL {l : List Int} (h : l ≠ []) : mnL l ≤ mxL l := mnL_le (mxL_mem h)
/-- gaps add up -/
theorem gapTo_sum {ss : List Int} {c : Int} : ∀ k, k < ss.length → (gapTo ss c k).sum = nth ss k - nth ss 0
  | 0, _ => by simp [gapTo]
  | k + 1, h => by
    rw [gapTo_succ, List.sum_append, gapTo_sum k (by omega), gapAt, if_pos h]
    simp
    omega
theorem gapL_sum {ss : List Int} {c : Int} (h : ss ≠ []) : (gapL ss c).sum = c := by
  have hl := List.length_pos_iff.2 h
  obtain ⟨k, hk⟩ : ∃ k, ss.length = k + 1 := ⟨ss.length - 1, by omega⟩
  rw [gapL, hk, gapTo_succ, List.sum_append, gapTo_sum k (by omega), gapAt, if_neg (by omega)]
  simp
  omega
theorem gapAt_mem {ss : List Int} {c : Int} {k : Nat} (h : k < ss.length) : gapAt ss c k ∈ gapL ss c := List.mem_map.2 ⟨k, List.mem_range.2 h, rfl⟩
theorem nth_map_fst {ps : List (Int × Int)} {k : Nat} (h : k < ps.length) : nth (ps.map (·.1)) k = (ps[k]).1 := by
  rw [nth_eq (by rw [List.length_map]; exact h), List.getElem_map]
theorem hdE_get {ps : List (Int × Int)} (h : 0 < ps.length) : hdE ps = (ps[0]).2 := by
  cases ps with
  | nil => simp at h
  | cons p r => rfl
/-- the answer comes a gap and a slot behind the time at most -/
theorem ans_upper {ps : List (Int × Int)} {c t : Int} (h : WfP c ps) (hne : ps ≠ []) (ht : 0 ≤ t) (hc : 0 < c) : ansL ps c t ≤ t + mxL (gapL (ps.map (·.1)) c) + 1000 := by
  have hd := div_bounds ht hc
  have hl := List.length_pos_iff.2 hne
  obtain ⟨n, hn⟩ : ∃ n, ps.length = n + 1 := ⟨ps.length - 1, by omega⟩
  have glast := mxL_ge (gapAt_mem (ss := ps.map (·.1)) (c := c) (k := n) (by rw [List.length_map]; omega))
  rw [gapAt, if_neg (by rw [List.length_map]; omega), nth_map_fst (k := n) (by omega), nth_map_fst hl] at glast
  have en := h.each _ (List.getElem_mem (l := ps) (n := n) (by omega))
  have e0 := h.each _ (List.getElem_mem (l := ps) (n := 0) hl)
  by_cases hex : ∃ k, ∃ hk : k < ps.length, t ≤ t / c * c + (ps[k]).1
  · obtain ⟨k, ⟨hk, hkt⟩, hmin⟩ : ∃ k, (∃ hk : k < ps.length, t ≤ t / c * c + (ps[k]).1) ∧ ∀ j, j < k → ¬ ∃ hj : j < ps.length, t ≤ t / c * c + (ps[j]).1 := by
      obtain ⟨k, hk⟩ := hex
      induction k using Nat.strongRecOn with
      | ind k ih =>
        by_cases hb : ∃ j, j < k ∧ ∃ hj : j < ps.length, t ≤ t / c * c + (ps[j]).1
        · obtain ⟨j, hjk, hj⟩ := hb
          exact ih j hjk hj
        · exact ⟨k, hk, fun j hj hh => hb ⟨j, hj, hh⟩⟩
    have hbef : ∀ j y, j < k → ps[j]? = some y → t / c * c + y.1 < t := fun j y hj hy => by
      obtain ⟨hjl, rfl⟩ := List.getElem?_eq_some_iff.1 hy
      have := hmin j hj
      have q : ¬ t ≤ t / c * c + (ps[j]).1 := fun hh => this ⟨hjl, hh⟩
      omega
    rw [ans_at (List.getElem?_eq_getElem hk) hkt hbef]
    have ek := h.each _ (List.getElem_mem hk)
    rcases Nat.eq_zero_or_pos k with h0 | h0
    · subst h0
      omega
    · obtain ⟨j, rfl⟩ : ∃ j, k = j + 1 := ⟨k - 1, by omega⟩
      have hj := hbef j _ (by omega) (List.getElem?_eq_getElem (by omega))
      have g := mxL_ge (gapAt_mem (ss := ps.map (·.1)) (c := c) (k := j) (by rw [List.length_map]; omega))
      rw [gapAt, if_pos (by rw [List.length_map]; exact hk), nth_map_fst hk, nth_map_fst (k := j) (by omega)] at g
      omega
  · have hall : ∀ y ∈ ps, t / c * c + y.1 < t := fun y hy => by
      obtain ⟨k, hk, rfl⟩ := List.getElem_of_mem hy
      have q : ¬ t ≤ t / c * c + (ps[k]).1 := fun hh => hex ⟨k, hk, hh⟩
      omega
    rw [ans_next hall, hdE_get hl]
    have := hall _ (List.getElem_mem (l := ps) (n := n) (by omega))
    omega
/-- behind the beginning of a slot the answer is the next slot's end -/
theorem ans_after {ps : List (Int × Int)} {c : Int} (h : WfP c ps) {k : Nat} (hk : k < ps.length) (hc : 0 < c) : (ps[k]).1 + gapAt (ps.map (·.1)) c k + 20 ≤ ansL ps c ((ps[k]).1 + 1) := by
  have ek := h.each _ (List.getElem_mem hk)
  have hl : 0 < ps.length := by omega
  have e0 := h.each _ (List.getElem_mem (l := ps) (n := 0) hl)
  have hz : ((ps[k]).1 + 1) / c * c = 0 := by rw [Int.ediv_eq_zero_of_lt (by omega) (by omega), Int.zero_mul]
  have hord := List.pairwise_iff_getElem.1 h.ord
  have hbef : ∀ j y, j < k + 1 → ps[j]? = some y → ((ps[k]).1 + 1) / c * c + y.1 < (ps[k]).1 + 1 := fun j y hj hy => by
    obtain ⟨hjl, rfl⟩ := List.getElem?_eq_some_iff.1 hy
    rw [hz]
    rcases Nat.lt_succ_iff_lt_or_eq.1 hj with q | q
    · have := hord j k hjl hk q
      omega
    · subst q
      omega
  rw [gapAt]
  by_cases hlt : k + 1 < ps.length
  · have e1 := h.each _ (List.getElem_mem hlt)
    have o1 := hord k (k + 1) hk hlt (by omega)
    rw [if_pos (by rw [List.length_map]; exact hlt), nth_map_fst hlt, nth_map_fst hk, ans_at (List.getElem?_eq_getElem hlt) (by rw [hz]; omega) hbef, hz]
    omega
  · rw [if_neg (by rw [List.length_map]; omega), nth_map_fst hk, nth_map_fst hl, ans_next, hz, hdE_get hl]
    · omega
    · intro y hy
      obtain ⟨j, hj, rfl⟩ := List.getElem_of_mem hy
      exact hbef j _ (by omega) (List.getElem?_eq_getElem hj)
theorem chnL_fold (pa pb : List (Int × Int)) (c : Int) (ss : List Int) : chnL pa pb c ss = (ss.map (chnAt pa pb c)).foldl max 0 := by
  rw [chnL, chnTo, List.take_length, List.foldl_map]
theorem chn_upper {pa pb : List (Int × Int)} {c : Int} (ha : WfP c pa) (hb : WfP c pb) (na : pa ≠ []) (nb : pb ≠ []) (hc : 0 < c) : chnL pa pb c (pa.map (·.1)) ≤ mxL (gapL (pa.map (·.1)) c) + mxL (gapL (pb.map (·.1)) c) + 2000 := by
  have key : ∀ t, 0 ≤ t → ansL pb c (ansL pa c t) - t ≤ mxL (gapL (pa.map (·.1)) c) + mxL (gapL (pb.map (·.1)) c) + 2000 ∧ 0 ≤ ansL pb c (ansL pa c t) - t := fun t ht => by
    have h1 := ans_bound ha na ht hc
    have h2 := ans_upper ha na ht hc
    have h3 := ans_bound hb nb (t := ansL pa c t) (by omega) hc
    have h4 := ans_upper hb nb (t := ansL pa c t) (by omega) hc
    omega
  rw [chnL_fold]
  rcases fmax_mem ((pa.map (·.1)).map (chnAt pa pb c)) 0 with h | h
  · have := key 0 (Int.le_refl _)
    omega
  · rw [List.mem_map] at h
    obtain ⟨s, hs, e⟩ := h
    rw [← e, chnAt]
    obtain ⟨p, hp, rfl⟩ := List.mem_map.1 hs
    have := ha.each p hp
    exact (key (p.1 + 1) (by omega)).1
theorem chn_lower {pa pb : List (Int × Int)} {c : Int} (ha : WfP c pa) (hb : WfP c pb) (na : pa ≠ []) (nb : pb ≠ []) (hc : 0 < c) : mxL (gapL (pa.map (·.1)) c) < chnL pa pb c (pa.map (·.1)) := by
  have hl := List.length_pos_iff.2 na
  have hg : gapL (pa.map (·.1)) c ≠ [] := by
    rw [← List.length_pos_iff, gapL_len, List.length_map]
    exact hl
  have hm := mxL_mem hg
  rw [gapL, gapTo, List.mem_map] at hm
  obtain ⟨k, hk, e⟩ := hm
  rw [List.mem_range, List.length_map] at hk
  have h1 := ans_after ha hk hc
  have ek := ha.each _ (List.getElem_mem hk)
  have h0 := ans_bound ha na (t := (pa[k]).1 + 1) (by omega) hc
  have h2 := ans_bound hb nb (t := ansL pa c ((pa[k]).1 + 1)) (by omega) hc
  have h3 := (fmax_ge ((pa.map (·.1)).map (chnAt pa pb c)) 0).2 (chnAt pa pb c (pa[k]).1) (List.mem_map.2 ⟨(pa[k]).1, List.mem_map.2 ⟨_, List.getElem_mem hk, rfl⟩, rfl⟩)
  rw [chnL_fold]
  rw [chnAt] at h3
  have e2 : mxL (gapL (pa.map (·.1)) c) = gapAt (pa.map (·.1)) c k := e.symm
  rw [e2]
  omega
end Go.Proofs.YtdkhldebnpmiiaaGreatDoor
namespace Go.Proofs.YtdkhldebnpmiiaaGreatDoor
open Go.RowKit
set_option linter.unusedVariables false
set_option linter.unusedSimpArgs false
def Apt (A1 A2 : Option Addr) : Prop := ∀ g, A1 = some ⟨g, 0, none⟩ → A2 ≠ some ⟨g, 0, none⟩
section
variable {w w' : World} {B B2 n c n2 c2 : Nat} {A A2 : Option Addr} {zs zs2 : List Int}
theorem Apt.symm (h : Apt A A2) : Apt A2 A := fun g h2 h1 => h g h1 h2
theorem Own.keepA (h : Own w B A n c zs) (o : Own w B2 A2 n2 c2 zs2) (ha : Apt A A2) (hg : w.grownBy w' (Value.slice A2 n2 c2).ownBlock) : Own w' B A n c zs := by
  refine h.keepG hg ?_
  rcases h.form with ⟨rfl, _⟩ | ⟨g, rfl, _⟩
  · left; rfl
  · right
    rcases o.form with ⟨rfl, _⟩ | ⟨g2, rfl, _⟩
    · simp [Value.ownBlock]
    · intro e
      simp [Value.ownBlock] at e
      subst e
      exact ha g rfl rfl
/-- the new row lies apart from the other one too -/
theorem Apt.grow {g : Nat} (ha : Apt A A2) (h : Own w B A n c zs) (o : Own w B2 A2 n2 c2 zs2) (hg : (Value.slice A n c).ownBlock = some g ∨ g = w.heap.size) : Apt (some ⟨g, 0, none⟩) A2 := by
  intro g' e
  simp at e
  subst e
  rcases hg with hg | rfl
  · rcases h.form with ⟨rfl, _⟩ | ⟨g1, rfl, _⟩
    · simp [Value.ownBlock] at hg
    · simp [Value.ownBlock] at hg
      subst hg
      exact ha g1 rfl
  · rcases o.form with ⟨rfl, _⟩ | ⟨g2, rfl, _, hl⟩
    · simp
    · intro e
      (simp at e) <;> omega
/-- append at a step of a region that draws its order: the new row is the old one or a new block -/
theorem step_append_own {ops : Array Oper} {o : Oper} {a : Act} {K : Act → World → Prop} {Q : Exit → Act → World → Prop} {E : Prop} (hgd : o.guard = none) (s x : Operand)
    (ho : o.op = .call { callee := .builtin .append, args := #[s, x], argTypes := #[40, 40] })
    (B : Nat) (hs : a.eval s = .slice A n c) (hown : Own w B A n c zs) {m c2 : Nat} {A2 : Option Addr} {ys : List Int} (hr : Rd w A2 m c2 ys) (hx : a.eval x = .slice A2 m c2) (hm : 0 < m) (hn : n + m ≤ 16777216) (hB : B ≤ w.heap.size)
    (h : ∀ g c' w', Own w' B (some ⟨g, 0, none⟩) (n + m) c' (zs ++ ys) → w.grownBy w' (Value.slice A n c).ownBlock → ((Value.slice A n c).ownBlock = some g ∨ g = w.heap.size) → K (a.put o.dst (.slice (some ⟨g, 0, none⟩) (n + m) c')) w') :
    if Region.wanted o (yielded ops a.tmps) = true then Oper.wp Tryz.prog o a w K Q else E := by
  obtain ⟨i0, hi, hz0, hz1, hz2⟩ := info_parts info_i64
  obtain ⟨b, off, rfl, _, hc⟩ := hr.at_ hm
  refine step_append_lies w hgd s x 40 ho B 2 i0 (.int .i64 0) 1 8 Tryz.underlying40 hi hz0 hz1 hz2 rfl (by decide) (.slice A n c) n (ints zs) hs hown.1
    ⟨b, off, none⟩ m c2 (ints ys) hx (by rw [ints_length, hr.len]; omega) ?_ (ints_oneCell ys) hm (by simp only [maxLen]; omega) (by omega) hB _ rfl ?_
  · intro j u hu
    have hj : j < ys.length := by
      have := (List.getElem?_eq_some_iff.1 hu).1
      rwa [ints_length] at this
    have hlen := hr.len
    have e : (⟨b, off, none⟩ : Addr).add j = ⟨b, off + j, none⟩ := by
      unfold Addr.add
      split
      · rename_i h0
        subst h0
        rfl
      · rfl
    rw [e, hc j (by omega), ← ints_get ys j hj]
    exact hu
  · intro g cap w' hrow hg hat _
    rw [← ints_append] at hrow
    exact h g cap w' ⟨hrow, hown.i64.append hr.i64⟩ hg hat
end
end Go.Proofs.YtdkhldebnpmiiaaGreatDoor
namespace Go.Proofs.YtdkhldebnpmiiaaGreatDoor
open Go.RowKit
set_option linter.unusedVariables false
set_option linter.unusedSimpArgs false
theorem startL_bound {l : List Slt} (h : Durs l) (md rd sl : Int) : 0 ≤ startL md rd sl l ∧ startL md rd sl l ≤ 1000 * l.length := by
  have h1 := durs_bound (h.filter (befB md rd sl))
  have h2 : (l.filter (befB md rd sl)).length ≤ l.length := List.length_filter_le _ _
  rw [startL]
  omega
set_option maxHeartbeats 3200000 in
theorem l15Start_any (v : Value) (m : Mdl) (mode rd sl : Int) (w : World) (h : RdM w v m) (hn : m.ss.length ≤ 120) (hd : Durs m.ss) :
    Calls Tryz.prog 90 #[v, .int .i64 mode, .int .i64 rd, .int .i64 sl] w (IntOut (startL mode rd sl m.ss) w) := by
  have HM := hide h
  obtain ⟨A1, n1, c1, A2, n2, c2, A3, n3, q3, rfl, h1, h2, h3⟩ := h
  have hlen2 := hide h2.len
  have hlen := hide h3.len
  have hcap2 := h2.cap
  have hcap := h3.cap
  obtain ⟨W0, hW0⟩ : ∃ W0, W0 = w.alloc (.cells #[.int .i64 m.id, .slice A1 n1 c1, .slice A2 n2 c2, .slice A3 n3 q3] 28) := ⟨_, rfl⟩
  have F0 : At W0 w.heap.size 28 #[.int .i64 m.id, .slice A1 n1 c1, .slice A2 n2 c2, .slice A3 n3 q3] := by rw [hW0]; exact At.fresh _ _ _
  have BA := hide (show Below w.heap.size w W0 by rw [hW0]; exact (Below.refl _ _).alloc (Nat.le_refl _) _)
  have B0 := hide (Below.refl W0.heap.size W0)
  have H1 := hide (h1.below BA.out)
  have H2 := hide (h2.below BA.out)
  have H3 := hide (h3.below BA.out)
  have HM0 := hide (HM.out.below BA.out)
  have HF := hide F0
  have d0 := F0.cell 0
  have d1 := F0.cell 1
  have d2 := F0.cell 2
  have d3 := F0.cell 3
  simp at d0 d1 d2 d3
  have HW := hide hW0
  clear hW0 F0 h1 h2 h3 HM
  have hN := hn
  rw [hlen.out] at hN
  go_enter Tryz.func90, Tryz.ntmps90
  go_wp2_with fail
  rw [← HW.out]
  clear d0 d1 d2 d3
  go_loopw [9, 10] (fun q i wr => ∃ (k : Nat) (u : Int), k ≤ n3 ∧ i = .int .i64 k ∧ q = .int .i64 u ∧ Hid (u = startL mode rd sl (m.ss.take k)) ∧ Hid (Below W0.heap.size W0 wr)) (fun _ i _ => n3 - (intOf i).toNat)
  case atStart => exact ⟨0, 0, by omega, rfl, rfl, hide (by simp [startL, durs]), B0⟩
  case round =>
    obtain ⟨k, u, hk, rfl, rfl, hu, hb2⟩ := hrel
    have F := HF.out.keep hb2.out
    have d3 := F.cell 3
    simp at d3
    clear F
    by_cases hlt : k < n3
    · obtain ⟨b, off, x, rfl, hb, hx, c0, c1, c2, c3, c4, c5, c6, c7⟩ := slt_at (H3.out.below hb2.out) hlt
      have HN := hide (show startL mode rd sl (m.ss.take (k + 1)) = _ by rw [takeR hx, startL_snoc])
      have hub := startL_bound (hd.take k) mode rd sl
      rw [← hu.out, List.length_take] at hub
      have hxb := hd x (List.mem_of_getElem? hx)
      have u0 : 0 ≤ u := hub.1
      have u1 : u ≤ 120000 := by omega
      have BW := hide (show Below W0.heap.size W0 (wr.alloc (.cells #[.int .i64 x.md, .int .i64 x.rd, .int .i64 x.sl, .int .i64 x.nd, .int .i64 x.kd, .int .i64 x.sz, .int .i64 x.du, .bool x.ch] 61)) from below_trans hb2.out ((Below.refl _ _).alloc (Nat.le_refl _) _))
      clear hx hub
      cases e : (x.md == mode)
      · have NN := hide (show u = startL mode rd sl (m.ss.take (k + 1)) by rw [HN.out, befB, e, hu.out]; simp)
        clear HN
        go_wp2
        go_roundw
        case rel => exact ⟨k + 1, u, by omega, by go_num, rfl, NN, BW⟩
        case measure => simp [intOf]; omega
      · cases t1 : decide (x.rd < rd)
        · cases e2 : (x.rd == rd)
          · have NN := hide (show u = startL mode rd sl (m.ss.take (k + 1)) by rw [HN.out, befB, e, t1, e2, hu.out]; simp)
            clear HN
            go_wp2
            go_roundw
            case rel => exact ⟨k + 1, u, by omega, by go_num, rfl, NN, BW⟩
            case measure => simp [intOf]; omega
          · cases t2 : decide (x.sl < sl)
            · have NN := hide (show u = startL mode rd sl (m.ss.take (k + 1)) by rw [HN.out, befB, e, t1, e2, t2, hu.out]; simp)
              clear HN
              go_wp2
              go_roundw
              case rel => exact ⟨k + 1, u, by omega, by go_num, rfl, NN, BW⟩
              case measure => simp [intOf]; omega
            · have NN := hide (show u + x.du = startL mode rd sl (m.ss.take (k + 1)) by rw [HN.out, befB, e, t1, e2, t2, hu.out]; simp)
              clear HN
              go_wp2
              go_roundw
              case rel => exact ⟨k + 1, u + x.du, by omega, by go_num, by go_num, NN, BW⟩
              case measure => simp [intOf]; omega
        · have NN := hide (show u + x.du = startL mode rd sl (m.ss.take (k + 1)) by rw [HN.out, befB, e, t1, hu.out]; simp)
          clear HN
          go_wp2
          go_roundw
          case rel => exact ⟨k + 1, u + x.du, by omega, by go_num, by go_num, NN, BW⟩
          case measure => simp [intOf]; omega
    · obtain rfl : k = n3 := by omega
      have E := hide (show u = startL mode rd sl m.ss by rw [hu.out, ← hlen.out, List.take_length])
      go_wp2
      go_ret
      exact ⟨by rw [E.out]; rfl, below_trans BA.out hb2.out⟩
set_option maxHeartbeats 3200000 in
theorem l15Times_any (v : Value) (m : Mdl) (mode node : Int) (w : World) (h : RdM w v m) (hst : stB m.ss = true) :
    Calls Tryz.prog 54 #[v, .int .i64 mode, .int .i64 node] w (fun e w' => ∃ A' c', e = .returned (.slice A' (stL node (modeL mode m.ss)).length c') ∧ Own w' w.heap.size A' (stL node (modeL mode m.ss)).length c' (stL node (modeL mode m.ss)) ∧ Below w.heap.size w w') := by
  have HM := hide h
  obtain ⟨A1, n1, c1, A2, n2, c2, A3, n3, q3, rfl, h1, h2, h3⟩ := h
  have hlen2 := hide h2.len
  have hlen := hide h3.len
  have hcap2 := h2.cap
  have hcap := h3.cap
  obtain ⟨W0, hW0⟩ : ∃ W0, W0 = w.alloc (.cells #[.int .i64 m.id, .slice A1 n1 c1, .slice A2 n2 c2, .slice A3 n3 q3] 28) := ⟨_, rfl⟩
  have F0 : At W0 w.heap.size 28 #[.int .i64 m.id, .slice A1 n1 c1, .slice A2 n2 c2, .slice A3 n3 q3] := by rw [hW0]; exact At.fresh _ _ _
  have BA := hide (show Below w.heap.size w W0 by rw [hW0]; exact (Below.refl _ _).alloc (Nat.le_refl _) _)
  have B0 := hide (Below.refl W0.heap.size W0)
  have H1 := hide (h1.below BA.out)
  have H2 := hide (h2.below BA.out)
  have H3 := hide (h3.below BA.out)
  have HM0 := hide (HM.out.below BA.out)
  have HF := hide F0
  have d0 := F0.cell 0
  have d1 := F0.cell 1
  have d2 := F0.cell 2
  have d3 := F0.cell 3
  simp at d0 d1 d2 d3
  have HW := hide hW0
  clear hW0 F0 h1 h2 h3 HM
  have hN := len_of hst
  have HLn := hide (len_of hst)
  have hDu := hide (durs_of hst)
  have HST := hide hst
  rw [hlen.out] at hN
  clear hst
  obtain ⟨H0, hH0⟩ : ∃ H0, H0 = W0.heap.size := ⟨_, rfl⟩
  have own0 := hide (Own.empty W0 (B := H0) (by rw [hH0]; exact Nat.le_refl _))
  rw [show W0.heap.size = w.heap.size + 1 by rw [HW.out]; simp] at own0
  have HH0 := hide hH0
  clear hH0
  go_enter Tryz.func54, Tryz.ntmps54
  go_wp2_with fail
  rw [← HW.out]
  clear d0 d1 d2 d3
  go_loopw [7, 8] (fun q i wr => ∃ (k p : Nat) (A' : Option Addr) (c' : Nat), k ≤ n3 ∧ i = .int .i64 k ∧ q = .slice A' p c' ∧ p ≤ k ∧ Hid (Own wr H0 A' p c' (stL node (modeL mode (m.ss.take k)))) ∧ Hid (Below W0.heap.size W0 wr)) (fun _ i _ => n3 - (intOf i).toNat)
  case atStart => exact ⟨0, 0, _, _, by omega, rfl, rfl, by omega, hide own0.out, hide ((Below.refl _ _).alloc (Nat.le_refl _) _)⟩
  case round =>
    obtain ⟨k, p, A', c', hk, rfl, rfl, hp, hown, hb2⟩ := hrel
    have F := HF.out.keep hb2.out
    have d0 := F.cell 0
    have d1 := F.cell 1
    have d2 := F.cell 2
    have d3 := F.cell 3
    simp at d0 d1 d2 d3
    clear F
    by_cases hlt : k < n3
    · obtain ⟨b, off, x, rfl, hb, hx, c0, c1, c2, c3, c4, c5, c6, c7⟩ := slt_at (H3.out.below hb2.out) hlt
      have HN := hide (show modeL mode (m.ss.take (k + 1)) = _ by rw [takeR hx, modeL_snoc])
      have HS := hide (startL_at HST.out hx)
      obtain ⟨WX, hWX⟩ : ∃ WX, WX = wr.alloc (.cells #[.int .i64 x.md, .int .i64 x.rd, .int .i64 x.sl, .int .i64 x.nd, .int .i64 x.kd, .int .i64 x.sz, .int .i64 x.du, .bool x.ch] 61) := ⟨_, rfl⟩
      have BWr := hide (show Below wr.heap.size wr WX by rw [hWX]; exact (Below.refl _ _).alloc (Nat.le_refl _) _)
      have BW := hide (show Below W0.heap.size W0 WX from below_trans hb2.out BWr.out)
      have HO := hide (hown.out.below BWr.out)
      have HWX := hide hWX
      clear hx hWX hown
      cases e : (x.md == mode)
      · have NN := hide (show Own WX H0 A' p c' (stL node (modeL mode (m.ss.take (k + 1)))) by rw [HN.out, e, if_neg (by simp), List.append_nil]; exact HO.out)
        clear HN
        go_wp2_with fail
        rw [← HWX.out]
        go_roundw
        case rel => exact ⟨k + 1, p, A', c', by omega, by go_num, rfl, by omega, NN, BW⟩
        case measure => simp [intOf]; omega
      · cases e2 : (x.nd == node)
        · have NN := hide (show Own WX H0 A' p c' (stL node (modeL mode (m.ss.take (k + 1)))) by rw [HN.out, e, if_pos rfl, stL_snoc, e2, if_neg (by simp), List.append_nil]; exact HO.out)
          clear HN
          go_wp2_with fail
          rw [← HWX.out]
          go_roundw
          case rel => exact ⟨k + 1, p, A', c', by omega, by go_num, rfl, by omega, NN, BW⟩
          case measure => simp [intOf]; omega
        · have HE := hide (show x.md = mode by simpa using e)
          have hlw := (HF.out.keep hb2.out).lt
          obtain ⟨z, hz⟩ : ∃ z, z = startL mode x.rd x.sl m.ss := ⟨_, rfl⟩
          have HZ := hide (show z = durs (modeL mode (m.ss.take k)) by rw [hz]; have q := HS.out; rw [HE.out] at q; exact q)
          have hzb := startL_bound hDu.out mode x.rd x.sl
          rw [← hz, hlen.out] at hzb
          have z0 : 0 ≤ z := hzb.1
          have z1 : z ≤ 120000 := by omega
          have NN := hide (show stL node (modeL mode (m.ss.take (k + 1))) = stL node (modeL mode (m.ss.take k)) ++ [z] by rw [HN.out, e, if_pos rfl, stL_snoc, e2, if_pos rfl, HZ.out])
          have HZZ := hide hz
          clear HN hzb hz HS
          go_wp2_with fail
          rw [← HWX.out]
          go_at_call 90
          (with_reducible refine (l15Start_any _ m mode x.rd x.sl _ (HM0.out.below BW.out) HLn.out hDu.out).mono ?_)
          rintro ee w2 ⟨rfl, b2⟩
          rw [← HZZ.out]
          have HO2 := hide (HO.out.below b2)
          have B2 := hide (below_trans BW.out b2)
          have hsz2 : H0 ≤ w2.heap.size := by rw [HH0.out]; exact B2.out.size
          clear d0 d1 d2 d3 b2
          go_wp2_with (at_builtin; refine append_new rfl _ _ rfl H0 rfl HO2.out _ [z] 1 rfl (I64.one (by omega) (by omega)) rfl rfl (by omega) hsz2 ?_; intro A2 c2 w3 own2 gr2)
          have B3 := hide (below_mark B2.out HO2.out (by rw [HH0.out]; exact Nat.le_refl _) gr2)
          rw [← NN.out] at own2
          go_roundw
          case rel => exact ⟨k + 1, p + 1, A2, c2, by omega, by go_num, rfl, by omega, hide own2, B3⟩
          case measure => simp [intOf]; omega
    · obtain rfl : k = n3 := by omega
      have E := hide (show m.ss.take k = m.ss by rw [← hlen.out, List.take_length])
      have HO := hide hown.out
      rw [E.out] at HO
      obtain rfl : p = (stL node (modeL mode m.ss)).length := HO.out.len.symm
      go_wp2
      go_ret
      exact ⟨A', c', rfl, HO.out.mono (by rw [HH0.out]; exact BA.out.size), below_trans BA.out hb2.out⟩
end Go.Proofs.YtdkhldebnpmiiaaGreatDoor
