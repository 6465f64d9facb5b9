/- Contracts: the senders. Contracts: each active node sends in each round. Contracts: each active node sends in each round, by the reference. -/
import Derived.Test.YtdkhldebnpmiiaaGreatDoorZBkB
import Derived.Test.YtdkhldebnpmiiaaGreatDoorZNTab
namespace Go.Proofs.YtdkhldebnpmiiaaGreatDoor
open Go.RowKit
set_option linter.unusedVariables false
set_option linter.unusedSimpArgs false
def strB (ns : List Nod) (x : Slt) : Bool := !(actV ns).testBit x.nd.toNat
def Nds (l : List Slt) : Prop := ∀ x ∈ l, 0 ≤ x.nd ∧ x.nd < 32
set_option maxHeartbeats 3200000 in
theorem stranger (x : Slt) (g : Nat) (A : Option Addr) (n c : Nat) (ns : List Nod) (w : World) (hg : w.cell? ⟨g, 1, none⟩ = some (.slice A n c)) (h : RdR Nod.v 4 w A n c ns) (hi : Ids ns) (hx : 0 ≤ x.nd ∧ x.nd < 32) :
    Calls Tryz.prog 135 #[.agg #[.int .i64 x.md, .int .i64 x.rd, .int .i64 x.sl, .int .i64 x.nd, .int .i64 x.kd, .int .i64 x.sz, .int .i64 x.du, .bool x.ch], .pointer (some ⟨g, 0, none⟩)] w (BoolOut (strB ns x) w) := by
  obtain ⟨d, hd⟩ : ∃ d : Nat, x.nd = d := ⟨x.nd.toNat, by omega⟩
  have hd32 : d < 32 := by omega
  have E := hide (show strB ns x = !(actV ns).testBit d by rw [strB, hd]; rfl)
  have HV := hide (actV_lt ns hi)
  rw [hd]
  clear hx hd
  have hgl := World.block_lt_of_cell? w _ hg
  obtain ⟨W0, hW0⟩ : ∃ W0, W0 = w.alloc (.cells #[.int .i64 x.md, .int .i64 x.rd, .int .i64 x.sl, .int .i64 d, .int .i64 x.kd, .int .i64 x.sz, .int .i64 x.du, .bool x.ch] 61) := ⟨_, rfl⟩
  have F0 : At W0 w.heap.size 61 #[.int .i64 x.md, .int .i64 x.rd, .int .i64 x.sl, .int .i64 d, .int .i64 x.kd, .int .i64 x.sz, .int .i64 x.du, .bool x.ch] := by rw [hW0]; exact At.fresh _ _ _
  have BA : Below w.heap.size w W0 := by rw [hW0]; exact (Below.refl _ _).alloc (Nat.le_refl _) _
  have g1 := (BA.cell (p := ⟨g, 1, none⟩) hgl).trans hg
  have d3 := F0.cell 3
  simp at d3
  have HH := hide (show RdR Nod.v 4 W0.drew A n c ns from (h.below BA).drewN 1)
  have HB := hide BA
  have HW := hide hW0
  have hl := F0.lt
  clear F0 BA hW0
  go_enter Tryz.func135, Tryz.ntmps135
  go_wp2_with fail
  rw [← HW.out]
  refine wp_region_held_drew (S := (fun w' => w'.cell? ⟨g, 1, none⟩ = some (.slice A n c) ∧ w'.cell? ⟨w.heap.size, 3, none⟩ = some (.int .i64 d))) (by kernel_rfl) ?_ (fun hHeld => ?_)
  · (try dsimp only)
    go_keep
  refine wpAnyH_take (i := 0) (v := ?va1) rfl (by kernel_rfl) (by kernel_rfl) (by kernel_rfl) (fun _ _ _ h => h) (Or.inl ⟨by rfl, ?hya1⟩) (by assumption) ?rest1
  case hya1 => (intro wz hSw; (try dsimp only at hSw); go_simp; all_goals with_reducible rfl)
  try simp only [List.getElem_toArray, List.getElem_cons_succ, List.getElem_cons_zero, Act.put, List.setIfInBounds_toArray, List.set_cons_zero, List.set_cons_succ]
  refine wpAnyH_take (i := 1) (v := ?va2) rfl (by kernel_rfl) (by kernel_rfl) (by kernel_rfl) (fun _ _ _ h => h) (Or.inl ⟨by rfl, ?hya2⟩) (by assumption) ?rest2
  case hya2 => (intro wz hSw; (try dsimp only at hSw); go_simp; all_goals with_reducible rfl)
  try simp only [List.getElem_toArray, List.getElem_cons_succ, List.getElem_cons_zero, Act.put, List.setIfInBounds_toArray, List.set_cons_zero, List.set_cons_succ]
  refine wpAnyH_take (i := 3) (v := ?va3) rfl (by kernel_rfl) (by kernel_rfl) (by kernel_rfl) (fun _ _ _ h => h) (Or.inl ⟨by rfl, ?hya3⟩) (by assumption) ?rest3
  case hya3 => (intro wz hSw; (try dsimp only at hSw); go_simp; all_goals with_reducible rfl)
  try simp only [List.getElem_toArray, List.getElem_cons_succ, List.getElem_cons_zero, Act.put, List.setIfInBounds_toArray, List.set_cons_zero, List.set_cons_succ]
  refine wpAnyH_take (i := 4) (v := ?va4) rfl (by kernel_rfl) (by kernel_rfl) (by kernel_rfl) (fun _ _ _ h => h) (Or.inl ⟨by rfl, ?hya4⟩) (by assumption) ?rest4
  case hya4 => (intro wz hSw; (try dsimp only at hSw); go_simp; all_goals with_reducible rfl)
  try simp only [List.getElem_toArray, List.getElem_cons_succ, List.getElem_cons_zero, Act.put, List.setIfInBounds_toArray, List.set_cons_zero, List.set_cons_succ]
  refine wpAnyH_take (i := 5) (v := ?va5) rfl (by kernel_rfl) (by kernel_rfl) (by kernel_rfl) (fun _ _ _ h => h) (Or.inl ⟨by rfl, ?hya5⟩) (by assumption) ?rest5
  case hya5 => (intro wz hSw; (try dsimp only at hSw); go_simp; all_goals with_reducible rfl)
  try simp only [List.getElem_toArray, List.getElem_cons_succ, List.getElem_cons_zero, Act.put, List.setIfInBounds_toArray, List.set_cons_zero, List.set_cons_succ]
  refine wpAnyH_ready (rs := [2]) (by kernel_rfl) (by simp) ?_
  refine AllReadyH.cons rfl (fun K hK => ?_) AllReadyH.nil
  go_simp
  (go_at_call 85; (with_reducible refine (activeVector_any _ _ _ _ _ HH.out hi).mono ?_); rintro ee w1 ⟨rfl, b1⟩; have b2 := below_drewS2 b1; have e3 := (b2.cell (p := ⟨w.heap.size, 3, none⟩) hl).trans d3; have e1 := (b2.cell (p := ⟨g, 1, none⟩) (World.block_lt_of_cell? W0 _ g1)).trans g1; have B2 := hide (below_trans HB.out b2); clear b1 b2)
  go_wp2_with fail
  refine hK.out _ _ ?_ (fun hHeld2 => ?_)
  · (try dsimp only)
    go_keep
  clear hK K
  try simp only [List.getElem_toArray, List.getElem_cons_succ, List.getElem_cons_zero, Act.put, List.setIfInBounds_toArray, List.set_cons_zero, List.set_cons_succ]
  refine wpAnyH_ready (rs := [6]) (by kernel_rfl) (by simp) ?_
  refine AllReadyH.cons rfl (fun K hK => ?_) AllReadyH.nil
  go_simp
  (go_at_call 84; (with_reducible refine (ihas_any _ _ HV.out hd32 _).mono ?_); rintro ee w3 ⟨rfl, rfl⟩)
  go_wp2_with fail
  refine hK.out _ _ ?_ (fun hHeld6 => ?_)
  · (try dsimp only)
    go_keep
  clear hK K
  try simp only [List.getElem_toArray, List.getElem_cons_succ, List.getElem_cons_zero, Act.put, List.setIfInBounds_toArray, List.set_cons_zero, List.set_cons_succ]
  refine wpAnyH_take (i := 7) (v := ?va6) rfl (by kernel_rfl) (by kernel_rfl) (by kernel_rfl) (fun _ _ _ h => h) (Or.inl ⟨by rfl, ?hya6⟩) (by assumption) ?rest6
  case hya6 => (intro wz hSw; (try dsimp only at hSw); go_simp; all_goals with_reducible rfl)
  try simp only [List.getElem_toArray, List.getElem_cons_succ, List.getElem_cons_zero, Act.put, List.setIfInBounds_toArray, List.set_cons_zero, List.set_cons_succ]
  refine wpAnyH_take (i := 8) (v := ?va7) rfl (by kernel_rfl) (by kernel_rfl) (by kernel_rfl) (fun _ _ _ h => h) (Or.inl ⟨by rfl, ?hya7⟩) (by assumption) ?rest7
  case hya7 => (intro wz hSw; (try dsimp only at hSw); go_simp; all_goals with_reducible rfl)
  try simp only [List.getElem_toArray, List.getElem_cons_succ, List.getElem_cons_zero, Act.put, List.setIfInBounds_toArray, List.set_cons_zero, List.set_cons_succ]
  refine wpAnyH_done (by kernel_rfl) ?_ _
  go_wp2
  go_ret
  exact ⟨by rw [E.out]; rfl, B2.out⟩
set_option maxHeartbeats 1600000 in
theorem index_stranger (g : Nat) (A1 : Option Addr) (n1 : Nat) (c1 : Nat) (ns : List Nod) (A : Option Addr) (n c : Nat) (l : List Slt) (w : World) (h : RdR Slt.v 8 w A n c l) (hg : w.cell? ⟨g, 1, none⟩ = some (.slice A1 n1 c1)) (hns : RdR Nod.v 4 w A1 n1 c1 ns) (hi : Ids ns) (hnd : Nds l) :
    Calls Tryz.prog 161 #[.slice A n c, .func (.func 135) #[] #[.pointer (some ⟨g, 0, none⟩)]] w (IntOut (idx (strB ns) l) w) := by
  have hcap := h.cap
  have hlen := hide h.len
  have clo : ∀ (x : Slt) (wr : World), x ∈ l → Below w.heap.size w wr → Calls Tryz.prog 135 #[.agg #[.int .i64 x.md, .int .i64 x.rd, .int .i64 x.sl, .int .i64 x.nd, .int .i64 x.kd, .int .i64 x.sz, .int .i64 x.du, .bool x.ch], .pointer (some ⟨g, 0, none⟩)] wr (BoolOut ((strB ns) x) wr) := fun x wr hx hb => stranger x g A1 n1 c1 ns wr ((hb.cell (p := ⟨g, 1, none⟩) (World.block_lt_of_cell? w _ hg)).trans hg) (hns.below hb) hi (hnd x hx)
  go_enter Tryz.func161, Tryz.ntmps161
  go_wp2
  go_loopw [8] (fun i wr => ∃ k : Nat, k ≤ n ∧ i = .int .i64 k ∧ Hid (∀ j y, j < k → l[j]? = some y → (strB ns) y = false) ∧ Hid (Below w.heap.size w wr)) (fun i _ => n - (intOf i).toNat)
  case atStart => exact ⟨0, by omega, rfl, hide (fun j y hj => by omega), hide (Below.refl _ _)⟩
  case round =>
    obtain ⟨k, hk, rfl, hno, hbel⟩ := hrel
    by_cases hlt : k < n
    · obtain ⟨b, off, x, rfl, hb, hx, c0, c1, c2, c3, c4, c5, c6, c7⟩ := slt_at (h.below hbel.out) hlt
      have HX := hide hx
      have CL := hide (clo x wr (List.mem_of_getElem? hx) hbel.out)
      clear hx clo
      cases hp : (strB ns) x
      · have HP := hide hp
        clear hp
        go_wp2_with (go_at_call 135; refine CL.out.mono ?_; rintro ee w1 ⟨rfl, b1⟩; rw [HP.out])
        have BB := hide (below_trans hbel.out b1)
        have NN := hide (fun j y (hj : j < k + 1) (hy : l[j]? = some y) => show (strB ns) y = false from by
          rcases Nat.lt_succ_iff_lt_or_eq.1 hj with h1 | h1
          · exact hno.out j y h1 hy
          · subst h1
            rw [HX.out] at hy
            obtain rfl := Option.some.inj hy
            exact HP.out)
        go_roundw
        case rel => exact ⟨k + 1, by omega, by go_num, NN, BB⟩
        case measure => simp [intOf]; omega
      · have E := hide (idx_hit HX.out hp hno.out)
        have HP := hide hp
        clear hp
        go_wp2_with (go_at_call 135; refine CL.out.mono ?_; rintro ee w1 ⟨rfl, b1⟩; rw [HP.out])
        go_ret
        exact ⟨by rw [E.out]; rfl, below_trans hbel.out b1⟩
    · obtain rfl : k = n := by omega
      have E := hide (idx_none (p := strB ns) (l := l) (fun j y hy => hno.out j y (by have := get_lt hy; have := hlen.out; omega) hy))
      go_wp2
      go_ret
      exact ⟨by rw [E.out]; rfl, hbel.out⟩
set_option maxHeartbeats 800000 in
theorem contains_stranger (g : Nat) (A1 : Option Addr) (n1 : Nat) (c1 : Nat) (ns : List Nod) (A : Option Addr) (n c : Nat) (l : List Slt) (w : World) (h : RdR Slt.v 8 w A n c l) (hg : w.cell? ⟨g, 1, none⟩ = some (.slice A1 n1 c1)) (hns : RdR Nod.v 4 w A1 n1 c1 ns) (hi : Ids ns) (hnd : Nds l) :
    Calls Tryz.prog 141 #[.slice A n c, .func (.func 135) #[] #[.pointer (some ⟨g, 0, none⟩)]] w (BoolOut (l.any (strB ns)) w) := by
  have hk := index_stranger g A1 n1 c1 ns A n c l w h hg hns hi hnd
  have E := hide (idx_any (strB ns) l)
  go_enter Tryz.func141, Tryz.ntmps141
  go_wp2_with (go_at_call 161; refine hk.mono ?_; rintro ee w1 ⟨rfl, b1⟩)
  go_ret
  exact ⟨by rw [← E.out]; rfl, b1⟩
set_option maxHeartbeats 3200000 in
theorem l13Senders_any (v : Value) (m : Mdl) (w : World) (h : RdM w v m) (hi : Ids m.ns) (hnd : Nds m.ss) :
    Calls Tryz.prog 148 #[v] w (BoolOut (!m.ss.any (strB m.ns)) w) := by
  obtain ⟨A1, n1, c1, A2, n2, c2, A3, n3, c3, rfl, h1, h2, h3⟩ := h
  have hlen := hide h3.len
  have hcap := h3.cap
  obtain ⟨W0, hW0⟩ : ∃ W0, W0 = w.alloc (.cells #[.int .i64 m.id, .slice A1 n1 c1, .slice A2 n2 c2, .slice A3 n3 c3] 28) := ⟨_, rfl⟩
  have F0 : At W0 w.heap.size 28 #[.int .i64 m.id, .slice A1 n1 c1, .slice A2 n2 c2, .slice A3 n3 c3] := by rw [hW0]; exact At.fresh _ _ _
  have BA := hide (show Below w.heap.size w W0 by rw [hW0]; exact (Below.refl _ _).alloc (Nat.le_refl _) _)
  have H1 := hide (h1.below BA.out)
  have H3 := h3.below BA.out
  have HV := hide (actV_lt m.ns hi)
  have d1 := F0.cell 1
  have d3 := F0.cell 3
  simp at d1 d3
  have HW := hide hW0
  clear hW0 F0 h1 h2 h3
  go_enter Tryz.func148, Tryz.ntmps148
  go_wp2_with fail
  rw [← HW.out]
  go_at_call 89
  (with_reducible refine (l10Active_any _ _ _ _ _ H1.out hi).mono ?_)
  rintro ee w1 ⟨rfl, rfl⟩
  go_wp2_with fail
  go_loopw [4] (fun i wr => ∃ k : Nat, k ≤ n3 ∧ i = .int .i64 k ∧ Hid (∀ j y, j < k → m.ss[j]? = some y → strB m.ns y = false) ∧ wr = W0) (fun i _ => n3 - (intOf i).toNat)
  case atStart => exact ⟨0, by omega, rfl, hide (fun j y hj => by omega), rfl⟩
  case round =>
    obtain ⟨k, hk, rfl, hno, rfl⟩ := hrel
    by_cases hlt : k < n3
    · obtain ⟨b, off, x, rfl, hb, hx, c0, c1, c2, c3, c4, c5, c6, c7⟩ := slt_at H3 hlt
      obtain ⟨d, hd⟩ : ∃ d : Nat, x.nd = d := ⟨x.nd.toNat, by have := hnd x (List.mem_of_getElem? hx); omega⟩
      have hd32 : d < 32 := by have := hnd x (List.mem_of_getElem? hx); omega
      have HS := hide (show strB m.ns x = !(actV m.ns).testBit d by rw [strB, hd]; rfl)
      have HX := hide hx
      rw [hd] at c3
      clear hx hd
      cases hp : (actV m.ns).testBit d
      · have HP := hide hp
        have E := hide (show m.ss.any (strB m.ns) = true from List.any_eq_true.2 ⟨x, List.mem_of_getElem? HX.out, by rw [HS.out, hp]; rfl⟩)
        clear hp
        go_wp2_with fail
        go_at_call 88
        (with_reducible refine (l05Has_any _ _ HV.out hd32 _).mono ?_)
        rintro ee w1 ⟨rfl, rfl⟩
        rw [HP.out]
        go_wp2
        go_ret
        exact ⟨by rw [E.out]; rfl, BA.out⟩
      · have HP := hide hp
        have NN := hide (fun j y (hj : j < k + 1) (hy : m.ss[j]? = some y) => show strB m.ns y = false from by
          rcases Nat.lt_succ_iff_lt_or_eq.1 hj with h1 | h1
          · exact hno.out j y h1 hy
          · subst h1
            rw [HX.out] at hy
            obtain rfl := Option.some.inj hy
            rw [HS.out, HP.out]
            rfl)
        clear hp
        go_wp2_with fail
        go_at_call 88
        (with_reducible refine (l05Has_any _ _ HV.out hd32 _).mono ?_)
        rintro ee w1 ⟨rfl, rfl⟩
        rw [HP.out]
        go_wp2
        go_roundw
        case rel => exact ⟨k + 1, by omega, by go_num, NN, trivial⟩
        case measure => simp [intOf]; omega
    · obtain rfl : k = n3 := by omega
      have E := hide (show m.ss.any (strB m.ns) = false by
        rw [List.any_eq_false]
        intro y hy
        obtain ⟨j, hj, rfl⟩ := List.getElem_of_mem hy
        rw [hno.out j _ (by rw [← hlen.out]; exact hj) (List.getElem?_eq_getElem hj)]
        simp)
      go_wp2
      go_ret
      exact ⟨by rw [E.out]; rfl, BA.out⟩
end Go.Proofs.YtdkhldebnpmiiaaGreatDoor
namespace Go.Proofs.YtdkhldebnpmiiaaGreatDoor
open Go.RowKit
set_option linter.unusedVariables false
set_option linter.unusedSimpArgs false
/-- who sends in a round -/
def seenV (md rd : Int) (l : List Slt) : Nat := l.foldl (fun v x => if x.md == md && x.rd == rd then orV v x.nd else v) 0
theorem seenV_snoc (md rd : Int) (l : List Slt) (x : Slt) : seenV md rd (l ++ [x]) = if x.md == md && x.rd == rd then orV (seenV md rd l) x.nd else seenV md rd l := by
  rw [seenV, List.foldl_append]
  rfl
theorem Nds.take {l : List Slt} (h : Nds l) (k : Nat) : Nds (l.take k) := fun x hx => h x (List.mem_of_mem_take hx)
theorem snoc_ind {α : Type} {P : List α → Prop} (h0 : P []) (h1 : ∀ l x, P l → P (l ++ [x])) : ∀ l, P l := by
  intro l
  have H : ∀ k, P (l.take k) := by
    intro k
    induction k with
    | zero => exact h0
    | succ k ih =>
      cases hx : l[k]? with
      | none => rw [List.take_add_one, hx]; simpa using ih
      | some x => rw [takeR hx]; exact h1 _ _ ih
  have := H l.length
  rwa [List.take_length] at this
theorem seenV_lt (md rd : Int) (l : List Slt) : Nds l → seenV md rd l < 4294967296 := by
  refine snoc_ind (P := fun l => Nds l → seenV md rd l < 4294967296) ?_ ?_ l
  · intro _
    show 0 < 4294967296
    omega
  · intro l x ih hn
    have h1 := ih (fun y hy => hn y (by simp [hy]))
    have h2 := hn x (by simp)
    rw [seenV_snoc]
    split
    · exact or_lt32 h1 (pow_lt32 (by omega))
    · exact h1
/-- where all senders are active, a round's senders are active nodes -/
theorem seenV_in (ns : List Nod) (md rd : Int) (l : List Slt) : l.any (strB ns) = false → ∀ i, (seenV md rd l).testBit i = true → (actV ns).testBit i = true := by
  refine snoc_ind (P := fun l => l.any (strB ns) = false → ∀ i, (seenV md rd l).testBit i = true → (actV ns).testBit i = true) ?_ ?_ l
  · intro _ i h
    rw [show seenV md rd [] = 0 from rfl, Nat.zero_testBit] at h
    cases h
  · intro l x ih ha i hi
    rw [List.any_append, Bool.or_eq_false_iff] at ha
    rw [seenV_snoc] at hi
    split at hi
    · rw [orV, or_pow_bit, Bool.or_eq_true, decide_eq_true_iff] at hi
      rcases hi with h | h
      · exact ih ha.1 i h
      · have h2 := ha.2
        simp [strB] at h2
        rw [← h]
        exact h2
    · exact ih ha.1 i hi
def servR (m : Mdl) (k r : Nat) : Bool := (List.range r).all (fun i => seenV k i m.ss == actV m.ns)
def rdA (ms : List PMod) (k : Nat) : Nat := match ms[k]? with | some x => x.rd.toNat | none => 0
def servTo (m : Mdl) (k : Nat) : Bool := (List.range k).all (fun i => servR m i (rdA m.ms i))
def servB (m : Mdl) : Bool := servTo m m.ms.length
theorem servR_succ (m : Mdl) (k r : Nat) : servR m k (r + 1) = (servR m k r && seenV k r m.ss == actV m.ns) := by simp [servR, List.range_succ]
theorem servTo_succ (m : Mdl) (k : Nat) : servTo m (k + 1) = (servTo m k && servR m k (rdA m.ms k)) := by simp [servTo, List.range_succ]
theorem servB_bad {m : Mdl} {k r : Nat} {x : PMod} (h : m.ms[k]? = some x) (hr : r < x.rd.toNat) (hb : (seenV k r m.ss == actV m.ns) = false) : servB m = false := by
  have h1 : servR m k (rdA m.ms k) = false := List.all_eq_false.2 ⟨r, List.mem_range.2 (by rw [rdA, h]; exact hr), by rw [hb]; simp⟩
  exact List.all_eq_false.2 ⟨k, List.mem_range.2 (get_lt h), by rw [h1]; simp⟩
def Rds (ms : List PMod) : Prop := ∀ x ∈ ms, 1 ≤ x.rd ∧ x.rd ≤ 8 ∧ 1 ≤ x.sl ∧ x.sl ≤ 16
set_option maxHeartbeats 6400000 in
theorem allSend_any (v : Value) (m : Mdl) (w : World) (h : RdM w v m) (hi : Ids m.ns) (hnd : Nds m.ss) (hr : Rds m.ms) (hst : m.ss.any (strB m.ns) = false) :
    Calls Tryz.prog 144 #[v] w (BoolOut (servB m) w) := by
  obtain ⟨A1, n1, c1, A2, n2, c2, A3, n3, c3, rfl, h1, h2, h3⟩ := h
  have hlen2 := hide h2.len
  have hlen := hide h3.len
  have hcap2 := h2.cap
  have hcap := h3.cap
  obtain ⟨W0, hW0⟩ : ∃ W0, W0 = w.alloc (.cells #[.int .i64 m.id, .slice A1 n1 c1, .slice A2 n2 c2, .slice A3 n3 c3] 28) := ⟨_, rfl⟩
  have F0 : At W0 w.heap.size 28 #[.int .i64 m.id, .slice A1 n1 c1, .slice A2 n2 c2, .slice A3 n3 c3] := by rw [hW0]; exact At.fresh _ _ _
  have BA := hide (show Below w.heap.size w W0 by rw [hW0]; exact (Below.refl _ _).alloc (Nat.le_refl _) _)
  have H1 := hide (h1.below BA.out)
  have H2 := hide (h2.below BA.out)
  have H3 := hide (h3.below BA.out)
  have HV := hide (actV_lt m.ns hi)
  have HF := hide F0
  have d2 := F0.cell 2
  simp at d2
  have HW := hide hW0
  clear hW0 F0 h1 h2 h3
  go_enter Tryz.func144, Tryz.ntmps144
  go_wp2_with fail
  rw [← HW.out]
  go_loopw [12] (fun i wr => ∃ k : Nat, k ≤ n2 ∧ i = .int .i64 k ∧ Hid (servTo m k = true) ∧ Hid (Below W0.heap.size W0 wr)) (fun i _ => n2 - (intOf i).toNat)
  case atStart => exact ⟨0, by omega, rfl, hide rfl, hide (Below.refl _ _)⟩
  case round =>
    obtain ⟨k, hk, rfl, hall, hbel⟩ := hrel
    by_cases hlt : k < n2
    · obtain ⟨b, off, x, rfl, hb, hx, rx, c0, c1, c2⟩ := mod_at (H2.out.below hbel.out) hlt
      have HX := hide hx
      have hrx := hr _ (List.mem_of_getElem? hx)
      obtain ⟨R, hR⟩ : ∃ R : Nat, x.rd = R := ⟨x.rd.toNat, by have : (Mod.p x).rd = x.rd := rfl; omega⟩
      have HR := hide hR
      have HR8 : R ≤ 8 := by have : (Mod.p x).rd = x.rd := rfl; omega
      rw [hR] at c0
      have BW := hide (show Below W0.heap.size W0 (wr.alloc (.cells #[.int .i64 R, .int .i64 x.sl, .slice x.A x.n x.c] 107)) from below_trans hbel.out ((Below.refl _ _).alloc (Nat.le_refl _) _))
      clear hx hrx rx hR
      go_wp2_with fail
      go_loopw [19] (fun i wq => ∃ r : Nat, r ≤ R ∧ i = .int .i64 r ∧ Hid (servR m k r = true) ∧ Hid (Below W0.heap.size W0 wq)) (fun i _ => R - (intOf i).toNat)
      case atStart => exact ⟨0, by omega, rfl, hide rfl, BW⟩
      case round =>
        obtain ⟨r, hr8, rfl, hall2, hbel2⟩ := hrel
        by_cases hlr : r < R
        · have F1 := HF.out.keep hbel2.out
          have e3 := F1.cell 3
          simp at e3
          clear F1
          go_wp2_with fail
          go_loopw [6, 25] (fun s i wp => ∃ j u : Nat, j ≤ n3 ∧ i = .int .i64 j ∧ s = .int .i64 u ∧ Hid (u = seenV k r (m.ss.take j)) ∧ Hid (Below W0.heap.size W0 wp)) (fun _ i _ => n3 - (intOf i).toNat)
          case atStart => exact ⟨0, 0, by omega, rfl, rfl, hide (by simp [seenV]), hbel2⟩
          case round =>
            obtain ⟨j, u, hj, rfl, rfl, hu, hbel3⟩ := hrel
            by_cases hlj : j < n3
            · obtain ⟨b3, off3, y, rfl, hb3, hy, y0, y1, y2, y3, y4, y5, y6, y7⟩ := slt_at (H3.out.below hbel3.out) hlj
              have hnd2 := hnd y (List.mem_of_getElem? hy)
              obtain ⟨d, hd⟩ : ∃ d : Nat, y.nd = d := ⟨y.nd.toNat, by omega⟩
              have hd32 : d < 32 := by omega
              rw [hd] at y3
              have HU := hide (show u < 4294967296 by rw [hu.out]; exact seenV_lt _ _ _ (hnd.take j))
              have HSH := hide (show wrap64 (2 ^ d) = ((2 ^ d : Nat) : Int) from shl_nat hd32)
              have HOR := hide (or_nat u (2 ^ d) HU.out (pow_lt32 hd32))
              have HN := hide (show seenV k r (m.ss.take (j + 1)) = _ by rw [takeR hy, seenV_snoc])
              have HD := hide hd
              have BY := hide (show Below W0.heap.size W0 (wr.alloc (.cells #[.int .i64 y.md, .int .i64 y.rd, .int .i64 y.sl, .int .i64 d, .int .i64 y.kd, .int .i64 y.sz, .int .i64 y.du, .bool y.ch] 61)) from below_trans hbel3.out ((Below.refl _ _).alloc (Nat.le_refl _) _))
              clear hy hnd2 hd
              cases t1 : (y.md == (k : Int))
              · have NN := hide (show u = seenV k r (m.ss.take (j + 1)) by rw [HN.out, t1, hu.out]; simp)
                clear HN
                go_wp2
                go_roundw
                case rel => exact ⟨j + 1, u, by omega, by go_num, rfl, NN, BY⟩
                case measure => simp [intOf]; omega
              · cases t2 : (y.rd == (r : Int))
                · have NN := hide (show u = seenV k r (m.ss.take (j + 1)) by rw [HN.out, t1, t2, hu.out]; simp)
                  clear HN
                  go_wp2
                  go_roundw
                  case rel => exact ⟨j + 1, u, by omega, by go_num, rfl, NN, BY⟩
                  case measure => simp [intOf]; omega
                · have NN := hide (show u ||| 2 ^ d = seenV k r (m.ss.take (j + 1)) by rw [HN.out, t1, t2, ← hu.out, orV, HD.out]; simp)
                  clear HN
                  go_wp2
                  go_roundw
                  case rel => exact ⟨j + 1, u ||| 2 ^ d, by omega, by go_num, by rw [HSH.out, HOR.out], NN, BY⟩
                  case measure => simp [intOf]; omega
            · obtain rfl : j = n3 := by omega
              have HU2 := hide (show u = seenV k r m.ss by rw [hu.out, ← hlen.out, List.take_length])
              have HU := hide (show u < 4294967296 by rw [hu.out]; exact seenV_lt _ _ _ (hnd.take j))
              have F1 := HF.out.keep hbel3.out
              have e1 := F1.cell 1
              simp at e1
              have HA := hide (H1.out.below hbel3.out)
              have SN := hide (spare_none (a := actV m.ns) (b := u) (by rw [HU2.out]; exact seenV_in m.ns k r m.ss hst))
              have AN := hide (andNot_nat (actV m.ns) u HV.out HU.out)
              obtain ⟨V, hV⟩ : ∃ V, V = actV m.ns := ⟨_, rfl⟩
              rw [← hV] at SN AN
              have HVV := hide hV
              clear F1
              go_wp2_with fail
              go_at_call 85
              (with_reducible refine (activeVector_any _ _ _ _ _ HA.out hi).mono ?_)
              rintro ee w1 ⟨rfl, b1⟩
              rw [← hV]
              have B1 := hide (below_trans hbel3.out b1)
              clear b1 hV
              by_cases hq : u = V
              · have t1 : (bits .andNot .i64 (V : Int) (u : Int) == 0) = true := by rw [AN.out, SN.out.2 hq]; rfl
                have NN := hide (show servR m k (r + 1) = true by rw [servR_succ, hall2.out, ← HU2.out, ← HVV.out, hq]; simp)
                have HQ := hide hq
                clear hq
                go_wp2
                go_roundw
                case rel => exact ⟨r + 1, by omega, by go_num, NN, B1⟩
                case measure => simp [intOf]; omega
              · have t1 : (bits .andNot .i64 (V : Int) (u : Int) == 0) = false := by
                  rw [AN.out]
                  have : V &&& (V ^^^ u) ≠ 0 := fun e => hq (SN.out.1 e)
                  simp
                  omega
                have E := hide (servB_bad HX.out (show r < x.p.rd.toNat by rw [show x.p.rd = x.rd from rfl, HR.out]; simpa using hlr) (show (seenV k r m.ss == actV m.ns) = false by rw [← HU2.out, ← HVV.out]; simpa using hq))
                have HQ := hide hq
                clear hq
                go_wp2
                go_ret
                exact ⟨by rw [E.out]; rfl, below_trans BA.out B1.out⟩
        · obtain rfl : r = R := by omega
          have NN := hide (show servTo m (k + 1) = true by rw [servTo_succ, hall.out, rdA, HX.out]; show (true && servR m k x.rd.toNat) = true; rw [HR.out]; exact hall2.out)
          go_wp2
          go_roundw
          case rel => exact ⟨k + 1, by omega, by go_num, NN, hbel2⟩
          case measure => simp [intOf]; omega
    · obtain rfl : k = n2 := by omega
      have E := hide (show servB m = true by rw [servB, hlen2.out]; exact hall.out)
      go_wp2
      go_ret
      exact ⟨by rw [E.out]; rfl, below_trans BA.out hbel.out⟩
end Go.Proofs.YtdkhldebnpmiiaaGreatDoor
namespace Go.Proofs.YtdkhldebnpmiiaaGreatDoor
open Go.RowKit
set_option linter.unusedVariables false
set_option linter.unusedSimpArgs false
set_option maxHeartbeats 6400000 in
theorem l13Served_any (v : Value) (m : Mdl) (w : World) (h : RdM w v m) (hi : Ids m.ns) (hnd : Nds m.ss) (hr : Rds m.ms) :
    Calls Tryz.prog 150 #[v] w (BoolOut (servB m) w) := by
  obtain ⟨A1, n1, c1, A2, n2, c2, A3, n3, c3, rfl, h1, h2, h3⟩ := h
  have hlen2 := hide h2.len
  have hlen := hide h3.len
  have hcap2 := h2.cap
  have hcap := h3.cap
  obtain ⟨W0, hW0⟩ : ∃ W0, W0 = w.alloc (.cells #[.int .i64 m.id, .slice A1 n1 c1, .slice A2 n2 c2, .slice A3 n3 c3] 28) := ⟨_, rfl⟩
  have F0 : At W0 w.heap.size 28 #[.int .i64 m.id, .slice A1 n1 c1, .slice A2 n2 c2, .slice A3 n3 c3] := by rw [hW0]; exact At.fresh _ _ _
  have BA := hide (show Below w.heap.size w W0 by rw [hW0]; exact (Below.refl _ _).alloc (Nat.le_refl _) _)
  have H1 := hide (h1.below BA.out)
  have H2 := hide (h2.below BA.out)
  have H3 := hide (h3.below BA.out)
  have HV := hide (actV_lt m.ns hi)
  have d1 := F0.cell 1
  have d2 := F0.cell 2
  have d3 := F0.cell 3
  simp at d1 d2 d3
  have HW := hide hW0
  clear hW0 F0 h1 h2 h3
  go_enter Tryz.func150, Tryz.ntmps150
  go_wp2_with fail
  rw [← HW.out]
  go_at_call 89
  (with_reducible refine (l10Active_any _ _ _ _ _ H1.out hi).mono ?_)
  rintro ee w1 ⟨rfl, rfl⟩
  obtain ⟨V, hV⟩ : ∃ V, V = actV m.ns := ⟨_, rfl⟩
  rw [← hV]
  have HVV := hide hV
  clear hV
  go_wp2_with fail
  go_loopw [4] (fun i wr => ∃ k : Nat, k ≤ n2 ∧ i = .int .i64 k ∧ Hid (servTo m k = true) ∧ wr = W0) (fun i _ => n2 - (intOf i).toNat)
  case atStart => exact ⟨0, by omega, rfl, hide rfl, rfl⟩
  case round =>
    obtain ⟨k, hk, rfl, hall, rfl⟩ := hrel
    by_cases hlt : k < n2
    · obtain ⟨b, off, x, rfl, hb, hx, rx, c0, c1, c2⟩ := mod_at H2.out hlt
      have HX := hide hx
      have hrx := hr _ (List.mem_of_getElem? hx)
      obtain ⟨R, hR⟩ : ∃ R : Nat, x.rd = R := ⟨x.rd.toNat, by have : (Mod.p x).rd = x.rd := rfl; omega⟩
      have HR := hide hR
      have HR8 : R ≤ 8 := by have : (Mod.p x).rd = x.rd := rfl; omega
      rw [hR] at c0
      clear hx hrx rx hR
      go_wp2_with fail
      go_loopw [5] (fun i wq => ∃ r : Nat, r ≤ R ∧ i = .int .i64 r ∧ Hid (servR m k r = true) ∧ wq = wr) (fun i _ => R - (intOf i).toNat)
      case atStart => exact ⟨0, by omega, rfl, hide rfl, rfl⟩
      case round =>
        obtain ⟨r, hr8, rfl, hall2, rfl⟩ := hrel
        by_cases hlr : r < R
        · go_wp2_with fail
          go_loopw [6, 7] (fun s i wp => ∃ j u : Nat, j ≤ n3 ∧ i = .int .i64 j ∧ s = .int .i64 u ∧ Hid (u = seenV k r (m.ss.take j)) ∧ wp = wr) (fun _ i _ => n3 - (intOf i).toNat)
          case atStart => exact ⟨0, 0, by omega, rfl, rfl, hide (by simp [seenV]), rfl⟩
          case round =>
            obtain ⟨j, u, hj, rfl, rfl, hu, rfl⟩ := hrel
            by_cases hlj : j < n3
            · obtain ⟨b3, off3, y, rfl, hb3, hy, y0, y1, y2, y3, y4, y5, y6, y7⟩ := slt_at H3.out hlj
              have hnd2 := hnd y (List.mem_of_getElem? hy)
              obtain ⟨d, hd⟩ : ∃ d : Nat, y.nd = d := ⟨y.nd.toNat, by omega⟩
              have hd32 : d < 32 := by omega
              rw [hd] at y3
              have HU := hide (show u < 4294967296 by rw [hu.out]; exact seenV_lt _ _ _ (hnd.take j))
              have HN := hide (show seenV k r (m.ss.take (j + 1)) = _ by rw [takeR hy, seenV_snoc])
              have HD := hide hd
              clear hy hnd2 hd
              cases t1 : (y.md == (k : Int))
              · have NN := hide (show u = seenV k r (m.ss.take (j + 1)) by rw [HN.out, t1, hu.out]; simp)
                clear HN
                go_wp2
                go_roundw
                case rel => exact ⟨j + 1, u, by omega, by go_num, rfl, NN, trivial⟩
                case measure => simp [intOf]; omega
              · cases t2 : (y.rd == (r : Int))
                · have NN := hide (show u = seenV k r (m.ss.take (j + 1)) by rw [HN.out, t1, t2, hu.out]; simp)
                  clear HN
                  go_wp2
                  go_roundw
                  case rel => exact ⟨j + 1, u, by omega, by go_num, rfl, NN, trivial⟩
                  case measure => simp [intOf]; omega
                · have NN := hide (show u ||| 2 ^ d = seenV k r (m.ss.take (j + 1)) by rw [HN.out, t1, t2, ← hu.out, orV, HD.out]; simp)
                  clear HN
                  go_wp2_with fail
                  go_at_call 115
                  (with_reducible refine (l05Set_any u d HU.out hd32 _).mono ?_)
                  rintro ee w1 ⟨rfl, rfl⟩
                  go_wp2
                  go_roundw
                  case rel => exact ⟨j + 1, u ||| 2 ^ d, by omega, by go_num, rfl, NN, trivial⟩
                  case measure => simp [intOf]; omega
            · obtain rfl : j = n3 := by omega
              have HU2 := hide (show u = seenV k r m.ss by rw [hu.out, ← hlen.out, List.take_length])
              by_cases hq : u = V
              · have t1 : ((u : Int) == (V : Int)) = true := by rw [beq_iff_eq]; omega
                have NN := hide (show servR m k (r + 1) = true by rw [servR_succ, hall2.out, ← HU2.out, ← HVV.out, hq]; simp)
                have HQ := hide hq
                clear hq
                go_wp2
                go_roundw
                case rel => exact ⟨r + 1, by omega, by go_num, NN, trivial⟩
                case measure => simp [intOf]; omega
              · have t1 : ((u : Int) == (V : Int)) = false := by rw [beq_eq_false_iff_ne]; omega
                have E := hide (servB_bad HX.out (show r < x.p.rd.toNat by rw [show x.p.rd = x.rd from rfl, HR.out]; simpa using hlr) (show (seenV k r m.ss == actV m.ns) = false by rw [← HU2.out, ← HVV.out]; simpa using hq))
                have HQ := hide hq
                clear hq
                go_wp2
                go_ret
                exact ⟨by rw [E.out]; rfl, BA.out⟩
        · obtain rfl : r = R := by omega
          have NN := hide (show servTo m (k + 1) = true by rw [servTo_succ, hall.out, rdA, HX.out]; show (true && servR m k x.rd.toNat) = true; rw [HR.out]; exact hall2.out)
          go_wp2
          go_roundw
          case rel => exact ⟨k + 1, by omega, by go_num, NN, trivial⟩
          case measure => simp [intOf]; omega
    · obtain rfl : k = n2 := by omega
      have E := hide (show servB m = true by rw [servB, hlen2.out]; exact hall.out)
      go_wp2
      go_ret
      exact ⟨by rw [E.out]; rfl, BA.out⟩
end Go.Proofs.YtdkhldebnpmiiaaGreatDoor
