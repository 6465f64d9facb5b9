/- Contracts: the senders. -/
import Derived.Test.YtdkhldebnpmiiaaGreatDoorShort
import Derived.Test.YtdkhldebnpmiiaaGreatDoorNTab
namespace Go.Proofs.YtdkhldebnpmiiaaGreatDoor
open Go.RowKit
set_option linter.unusedVariables false
set_option linter.unusedSimpArgs false

def strB (ns : List Nod) (x : Slt) : Bool := !(actV ns).testBit x.nd.toNat
def Nds (l : List Slt) : Prop := ∀ x ∈ l, 0 ≤ x.nd ∧ x.nd < 32
set_option maxHeartbeats 3200000 in
theorem stranger (x : Slt) (g : Nat) (A : Option Addr) (n c : Nat) (ns : List Nod) (w : World) (hg : w.cell? ⟨g, 1, none⟩ = some (.slice A n c)) (h : RdR Nod.v 4 w A n c ns) (hi : Ids ns) (hx : 0 ≤ x.nd ∧ x.nd < 32) :
    Calls Tryz.prog 135 #[.agg #[.int .i64 x.md, .int .i64 x.rd, .int .i64 x.sl, .int .i64 x.nd, .int .i64 x.kd, .int .i64 x.sz, .int .i64 x.du, .bool x.ch], .pointer (some ⟨g, 0, none⟩)] w (BoolOut (strB ns x) w) := by
  obtain ⟨d, hd⟩ : ∃ d : Nat, x.nd = d := ⟨x.nd.toNat, by omega⟩
  have hd32 : d < 32 := by omega
  have E := hide (show strB ns x = !(actV ns).testBit d by rw [strB, hd]; rfl)
  have HV := hide (actV_lt ns hi)
  rw [hd]
  clear hx hd
  have hgl := World.block_lt_of_cell? w _ hg
  obtain ⟨W0, hW0⟩ : ∃ W0, W0 = w.alloc (.cells #[.int .i64 x.md, .int .i64 x.rd, .int .i64 x.sl, .int .i64 d, .int .i64 x.kd, .int .i64 x.sz, .int .i64 x.du, .bool x.ch] 61) := ⟨_, rfl⟩
  have F0 : At W0 w.heap.size 61 #[.int .i64 x.md, .int .i64 x.rd, .int .i64 x.sl, .int .i64 d, .int .i64 x.kd, .int .i64 x.sz, .int .i64 x.du, .bool x.ch] := by rw [hW0]; exact At.fresh _ _ _
  have BA : Below w.heap.size w W0 := by rw [hW0]; exact (Below.refl _ _).alloc (Nat.le_refl _) _
  have g1 := (BA.cell (p := ⟨g, 1, none⟩) hgl).trans hg
  have d3 := F0.cell 3
  simp at d3
  have HH := hide (show RdR Nod.v 4 W0.drew A n c ns from (h.below BA).drewN 1)
  have HB := hide BA
  have HW := hide hW0
  have hl := F0.lt
  clear F0 BA hW0
  go_enter Tryz.func135, Tryz.ntmps135
  go_wp2_with fail
  rw [← HW.out]
  refine wp_region_held_drew (S := (fun w' => w'.cell? ⟨g, 1, none⟩ = some (.slice A n c) ∧ w'.cell? ⟨w.heap.size, 3, none⟩ = some (.int .i64 d))) (by kernel_rfl) ?_ (fun hHeld => ?_)
  · (try dsimp only)
    go_keep
  refine wpAnyH_take (i := 0) (v := ?va1) rfl (by kernel_rfl) (by kernel_rfl) (by kernel_rfl) (fun _ _ _ h => h) (Or.inl ⟨by rfl, ?hya1⟩) (by assumption) ?rest1
  case hya1 => (intro wz hSw; (try dsimp only at hSw); go_simp; all_goals with_reducible rfl)
  try simp only [List.getElem_toArray, List.getElem_cons_succ, List.getElem_cons_zero, Act.put, List.setIfInBounds_toArray, List.set_cons_zero, List.set_cons_succ]
  refine wpAnyH_take (i := 1) (v := ?va2) rfl (by kernel_rfl) (by kernel_rfl) (by kernel_rfl) (fun _ _ _ h => h) (Or.inl ⟨by rfl, ?hya2⟩) (by assumption) ?rest2
  case hya2 => (intro wz hSw; (try dsimp only at hSw); go_simp; all_goals with_reducible rfl)
  try simp only [List.getElem_toArray, List.getElem_cons_succ, List.getElem_cons_zero, Act.put, List.setIfInBounds_toArray, List.set_cons_zero, List.set_cons_succ]
  refine wpAnyH_take (i := 3) (v := ?va3) rfl (by kernel_rfl) (by kernel_rfl) (by kernel_rfl) (fun _ _ _ h => h) (Or.inl ⟨by rfl, ?hya3⟩) (by assumption) ?rest3
  case hya3 => (intro wz hSw; (try dsimp only at hSw); go_simp; all_goals with_reducible rfl)
  try simp only [List.getElem_toArray, List.getElem_cons_succ, List.getElem_cons_zero, Act.put, List.setIfInBounds_toArray, List.set_cons_zero, List.set_cons_succ]
  refine wpAnyH_take (i := 4) (v := ?va4) rfl (by kernel_rfl) (by kernel_rfl) (by kernel_rfl) (fun _ _ _ h => h) (Or.inl ⟨by rfl, ?hya4⟩) (by assumption) ?rest4
  case hya4 => (intro wz hSw; (try dsimp only at hSw); go_simp; all_goals with_reducible rfl)
  try simp only [List.getElem_toArray, List.getElem_cons_succ, List.getElem_cons_zero, Act.put, List.setIfInBounds_toArray, List.set_cons_zero, List.set_cons_succ]
  refine wpAnyH_take (i := 5) (v := ?va5) rfl (by kernel_rfl) (by kernel_rfl) (by kernel_rfl) (fun _ _ _ h => h) (Or.inl ⟨by rfl, ?hya5⟩) (by assumption) ?rest5
  case hya5 => (intro wz hSw; (try dsimp only at hSw); go_simp; all_goals with_reducible rfl)
  try simp only [List.getElem_toArray, List.getElem_cons_succ, List.getElem_cons_zero, Act.put, List.setIfInBounds_toArray, List.set_cons_zero, List.set_cons_succ]
  refine wpAnyH_ready (rs := [2]) (by kernel_rfl) (by simp) ?_
  refine AllReadyH.cons rfl (fun K hK => ?_) AllReadyH.nil
  go_simp
  (go_at_call 85; (with_reducible refine (activeVector_any _ _ _ _ _ HH.out hi).mono ?_); rintro ee w1 ⟨rfl, b1⟩; have b2 := below_drewS2 b1; have e3 := (b2.cell (p := ⟨w.heap.size, 3, none⟩) hl).trans d3; have e1 := (b2.cell (p := ⟨g, 1, none⟩) (World.block_lt_of_cell? W0 _ g1)).trans g1; have B2 := hide (below_trans HB.out b2); clear b1 b2)
  go_wp2_with fail
  refine hK.out _ _ ?_ (fun hHeld2 => ?_)
  · (try dsimp only)
    go_keep
  clear hK K
  try simp only [List.getElem_toArray, List.getElem_cons_succ, List.getElem_cons_zero, Act.put, List.setIfInBounds_toArray, List.set_cons_zero, List.set_cons_succ]
  refine wpAnyH_ready (rs := [6]) (by kernel_rfl) (by simp) ?_
  refine AllReadyH.cons rfl (fun K hK => ?_) AllReadyH.nil
  go_simp
  (go_at_call 84; (with_reducible refine (ihas_any _ _ HV.out hd32 _).mono ?_); rintro ee w3 ⟨rfl, rfl⟩)
  go_wp2_with fail
  refine hK.out _ _ ?_ (fun hHeld6 => ?_)
  · (try dsimp only)
    go_keep
  clear hK K
  try simp only [List.getElem_toArray, List.getElem_cons_succ, List.getElem_cons_zero, Act.put, List.setIfInBounds_toArray, List.set_cons_zero, List.set_cons_succ]
  refine wpAnyH_take (i := 7) (v := ?va6) rfl (by kernel_rfl) (by kernel_rfl) (by kernel_rfl) (fun _ _ _ h => h) (Or.inl ⟨by rfl, ?hya6⟩) (by assumption) ?rest6
  case hya6 => (intro wz hSw; (try dsimp only at hSw); go_simp; all_goals with_reducible rfl)
  try simp only [List.getElem_toArray, List.getElem_cons_succ, List.getElem_cons_zero, Act.put, List.setIfInBounds_toArray, List.set_cons_zero, List.set_cons_succ]
  refine wpAnyH_take (i := 8) (v := ?va7) rfl (by kernel_rfl) (by kernel_rfl) (by kernel_rfl) (fun _ _ _ h => h) (Or.inl ⟨by rfl, ?hya7⟩) (by assumption) ?rest7
  case hya7 => (intro wz hSw; (try dsimp only at hSw); go_simp; all_goals with_reducible rfl)
  try simp only [List.getElem_toArray, List.getElem_cons_succ, List.getElem_cons_zero, Act.put, List.setIfInBounds_toArray, List.set_cons_zero, List.set_cons_succ]
  refine wpAnyH_done (by kernel_rfl) ?_ _
  go_wp2
  go_ret
  exact ⟨by rw [E.out]; rfl, B2.out⟩
set_option maxHeartbeats 1600000 in
theorem index_stranger (g : Nat) (A1 : Option Addr) (n1 : Nat) (c1 : Nat) (ns : List Nod) (A : Option Addr) (n c : Nat) (l : List Slt) (w : World) (h : RdR Slt.v 8 w A n c l) (hg : w.cell? ⟨g, 1, none⟩ = some (.slice A1 n1 c1)) (hns : RdR Nod.v 4 w A1 n1 c1 ns) (hi : Ids ns) (hnd : Nds l) :
    Calls Tryz.prog 161 #[.slice A n c, .func (.func 135) #[] #[.pointer (some ⟨g, 0, none⟩)]] w (IntOut (idx (strB ns) l) w) := by
  have hcap := h.cap
  have hlen := hide h.len
  have clo : ∀ (x : Slt) (wr : World), x ∈ l → Below w.heap.size w wr → Calls Tryz.prog 135 #[.agg #[.int .i64 x.md, .int .i64 x.rd, .int .i64 x.sl, .int .i64 x.nd, .int .i64 x.kd, .int .i64 x.sz, .int .i64 x.du, .bool x.ch], .pointer (some ⟨g, 0, none⟩)] wr (BoolOut ((strB ns) x) wr) := fun x wr hx hb => stranger x g A1 n1 c1 ns wr ((hb.cell (p := ⟨g, 1, none⟩) (World.block_lt_of_cell? w _ hg)).trans hg) (hns.below hb) hi (hnd x hx)
  go_enter Tryz.func161, Tryz.ntmps161
  go_wp2
  go_loopw [8] (fun i wr => ∃ k : Nat, k ≤ n ∧ i = .int .i64 k ∧ Hid (∀ j y, j < k → l[j]? = some y → (strB ns) y = false) ∧ Hid (Below w.heap.size w wr)) (fun i _ => n - (intOf i).toNat)
  case atStart => exact ⟨0, by omega, rfl, hide (fun j y hj => by omega), hide (Below.refl _ _)⟩
  case round =>
    obtain ⟨k, hk, rfl, hno, hbel⟩ := hrel
    by_cases hlt : k < n
    · obtain ⟨b, off, x, rfl, hb, hx, c0, c1, c2, c3, c4, c5, c6, c7⟩ := slt_at (h.below hbel.out) hlt
      have HX := hide hx
      have CL := hide (clo x wr (List.mem_of_getElem? hx) hbel.out)
      clear hx clo
      cases hp : (strB ns) x
      · have HP := hide hp
        clear hp
        go_wp2_with (go_at_call 135; refine CL.out.mono ?_; rintro ee w1 ⟨rfl, b1⟩; rw [HP.out])
        have BB := hide (below_trans hbel.out b1)
        have NN := hide (fun j y (hj : j < k + 1) (hy : l[j]? = some y) => show (strB ns) y = false from by
          rcases Nat.lt_succ_iff_lt_or_eq.1 hj with h1 | h1
          · exact hno.out j y h1 hy
          · subst h1
            rw [HX.out] at hy
            obtain rfl := Option.some.inj hy
            exact HP.out)
        go_roundw
        case rel => exact ⟨k + 1, by omega, by go_num, NN, BB⟩
        case measure => simp [intOf]; omega
      · have E := hide (idx_hit HX.out hp hno.out)
        have HP := hide hp
        clear hp
        go_wp2_with (go_at_call 135; refine CL.out.mono ?_; rintro ee w1 ⟨rfl, b1⟩; rw [HP.out])
        go_ret
        exact ⟨by rw [E.out]; rfl, below_trans hbel.out b1⟩
    · obtain rfl : k = n := by omega
      have E := hide (idx_none (p := strB ns) (l := l) (fun j y hy => hno.out j y (by have := get_lt hy; have := hlen.out; omega) hy))
      go_wp2
      go_ret
      exact ⟨by rw [E.out]; rfl, hbel.out⟩
set_option maxHeartbeats 800000 in
theorem contains_stranger (g : Nat) (A1 : Option Addr) (n1 : Nat) (c1 : Nat) (ns : List Nod) (A : Option Addr) (n c : Nat) (l : List Slt) (w : World) (h : RdR Slt.v 8 w A n c l) (hg : w.cell? ⟨g, 1, none⟩ = some (.slice A1 n1 c1)) (hns : RdR Nod.v 4 w A1 n1 c1 ns) (hi : Ids ns) (hnd : Nds l) :
    Calls Tryz.prog 141 #[.slice A n c, .func (.func 135) #[] #[.pointer (some ⟨g, 0, none⟩)]] w (BoolOut (l.any (strB ns)) w) := by
  have hk := index_stranger g A1 n1 c1 ns A n c l w h hg hns hi hnd
  have E := hide (idx_any (strB ns) l)
  go_enter Tryz.func141, Tryz.ntmps141
  go_wp2_with (go_at_call 161; refine hk.mono ?_; rintro ee w1 ⟨rfl, b1⟩)
  go_ret
  exact ⟨by rw [← E.out]; rfl, b1⟩
set_option maxHeartbeats 3200000 in
theorem l13Senders_any (v : Value) (m : Mdl) (w : World) (h : RdM w v m) (hi : Ids m.ns) (hnd : Nds m.ss) :
    Calls Tryz.prog 148 #[v] w (BoolOut (!m.ss.any (strB m.ns)) w) := by
  obtain ⟨A1, n1, c1, A2, n2, c2, A3, n3, c3, rfl, h1, h2, h3⟩ := h
  have hlen := hide h3.len
  have hcap := h3.cap
  obtain ⟨W0, hW0⟩ : ∃ W0, W0 = w.alloc (.cells #[.int .i64 m.id, .slice A1 n1 c1, .slice A2 n2 c2, .slice A3 n3 c3] 28) := ⟨_, rfl⟩
  have F0 : At W0 w.heap.size 28 #[.int .i64 m.id, .slice A1 n1 c1, .slice A2 n2 c2, .slice A3 n3 c3] := by rw [hW0]; exact At.fresh _ _ _
  have BA := hide (show Below w.heap.size w W0 by rw [hW0]; exact (Below.refl _ _).alloc (Nat.le_refl _) _)
  have H1 := hide (h1.below BA.out)
  have H3 := h3.below BA.out
  have HV := hide (actV_lt m.ns hi)
  have d1 := F0.cell 1
  have d3 := F0.cell 3
  simp at d1 d3
  have HW := hide hW0
  clear hW0 F0 h1 h2 h3
  go_enter Tryz.func148, Tryz.ntmps148
  go_wp2_with fail
  rw [← HW.out]
  go_at_call 89
  (with_reducible refine (l10Active_any _ _ _ _ _ H1.out hi).mono ?_)
  rintro ee w1 ⟨rfl, rfl⟩
  go_wp2_with fail
  go_loopw [4] (fun i wr => ∃ k : Nat, k ≤ n3 ∧ i = .int .i64 k ∧ Hid (∀ j y, j < k → m.ss[j]? = some y → strB m.ns y = false) ∧ wr = W0) (fun i _ => n3 - (intOf i).toNat)
  case atStart => exact ⟨0, by omega, rfl, hide (fun j y hj => by omega), rfl⟩
  case round =>
    obtain ⟨k, hk, rfl, hno, rfl⟩ := hrel
    by_cases hlt : k < n3
    · obtain ⟨b, off, x, rfl, hb, hx, c0, c1, c2, c3, c4, c5, c6, c7⟩ := slt_at H3 hlt
      obtain ⟨d, hd⟩ : ∃ d : Nat, x.nd = d := ⟨x.nd.toNat, by have := hnd x (List.mem_of_getElem? hx); omega⟩
      have hd32 : d < 32 := by have := hnd x (List.mem_of_getElem? hx); omega
      have HS := hide (show strB m.ns x = !(actV m.ns).testBit d by rw [strB, hd]; rfl)
      have HX := hide hx
      rw [hd] at c3
      clear hx hd
      cases hp : (actV m.ns).testBit d
      · have HP := hide hp
        have E := hide (show m.ss.any (strB m.ns) = true from List.any_eq_true.2 ⟨x, List.mem_of_getElem? HX.out, by rw [HS.out, hp]; rfl⟩)
        clear hp
        go_wp2_with fail
        go_at_call 88
        (with_reducible refine (l05Has_any _ _ HV.out hd32 _).mono ?_)
        rintro ee w1 ⟨rfl, rfl⟩
        rw [HP.out]
        go_wp2
        go_ret
        exact ⟨by rw [E.out]; rfl, BA.out⟩
      · have HP := hide hp
        have NN := hide (fun j y (hj : j < k + 1) (hy : m.ss[j]? = some y) => show strB m.ns y = false from by
          rcases Nat.lt_succ_iff_lt_or_eq.1 hj with h1 | h1
          · exact hno.out j y h1 hy
          · subst h1
            rw [HX.out] at hy
            obtain rfl := Option.some.inj hy
            rw [HS.out, HP.out]
            rfl)
        clear hp
        go_wp2_with fail
        go_at_call 88
        (with_reducible refine (l05Has_any _ _ HV.out hd32 _).mono ?_)
        rintro ee w1 ⟨rfl, rfl⟩
        rw [HP.out]
        go_wp2
        go_roundw
        case rel => exact ⟨k + 1, by omega, by go_num, NN, trivial⟩
        case measure => simp [intOf]; omega
    · obtain rfl : k = n3 := by omega
      have E := hide (show m.ss.any (strB m.ns) = false by
        rw [List.any_eq_false]
        intro y hy
        obtain ⟨j, hj, rfl⟩ := List.getElem_of_mem hy
        rw [hno.out j _ (by rw [← hlen.out]; exact hj) (List.getElem?_eq_getElem hj)]
        simp)
      go_wp2
      go_ret
      exact ⟨by rw [E.out]; rfl, BA.out⟩
end Go.Proofs.YtdkhldebnpmiiaaGreatDoor
