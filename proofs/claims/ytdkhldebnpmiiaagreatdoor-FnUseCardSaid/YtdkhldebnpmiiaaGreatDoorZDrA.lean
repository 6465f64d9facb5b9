/- Contracts of draws: a node's number, a mode, a number in decimal. -/
import Derived.Test.YtdkhldebnpmiiaaGreatDoorZDw
import Derived.Laws.IdiomStrings
import Derived.Deep.RegionHeld3
import Derived.IntWalk
namespace Go.Proofs.YtdkhldebnpmiiaaGreatDoor
open Go.RowKit
set_option linter.unusedVariables false
set_option linter.unusedSimpArgs false
def GotI (lo hi : Int) (w : World) (g : Nat) (A : Option Addr) (n c : Nat) (bs : List Int) (e : Ending) (w' : World) : Prop :=
  ∃ x : Int, e = .returned (.int .i64 x) ∧ lo ≤ x ∧ x ≤ hi ∧ Sd w' g A n c bs ∧ w.grownBy w' (some g)
theorem nth_in {zs : List Int} {lo hi : Int} (h : ∀ z ∈ zs, lo ≤ z ∧ z ≤ hi) {k : Nat} (hk : k < zs.length) : lo ≤ nth zs k ∧ nth zs k ≤ hi := h _ (nth_mem hk)
set_option maxHeartbeats 1600000 in
theorem l05DrawNode_d (g : Nat) (A : Option Addr) (n c : Nat) (bs : List Int) (w : World) (h : Sd w g A n c bs) :
    Calls Tryz.prog 48 #[.pointer (some ⟨g, 0, none⟩)] w (GotI (-1) 32 w g A n c bs) := by
  go_enter Tryz.func48, Tryz.ntmps48
  go_wp2_with fail
  refine (next_d _ _ _ _ _ _ _ h).mono ?_
  rintro e w1 ⟨x, rfl, x0, x1, h1, g1⟩
  by_cases e0 : x = 0
  · subst e0
    go_wp2_with fail
    refine (next_d _ _ _ _ _ _ _ (h1.below ((Below.refl _ _).alloc (Nat.le_refl _) _))).mono ?_
    rintro e w2 ⟨y, rfl, y0, y1, h2, g2⟩
    obtain ⟨y, rfl⟩ := Int.eq_ofNat_of_zero_le y0
    have ym : y < 3 := by have := y1 (by omega); omega
    have lit := (Own.lit w1 (Nat.le_refl _) #[.int .i64 (-1), .int .i64 31, .int .i64 32] [-1, 31, 32] rfl (by intro z hz; simp at hz; omega) 3 rfl (by omega)).next (h1.below ((Below.refl _ _).alloc (Nat.le_refl _) _)) g2
    have hcell := lit.cell (k := y) ym
    have hb := hide (nth_in (zs := [-1, 31, 32]) (lo := -1) (hi := 32) (by intro z hz; simp at hz; omega) (k := y) ym)
    have g3 := grown_trans (grown_trans g1 (grown_alloc w1 _ _)) g2
    clear y1 g2 h1 g1 lit
    go_wp2_with fail
    go_ret
    exact ⟨_, rfl, hb.out.1, hb.out.2, h2, g3⟩
  · go_wp2_with fail
    refine (next_d _ _ _ _ _ _ _ h1).mono ?_
    rintro e w2 ⟨y, rfl, y0, y1, h2, g2⟩
    have ym := y1 (by omega)
    go_wp2_with fail
    go_ret
    exact ⟨_, rfl, by omega, by omega, h2, grown_trans g1 g2⟩
def GotM (w : World) (g : Nat) (A : Option Addr) (n c : Nat) (bs : List Int) (e : Ending) (w' : World) : Prop :=
  ∃ x : Int, e = .returned (.int .i64 x) ∧ Sd w' g A n c bs ∧ w.grownBy w' (some g)
set_option maxHeartbeats 1600000 in
theorem l11DrawMode_d (g : Nat) (A : Option Addr) (n c : Nat) (bs : List Int) (A2 : Option Addr) (n2 c2 : Nat) (w : World) (h : Sd w g A n c bs) (hc2 : n2 ≤ c2 ∧ c2 ≤ 9223372036854775807) :
    Calls Tryz.prog 82 #[.pointer (some ⟨g, 0, none⟩), .slice A2 n2 c2] w (GotM w g A n c bs) := by
  go_enter Tryz.func82, Tryz.ntmps82
  go_wp2_with fail
  refine (next_d _ _ _ _ _ _ _ h).mono ?_
  rintro e w1 ⟨x, rfl, x0, x1, h1, g1⟩
  go_wp2_with fail
  refine (next_d _ _ _ _ _ _ _ h1).mono ?_
  rintro e w2 ⟨y, rfl, y0, y1, h2, g2⟩
  go_wp2_with fail
  refine (next_d _ _ _ _ _ _ _ h2).mono ?_
  rintro e w3 ⟨z, rfl, z0, z1, h3, g3⟩
  have g4 := grown_trans (grown_trans g1 g2) g3
  clear x1 y1 z1
  go_wp2_with fail
  go_ret
  exact ⟨_, rfl, h3, g4⟩
/-- string(b) of one byte that is read in any world -/
theorem conv_at (w : World) (b : Nat) (x : Int) (h : w.cell? ⟨b, 0, none⟩ = some (.int .u8 x)) : (convert 22 9 (.slice (some ⟨b, 0, none⟩) 1 1)).run Tryz.prog w = .ok (.string ⟨#[UInt8.ofNat x.toNat]⟩) w := by
  rw [run_convert_bytes_string _ _ _ 5 _ 1 1 Tryz.underlying22 Tryz.underlying5 Tryz.underlying9]
  have hl := run_loadCells_list (P := Tryz.prog) w ⟨b, 0, none⟩ [.int .u8 x] (fun j v hj => by
    match j, hj with
    | 0, hj =>
      simp at hj
      subst hj
      exact h)
  rw [run_bytesToString _ _ 1 1 [x] hl]
  rfl
theorem conv_new (w : World) (x : Int) : (convert 22 9 (.slice (some ⟨w.heap.size, 0, none⟩) 1 1)).run Tryz.prog (w.alloc (.cells #[.int .u8 x] 5)) = .ok (.string ⟨#[UInt8.ofNat x.toNat]⟩) (w.alloc (.cells #[.int .u8 x] 5)) := conv_at _ _ _ (by simp)
theorem conv_below {w w2 : World} {x : Int} (b : Below (w.alloc (.cells #[.int .u8 x] 5)).heap.size (w.alloc (.cells #[.int .u8 x] 5)) w2) : (convert 22 9 (.slice (some ⟨w.heap.size, 0, none⟩) 1 1)).run Tryz.prog w2 = .ok (.string ⟨#[UInt8.ofNat x.toNat]⟩) w2 :=
  conv_at w2 _ x ((b.cell (p := ⟨w.heap.size, 0, none⟩) (by simp)).trans (by simp))
theorem conv_drew (w : World) (x : Int) : (convert 22 9 (.slice (some ⟨w.heap.size, 0, none⟩) 1 1)).run Tryz.prog (w.alloc (.cells #[.int .u8 x] 5)).drew = .ok (.string ⟨#[UInt8.ofNat x.toNat]⟩) (w.alloc (.cells #[.int .u8 x] 5)).drew := conv_at _ _ _ (by simp)
def GotT (k : Nat) (w : World) (e : Ending) (w' : World) : Prop := ∃ s : ByteArray, e = .returned (.string s) ∧ s.size ≤ k ∧ Below w.heap.size w w'
set_option maxHeartbeats 1600000 in
theorem l01Dec_1 (k : Int) (w : World) (h0 : 0 ≤ k) (h1 : k < 10) : Calls Tryz.prog 151 #[.int .i64 k] w (GotT 1 w) := by
  have hcv := conv_new
  have HB := hide (fun (o : Obj) => (Below.refl w.heap.size w).alloc (Nat.le_refl _) o)
  go_enter Tryz.func151, Tryz.ntmps151
  go_wp2_with fail
  go_ret
  exact ⟨_, rfl, Nat.le_refl _, HB.out _⟩
set_option maxHeartbeats 1600000 in
theorem l01Dec_2 (k : Int) (w : World) (h0 : 0 ≤ k) (h1 : k < 100) : Calls Tryz.prog 151 #[.int .i64 k] w (GotT 2 w) := by
  by_cases hk : k < 10
  · exact (l01Dec_1 k w h0 hk).mono fun e w' ⟨s, h1, h2, h3⟩ => ⟨s, h1, by omega, h3⟩
  obtain ⟨K, rfl⟩ := Int.eq_ofNat_of_zero_le h0
  have hK : K / 10 < 10 := Nat.div_lt_of_lt_mul (by omega)
  go_enter Tryz.func151, Tryz.ntmps151
  go_wp2_with fail
  have hcv := conv_new
  have HBo := fun (o : Obj) => (Below.refl w.heap.size w).alloc (Nat.le_refl _) o
  have tw1 : IntKind.i64.wrap ((K : Int) / 10) = (K : Int) / 10 := IntWalk.i64_in _ ⟨by omega, by omega⟩
  refine wp_region_held_drew (S := fun _ => True) (by kernel_rfl) trivial (fun hHeld => ?_)
  refine wpAnyH_take (i := 0) (v := ?va1) rfl (by kernel_rfl) (by kernel_rfl) (by kernel_rfl) (fun _ _ _ h => h) (Or.inl ⟨by rfl, ?hya1⟩) (by assumption) ?rest1
  case hya1 => (intro wz hSw; (try dsimp only at hSw); go_simp; all_goals with_reducible rfl)
  try simp only [List.getElem_toArray, List.getElem_cons_succ, List.getElem_cons_zero, Act.put, List.setIfInBounds_toArray, List.set_cons_zero, List.set_cons_succ]
  refine wpAnyH_take (i := 1) (v := ?va2) rfl (by kernel_rfl) (by kernel_rfl) (by kernel_rfl) (fun _ _ _ h => h) (Or.inl ⟨by rfl, ?hya2⟩) (by assumption) ?rest2
  case hya2 => (intro wz hSw; (try dsimp only at hSw); go_simp; all_goals with_reducible rfl)
  try simp only [List.getElem_toArray, List.getElem_cons_succ, List.getElem_cons_zero, Act.put, List.setIfInBounds_toArray, List.set_cons_zero, List.set_cons_succ]
  refine wpAnyH_take (i := 3) (v := ?va3) rfl (by kernel_rfl) (by kernel_rfl) (by kernel_rfl) (fun _ _ _ h => h) (Or.inl ⟨by rfl, ?hya3⟩) (by assumption) ?rest3
  case hya3 => (intro wz hSw; (try dsimp only at hSw); go_simp; all_goals with_reducible rfl)
  try simp only [List.getElem_toArray, List.getElem_cons_succ, List.getElem_cons_zero, Act.put, List.setIfInBounds_toArray, List.set_cons_zero, List.set_cons_succ]
  refine wpAnyH_take (i := 4) (v := ?va4) rfl (by kernel_rfl) (by kernel_rfl) (by kernel_rfl) (fun _ _ _ h => h) (Or.inl ⟨by rfl, ?hya4⟩) (by assumption) ?rest4
  case hya4 => (intro wz hSw; (try dsimp only at hSw); go_simp; all_goals with_reducible rfl)
  try simp only [List.getElem_toArray, List.getElem_cons_succ, List.getElem_cons_zero, Act.put, List.setIfInBounds_toArray, List.set_cons_zero, List.set_cons_succ]
  refine wpAnyH_take (i := 5) (v := ?va5) rfl (by kernel_rfl) (by kernel_rfl) (by kernel_rfl) (fun _ _ _ h => h) (Or.inl ⟨by rfl, ?hya5⟩) (by assumption) ?rest5
  case hya5 => (intro wz hSw; (try dsimp only at hSw); go_simp; all_goals with_reducible rfl)
  try simp only [List.getElem_toArray, List.getElem_cons_succ, List.getElem_cons_zero, Act.put, List.setIfInBounds_toArray, List.set_cons_zero, List.set_cons_succ]
  refine wpAnyH_take (i := 6) (v := ?va6) rfl (by kernel_rfl) (by kernel_rfl) (by kernel_rfl) (fun _ _ _ h => h) (Or.inl ⟨by rfl, ?hya6⟩) (by assumption) ?rest6
  case hya6 => (intro wz hSw; (try dsimp only at hSw); go_simp; all_goals with_reducible rfl)
  try simp only [List.getElem_toArray, List.getElem_cons_succ, List.getElem_cons_zero, Act.put, List.setIfInBounds_toArray, List.set_cons_zero, List.set_cons_succ]
  refine wpAnyH_ready (rs := [2, 7]) (by kernel_rfl) (by simp) ?_
  refine AllReadyH.cons rfl (fun K hK => ?_) (AllReadyH.cons rfl (fun K hK => ?_) AllReadyH.nil)
  · go_simp
    (go_at_call 151; refine (l01Dec_1 _ _ (by omega) (by omega)).mono ?_; rintro ee w2 ⟨s, rfl, s1, b2⟩; have HB1 := hide (below_drewS2 b2))
    have hs9 : ¬ (9223372036854775807 < s.size + 1) := by omega
    go_wp2_with fail
    refine hK.out _ _ trivial (fun hHeld2 => ?_)
    clear hK K
    try simp only [List.getElem_toArray, List.getElem_cons_succ, List.getElem_cons_zero, Act.put, List.setIfInBounds_toArray, List.set_cons_zero, List.set_cons_succ]
    refine wpAnyH_ready (rs := [7]) (by kernel_rfl) (by simp) ?_
    refine AllReadyH.cons rfl (fun K hK => ?_) AllReadyH.nil
    go_simp
    refine hK.out _ _ trivial (fun hHeld2 => ?_)
    clear hK K
    try simp only [List.getElem_toArray, List.getElem_cons_succ, List.getElem_cons_zero, Act.put, List.setIfInBounds_toArray, List.set_cons_zero, List.set_cons_succ]
    have HB2 := hide (fun o => HB1.out.alloc HB1.out.size o)
    refine wpAnyH_ready (rs := [8]) (by kernel_rfl) (by simp) ?_
    refine AllReadyH.cons rfl (fun K hK => ?_) AllReadyH.nil
    go_simp
    refine hK.out _ _ trivial (fun hHeld2 => ?_)
    clear hK K
    try simp only [List.getElem_toArray, List.getElem_cons_succ, List.getElem_cons_zero, Act.put, List.setIfInBounds_toArray, List.set_cons_zero, List.set_cons_succ]
    refine wpAnyH_take (i := 9) (v := ?va7) rfl (by kernel_rfl) (by kernel_rfl) (by kernel_rfl) (fun _ _ _ h => h) (Or.inl ⟨by rfl, ?hya7⟩) (by assumption) ?rest7
    case hya7 => (intro wz hSw; (try dsimp only at hSw); go_simp; all_goals with_reducible rfl)
    try simp only [List.getElem_toArray, List.getElem_cons_succ, List.getElem_cons_zero, Act.put, List.setIfInBounds_toArray, List.set_cons_zero, List.set_cons_succ]
    refine wpAnyH_take (i := 10) (v := ?va8) rfl (by kernel_rfl) (by kernel_rfl) (by kernel_rfl) (fun _ _ _ h => h) (Or.inl ⟨by rfl, ?hya8⟩) (by assumption) ?rest8
    case hya8 => (intro wz hSw; (try dsimp only at hSw); go_simp; all_goals with_reducible rfl)
    try simp only [List.getElem_toArray, List.getElem_cons_succ, List.getElem_cons_zero, Act.put, List.setIfInBounds_toArray, List.set_cons_zero, List.set_cons_succ]
    refine wpAnyH_done (by kernel_rfl) ?_ _
    go_wp2_with fail
    go_ret
    exact ⟨_, rfl, by rw [ByteArray.size_append]; show s.size + 1 ≤ 2; omega, HB2.out _⟩
  · go_simp
    refine hK.out _ _ trivial (fun hHeld2 => ?_)
    clear hK K
    try simp only [List.getElem_toArray, List.getElem_cons_succ, List.getElem_cons_zero, Act.put, List.setIfInBounds_toArray, List.set_cons_zero, List.set_cons_succ]
    refine wpAnyH_ready (rs := [2, 8]) (by kernel_rfl) (by simp) ?_
    refine AllReadyH.cons rfl (fun K hK => ?_) (AllReadyH.cons rfl (fun K hK => ?_) AllReadyH.nil)
    · go_simp
      (go_at_call 151; refine (l01Dec_1 _ _ (by omega) (by omega)).mono ?_; rintro ee w2 ⟨s, rfl, s1, b2⟩; have b3 := below_drewS2 b2; have HB2 := hide (below_trans (HBo _) b3))
      have hs9 : ¬ (9223372036854775807 < s.size + 1) := by omega
      have hcv2 := conv_below b3
      clear b2 b3
      go_wp2_with fail
      refine hK.out _ _ trivial (fun hHeld2 => ?_)
      clear hK K
      try simp only [List.getElem_toArray, List.getElem_cons_succ, List.getElem_cons_zero, Act.put, List.setIfInBounds_toArray, List.set_cons_zero, List.set_cons_succ]
      refine wpAnyH_ready (rs := [8]) (by kernel_rfl) (by simp) ?_
      refine AllReadyH.cons rfl (fun K hK => ?_) AllReadyH.nil
      go_simp
      refine hK.out _ _ trivial (fun hHeld2 => ?_)
      clear hK K
      try simp only [List.getElem_toArray, List.getElem_cons_succ, List.getElem_cons_zero, Act.put, List.setIfInBounds_toArray, List.set_cons_zero, List.set_cons_succ]
      refine wpAnyH_take (i := 9) (v := ?va9) rfl (by kernel_rfl) (by kernel_rfl) (by kernel_rfl) (fun _ _ _ h => h) (Or.inl ⟨by rfl, ?hya9⟩) (by assumption) ?rest9
      case hya9 => (intro wz hSw; (try dsimp only at hSw); go_simp; all_goals with_reducible rfl)
      try simp only [List.getElem_toArray, List.getElem_cons_succ, List.getElem_cons_zero, Act.put, List.setIfInBounds_toArray, List.set_cons_zero, List.set_cons_succ]
      refine wpAnyH_take (i := 10) (v := ?va10) rfl (by kernel_rfl) (by kernel_rfl) (by kernel_rfl) (fun _ _ _ h => h) (Or.inl ⟨by rfl, ?hya10⟩) (by assumption) ?rest10
      case hya10 => (intro wz hSw; (try dsimp only at hSw); go_simp; all_goals with_reducible rfl)
      try simp only [List.getElem_toArray, List.getElem_cons_succ, List.getElem_cons_zero, Act.put, List.setIfInBounds_toArray, List.set_cons_zero, List.set_cons_succ]
      refine wpAnyH_done (by kernel_rfl) ?_ _
      go_wp2_with fail
      go_ret
      exact ⟨_, rfl, by rw [ByteArray.size_append]; show s.size + 1 ≤ 2; omega, HB2.out⟩
    · have hcv3 := conv_drew w
      go_simp
      refine hK.out _ _ trivial (fun hHeld2 => ?_)
      clear hK K
      try simp only [List.getElem_toArray, List.getElem_cons_succ, List.getElem_cons_zero, Act.put, List.setIfInBounds_toArray, List.set_cons_zero, List.set_cons_succ]
      refine wpAnyH_ready (rs := [2]) (by kernel_rfl) (by simp) ?_
      refine AllReadyH.cons rfl (fun K hK => ?_) AllReadyH.nil
      go_simp
      (go_at_call 151; refine (l01Dec_1 _ _ (by omega) (by omega)).mono ?_; rintro ee w2 ⟨s, rfl, s1, b2⟩; have b3 := below_drewS2 b2; have HB2 := hide (below_trans (HBo _) b3))
      have hs9 : ¬ (9223372036854775807 < s.size + 1) := by omega
      clear b2 b3
      go_wp2_with fail
      refine hK.out _ _ trivial (fun hHeld2 => ?_)
      clear hK K
      try simp only [List.getElem_toArray, List.getElem_cons_succ, List.getElem_cons_zero, Act.put, List.setIfInBounds_toArray, List.set_cons_zero, List.set_cons_succ]
      refine wpAnyH_take (i := 9) (v := ?va11) rfl (by kernel_rfl) (by kernel_rfl) (by kernel_rfl) (fun _ _ _ h => h) (Or.inl ⟨by rfl, ?hya11⟩) (by assumption) ?rest11
      case hya11 => (intro wz hSw; (try dsimp only at hSw); go_simp; all_goals with_reducible rfl)
      try simp only [List.getElem_toArray, List.getElem_cons_succ, List.getElem_cons_zero, Act.put, List.setIfInBounds_toArray, List.set_cons_zero, List.set_cons_succ]
      refine wpAnyH_take (i := 10) (v := ?va12) rfl (by kernel_rfl) (by kernel_rfl) (by kernel_rfl) (fun _ _ _ h => h) (Or.inl ⟨by rfl, ?hya12⟩) (by assumption) ?rest12
      case hya12 => (intro wz hSw; (try dsimp only at hSw); go_simp; all_goals with_reducible rfl)
      try simp only [List.getElem_toArray, List.getElem_cons_succ, List.getElem_cons_zero, Act.put, List.setIfInBounds_toArray, List.set_cons_zero, List.set_cons_succ]
      refine wpAnyH_done (by kernel_rfl) ?_ _
      go_wp2_with fail
      go_ret
      exact ⟨_, rfl, by rw [ByteArray.size_append]; show s.size + 1 ≤ 2; omega, HB2.out⟩
end Go.Proofs.YtdkhldebnpmiiaaGreatDoor
