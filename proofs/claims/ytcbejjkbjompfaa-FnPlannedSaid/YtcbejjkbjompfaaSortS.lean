/- Contracts: demands sorted, by the reference. -/
import Derived.Test.YtcbejjkbjompfaaPlanK
namespace Go.Proofs.Ytcbejjkbjompfaa
open Go.RowKit
set_option linter.unusedVariables false
set_option linter.unusedSimpArgs false

def fevD (ds : List Dem) (y : Int) : List Dem := ds.filter fun d => d.ev == y
/-- sorted by Every, in order -/
def sortD (ds : List Dem) : List Dem := fevD ds 1 ++ (fevD ds 2 ++ (fevD ds 4 ++ fevD ds 8))
def accD (ds : List Dem) (y : Int) : List Dem :=
  (if 1 < y then fevD ds 1 else []) ++ ((if 2 < y then fevD ds 2 else []) ++ ((if 4 < y then fevD ds 4 else []) ++ (if 8 < y then fevD ds 8 else [])))
theorem accD_one (ds : List Dem) : accD ds 1 = [] := by simp [accD]
theorem accD_all (ds : List Dem) : accD ds 16 = sortD ds := by simp [accD, sortD]
theorem accD_step (ds : List Dem) {y : Int} (h : y = 1 ∨ y = 2 ∨ y = 4 ∨ y = 8) : accD ds y ++ fevD ds y = accD ds (2 * y) := by
  rcases h with rfl | rfl | rfl | rfl <;> simp [accD]
theorem dem_take {ds : List Dem} {k : Nat} (h : k < ds.length) : ds.take (k + 1) = ds.take k ++ [dem ds k] := by
  rw [dem_eq h, List.take_succ_eq_append_getElem h]
theorem fev_hit {ds : List Dem} {k : Nat} {y : Int} (h : k < ds.length) (e : (dem ds k).ev = y) : fevD (ds.take (k + 1)) y = fevD (ds.take k) y ++ [dem ds k] := by
  rw [dem_take h, fevD, List.filter_append]
  simp [fevD, e]
theorem fev_miss {ds : List Dem} {k : Nat} {y : Int} (h : k < ds.length) (e : ¬ (dem ds k).ev = y) : fevD (ds.take (k + 1)) y = fevD (ds.take k) y := by
  rw [dem_take h, fevD, List.filter_append]
  simp [fevD, e]
theorem fev_len (ds : List Dem) (y : Int) : (fevD ds y).length ≤ ds.length := List.length_filter_le _ _
theorem acc_len (ds : List Dem) (y : Int) : (accD ds y).length ≤ 4 * ds.length := by
  have h1 := fev_len ds 1
  have h2 := fev_len ds 2
  have h4 := fev_len ds 4
  have h8 := fev_len ds 8
  unfold accD
  split <;> split <;> split <;> split <;> simp <;> omega
def soC (ds : List Dem) : Int := if areB ds then 0 else 1
def soR (ds : List Dem) : List Dem := if areB ds then sortD ds else []
def SoOut (ds : List Dem) (w : World) (x : Ending) (w' : World) : Prop :=
  ∃ (A' : Option Addr) (j c' : Nat), x = .returned (.tuple #[.slice A' j c', .int .i64 (soC ds)]) ∧ OwnF 38 3 w' w.heap.size A' j c' (flatD (soR ds)) ∧ Below w.heap.size w w'
theorem below_ownF {T : TypeId} {k : Nat} {w w0 w' : World} {B B' n c : Nat} {A : Option Addr} {vs : List Int} (h : Below B w0 w) (hs : B ≤ w.heap.size) (ho : OwnF T k w B' A n c vs) (hB : B ≤ B') (hg : w.grownBy w' (Value.slice A n c).ownBlock) : Below B w0 w' :=
  h.grown hg hs (fun j hj => Nat.le_trans hB (ho.1.lt j hj).1)
theorem flatD_one (d : Dem) : flatD [d] = [d.nd, d.ev, d.sz] := rfl
theorem flat_i64 {ds : List Dem} (h : I64 (flatD ds)) {k : Nat} (hk : k < ds.length) : I64 [(dem ds k).nd, (dem ds k).ev, (dem ds k).sz] := by
  have := h.sub (a := [(dem ds k).nd, (dem ds k).ev, (dem ds k).sz]) (fun z hz => by
    rw [flatD, List.mem_flatMap]
    exact ⟨_, dem_mem hk, hz⟩)
  exact this
set_option maxHeartbeats 3200000 in
set_option maxRecDepth 100000 in
theorem sSortDemands_any (A : Option Addr) (q c : Nat) (ds : List Dem) (w : World) (h : RdF 3 w A q c (flatD ds)) :
    Calls Try.prog 10 #[.slice A q c] w (SoOut ds w) := by
  have hl : ds.length = q := by have := h.len; rw [flatD_len] at this; omega
  have hcap := h.cap
  have hi := h.i64
  go_enter Try.func10, Try.ntmps10
  cases ha : areB ds
  · go_wp2_with (go_at_call 25; refine (sAreDemands_any _ _ _ ds _ h).mono ?_; rintro e w1 ⟨rfl, b1⟩; rw [ha])
    go_ret2
    exact ⟨none, 0, 0, ret_sc (by rw [soC, ha]; rfl), by rw [soR, ha]; exact OwnF.nil _ _, b1⟩
  · have hq := are_len ha
    go_wp2_with (go_at_call 25; refine (sAreDemands_any _ _ _ ds _ h).mono ?_; rintro e w1 ⟨rfl, b1⟩; rw [ha])
    go_loopw [4, 5] (fun s i wr => ∃ (y : Int) (acc : List Dem) (A2 : Option Addr) (c2 : Nat), (y = 1 ∨ y = 2 ∨ y = 4 ∨ y = 8 ∨ y = 16) ∧ i = .int .i64 y ∧ s = .slice A2 acc.length c2 ∧ Hid (acc = accD ds y) ∧ OwnF 38 3 wr w.heap.size A2 acc.length c2 (flatD acc) ∧ Below w.heap.size w wr) (fun _ i _ => 16 - (intOf i).toNat)
    case atStart => exact ⟨1, [], _, _, by omega, rfl, rfl, (accD_one ds).symm, OwnF.empty w1 b1.size, b1.alloc b1.size _⟩
    case round =>
      obtain ⟨y, acc, A2, c2, hy, rfl, rfl, hacc, hown, hbel⟩ := hrel
      by_cases hy8 : y ≤ 8
      · have hy4 : y = 1 ∨ y = 2 ∨ y = 4 ∨ y = 8 := by omega
        have HACC := hide (show acc.length ≤ 160 by have := acc_len ds y; rw [← hacc.out] at this; omega)
        go_wp2
        go_loopw [4, 6] (fun s i wr => ∃ (k : Nat) (ac2 : List Dem) (A3 : Option Addr) (c3 : Nat), k ≤ q ∧ i = .int .i64 k ∧ s = .slice A3 ac2.length c3 ∧ Hid (ac2 = acc ++ fevD (ds.take k) y) ∧ OwnF 38 3 wr w.heap.size A3 ac2.length c3 (flatD ac2) ∧ Below w.heap.size w wr) (fun _ i _ => q - (intOf i).toNat)
        case atStart => exact ⟨0, acc, A2, c2, by omega, rfl, rfl, hide (by simp [fevD]), hown, hbel⟩
        case round =>
          obtain ⟨k, ac2, A3, c3, hk, rfl, rfl, hac2, hown2, hbel2⟩ := hrel
          have hsz2 := hbel2.size
          by_cases hlt : k < q
          · obtain ⟨b, off, rfl, hbb, hc⟩ := h.at_ (by omega)
            obtain ⟨d0, d1, d2⟩ := dem_cells hc hl hbel2 hbb hlt
            have FI := hide (flat_i64 hi (k := k) (by omega))
            have HL2 : ac2.length ≤ 1000 := by
              have h1 := fev_len (ds.take k) y
              have h2 := congrArg List.length hac2.out
              rw [List.length_append] at h2
              rw [List.length_take] at h1
              have := HACC.out
              omega
            clear hc
            by_cases he : (dem ds k).ev = y
            · have hst := hide (show acc ++ fevD (ds.take (k + 1)) y = ac2 ++ [dem ds k] by rw [fev_hit (by omega) he, ← List.append_assoc, ← hac2.out])
              have t1 : ((dem ds k).ev == y) = true := by simpa using he
              clear he
              go_wp2_with (at_builtin; refine append_dem rfl _ _ rfl w.heap.size rfl hown2 _ _ _ FI.out rfl (by omega) hsz2 ?_; intro A4 c4 w4 O4 g4)
              have hb4 := below_ownF hbel2 hsz2 hown2 (Nat.le_refl _) g4
              rw [← flatD_one, ← flatD_append] at O4
              go_roundw
              case rel => exact ⟨k + 1, ac2 ++ [dem ds k], A4, c4, by omega, by go_num, by simp, hide hst.out.symm, by simpa using O4, hb4⟩
              case measure => simp [intOf]; omega
            · have hst := hide (show ac2 = acc ++ fevD (ds.take (k + 1)) y by rw [fev_miss (by omega) he]; exact hac2.out)
              have t1 : ((dem ds k).ev == y) = false := by simpa using he
              clear he
              go_wp2
              go_roundw
              case rel => exact ⟨k + 1, ac2, A3, c3, by omega, by go_num, rfl, hst, hown2, hbel2⟩
              case measure => simp [intOf]; omega
          · obtain rfl : k = q := by omega
            have hfin := hide (show ac2 = accD ds (2 * y) by rw [← accD_step ds hy4, ← hacc.out]; have := hac2.out; rwa [List.take_of_length_le (by omega)] at this)
            go_wp2
            go_roundw
            case rel => exact ⟨2 * y, ac2, A3, c3, by omega, rfl, rfl, hfin, hown2, hbel2⟩
            case measure => simp [intOf]; omega
      · obtain rfl : y = 16 := by omega
        have hfin := hide (show acc = sortD ds by rw [← accD_all]; exact hacc.out)
        go_wp2
        go_ret2
        exact ⟨A2, _, c2, ret_sc (by rw [soC, ha]; rfl), by rw [soR, ha, if_pos rfl, ← hfin.out]; exact hown, hbel⟩
end Go.Proofs.Ytcbejjkbjompfaa
