/- Demands sorted, by the implementation, whole: it answers as the reference does. -/
import Derived.Test.YtcbejjkbjompfaaSortF
namespace Go.Proofs.Ytcbejjkbjompfaa
open Go.RowKit
set_option linter.unusedVariables false
set_option linter.unusedSimpArgs false

set_option maxHeartbeats 1600000 in
theorem stable_nil (w : World) (c : Nat) :
    Calls Try.prog 36 #[.slice none 0 c, .int .i64 0, .func (.func 24) #[] #[]] w (fun x w' => x = .returned (.tuple #[]) ∧ w' = w) := by
  have hk : Calls Try.prog 42 #[.slice none 0 c, .int .i64 0, .int .i64 0, .func (.func 24) #[] #[]] w (fun x w' => x = .returned (.tuple #[]) ∧ w' = w) := insertion_none 0 0 0 c 0 none [] w (by omega)
  go_enter Try.func36, Try.ntmps36
  go_wp2
  go_loopw [7, 8] (fun p q wr => p = .int .i64 0 ∧ q = .int .i64 20 ∧ wr = w) (fun _ _ _ => 0)
  case atStart => exact ⟨rfl, rfl, rfl⟩
  case round =>
    obtain ⟨rfl, rfl, rfl⟩ := hrel
    go_wp2_with (go_at_call 42; refine hk.mono ?_; rintro x w2 ⟨rfl, rfl⟩)
    go_loopw [6, 7, 8, 9] (fun s p q r wr => s = .int .i64 20 ∧ wr = w2) (fun _ _ _ _ _ => 0)
    case atStart => exact ⟨rfl, rfl⟩
    case round =>
      obtain ⟨rfl, rfl⟩ := hrel
      go_wp2
      go_end0
      exact ⟨rfl, rfl⟩
/-- the sort of a row of the call's own, or of nil -/
theorem sortStable_any (B : Nat) (A : Option Addr) (n c : Nat) (ds : List Dem) (w : World) (h : OwnF 38 3 w B A n c (flatD ds)) (ha : areB ds = true) :
    Calls Try.prog 23 #[.slice A n c, .func (.func 24) #[] #[]] w
      (fun x w' => x = .returned (.tuple #[]) ∧ OwnF 38 3 w' B A n c (flatD (sortD ds)) ∧ w.grownBy w' (Value.slice A n c).ownBlock) := by
  have hl : ds.length = n := by have := h.len; rw [flatD_len] at this; omega
  have hn := are_len ha
  have h4 := are_ev4 ha
  have hsm := are_sml ha
  rcases h.form with ⟨rfl, rfl, rfl, hv⟩ | ⟨g, rfl, hg, hgs⟩
  · obtain rfl : ds = [] := List.eq_nil_of_length_eq_zero hl
    have hk := stable_nil w 0
    go_enter Try.func23, Try.ntmps23
    go_wp2_with (go_at_call 36; refine hk.mono ?_; rintro x w2 ⟨rfl, rfl⟩)
    go_end0
    exact ⟨rfl, h, grown_refl _ _⟩
  · have hk := stable_any B g n c ds w h hsm (by omega)
    go_enter Try.func23, Try.ntmps23
    go_wp2_with (go_at_call 36; refine hk.mono ?_; rintro x w2 ⟨rfl, es, O2, ⟨P2, S2⟩, G2⟩)
    go_end0
    exact ⟨rfl, by rw [← srt_is ha (by rw [hl]; exact P2) (by rw [hl]; exact S2)]; exact O2, G2⟩
set_option maxHeartbeats 1600000 in
theorem iSortDemands_any (A : Option Addr) (q c : Nat) (ds : List Dem) (w : World) (h : RdF 3 w A q c (flatD ds)) :
    Calls Try.prog 9 #[.slice A q c] w (SoOut ds w) := by
  have hl : ds.length = q := by have := h.len; rw [flatD_len] at this; omega
  have hcap := h.cap
  go_enter Try.func9, Try.ntmps9
  cases ha : areB ds
  · go_wp2_with (go_at_call 21; refine (iAreDemands_any _ _ _ ds _ h).mono ?_; rintro e w1 ⟨rfl, b1⟩; rw [ha])
    go_ret2
    exact ⟨none, 0, 0, ret_sc (by rw [soC, ha]; rfl), by rw [soR, ha]; exact OwnF.nil _ _, b1⟩
  · have hq := are_len ha
    go_wp2_with fail
    refine (iAreDemands_any _ _ _ ds _ h).mono ?_
    rintro e w1 ⟨rfl, b1⟩
    rw [ha]
    go_wp2_with fail
    refine (cloneD_any A q c (flatD ds) w1 (h.below b1) (by omega)).mono ?_
    rintro e w2 ⟨A2, c2, rfl, O2, b2⟩
    go_wp2_with fail
    refine (sortStable_any w1.heap.size A2 q c2 ds w2 O2 ha).mono ?_
    rintro e w3 ⟨rfl, O3, g3⟩
    go_wp2
    go_ret2
    have b12 := below_trans b1 b2
    refine ⟨A2, q, c2, ret_sc (by rw [soC, ha]; rfl), by rw [soR, ha, if_pos rfl]; exact O3.mono b1.size, ?_⟩
    exact below_ownF b12 b12.size O2 b1.size g3
end Go.Proofs.Ytcbejjkbjompfaa
