/- Contracts: membership in a list. -/
import Derived.Test.YtdodhjahihfaiaaBits
namespace Go.Proofs.Ytdodhjahihfaiaa
open Go.RowKit
set_option linter.unusedVariables false
set_option linter.unusedSimpArgs false

/-- the list holds the number -/
def hasB (zs : List Int) (x : Int) : Bool := decide (x ∈ zs)
theorem hasB_yes {zs : List Int} {x : Int} {k : Nat} (hk : k < zs.length) (h : nth zs k = x) : hasB zs x = true := decide_eq_true (h ▸ nth_mem hk)
theorem hasB_no {zs : List Int} {x : Int} (h : ∀ j, j < zs.length → nth zs j ≠ x) : hasB zs x = false := by
  refine decide_eq_false fun hm => ?_
  obtain ⟨j, hj, e⟩ := List.getElem_of_mem hm
  exact h j hj (by rw [nth_eq hj]; exact e)

theorem index_any (A : Option Addr) (n c : Nat) (zs : List Int) (x : Int) (w : World) (h : Rd w A n c zs) :
    Calls Try.prog 123 #[.slice A n c, .int .i64 x] w fun e w' => ∃ r : Int, e = .returned (.int .i64 r) ∧ Hid (decide (0 ≤ r) = hasB zs x) ∧ w = w' := by
  have hlen := h.le
  have hcap := h.cap
  go_enter Try.func123, Try.ntmps123
  go_wp2
  go_loop [8] (fun i => ∃ k : Nat, k ≤ n ∧ i = .int .i64 k ∧ Hid (∀ j, j < k → nth zs j ≠ x)) (fun i => n - (intOf i).toNat)
  case atStart => exact ⟨0, Nat.zero_le _, rfl, fun j hj => by omega⟩
  case round =>
    obtain ⟨k, hk, rfl, hall⟩ := hrel
    by_cases hlt : k < n
    · obtain ⟨b, off, rfl, hb, hc⟩ := h.at_ (by omega)
      have hck := hc k hlt
      clear hc
      by_cases he : nth zs k = x
      · have hf := hide (hasB_yes (by omega) he)
        have t' : (x == nth zs k) = true := by simp [he]
        have hr : Hid (decide (0 ≤ (k : Int)) = hasB zs x) := by
          show _ = _
          rw [hf.out]; simp
        clear he
        go_wp2
        go_ret
        exact ⟨_, rfl, hr, rfl⟩
      · have hst : Hid (∀ j, j < k + 1 → nth zs j ≠ x) := by
          intro j hj
          by_cases e : j = k
          · subst e; exact he
          · exact hall.out j (by omega)
        have t' : (x == nth zs k) = false := by simp; exact fun e => he e.symm
        clear he
        go_wp2
        go_round
        case rel => exact ⟨k + 1, by omega, by go_num, hst⟩
        case measure => simp [intOf]; omega
    · obtain rfl : k = n := by omega
      have hf : Hid (hasB zs x = false) := hasB_no (fun j hj => hall.out j (by omega))
      have hr : Hid (decide (0 ≤ (-1 : Int)) = hasB zs x) := by
        show _ = _
        rw [hf.out]; rfl
      go_wp2
      go_ret
      exact ⟨_, rfl, hr, rfl⟩
theorem contains_any (A : Option Addr) (n c : Nat) (zs : List Int) (x : Int) (w : World) (h : Rd w A n c zs) :
    Calls Try.prog 115 #[.slice A n c, .int .i64 x] w fun e w' => e = .returned (.bool (hasB zs x)) ∧ w = w' := by
  go_enter Try.func115, Try.ntmps115
  go_wp2_with fail
  refine (index_any _ _ _ zs x _ h).mono ?_
  rintro e w' ⟨r, rfl, hr, rfl⟩
  go_wp2
  go_ret
  exact ⟨ret_bool hr.out, rfl⟩

end Go.Proofs.Ytdodhjahihfaiaa
