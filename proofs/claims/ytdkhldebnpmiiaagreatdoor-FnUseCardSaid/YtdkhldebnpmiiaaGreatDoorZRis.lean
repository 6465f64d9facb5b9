/- Contracts: rising lists, what a list has; a table of modes, by the program and by the reference. -/
import Derived.Test.YtdkhldebnpmiiaaGreatDoorZNTab
namespace Go.Proofs.YtdkhldebnpmiiaaGreatDoor
open Go.RowKit
set_option linter.unusedVariables false
set_option linter.unusedSimpArgs false
def okR (n : Int) (l : List Int) (k : Nat) : Bool := (decide (0 ≤ nth l k) && decide (nth l k < n)) && (decide (k = 0) || decide (nth l (k - 1) < nth l k))
def allR (n : Int) (l : List Int) (k : Nat) : Bool := (List.range k).all (okR n l)
theorem allR_succ (n : Int) (l : List Int) (k : Nat) : allR n l (k + 1) = (allR n l k && okR n l k) := by simp [allR, List.range_succ]
def risB (n : Int) (l : List Int) : Bool := allR n l l.length
theorem risB_bad {n : Int} {l : List Int} {k : Nat} (h : k < l.length) (hb : okR n l k = false) : risB n l = false := List.all_eq_false.2 ⟨k, List.mem_range.2 h, by rw [hb]; simp⟩
theorem okR_lo {n : Int} {l : List Int} {k : Nat} (h : nth l k < 0) : okR n l k = false := by rw [okR, decide_eq_false (by omega), Bool.false_and, Bool.false_and]
theorem okR_hi {n : Int} {l : List Int} {k : Nat} (h : n ≤ nth l k) : okR n l k = false := by rw [okR, decide_eq_false (p := nth l k < n) (by omega), Bool.and_false, Bool.false_and]
theorem okR_dn {n : Int} {l : List Int} {k : Nat} (h : nth l (k + 1) ≤ nth l k) : okR n l (k + 1) = false := by
  rw [okR, Nat.add_sub_cancel, decide_eq_false (p := nth l k < nth l (k + 1)) (by omega)]
  simp
theorem okR_0 {n : Int} {l : List Int} (h : 0 ≤ nth l 0) (h2 : nth l 0 < n) : okR n l 0 = true := by rw [okR, decide_eq_true h, decide_eq_true h2]; rfl
theorem okR_s {n : Int} {l : List Int} {k : Nat} (h : 0 ≤ nth l (k + 1)) (h2 : nth l (k + 1) < n) (h3 : nth l k < nth l (k + 1)) : okR n l (k + 1) = true := by
  rw [okR, Nat.add_sub_cancel, decide_eq_true h, decide_eq_true h2, decide_eq_true h3]
  simp
def Same (b : Bool) (w : World) (e : Ending) (w' : World) : Prop := e = .returned (.bool b) ∧ w = w'
set_option maxHeartbeats 3200000 in
theorem iisRising_any (A : Option Addr) (n c : Nat) (l : List Int) (m : Int) (w : World) (h : Rd w A n c l) : Calls Tryz.prog 157 #[.slice A n c, .int .i64 m] w (Same (risB m l) w) := by
  have hcap := h.cap
  have hlen := hide h.len
  go_enter Tryz.func157, Tryz.ntmps157
  go_wp2
  go_loopw [9] (fun i wr => ∃ k : Nat, k ≤ n ∧ i = .int .i64 k ∧ Hid (allR m l k = true) ∧ wr = w) (fun i _ => n - (intOf i).toNat)
  case atStart => exact ⟨0, by omega, rfl, hide rfl, rfl⟩
  case round =>
    obtain ⟨k, hk, rfl, hall, rfl⟩ := hrel
    by_cases hlt : k < n
    · obtain ⟨b, off, rfl, hb, hc⟩ := h.at_ (by omega)
      have c0 := hc k hlt
      have HL := hide (show k < l.length by rw [hlen.out]; exact hlt)
      obtain ⟨x, hx⟩ : ∃ x, x = nth l k := ⟨_, rfl⟩
      rw [← hx] at c0
      have HX := hide hx
      have HC := hide hc
      by_cases h1 : x < 0
      · have E := hide (risB_bad (n := m) HL.out (okR_lo (by rw [← hx]; exact h1)))
        have t1 : decide (x < 0) = true := decide_eq_true h1
        clear hx hc h1
        go_wp2
        go_ret
        exact ⟨by rw [E.out]; rfl, rfl⟩
      · have t1 : decide (x < 0) = false := decide_eq_false h1
        by_cases h2 : m ≤ x
        · have E := hide (risB_bad (n := m) HL.out (okR_hi (by rw [← hx]; exact h2)))
          have t2 : decide (m ≤ x) = true := decide_eq_true h2
          clear hx hc h1 h2
          go_wp2
          go_ret
          exact ⟨by rw [E.out]; rfl, rfl⟩
        · have t2 : decide (m ≤ x) = false := decide_eq_false h2
          rcases Nat.eq_zero_or_pos k with rfl | hpos
          · have E := hide (okR_0 (n := m) (l := l) (by rw [← hx]; omega) (by rw [← hx]; omega))
            have NN := hide (show allR m l 1 = true by rw [allR_succ, hall.out, E.out]; rfl)
            simp only [Nat.add_zero] at c0
            clear hx hc h1 h2
            go_wp2
            go_roundw
            case rel => exact ⟨1, by omega, by go_num, NN, trivial⟩
            case measure => simp [intOf]; omega
          · obtain ⟨j, rfl⟩ : ∃ j, k = j + 1 := ⟨k - 1, by omega⟩
            have p0 := hc j (by omega)
            obtain ⟨y, hy⟩ : ∃ y, y = nth l j := ⟨_, rfl⟩
            rw [← hy] at p0
            have ei : (((j + 1 : Nat) : Int) - 1) = (j : Int) := by omega
            have z1 : (0 : Int) ≤ (j : Int) := by omega
            have z2 : (j : Int) < (n : Int) := by omega
            have tg : decide ((0 : Int) < ((j + 1 : Nat) : Int)) = true := decide_eq_true (by omega)
            have tw : IntKind.i64.wrap (j : Int) = (j : Int) := IntWalk.i64_in _ ⟨by omega, by omega⟩
            by_cases h3 : x ≤ y
            · have E := hide (risB_bad (n := m) HL.out (okR_dn (by rw [← hx, ← hy]; exact h3)))
              have t3 : decide (x ≤ y) = true := decide_eq_true h3
              clear hx hy hc h1 h2 h3
              go_wp2
              go_ret
              exact ⟨by rw [E.out]; rfl, rfl⟩
            · have E := hide (okR_s (n := m) (l := l) (k := j) (by rw [← hx]; omega) (by rw [← hx]; omega) (by rw [← hx, ← hy]; omega))
              have t3 : decide (x ≤ y) = false := decide_eq_false h3
              have NN := hide (show allR m l (j + 1 + 1) = true by rw [allR_succ, hall.out, E.out]; rfl)
              clear hx hy hc h1 h2 h3
              go_wp2
              go_roundw
              case rel => exact ⟨j + 1 + 1, by omega, by go_num, NN, trivial⟩
              case measure => simp [intOf]; omega
    · obtain rfl : k = n := by omega
      have E := hide (show risB m l = true by rw [risB, hlen.out]; exact hall.out)
      go_wp2
      go_ret
      exact ⟨by rw [E.out]; rfl, rfl⟩
def hasB (l : List Int) (x : Int) : Bool := l.any (fun y => y == x)
theorem hasB_hit {l : List Int} {k : Nat} {x : Int} (hk : k < l.length) (h : nth l k = x) : hasB l x = true := List.any_eq_true.2 ⟨_, nth_mem hk, by simpa using h⟩
theorem hasB_no {l : List Int} {x : Int} (h : ∀ j, j < l.length → nth l j ≠ x) : hasB l x = false := by
  rw [hasB, List.any_eq_false]
  intro y hy
  obtain ⟨j, hj, rfl⟩ := List.getElem_of_mem hy
  have := h j hj
  rw [nth_eq hj] at this
  simpa using this
/-- where the first one is, or -1 -/
theorem sIndex_any (A : Option Addr) (n c : Nat) (l : List Int) (x : Int) (w : World) (h : Rd w A n c l) : Calls Tryz.prog 171 #[.slice A n c, .int .i64 x] w fun e w' => (∃ r : Int, e = .returned (.int .i64 r) ∧ decide (0 ≤ r) = hasB l x) ∧ w = w' := by
  have hcap := h.cap
  have hlen := hide h.len
  go_enter Tryz.func171, Tryz.ntmps171
  go_wp2
  go_loopw [8] (fun i wr => ∃ k : Nat, k ≤ n ∧ i = .int .i64 k ∧ Hid (∀ j, j < k → nth l j ≠ x) ∧ wr = w) (fun i _ => n - (intOf i).toNat)
  case atStart => exact ⟨0, by omega, rfl, hide (fun j hj => by omega), rfl⟩
  case round =>
    obtain ⟨k, hk, rfl, hno, rfl⟩ := hrel
    by_cases hlt : k < n
    · obtain ⟨b, off, rfl, hb, hc⟩ := h.at_ (by omega)
      have c0 := hc k hlt
      have HL := hide (show k < l.length by rw [hlen.out]; exact hlt)
      obtain ⟨y, hy⟩ : ∃ y, y = nth l k := ⟨_, rfl⟩
      rw [← hy] at c0
      clear hc
      by_cases h1 : x = y
      · have t1 : (x == y) = true := by simpa using h1
        have E := hide (hasB_hit HL.out (show nth l k = x by rw [← hy, h1]))
        clear hy h1
        go_wp2
        go_ret
        exact ⟨⟨k, rfl, by rw [E.out]; simp⟩, rfl⟩
      · have t1 : (x == y) = false := by simpa using h1
        have NN := hide (fun j (hj : j < k + 1) => show nth l j ≠ x from by
          rcases Nat.lt_succ_iff_lt_or_eq.1 hj with h2 | h2
          · exact hno.out j h2
          · subst h2
            rw [← hy]
            exact fun e => h1 e.symm)
        clear hy h1
        go_wp2
        go_roundw
        case rel => exact ⟨k + 1, by omega, by go_num, NN, trivial⟩
        case measure => simp [intOf]; omega
    · obtain rfl : k = n := by omega
      have E := hide (hasB_no (l := l) (x := x) (fun j hj => hno.out j (by have := hlen.out; omega)))
      go_wp2
      go_ret
      exact ⟨⟨-1, rfl, by rw [E.out]; rfl⟩, rfl⟩
theorem sContains_any (A : Option Addr) (n c : Nat) (l : List Int) (x : Int) (w : World) (h : Rd w A n c l) : Calls Tryz.prog 158 #[.slice A n c, .int .i64 x] w (Same (hasB l x) w) := by
  go_enter Tryz.func158, Tryz.ntmps158
  go_wp2_with (go_at_call 171; refine (sIndex_any _ _ _ l x _ h).mono ?_; rintro ee w1 ⟨⟨r, rfl, hr⟩, rfl⟩)
  go_ret
  exact ⟨by rw [← hr]; rfl, rfl⟩
theorem l01Has_any (A : Option Addr) (n c : Nat) (l : List Int) (x : Int) (w : World) (h : Rd w A n c l) : Calls Tryz.prog 164 #[.slice A n c, .int .i64 x] w (Same (hasB l x) w) := by
  have hcap := h.cap
  have hlen := hide h.len
  go_enter Tryz.func164, Tryz.ntmps164
  go_wp2
  go_loopw [5] (fun i wr => ∃ k : Nat, k ≤ n ∧ i = .int .i64 k ∧ Hid (∀ j, j < k → nth l j ≠ x) ∧ wr = w) (fun i _ => n - (intOf i).toNat)
  case atStart => exact ⟨0, by omega, rfl, hide (fun j hj => by omega), rfl⟩
  case round =>
    obtain ⟨k, hk, rfl, hno, rfl⟩ := hrel
    by_cases hlt : k < n
    · obtain ⟨b, off, rfl, hb, hc⟩ := h.at_ (by omega)
      have c0 := hc k hlt
      have HL := hide (show k < l.length by rw [hlen.out]; exact hlt)
      obtain ⟨y, hy⟩ : ∃ y, y = nth l k := ⟨_, rfl⟩
      rw [← hy] at c0
      clear hc
      by_cases h1 : y = x
      · have t1 : (y == x) = true := by simpa using h1
        have E := hide (hasB_hit HL.out (show nth l k = x by rw [← hy, h1]))
        clear hy h1
        go_wp2
        go_ret
        exact ⟨by rw [E.out]; rfl, rfl⟩
      · have t1 : (y == x) = false := by simpa using h1
        have NN := hide (fun j (hj : j < k + 1) => show nth l j ≠ x from by
          rcases Nat.lt_succ_iff_lt_or_eq.1 hj with h2 | h2
          · exact hno.out j h2
          · subst h2
            rw [← hy]
            exact h1)
        clear hy h1
        go_wp2
        go_roundw
        case rel => exact ⟨k + 1, by omega, by go_num, NN, trivial⟩
        case measure => simp [intOf]; omega
    · obtain rfl : k = n := by omega
      have E := hide (hasB_no (l := l) (x := x) (fun j hj => hno.out j (by have := hlen.out; omega)))
      go_wp2
      go_ret
      exact ⟨by rw [E.out]; rfl, rfl⟩
theorem in_range {m x : Int} : inB 0 (m - 1) x = (decide (0 ≤ x) && decide (x < m)) := by
  rw [inB]
  congr 1
  simp
  omega
set_option maxHeartbeats 6400000 in
theorem l01Rises_any (A : Option Addr) (n c : Nat) (l : List Int) (m : Int) (w : World) (h : Rd w A n c l) (hm : 0 ≤ m) (hm2 : m ≤ 9223372036854775807) : Calls Tryz.prog 163 #[.slice A n c, .int .i64 m] w (BoolOut (risB m l) w) := by
  have hcap := h.cap
  have hlen := hide h.len
  have em : IntKind.i64.wrap (m - 1) = m - 1 := IntWalk.i64_in _ ⟨by omega, by omega⟩
  go_enter Tryz.func163, Tryz.ntmps163
  go_wp2
  go_loopw [5] (fun i wr => ∃ k : Nat, k ≤ n ∧ i = .int .i64 k ∧ Hid (allR m l k = true) ∧ Hid (Below w.heap.size w wr)) (fun i _ => n - (intOf i).toNat)
  case atStart => exact ⟨0, by omega, rfl, hide rfl, hide (Below.refl _ _)⟩
  case round =>
    obtain ⟨k, hk, rfl, hall, hbel⟩ := hrel
    by_cases hlt : k < n
    · obtain ⟨b, off, rfl, hb, hc⟩ := (h.below hbel.out).at_ (by omega)
      have c0 := hc k hlt
      have HL := hide (show k < l.length by rw [hlen.out]; exact hlt)
      have BD := hide hbel.out.drew
      obtain ⟨x, hx⟩ : ∃ x, x = nth l k := ⟨_, rfl⟩
      rw [← hx] at c0
      cases hi : inB 0 (m - 1) x
      · have E := hide (risB_bad (n := m) HL.out (show okR m l k = false by rw [okR, ← hx, ← in_range, hi, Bool.false_and]))
        have HI := hide hi
        clear hx hc hi
        go_wp2_with fail
        refine wp_region_held_drew (S := (fun w' => w'.cell? ⟨b, off + k, none⟩ = some (.int .i64 x))) (by kernel_rfl) ?_ (fun hHeld => ?_)
        · (try dsimp only)
          go_keep
        refine wpAnyH_take (i := 0) (v := ?va1) rfl (by kernel_rfl) (by kernel_rfl) (by kernel_rfl) (fun _ _ _ h => h) (Or.inl ⟨by rfl, ?hya1⟩) (by assumption) ?rest1
        case hya1 => (intro wz hSw; (try dsimp only at hSw); go_simp; all_goals with_reducible rfl)
        try simp only [List.getElem_toArray, List.getElem_cons_succ, List.getElem_cons_zero, Act.put, List.setIfInBounds_toArray, List.set_cons_zero, List.set_cons_succ]
        refine wpAnyH_take (i := 1) (v := ?va2) rfl (by kernel_rfl) (by kernel_rfl) (by kernel_rfl) (fun _ _ _ h => h) (Or.inl ⟨by rfl, ?hya2⟩) (by assumption) ?rest2
        case hya2 => (intro wz hSw; (try dsimp only at hSw); go_simp; all_goals with_reducible rfl)
        try simp only [List.getElem_toArray, List.getElem_cons_succ, List.getElem_cons_zero, Act.put, List.setIfInBounds_toArray, List.set_cons_zero, List.set_cons_succ]
        refine wpAnyH_take (i := 2) (v := ?va3) rfl (by kernel_rfl) (by kernel_rfl) (by kernel_rfl) (fun _ _ _ h => h) (Or.inl ⟨by rfl, ?hya3⟩) (by assumption) ?rest3
        case hya3 => (intro wz hSw; (try dsimp only at hSw); go_simp; all_goals with_reducible rfl)
        try simp only [List.getElem_toArray, List.getElem_cons_succ, List.getElem_cons_zero, Act.put, List.setIfInBounds_toArray, List.set_cons_zero, List.set_cons_succ]
        refine wpAnyH_take (i := 3) (v := ?va4) rfl (by kernel_rfl) (by kernel_rfl) (by kernel_rfl) (fun _ _ _ h => h) (Or.inl ⟨by rfl, ?hya4⟩) (by assumption) ?rest4
        case hya4 => (intro wz hSw; (try dsimp only at hSw); go_simp; all_goals with_reducible rfl)
        try simp only [List.getElem_toArray, List.getElem_cons_succ, List.getElem_cons_zero, Act.put, List.setIfInBounds_toArray, List.set_cons_zero, List.set_cons_succ]
        refine wpAnyH_take (i := 4) (v := ?va5) rfl (by kernel_rfl) (by kernel_rfl) (by kernel_rfl) (fun _ _ _ h => h) (Or.inl ⟨by rfl, ?hya5⟩) (by assumption) ?rest5
        case hya5 => (intro wz hSw; (try dsimp only at hSw); go_simp; all_goals with_reducible rfl)
        try simp only [List.getElem_toArray, List.getElem_cons_succ, List.getElem_cons_zero, Act.put, List.setIfInBounds_toArray, List.set_cons_zero, List.set_cons_succ]
        refine wpAnyH_take (i := 5) (v := ?va6) rfl (by kernel_rfl) (by kernel_rfl) (by kernel_rfl) (fun _ _ _ h => h) (Or.inl ⟨by rfl, ?hya6⟩) (by assumption) ?rest6
        case hya6 => (intro wz hSw; (try dsimp only at hSw); go_simp; all_goals with_reducible rfl)
        try simp only [List.getElem_toArray, List.getElem_cons_succ, List.getElem_cons_zero, Act.put, List.setIfInBounds_toArray, List.set_cons_zero, List.set_cons_succ]
        refine wpAnyH_ready (rs := [6]) (by kernel_rfl) (by simp) ?_
        refine AllReadyH.cons rfl (fun K hK => ?_) AllReadyH.nil
        go_simp
        (go_at_call 122; (with_reducible refine (l01In_any x 0 (m - 1) _).mono ?_); rintro ee w1 ⟨rfl, rfl⟩; rw [HI.out])
        go_wp2_with fail
        refine hK.out _ _ ?_ (fun hHeld6 => ?_)
        · (try dsimp only)
          go_keep
        clear hK K
        try simp only [List.getElem_toArray, List.getElem_cons_succ, List.getElem_cons_zero, Act.put, List.setIfInBounds_toArray, List.set_cons_zero, List.set_cons_succ]
        refine wpAnyH_take (i := 7) (v := ?va7) rfl (by kernel_rfl) (by kernel_rfl) (by kernel_rfl) (fun _ _ _ h => h) (Or.inl ⟨by rfl, ?hya7⟩) (by assumption) ?rest7
        case hya7 => (intro wz hSw; (try dsimp only at hSw); go_simp; all_goals with_reducible rfl)
        try simp only [List.getElem_toArray, List.getElem_cons_succ, List.getElem_cons_zero, Act.put, List.setIfInBounds_toArray, List.set_cons_zero, List.set_cons_succ]
        refine wpAnyH_take (i := 8) (v := ?va8) rfl (by kernel_rfl) (by kernel_rfl) (by kernel_rfl) (fun _ _ _ h => h) (Or.inl ⟨by rfl, ?hya8⟩) (by assumption) ?rest8
        case hya8 => (intro wz hSw; (try dsimp only at hSw); go_simp; all_goals with_reducible rfl)
        try simp only [List.getElem_toArray, List.getElem_cons_succ, List.getElem_cons_zero, Act.put, List.setIfInBounds_toArray, List.set_cons_zero, List.set_cons_succ]
        refine wpAnyH_take (i := 9) (v := undef) rfl (by kernel_rfl) (by kernel_rfl) (by kernel_rfl) (fun _ _ _ h => h) (Or.inr ⟨by rfl, rfl⟩) (by assumption) ?_
        try simp only [List.getElem_toArray, List.getElem_cons_succ, List.getElem_cons_zero, Act.put, List.setIfInBounds_toArray, List.set_cons_zero, List.set_cons_succ]
        refine wpAnyH_take (i := 10) (v := undef) rfl (by kernel_rfl) (by kernel_rfl) (by kernel_rfl) (fun _ _ _ h => h) (Or.inr ⟨by rfl, rfl⟩) (by assumption) ?_
        try simp only [List.getElem_toArray, List.getElem_cons_succ, List.getElem_cons_zero, Act.put, List.setIfInBounds_toArray, List.set_cons_zero, List.set_cons_succ]
        refine wpAnyH_take (i := 11) (v := undef) rfl (by kernel_rfl) (by kernel_rfl) (by kernel_rfl) (fun _ _ _ h => h) (Or.inr ⟨by rfl, rfl⟩) (by assumption) ?_
        try simp only [List.getElem_toArray, List.getElem_cons_succ, List.getElem_cons_zero, Act.put, List.setIfInBounds_toArray, List.set_cons_zero, List.set_cons_succ]
        refine wpAnyH_take (i := 12) (v := undef) rfl (by kernel_rfl) (by kernel_rfl) (by kernel_rfl) (fun _ _ _ h => h) (Or.inr ⟨by rfl, rfl⟩) (by assumption) ?_
        try simp only [List.getElem_toArray, List.getElem_cons_succ, List.getElem_cons_zero, Act.put, List.setIfInBounds_toArray, List.set_cons_zero, List.set_cons_succ]
        refine wpAnyH_take (i := 13) (v := undef) rfl (by kernel_rfl) (by kernel_rfl) (by kernel_rfl) (fun _ _ _ h => h) (Or.inr ⟨by rfl, rfl⟩) (by assumption) ?_
        try simp only [List.getElem_toArray, List.getElem_cons_succ, List.getElem_cons_zero, Act.put, List.setIfInBounds_toArray, List.set_cons_zero, List.set_cons_succ]
        refine wpAnyH_take (i := 14) (v := undef) rfl (by kernel_rfl) (by kernel_rfl) (by kernel_rfl) (fun _ _ _ h => h) (Or.inr ⟨by rfl, rfl⟩) (by assumption) ?_
        try simp only [List.getElem_toArray, List.getElem_cons_succ, List.getElem_cons_zero, Act.put, List.setIfInBounds_toArray, List.set_cons_zero, List.set_cons_succ]
        refine wpAnyH_take (i := 15) (v := undef) rfl (by kernel_rfl) (by kernel_rfl) (by kernel_rfl) (fun _ _ _ h => h) (Or.inr ⟨by rfl, rfl⟩) (by assumption) ?_
        try simp only [List.getElem_toArray, List.getElem_cons_succ, List.getElem_cons_zero, Act.put, List.setIfInBounds_toArray, List.set_cons_zero, List.set_cons_succ]
        refine wpAnyH_take (i := 16) (v := undef) rfl (by kernel_rfl) (by kernel_rfl) (by kernel_rfl) (fun _ _ _ h => h) (Or.inr ⟨by rfl, rfl⟩) (by assumption) ?_
        try simp only [List.getElem_toArray, List.getElem_cons_succ, List.getElem_cons_zero, Act.put, List.setIfInBounds_toArray, List.set_cons_zero, List.set_cons_succ]
        refine wpAnyH_take (i := 17) (v := undef) rfl (by kernel_rfl) (by kernel_rfl) (by kernel_rfl) (fun _ _ _ h => h) (Or.inr ⟨by rfl, rfl⟩) (by assumption) ?_
        try simp only [List.getElem_toArray, List.getElem_cons_succ, List.getElem_cons_zero, Act.put, List.setIfInBounds_toArray, List.set_cons_zero, List.set_cons_succ]
        refine wpAnyH_take (i := 18) (v := undef) rfl (by kernel_rfl) (by kernel_rfl) (by kernel_rfl) (fun _ _ _ h => h) (Or.inr ⟨by rfl, rfl⟩) (by assumption) ?_
        try simp only [List.getElem_toArray, List.getElem_cons_succ, List.getElem_cons_zero, Act.put, List.setIfInBounds_toArray, List.set_cons_zero, List.set_cons_succ]
        refine wpAnyH_take (i := 19) (v := undef) rfl (by kernel_rfl) (by kernel_rfl) (by kernel_rfl) (fun _ _ _ h => h) (Or.inr ⟨by rfl, rfl⟩) (by assumption) ?_
        try simp only [List.getElem_toArray, List.getElem_cons_succ, List.getElem_cons_zero, Act.put, List.setIfInBounds_toArray, List.set_cons_zero, List.set_cons_succ]
        refine wpAnyH_take (i := 20) (v := undef) rfl (by kernel_rfl) (by kernel_rfl) (by kernel_rfl) (fun _ _ _ h => h) (Or.inr ⟨by rfl, rfl⟩) (by assumption) ?_
        try simp only [List.getElem_toArray, List.getElem_cons_succ, List.getElem_cons_zero, Act.put, List.setIfInBounds_toArray, List.set_cons_zero, List.set_cons_succ]
        refine wpAnyH_take (i := 21) (v := undef) rfl (by kernel_rfl) (by kernel_rfl) (by kernel_rfl) (fun _ _ _ h => h) (Or.inr ⟨by rfl, rfl⟩) (by assumption) ?_
        try simp only [List.getElem_toArray, List.getElem_cons_succ, List.getElem_cons_zero, Act.put, List.setIfInBounds_toArray, List.set_cons_zero, List.set_cons_succ]
        refine wpAnyH_take (i := 22) (v := undef) rfl (by kernel_rfl) (by kernel_rfl) (by kernel_rfl) (fun _ _ _ h => h) (Or.inr ⟨by rfl, rfl⟩) (by assumption) ?_
        try simp only [List.getElem_toArray, List.getElem_cons_succ, List.getElem_cons_zero, Act.put, List.setIfInBounds_toArray, List.set_cons_zero, List.set_cons_succ]
        refine wpAnyH_take (i := 23) (v := ?va9) rfl (by kernel_rfl) (by kernel_rfl) (by kernel_rfl) (fun _ _ _ h => h) (Or.inl ⟨by rfl, ?hya9⟩) (by assumption) ?rest9
        case hya9 => (intro wz hSw; (try dsimp only at hSw); go_simp; all_goals with_reducible rfl)
        try simp only [List.getElem_toArray, List.getElem_cons_succ, List.getElem_cons_zero, Act.put, List.setIfInBounds_toArray, List.set_cons_zero, List.set_cons_succ]
        refine wpAnyH_done (by kernel_rfl) ?_ _
        go_wp2
        go_ret
        exact ⟨by rw [E.out]; rfl, BD.out⟩
      · have HI := hide hi
        have hr := inB_true hi
        rcases Nat.eq_zero_or_pos k with rfl | hpos
        · have E := hide (okR_0 (n := m) (l := l) (by rw [← hx]; omega) (by rw [← hx]; omega))
          have NN := hide (show allR m l 1 = true by rw [allR_succ, hall.out, E.out]; rfl)
          simp only [Nat.add_zero] at c0
          clear hx hc hi hr
          go_wp2_with fail
          refine wp_region_held_drew (S := (fun w' => w'.cell? ⟨b, off, none⟩ = some (.int .i64 x))) (by kernel_rfl) ?_ (fun hHeld => ?_)
          · (try dsimp only)
            go_keep
          refine wpAnyH_take (i := 0) (v := ?va10) rfl (by kernel_rfl) (by kernel_rfl) (by kernel_rfl) (fun _ _ _ h => h) (Or.inl ⟨by rfl, ?hya10⟩) (by assumption) ?rest10
          case hya10 => (intro wz hSw; (try dsimp only at hSw); go_simp; all_goals with_reducible rfl)
          try simp only [List.getElem_toArray, List.getElem_cons_succ, List.getElem_cons_zero, Act.put, List.setIfInBounds_toArray, List.set_cons_zero, List.set_cons_succ]
          refine wpAnyH_take (i := 1) (v := ?va11) rfl (by kernel_rfl) (by kernel_rfl) (by kernel_rfl) (fun _ _ _ h => h) (Or.inl ⟨by rfl, ?hya11⟩) (by assumption) ?rest11
          case hya11 => (intro wz hSw; (try dsimp only at hSw); go_simp; all_goals with_reducible rfl)
          try simp only [List.getElem_toArray, List.getElem_cons_succ, List.getElem_cons_zero, Act.put, List.setIfInBounds_toArray, List.set_cons_zero, List.set_cons_succ]
          refine wpAnyH_take (i := 2) (v := ?va12) rfl (by kernel_rfl) (by kernel_rfl) (by kernel_rfl) (fun _ _ _ h => h) (Or.inl ⟨by rfl, ?hya12⟩) (by assumption) ?rest12
          case hya12 => (intro wz hSw; (try dsimp only at hSw); go_simp; all_goals with_reducible rfl)
          try simp only [List.getElem_toArray, List.getElem_cons_succ, List.getElem_cons_zero, Act.put, List.setIfInBounds_toArray, List.set_cons_zero, List.set_cons_succ]
          refine wpAnyH_take (i := 3) (v := ?va13) rfl (by kernel_rfl) (by kernel_rfl) (by kernel_rfl) (fun _ _ _ h => h) (Or.inl ⟨by rfl, ?hya13⟩) (by assumption) ?rest13
          case hya13 => (intro wz hSw; (try dsimp only at hSw); go_simp; all_goals with_reducible rfl)
          try simp only [List.getElem_toArray, List.getElem_cons_succ, List.getElem_cons_zero, Act.put, List.setIfInBounds_toArray, List.set_cons_zero, List.set_cons_succ]
          refine wpAnyH_take (i := 4) (v := ?va14) rfl (by kernel_rfl) (by kernel_rfl) (by kernel_rfl) (fun _ _ _ h => h) (Or.inl ⟨by rfl, ?hya14⟩) (by assumption) ?rest14
          case hya14 => (intro wz hSw; (try dsimp only at hSw); go_simp; all_goals with_reducible rfl)
          try simp only [List.getElem_toArray, List.getElem_cons_succ, List.getElem_cons_zero, Act.put, List.setIfInBounds_toArray, List.set_cons_zero, List.set_cons_succ]
          refine wpAnyH_take (i := 5) (v := ?va15) rfl (by kernel_rfl) (by kernel_rfl) (by kernel_rfl) (fun _ _ _ h => h) (Or.inl ⟨by rfl, ?hya15⟩) (by assumption) ?rest15
          case hya15 => (intro wz hSw; (try dsimp only at hSw); go_simp; all_goals with_reducible rfl)
          try simp only [List.getElem_toArray, List.getElem_cons_succ, List.getElem_cons_zero, Act.put, List.setIfInBounds_toArray, List.set_cons_zero, List.set_cons_succ]
          refine wpAnyH_ready (rs := [6]) (by kernel_rfl) (by simp) ?_
          refine AllReadyH.cons rfl (fun K hK => ?_) AllReadyH.nil
          go_simp
          (go_at_call 122; (with_reducible refine (l01In_any x 0 (m - 1) _).mono ?_); rintro ee w1 ⟨rfl, rfl⟩; rw [HI.out])
          go_wp2_with fail
          refine hK.out _ _ ?_ (fun hHeld6 => ?_)
          · (try dsimp only)
            go_keep
          clear hK K
          try simp only [List.getElem_toArray, List.getElem_cons_succ, List.getElem_cons_zero, Act.put, List.setIfInBounds_toArray, List.set_cons_zero, List.set_cons_succ]
          refine wpAnyH_take (i := 7) (v := ?va16) rfl (by kernel_rfl) (by kernel_rfl) (by kernel_rfl) (fun _ _ _ h => h) (Or.inl ⟨by rfl, ?hya16⟩) (by assumption) ?rest16
          case hya16 => (intro wz hSw; (try dsimp only at hSw); go_simp; all_goals with_reducible rfl)
          try simp only [List.getElem_toArray, List.getElem_cons_succ, List.getElem_cons_zero, Act.put, List.setIfInBounds_toArray, List.set_cons_zero, List.set_cons_succ]
          refine wpAnyH_take (i := 8) (v := ?va17) rfl (by kernel_rfl) (by kernel_rfl) (by kernel_rfl) (fun _ _ _ h => h) (Or.inl ⟨by rfl, ?hya17⟩) (by assumption) ?rest17
          case hya17 => (intro wz hSw; (try dsimp only at hSw); go_simp; all_goals with_reducible rfl)
          try simp only [List.getElem_toArray, List.getElem_cons_succ, List.getElem_cons_zero, Act.put, List.setIfInBounds_toArray, List.set_cons_zero, List.set_cons_succ]
          refine wpAnyH_take (i := 9) (v := ?va18) rfl (by kernel_rfl) (by kernel_rfl) (by kernel_rfl) (fun _ _ _ h => h) (Or.inl ⟨by rfl, ?hya18⟩) (by assumption) ?rest18
          case hya18 => (intro wz hSw; (try dsimp only at hSw); go_simp; all_goals with_reducible rfl)
          try simp only [List.getElem_toArray, List.getElem_cons_succ, List.getElem_cons_zero, Act.put, List.setIfInBounds_toArray, List.set_cons_zero, List.set_cons_succ]
          refine wpAnyH_take (i := 10) (v := ?va19) rfl (by kernel_rfl) (by kernel_rfl) (by kernel_rfl) (fun _ _ _ h => h) (Or.inl ⟨by rfl, ?hya19⟩) (by assumption) ?rest19
          case hya19 => (intro wz hSw; (try dsimp only at hSw); go_simp; all_goals with_reducible rfl)
          try simp only [List.getElem_toArray, List.getElem_cons_succ, List.getElem_cons_zero, Act.put, List.setIfInBounds_toArray, List.set_cons_zero, List.set_cons_succ]
          refine wpAnyH_take (i := 11) (v := ?va20) rfl (by kernel_rfl) (by kernel_rfl) (by kernel_rfl) (fun _ _ _ h => h) (Or.inl ⟨by rfl, ?hya20⟩) (by assumption) ?rest20
          case hya20 => (intro wz hSw; (try dsimp only at hSw); go_simp; all_goals with_reducible rfl)
          try simp only [List.getElem_toArray, List.getElem_cons_succ, List.getElem_cons_zero, Act.put, List.setIfInBounds_toArray, List.set_cons_zero, List.set_cons_succ]
          refine wpAnyH_take (i := 12) (v := undef) rfl (by kernel_rfl) (by kernel_rfl) (by kernel_rfl) (fun _ _ _ h => h) (Or.inr ⟨by rfl, rfl⟩) (by assumption) ?_
          try simp only [List.getElem_toArray, List.getElem_cons_succ, List.getElem_cons_zero, Act.put, List.setIfInBounds_toArray, List.set_cons_zero, List.set_cons_succ]
          refine wpAnyH_take (i := 13) (v := undef) rfl (by kernel_rfl) (by kernel_rfl) (by kernel_rfl) (fun _ _ _ h => h) (Or.inr ⟨by rfl, rfl⟩) (by assumption) ?_
          try simp only [List.getElem_toArray, List.getElem_cons_succ, List.getElem_cons_zero, Act.put, List.setIfInBounds_toArray, List.set_cons_zero, List.set_cons_succ]
          refine wpAnyH_take (i := 14) (v := undef) rfl (by kernel_rfl) (by kernel_rfl) (by kernel_rfl) (fun _ _ _ h => h) (Or.inr ⟨by rfl, rfl⟩) (by assumption) ?_
          try simp only [List.getElem_toArray, List.getElem_cons_succ, List.getElem_cons_zero, Act.put, List.setIfInBounds_toArray, List.set_cons_zero, List.set_cons_succ]
          refine wpAnyH_take (i := 15) (v := undef) rfl (by kernel_rfl) (by kernel_rfl) (by kernel_rfl) (fun _ _ _ h => h) (Or.inr ⟨by rfl, rfl⟩) (by assumption) ?_
          try simp only [List.getElem_toArray, List.getElem_cons_succ, List.getElem_cons_zero, Act.put, List.setIfInBounds_toArray, List.set_cons_zero, List.set_cons_succ]
          refine wpAnyH_take (i := 16) (v := undef) rfl (by kernel_rfl) (by kernel_rfl) (by kernel_rfl) (fun _ _ _ h => h) (Or.inr ⟨by rfl, rfl⟩) (by assumption) ?_
          try simp only [List.getElem_toArray, List.getElem_cons_succ, List.getElem_cons_zero, Act.put, List.setIfInBounds_toArray, List.set_cons_zero, List.set_cons_succ]
          refine wpAnyH_take (i := 17) (v := undef) rfl (by kernel_rfl) (by kernel_rfl) (by kernel_rfl) (fun _ _ _ h => h) (Or.inr ⟨by rfl, rfl⟩) (by assumption) ?_
          try simp only [List.getElem_toArray, List.getElem_cons_succ, List.getElem_cons_zero, Act.put, List.setIfInBounds_toArray, List.set_cons_zero, List.set_cons_succ]
          refine wpAnyH_take (i := 18) (v := undef) rfl (by kernel_rfl) (by kernel_rfl) (by kernel_rfl) (fun _ _ _ h => h) (Or.inr ⟨by rfl, rfl⟩) (by assumption) ?_
          try simp only [List.getElem_toArray, List.getElem_cons_succ, List.getElem_cons_zero, Act.put, List.setIfInBounds_toArray, List.set_cons_zero, List.set_cons_succ]
          refine wpAnyH_take (i := 19) (v := undef) rfl (by kernel_rfl) (by kernel_rfl) (by kernel_rfl) (fun _ _ _ h => h) (Or.inr ⟨by rfl, rfl⟩) (by assumption) ?_
          try simp only [List.getElem_toArray, List.getElem_cons_succ, List.getElem_cons_zero, Act.put, List.setIfInBounds_toArray, List.set_cons_zero, List.set_cons_succ]
          refine wpAnyH_take (i := 20) (v := undef) rfl (by kernel_rfl) (by kernel_rfl) (by kernel_rfl) (fun _ _ _ h => h) (Or.inr ⟨by rfl, rfl⟩) (by assumption) ?_
          try simp only [List.getElem_toArray, List.getElem_cons_succ, List.getElem_cons_zero, Act.put, List.setIfInBounds_toArray, List.set_cons_zero, List.set_cons_succ]
          refine wpAnyH_take (i := 21) (v := undef) rfl (by kernel_rfl) (by kernel_rfl) (by kernel_rfl) (fun _ _ _ h => h) (Or.inr ⟨by rfl, rfl⟩) (by assumption) ?_
          try simp only [List.getElem_toArray, List.getElem_cons_succ, List.getElem_cons_zero, Act.put, List.setIfInBounds_toArray, List.set_cons_zero, List.set_cons_succ]
          refine wpAnyH_take (i := 22) (v := ?va21) rfl (by kernel_rfl) (by kernel_rfl) (by kernel_rfl) (fun _ _ _ h => h) (Or.inl ⟨by rfl, ?hya21⟩) (by assumption) ?rest21
          case hya21 => (intro wz hSw; (try dsimp only at hSw); go_simp; all_goals with_reducible rfl)
          try simp only [List.getElem_toArray, List.getElem_cons_succ, List.getElem_cons_zero, Act.put, List.setIfInBounds_toArray, List.set_cons_zero, List.set_cons_succ]
          refine wpAnyH_take (i := 23) (v := ?va22) rfl (by kernel_rfl) (by kernel_rfl) (by kernel_rfl) (fun _ _ _ h => h) (Or.inl ⟨by rfl, ?hya22⟩) (by assumption) ?rest22
          case hya22 => (intro wz hSw; (try dsimp only at hSw); go_simp; all_goals with_reducible rfl)
          try simp only [List.getElem_toArray, List.getElem_cons_succ, List.getElem_cons_zero, Act.put, List.setIfInBounds_toArray, List.set_cons_zero, List.set_cons_succ]
          refine wpAnyH_done (by kernel_rfl) ?_ _
          go_wp2_with fail
          go_roundw
          case rel => exact ⟨1, by omega, by go_num, NN, BD⟩
          case measure => simp [intOf]; omega
        · obtain ⟨j, rfl⟩ : ∃ j, k = j + 1 := ⟨k - 1, by omega⟩
          have p0 := hc j (by omega)
          obtain ⟨y, hy⟩ : ∃ y, y = nth l j := ⟨_, rfl⟩
          rw [← hy] at p0
          have ei : (((j + 1 : Nat) : Int) - 1) = (j : Int) := by omega
          have z1 : (0 : Int) ≤ (j : Int) := by omega
          have z2 : (j : Int) < (n : Int) := by omega
          have z3 : (0 : Int) ≤ (j : Int) + 1 := by omega
          have z4 : (j : Int) + 1 < (n : Int) := by omega
          have tg : decide ((0 : Int) < ((j + 1 : Nat) : Int)) = true := decide_eq_true (by omega)
          have tw : IntKind.i64.wrap (j : Int) = (j : Int) := IntWalk.i64_in _ ⟨by omega, by omega⟩
          by_cases h3 : x ≤ y
          · have E := hide (risB_bad (n := m) HL.out (okR_dn (by rw [← hx, ← hy]; exact h3)))
            have t3 : decide (x ≤ y) = true := decide_eq_true h3
            clear hx hy hc hi hr h3
            go_wp2_with fail
            refine wp_region_held_drew (S := (fun w' => w'.cell? ⟨b, off + (j + 1), none⟩ = some (.int .i64 x) ∧ w'.cell? ⟨b, off + j, none⟩ = some (.int .i64 y))) (by kernel_rfl) ?_ (fun hHeld => ?_)
            · (try dsimp only)
              go_keep
            refine wpAnyH_take (i := 0) (v := ?va23) rfl (by kernel_rfl) (by kernel_rfl) (by kernel_rfl) (fun _ _ _ h => h) (Or.inl ⟨by rfl, ?hya23⟩) (by assumption) ?rest23
            case hya23 => (intro wz hSw; (try dsimp only at hSw); go_simp; all_goals with_reducible rfl)
            try simp only [List.getElem_toArray, List.getElem_cons_succ, List.getElem_cons_zero, Act.put, List.setIfInBounds_toArray, List.set_cons_zero, List.set_cons_succ]
            refine wpAnyH_take (i := 1) (v := ?va24) rfl (by kernel_rfl) (by kernel_rfl) (by kernel_rfl) (fun _ _ _ h => h) (Or.inl ⟨by rfl, ?hya24⟩) (by assumption) ?rest24
            case hya24 => (intro wz hSw; (try dsimp only at hSw); go_simp; all_goals with_reducible rfl)
            try simp only [List.getElem_toArray, List.getElem_cons_succ, List.getElem_cons_zero, Act.put, List.setIfInBounds_toArray, List.set_cons_zero, List.set_cons_succ]
            refine wpAnyH_take (i := 2) (v := ?va25) rfl (by kernel_rfl) (by kernel_rfl) (by kernel_rfl) (fun _ _ _ h => h) (Or.inl ⟨by rfl, ?hya25⟩) (by assumption) ?rest25
            case hya25 => (intro wz hSw; (try dsimp only at hSw); go_simp; all_goals with_reducible rfl)
            try simp only [List.getElem_toArray, List.getElem_cons_succ, List.getElem_cons_zero, Act.put, List.setIfInBounds_toArray, List.set_cons_zero, List.set_cons_succ]
            refine wpAnyH_take (i := 3) (v := ?va26) rfl (by kernel_rfl) (by kernel_rfl) (by kernel_rfl) (fun _ _ _ h => h) (Or.inl ⟨by rfl, ?hya26⟩) (by assumption) ?rest26
            case hya26 => (intro wz hSw; (try dsimp only at hSw); go_simp; all_goals with_reducible rfl)
            try simp only [List.getElem_toArray, List.getElem_cons_succ, List.getElem_cons_zero, Act.put, List.setIfInBounds_toArray, List.set_cons_zero, List.set_cons_succ]
            refine wpAnyH_take (i := 4) (v := ?va27) rfl (by kernel_rfl) (by kernel_rfl) (by kernel_rfl) (fun _ _ _ h => h) (Or.inl ⟨by rfl, ?hya27⟩) (by assumption) ?rest27
            case hya27 => (intro wz hSw; (try dsimp only at hSw); go_simp; all_goals with_reducible rfl)
            try simp only [List.getElem_toArray, List.getElem_cons_succ, List.getElem_cons_zero, Act.put, List.setIfInBounds_toArray, List.set_cons_zero, List.set_cons_succ]
            refine wpAnyH_take (i := 5) (v := ?va28) rfl (by kernel_rfl) (by kernel_rfl) (by kernel_rfl) (fun _ _ _ h => h) (Or.inl ⟨by rfl, ?hya28⟩) (by assumption) ?rest28
            case hya28 => (intro wz hSw; (try dsimp only at hSw); go_simp; all_goals with_reducible rfl)
            try simp only [List.getElem_toArray, List.getElem_cons_succ, List.getElem_cons_zero, Act.put, List.setIfInBounds_toArray, List.set_cons_zero, List.set_cons_succ]
            refine wpAnyH_ready (rs := [6]) (by kernel_rfl) (by simp) ?_
            refine AllReadyH.cons rfl (fun K hK => ?_) AllReadyH.nil
            go_simp
            (go_at_call 122; (with_reducible refine (l01In_any x 0 (m - 1) _).mono ?_); rintro ee w1 ⟨rfl, rfl⟩; rw [HI.out])
            go_wp2_with fail
            refine hK.out _ _ ?_ (fun hHeld6 => ?_)
            · (try dsimp only)
              go_keep
            clear hK K
            try simp only [List.getElem_toArray, List.getElem_cons_succ, List.getElem_cons_zero, Act.put, List.setIfInBounds_toArray, List.set_cons_zero, List.set_cons_succ]
            refine wpAnyH_take (i := 7) (v := ?va29) rfl (by kernel_rfl) (by kernel_rfl) (by kernel_rfl) (fun _ _ _ h => h) (Or.inl ⟨by rfl, ?hya29⟩) (by assumption) ?rest29
            case hya29 => (intro wz hSw; (try dsimp only at hSw); go_simp; all_goals with_reducible rfl)
            try simp only [List.getElem_toArray, List.getElem_cons_succ, List.getElem_cons_zero, Act.put, List.setIfInBounds_toArray, List.set_cons_zero, List.set_cons_succ]
            refine wpAnyH_take (i := 8) (v := ?va30) rfl (by kernel_rfl) (by kernel_rfl) (by kernel_rfl) (fun _ _ _ h => h) (Or.inl ⟨by rfl, ?hya30⟩) (by assumption) ?rest30
            case hya30 => (intro wz hSw; (try dsimp only at hSw); go_simp; all_goals with_reducible rfl)
            try simp only [List.getElem_toArray, List.getElem_cons_succ, List.getElem_cons_zero, Act.put, List.setIfInBounds_toArray, List.set_cons_zero, List.set_cons_succ]
            refine wpAnyH_take (i := 9) (v := ?va31) rfl (by kernel_rfl) (by kernel_rfl) (by kernel_rfl) (fun _ _ _ h => h) (Or.inl ⟨by rfl, ?hya31⟩) (by assumption) ?rest31
            case hya31 => (intro wz hSw; (try dsimp only at hSw); go_simp; all_goals with_reducible rfl)
            try simp only [List.getElem_toArray, List.getElem_cons_succ, List.getElem_cons_zero, Act.put, List.setIfInBounds_toArray, List.set_cons_zero, List.set_cons_succ]
            refine wpAnyH_take (i := 10) (v := ?va32) rfl (by kernel_rfl) (by kernel_rfl) (by kernel_rfl) (fun _ _ _ h => h) (Or.inl ⟨by rfl, ?hya32⟩) (by assumption) ?rest32
            case hya32 => (intro wz hSw; (try dsimp only at hSw); go_simp; all_goals with_reducible rfl)
            try simp only [List.getElem_toArray, List.getElem_cons_succ, List.getElem_cons_zero, Act.put, List.setIfInBounds_toArray, List.set_cons_zero, List.set_cons_succ]
            refine wpAnyH_take (i := 11) (v := ?va33) rfl (by kernel_rfl) (by kernel_rfl) (by kernel_rfl) (fun _ _ _ h => h) (Or.inl ⟨by rfl, ?hya33⟩) (by assumption) ?rest33
            case hya33 => (intro wz hSw; (try dsimp only at hSw); go_simp; all_goals with_reducible rfl)
            try simp only [List.getElem_toArray, List.getElem_cons_succ, List.getElem_cons_zero, Act.put, List.setIfInBounds_toArray, List.set_cons_zero, List.set_cons_succ]
            refine wpAnyH_take (i := 12) (v := ?va34) rfl (by kernel_rfl) (by kernel_rfl) (by kernel_rfl) (fun _ _ _ h => h) (Or.inl ⟨by rfl, ?hya34⟩) (by assumption) ?rest34
            case hya34 => (intro wz hSw; (try dsimp only at hSw); go_simp; all_goals with_reducible rfl)
            try simp only [List.getElem_toArray, List.getElem_cons_succ, List.getElem_cons_zero, Act.put, List.setIfInBounds_toArray, List.set_cons_zero, List.set_cons_succ]
            refine wpAnyH_take (i := 13) (v := ?va35) rfl (by kernel_rfl) (by kernel_rfl) (by kernel_rfl) (fun _ _ _ h => h) (Or.inl ⟨by rfl, ?hya35⟩) (by assumption) ?rest35
            case hya35 => (intro wz hSw; (try dsimp only at hSw); go_simp; all_goals with_reducible rfl)
            try simp only [List.getElem_toArray, List.getElem_cons_succ, List.getElem_cons_zero, Act.put, List.setIfInBounds_toArray, List.set_cons_zero, List.set_cons_succ]
            refine wpAnyH_take (i := 14) (v := ?va36) rfl (by kernel_rfl) (by kernel_rfl) (by kernel_rfl) (fun _ _ _ h => h) (Or.inl ⟨by rfl, ?hya36⟩) (by assumption) ?rest36
            case hya36 => (intro wz hSw; (try dsimp only at hSw); go_simp; all_goals with_reducible rfl)
            try simp only [List.getElem_toArray, List.getElem_cons_succ, List.getElem_cons_zero, Act.put, List.setIfInBounds_toArray, List.set_cons_zero, List.set_cons_succ]
            refine wpAnyH_take (i := 15) (v := ?va37) rfl (by kernel_rfl) (by kernel_rfl) (by kernel_rfl) (fun _ _ _ h => h) (Or.inl ⟨by rfl, ?hya37⟩) (by assumption) ?rest37
            case hya37 => (intro wz hSw; (try dsimp only at hSw); go_simp; all_goals with_reducible rfl)
            try simp only [List.getElem_toArray, List.getElem_cons_succ, List.getElem_cons_zero, Act.put, List.setIfInBounds_toArray, List.set_cons_zero, List.set_cons_succ]
            refine wpAnyH_take (i := 16) (v := ?va38) rfl (by kernel_rfl) (by kernel_rfl) (by kernel_rfl) (fun _ _ _ h => h) (Or.inl ⟨by rfl, ?hya38⟩) (by assumption) ?rest38
            case hya38 => (intro wz hSw; (try dsimp only at hSw); go_simp; all_goals with_reducible rfl)
            try simp only [List.getElem_toArray, List.getElem_cons_succ, List.getElem_cons_zero, Act.put, List.setIfInBounds_toArray, List.set_cons_zero, List.set_cons_succ]
            refine wpAnyH_take (i := 17) (v := ?va39) rfl (by kernel_rfl) (by kernel_rfl) (by kernel_rfl) (fun _ _ _ h => h) (Or.inl ⟨by rfl, ?hya39⟩) (by assumption) ?rest39
            case hya39 => (intro wz hSw; (try dsimp only at hSw); go_simp; all_goals with_reducible rfl)
            try simp only [List.getElem_toArray, List.getElem_cons_succ, List.getElem_cons_zero, Act.put, List.setIfInBounds_toArray, List.set_cons_zero, List.set_cons_succ]
            refine wpAnyH_take (i := 18) (v := ?va40) rfl (by kernel_rfl) (by kernel_rfl) (by kernel_rfl) (fun _ _ _ h => h) (Or.inl ⟨by rfl, ?hya40⟩) (by assumption) ?rest40
            case hya40 => (intro wz hSw; (try dsimp only at hSw); go_simp; all_goals with_reducible rfl)
            try simp only [List.getElem_toArray, List.getElem_cons_succ, List.getElem_cons_zero, Act.put, List.setIfInBounds_toArray, List.set_cons_zero, List.set_cons_succ]
            refine wpAnyH_take (i := 19) (v := ?va41) rfl (by kernel_rfl) (by kernel_rfl) (by kernel_rfl) (fun _ _ _ h => h) (Or.inl ⟨by rfl, ?hya41⟩) (by assumption) ?rest41
            case hya41 => (intro wz hSw; (try dsimp only at hSw); go_simp; all_goals with_reducible rfl)
            try simp only [List.getElem_toArray, List.getElem_cons_succ, List.getElem_cons_zero, Act.put, List.setIfInBounds_toArray, List.set_cons_zero, List.set_cons_succ]
            refine wpAnyH_take (i := 20) (v := ?va42) rfl (by kernel_rfl) (by kernel_rfl) (by kernel_rfl) (fun _ _ _ h => h) (Or.inl ⟨by rfl, ?hya42⟩) (by assumption) ?rest42
            case hya42 => (intro wz hSw; (try dsimp only at hSw); go_simp; all_goals with_reducible rfl)
            try simp only [List.getElem_toArray, List.getElem_cons_succ, List.getElem_cons_zero, Act.put, List.setIfInBounds_toArray, List.set_cons_zero, List.set_cons_succ]
            refine wpAnyH_take (i := 21) (v := ?va43) rfl (by kernel_rfl) (by kernel_rfl) (by kernel_rfl) (fun _ _ _ h => h) (Or.inl ⟨by rfl, ?hya43⟩) (by assumption) ?rest43
            case hya43 => (intro wz hSw; (try dsimp only at hSw); go_simp; all_goals with_reducible rfl)
            try simp only [List.getElem_toArray, List.getElem_cons_succ, List.getElem_cons_zero, Act.put, List.setIfInBounds_toArray, List.set_cons_zero, List.set_cons_succ]
            refine wpAnyH_take (i := 22) (v := ?va44) rfl (by kernel_rfl) (by kernel_rfl) (by kernel_rfl) (fun _ _ _ h => h) (Or.inl ⟨by rfl, ?hya44⟩) (by assumption) ?rest44
            case hya44 => (intro wz hSw; (try dsimp only at hSw); go_simp; all_goals with_reducible rfl)
            try simp only [List.getElem_toArray, List.getElem_cons_succ, List.getElem_cons_zero, Act.put, List.setIfInBounds_toArray, List.set_cons_zero, List.set_cons_succ]
            refine wpAnyH_take (i := 23) (v := ?va45) rfl (by kernel_rfl) (by kernel_rfl) (by kernel_rfl) (fun _ _ _ h => h) (Or.inl ⟨by rfl, ?hya45⟩) (by assumption) ?rest45
            case hya45 => (intro wz hSw; (try dsimp only at hSw); go_simp; all_goals with_reducible rfl)
            try simp only [List.getElem_toArray, List.getElem_cons_succ, List.getElem_cons_zero, Act.put, List.setIfInBounds_toArray, List.set_cons_zero, List.set_cons_succ]
            refine wpAnyH_done (by kernel_rfl) ?_ _
            go_wp2
            go_ret
            exact ⟨by rw [E.out]; rfl, BD.out⟩
          · have E := hide (okR_s (n := m) (l := l) (k := j) (by rw [← hx]; omega) (by rw [← hx]; omega) (by rw [← hx, ← hy]; omega))
            have t3 : decide (x ≤ y) = false := decide_eq_false h3
            have NN := hide (show allR m l (j + 1 + 1) = true by rw [allR_succ, hall.out, E.out]; rfl)
            clear hx hy hc hi hr h3
            go_wp2_with fail
            refine wp_region_held_drew (S := (fun w' => w'.cell? ⟨b, off + (j + 1), none⟩ = some (.int .i64 x) ∧ w'.cell? ⟨b, off + j, none⟩ = some (.int .i64 y))) (by kernel_rfl) ?_ (fun hHeld => ?_)
            · (try dsimp only)
              go_keep
            refine wpAnyH_take (i := 0) (v := ?va46) rfl (by kernel_rfl) (by kernel_rfl) (by kernel_rfl) (fun _ _ _ h => h) (Or.inl ⟨by rfl, ?hya46⟩) (by assumption) ?rest46
            case hya46 => (intro wz hSw; (try dsimp only at hSw); go_simp; all_goals with_reducible rfl)
            try simp only [List.getElem_toArray, List.getElem_cons_succ, List.getElem_cons_zero, Act.put, List.setIfInBounds_toArray, List.set_cons_zero, List.set_cons_succ]
            refine wpAnyH_take (i := 1) (v := ?va47) rfl (by kernel_rfl) (by kernel_rfl) (by kernel_rfl) (fun _ _ _ h => h) (Or.inl ⟨by rfl, ?hya47⟩) (by assumption) ?rest47
            case hya47 => (intro wz hSw; (try dsimp only at hSw); go_simp; all_goals with_reducible rfl)
            try simp only [List.getElem_toArray, List.getElem_cons_succ, List.getElem_cons_zero, Act.put, List.setIfInBounds_toArray, List.set_cons_zero, List.set_cons_succ]
            refine wpAnyH_take (i := 2) (v := ?va48) rfl (by kernel_rfl) (by kernel_rfl) (by kernel_rfl) (fun _ _ _ h => h) (Or.inl ⟨by rfl, ?hya48⟩) (by assumption) ?rest48
            case hya48 => (intro wz hSw; (try dsimp only at hSw); go_simp; all_goals with_reducible rfl)
            try simp only [List.getElem_toArray, List.getElem_cons_succ, List.getElem_cons_zero, Act.put, List.setIfInBounds_toArray, List.set_cons_zero, List.set_cons_succ]
            refine wpAnyH_take (i := 3) (v := ?va49) rfl (by kernel_rfl) (by kernel_rfl) (by kernel_rfl) (fun _ _ _ h => h) (Or.inl ⟨by rfl, ?hya49⟩) (by assumption) ?rest49
            case hya49 => (intro wz hSw; (try dsimp only at hSw); go_simp; all_goals with_reducible rfl)
            try simp only [List.getElem_toArray, List.getElem_cons_succ, List.getElem_cons_zero, Act.put, List.setIfInBounds_toArray, List.set_cons_zero, List.set_cons_succ]
            refine wpAnyH_take (i := 4) (v := ?va50) rfl (by kernel_rfl) (by kernel_rfl) (by kernel_rfl) (fun _ _ _ h => h) (Or.inl ⟨by rfl, ?hya50⟩) (by assumption) ?rest50
            case hya50 => (intro wz hSw; (try dsimp only at hSw); go_simp; all_goals with_reducible rfl)
            try simp only [List.getElem_toArray, List.getElem_cons_succ, List.getElem_cons_zero, Act.put, List.setIfInBounds_toArray, List.set_cons_zero, List.set_cons_succ]
            refine wpAnyH_take (i := 5) (v := ?va51) rfl (by kernel_rfl) (by kernel_rfl) (by kernel_rfl) (fun _ _ _ h => h) (Or.inl ⟨by rfl, ?hya51⟩) (by assumption) ?rest51
            case hya51 => (intro wz hSw; (try dsimp only at hSw); go_simp; all_goals with_reducible rfl)
            try simp only [List.getElem_toArray, List.getElem_cons_succ, List.getElem_cons_zero, Act.put, List.setIfInBounds_toArray, List.set_cons_zero, List.set_cons_succ]
            refine wpAnyH_ready (rs := [6]) (by kernel_rfl) (by simp) ?_
            refine AllReadyH.cons rfl (fun K hK => ?_) AllReadyH.nil
            go_simp
            (go_at_call 122; (with_reducible refine (l01In_any x 0 (m - 1) _).mono ?_); rintro ee w1 ⟨rfl, rfl⟩; rw [HI.out])
            go_wp2_with fail
            refine hK.out _ _ ?_ (fun hHeld6 => ?_)
            · (try dsimp only)
              go_keep
            clear hK K
            try simp only [List.getElem_toArray, List.getElem_cons_succ, List.getElem_cons_zero, Act.put, List.setIfInBounds_toArray, List.set_cons_zero, List.set_cons_succ]
            refine wpAnyH_take (i := 7) (v := ?va52) rfl (by kernel_rfl) (by kernel_rfl) (by kernel_rfl) (fun _ _ _ h => h) (Or.inl ⟨by rfl, ?hya52⟩) (by assumption) ?rest52
            case hya52 => (intro wz hSw; (try dsimp only at hSw); go_simp; all_goals with_reducible rfl)
            try simp only [List.getElem_toArray, List.getElem_cons_succ, List.getElem_cons_zero, Act.put, List.setIfInBounds_toArray, List.set_cons_zero, List.set_cons_succ]
            refine wpAnyH_take (i := 8) (v := ?va53) rfl (by kernel_rfl) (by kernel_rfl) (by kernel_rfl) (fun _ _ _ h => h) (Or.inl ⟨by rfl, ?hya53⟩) (by assumption) ?rest53
            case hya53 => (intro wz hSw; (try dsimp only at hSw); go_simp; all_goals with_reducible rfl)
            try simp only [List.getElem_toArray, List.getElem_cons_succ, List.getElem_cons_zero, Act.put, List.setIfInBounds_toArray, List.set_cons_zero, List.set_cons_succ]
            refine wpAnyH_take (i := 9) (v := ?va54) rfl (by kernel_rfl) (by kernel_rfl) (by kernel_rfl) (fun _ _ _ h => h) (Or.inl ⟨by rfl, ?hya54⟩) (by assumption) ?rest54
            case hya54 => (intro wz hSw; (try dsimp only at hSw); go_simp; all_goals with_reducible rfl)
            try simp only [List.getElem_toArray, List.getElem_cons_succ, List.getElem_cons_zero, Act.put, List.setIfInBounds_toArray, List.set_cons_zero, List.set_cons_succ]
            refine wpAnyH_take (i := 10) (v := ?va55) rfl (by kernel_rfl) (by kernel_rfl) (by kernel_rfl) (fun _ _ _ h => h) (Or.inl ⟨by rfl, ?hya55⟩) (by assumption) ?rest55
            case hya55 => (intro wz hSw; (try dsimp only at hSw); go_simp; all_goals with_reducible rfl)
            try simp only [List.getElem_toArray, List.getElem_cons_succ, List.getElem_cons_zero, Act.put, List.setIfInBounds_toArray, List.set_cons_zero, List.set_cons_succ]
            refine wpAnyH_take (i := 11) (v := ?va56) rfl (by kernel_rfl) (by kernel_rfl) (by kernel_rfl) (fun _ _ _ h => h) (Or.inl ⟨by rfl, ?hya56⟩) (by assumption) ?rest56
            case hya56 => (intro wz hSw; (try dsimp only at hSw); go_simp; all_goals with_reducible rfl)
            try simp only [List.getElem_toArray, List.getElem_cons_succ, List.getElem_cons_zero, Act.put, List.setIfInBounds_toArray, List.set_cons_zero, List.set_cons_succ]
            refine wpAnyH_take (i := 12) (v := ?va57) rfl (by kernel_rfl) (by kernel_rfl) (by kernel_rfl) (fun _ _ _ h => h) (Or.inl ⟨by rfl, ?hya57⟩) (by assumption) ?rest57
            case hya57 => (intro wz hSw; (try dsimp only at hSw); go_simp; all_goals with_reducible rfl)
            try simp only [List.getElem_toArray, List.getElem_cons_succ, List.getElem_cons_zero, Act.put, List.setIfInBounds_toArray, List.set_cons_zero, List.set_cons_succ]
            refine wpAnyH_take (i := 13) (v := ?va58) rfl (by kernel_rfl) (by kernel_rfl) (by kernel_rfl) (fun _ _ _ h => h) (Or.inl ⟨by rfl, ?hya58⟩) (by assumption) ?rest58
            case hya58 => (intro wz hSw; (try dsimp only at hSw); go_simp; all_goals with_reducible rfl)
            try simp only [List.getElem_toArray, List.getElem_cons_succ, List.getElem_cons_zero, Act.put, List.setIfInBounds_toArray, List.set_cons_zero, List.set_cons_succ]
            refine wpAnyH_take (i := 14) (v := ?va59) rfl (by kernel_rfl) (by kernel_rfl) (by kernel_rfl) (fun _ _ _ h => h) (Or.inl ⟨by rfl, ?hya59⟩) (by assumption) ?rest59
            case hya59 => (intro wz hSw; (try dsimp only at hSw); go_simp; all_goals with_reducible rfl)
            try simp only [List.getElem_toArray, List.getElem_cons_succ, List.getElem_cons_zero, Act.put, List.setIfInBounds_toArray, List.set_cons_zero, List.set_cons_succ]
            refine wpAnyH_take (i := 15) (v := ?va60) rfl (by kernel_rfl) (by kernel_rfl) (by kernel_rfl) (fun _ _ _ h => h) (Or.inl ⟨by rfl, ?hya60⟩) (by assumption) ?rest60
            case hya60 => (intro wz hSw; (try dsimp only at hSw); go_simp; all_goals with_reducible rfl)
            try simp only [List.getElem_toArray, List.getElem_cons_succ, List.getElem_cons_zero, Act.put, List.setIfInBounds_toArray, List.set_cons_zero, List.set_cons_succ]
            refine wpAnyH_take (i := 16) (v := ?va61) rfl (by kernel_rfl) (by kernel_rfl) (by kernel_rfl) (fun _ _ _ h => h) (Or.inl ⟨by rfl, ?hya61⟩) (by assumption) ?rest61
            case hya61 => (intro wz hSw; (try dsimp only at hSw); go_simp; all_goals with_reducible rfl)
            try simp only [List.getElem_toArray, List.getElem_cons_succ, List.getElem_cons_zero, Act.put, List.setIfInBounds_toArray, List.set_cons_zero, List.set_cons_succ]
            refine wpAnyH_take (i := 17) (v := ?va62) rfl (by kernel_rfl) (by kernel_rfl) (by kernel_rfl) (fun _ _ _ h => h) (Or.inl ⟨by rfl, ?hya62⟩) (by assumption) ?rest62
            case hya62 => (intro wz hSw; (try dsimp only at hSw); go_simp; all_goals with_reducible rfl)
            try simp only [List.getElem_toArray, List.getElem_cons_succ, List.getElem_cons_zero, Act.put, List.setIfInBounds_toArray, List.set_cons_zero, List.set_cons_succ]
            refine wpAnyH_take (i := 18) (v := ?va63) rfl (by kernel_rfl) (by kernel_rfl) (by kernel_rfl) (fun _ _ _ h => h) (Or.inl ⟨by rfl, ?hya63⟩) (by assumption) ?rest63
            case hya63 => (intro wz hSw; (try dsimp only at hSw); go_simp; all_goals with_reducible rfl)
            try simp only [List.getElem_toArray, List.getElem_cons_succ, List.getElem_cons_zero, Act.put, List.setIfInBounds_toArray, List.set_cons_zero, List.set_cons_succ]
            refine wpAnyH_take (i := 19) (v := ?va64) rfl (by kernel_rfl) (by kernel_rfl) (by kernel_rfl) (fun _ _ _ h => h) (Or.inl ⟨by rfl, ?hya64⟩) (by assumption) ?rest64
            case hya64 => (intro wz hSw; (try dsimp only at hSw); go_simp; all_goals with_reducible rfl)
            try simp only [List.getElem_toArray, List.getElem_cons_succ, List.getElem_cons_zero, Act.put, List.setIfInBounds_toArray, List.set_cons_zero, List.set_cons_succ]
            refine wpAnyH_take (i := 20) (v := ?va65) rfl (by kernel_rfl) (by kernel_rfl) (by kernel_rfl) (fun _ _ _ h => h) (Or.inl ⟨by rfl, ?hya65⟩) (by assumption) ?rest65
            case hya65 => (intro wz hSw; (try dsimp only at hSw); go_simp; all_goals with_reducible rfl)
            try simp only [List.getElem_toArray, List.getElem_cons_succ, List.getElem_cons_zero, Act.put, List.setIfInBounds_toArray, List.set_cons_zero, List.set_cons_succ]
            refine wpAnyH_take (i := 21) (v := ?va66) rfl (by kernel_rfl) (by kernel_rfl) (by kernel_rfl) (fun _ _ _ h => h) (Or.inl ⟨by rfl, ?hya66⟩) (by assumption) ?rest66
            case hya66 => (intro wz hSw; (try dsimp only at hSw); go_simp; all_goals with_reducible rfl)
            try simp only [List.getElem_toArray, List.getElem_cons_succ, List.getElem_cons_zero, Act.put, List.setIfInBounds_toArray, List.set_cons_zero, List.set_cons_succ]
            refine wpAnyH_take (i := 22) (v := ?va67) rfl (by kernel_rfl) (by kernel_rfl) (by kernel_rfl) (fun _ _ _ h => h) (Or.inl ⟨by rfl, ?hya67⟩) (by assumption) ?rest67
            case hya67 => (intro wz hSw; (try dsimp only at hSw); go_simp; all_goals with_reducible rfl)
            try simp only [List.getElem_toArray, List.getElem_cons_succ, List.getElem_cons_zero, Act.put, List.setIfInBounds_toArray, List.set_cons_zero, List.set_cons_succ]
            refine wpAnyH_take (i := 23) (v := ?va68) rfl (by kernel_rfl) (by kernel_rfl) (by kernel_rfl) (fun _ _ _ h => h) (Or.inl ⟨by rfl, ?hya68⟩) (by assumption) ?rest68
            case hya68 => (intro wz hSw; (try dsimp only at hSw); go_simp; all_goals with_reducible rfl)
            try simp only [List.getElem_toArray, List.getElem_cons_succ, List.getElem_cons_zero, Act.put, List.setIfInBounds_toArray, List.set_cons_zero, List.set_cons_succ]
            refine wpAnyH_done (by kernel_rfl) ?_ _
            go_wp2_with fail
            go_roundw
            case rel => exact ⟨j + 1 + 1, by omega, by go_num, NN, BD⟩
            case measure => simp [intOf]; omega
    · obtain rfl : k = n := by omega
      have E := hide (show risB m l = true by rw [risB, hlen.out]; exact hall.out)
      go_wp2
      go_ret
      exact ⟨by rw [E.out]; rfl, hbel.out⟩
end Go.Proofs.YtdkhldebnpmiiaaGreatDoor
