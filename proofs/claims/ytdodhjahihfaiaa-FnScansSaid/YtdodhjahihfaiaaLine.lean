/- Contracts: how many cells have a value, numbers out of bits, two lists compared, a line read by the program and by the reference. -/
import Derived.Test.YtdodhjahihfaiaaConcat
import Derived.Test.YtdodhjahihfaiaaMoreMath
import Derived.Test.YtdodhjahihfaiaaHas
namespace Go.Proofs.Ytdodhjahihfaiaa
open Go.RowKit
set_option linter.unusedVariables false
set_option linter.unusedSimpArgs false

theorem results_tmp4 {fn : Func} {t u v x : Tmp} (h : fn.results = #[.tmp t, .tmp u, .tmp v, .tmp x]) (tmps : Array Value) (P : Program) (w : World) :
    (results fn tmps).run P w = .ok (.tuple #[tmps.getD t undef, tmps.getD u undef, tmps.getD v undef, tmps.getD x undef]) w := by simp [results, h]

theorem runOf_any (A : Option Addr) (n c : Nat) (zs : List Int) (a : Nat) (v : Int) (w : World) (h : Rd w A n c zs) (ha : a ≤ n) (hn : n ≤ 1048576) :
    Calls Try.prog 112 #[.slice A n c, .int .i64 a, .int .i64 v] w fun e w' => e = .returned (.int .i64 (runAt zs a v : Nat)) ∧ w = w' := by
  have hlen := h.le
  have hcap := h.cap
  go_enter Try.func112, Try.ntmps112
  go_wp2
  go_loop [7] (fun i => ∃ k : Nat, a + k ≤ n ∧ i = .int .i64 k ∧ Hid (∀ j, j < k → nth zs (a + j) = v)) (fun i => n - (intOf i).toNat)
  case atStart => exact ⟨0, by omega, rfl, fun j hj => by omega⟩
  case round =>
    obtain ⟨k, hk, rfl, hall⟩ := hrel
    by_cases hlt : a + k < n
    · obtain ⟨b, off, rfl, hb, hc⟩ := h.at_ (by omega)
      have hck := hc (a + k) hlt
      have z1 : (0 : Int) ≤ (a : Int) + (k : Int) := by omega
      have z2 : (a : Int) + (k : Int) < (n : Int) := by omega
      have z3 : ((a : Int) + (k : Int)).toNat = a + k := by omega
      have lt : decide ((a : Int) + (k : Int) < (n : Int)) = true := by simp; omega
      clear hc
      by_cases he : nth zs (a + k) = v
      · have t' : (nth zs (a + k) == v) = true := by simpa using he
        have hst : Hid (∀ j, j < k + 1 → nth zs (a + j) = v) := by
          intro j hj
          by_cases e : j = k
          · subst e; exact he
          · exact hall.out j (by omega)
        clear he
        go_wp2
        go_round
        case rel => exact ⟨k + 1, by omega, by go_num, hst⟩
        case measure => simp [intOf]; omega
      · have t' : (nth zs (a + k) == v) = false := by simpa using he
        have hf : Hid (((runAt zs a v : Nat) : Int) = (k : Int)) := by
          have := runAt_spec (zs := zs) (a := a) (v := v) (m := k) hall.out (.inl (by omega)) (fun _ => he)
          show _ = _
          rw [this]
        clear he
        go_wp2
        go_ret
        exact ⟨ret_int hf.out.symm, rfl⟩
    · have lt : decide ((a : Int) + (k : Int) < (n : Int)) = false := by simp; omega
      have hf : Hid (((runAt zs a v : Nat) : Int) = (k : Int)) := by
        have := runAt_spec (zs := zs) (a := a) (v := v) (m := k) hall.out (.inl (by omega)) (fun h => by omega)
        show _ = _
        rw [this]
      go_wp2
      go_ret
      exact ⟨ret_int hf.out.symm, rfl⟩
theorem l18Run_any (A : Option Addr) (n c : Nat) (zs : List Int) (x : Int) (a : Nat) (v : Int) (w : World) (hx : x = (a : Int)) (h : Rd w A n c zs) (ha : a ≤ n) (hn : n ≤ 1048576) :
    Calls Try.prog 121 #[.slice A n c, .int .i64 x, .int .i64 v] w fun e w' => e = .returned (.int .i64 (runAt zs a v : Nat)) ∧ w = w' := by
  subst hx
  have hlen := h.le
  have hcap := h.cap
  go_enter Try.func121, Try.ntmps121
  go_wp2
  go_loop [7] (fun i => ∃ k : Nat, a + k ≤ n ∧ i = .int .i64 k ∧ Hid (∀ j, j < k → nth zs (a + j) = v)) (fun i => n - (intOf i).toNat)
  case atStart => exact ⟨0, by omega, rfl, fun j hj => by omega⟩
  case round =>
    obtain ⟨k, hk, rfl, hall⟩ := hrel
    by_cases hlt : a + k < n
    · obtain ⟨b, off, rfl, hb, hc⟩ := h.at_ (by omega)
      have hck := hc (a + k) hlt
      have z1 : (0 : Int) ≤ (a : Int) + (k : Int) := by omega
      have z2 : (a : Int) + (k : Int) < (n : Int) := by omega
      have z3 : ((a : Int) + (k : Int)).toNat = a + k := by omega
      have lt : decide ((a : Int) + (k : Int) < (n : Int)) = true := by simp; omega
      clear hc
      by_cases he : nth zs (a + k) = v
      · have t' : (nth zs (a + k) == v) = true := by simpa using he
        have hst : Hid (∀ j, j < k + 1 → nth zs (a + j) = v) := by
          intro j hj
          by_cases e : j = k
          · subst e; exact he
          · exact hall.out j (by omega)
        clear he
        go_wp2
        go_round
        case rel => exact ⟨k + 1, by omega, by go_num, hst⟩
        case measure => simp [intOf]; omega
      · have t' : (nth zs (a + k) == v) = false := by simpa using he
        have hf : Hid (((runAt zs a v : Nat) : Int) = (k : Int)) := by
          have := runAt_spec (zs := zs) (a := a) (v := v) (m := k) hall.out (.inl (by omega)) (fun _ => he)
          show _ = _
          rw [this]
        clear he
        go_wp2
        go_ret
        exact ⟨ret_int hf.out.symm, rfl⟩
    · have lt : decide ((a : Int) + (k : Int) < (n : Int)) = false := by simp; omega
      have hf : Hid (((runAt zs a v : Nat) : Int) = (k : Int)) := by
        have := runAt_spec (zs := zs) (a := a) (v := v) (m := k) hall.out (.inl (by omega)) (fun h => by omega)
        show _ = _
        rw [this]
      go_wp2
      go_ret
      exact ⟨ret_int hf.out.symm, rfl⟩
theorem pow_40 {k : Nat} (h : k ≤ 8) : (2 : Int) ^ k ≤ 256 := by
  have : k = 0 ∨ k = 1 ∨ k = 2 ∨ k = 3 ∨ k = 4 ∨ k = 5 ∨ k = 6 ∨ k = 7 ∨ k = 8 := by omega
  rcases this with rfl | rfl | rfl | rfl | rfl | rfl | rfl | rfl | rfl <;> decide
theorem numberOf_any (A : Option Addr) (c : Nat) (zs : List Int) (w : World) (h : Rd w A 8 c zs) (hb : allB 0 1 zs = true) :
    Calls Try.prog 113 #[.slice A 8 c] w fun e w' => e = .returned (.int .i64 (numTo zs 0 8)) ∧ w = w' := by
  have hlen := h.le
  have hcap := h.cap
  go_enter Try.func113, Try.ntmps113
  go_wp2
  go_loop [3, 8] (fun s i => ∃ k : Nat, k ≤ 8 ∧ i = .int .i64 k ∧ s = .int .i64 (numTo zs 0 k)) (fun _ i => 8 - (intOf i).toNat)
  case atStart => exact ⟨0, by omega, rfl, rfl⟩
  case round =>
    obtain ⟨k, hk, rfl, rfl⟩ := hrel
    have hnb := numTo_bounds hb 0 k (by omega)
    have hp := pow_40 hk
    by_cases hlt : k < 8
    · obtain ⟨b, off, rfl, hbb, hc⟩ := h.at_ (by omega)
      have hck := hc k hlt
      have hz := allB_get hb k (by omega)
      have hst := hide (numTo_succ zs 0 k)
      clear hc
      have nb : 0 ≤ numTo zs 0 k ∧ numTo zs 0 k ≤ 256 := by omega
      generalize numTo zs 0 k = x at hst nb ⊢
      clear hnb hp
      go_wp2
      go_round
      case rel => exact ⟨k + 1, by omega, by go_num, by rw [hst.out, Nat.zero_add]⟩
      case measure => simp [intOf]; omega
    · obtain rfl : k = 8 := by omega
      go_wp2
      go_ret
      exact ⟨rfl, rfl⟩
theorem l01Number_any (A : Option Addr) (n c : Nat) (zs : List Int) (x : Int) (a : Nat) (w : World) (hx : x = (a : Int)) (h : Rd w A n c zs) (hb : allB 0 1 zs = true) (ha : a + 8 ≤ n) (hn : n ≤ 1048576) :
    Calls Try.prog 122 #[.slice A n c, .int .i64 x, .int .i64 8] w fun e w' => e = .returned (.int .i64 (numTo zs a 8)) ∧ w = w' := by
  subst hx
  have hlen := h.le
  have hcap := h.cap
  go_enter Try.func122, Try.ntmps122
  go_wp2
  go_loop [7, 8] (fun s i => ∃ k : Nat, k ≤ 8 ∧ i = .int .i64 k ∧ s = .int .i64 (numTo zs a k)) (fun _ i => 8 - (intOf i).toNat)
  case atStart => exact ⟨0, by omega, rfl, rfl⟩
  case round =>
    obtain ⟨k, hk, rfl, rfl⟩ := hrel
    have hnb := numTo_bounds hb a k (by omega)
    have hp := pow_40 hk
    by_cases hlt : k < 8
    · obtain ⟨b, off, rfl, hbb, hc⟩ := h.at_ (by omega)
      have hck := hc (a + k) (by omega)
      have hz := allB_get hb (a + k) (by omega)
      have hst := hide (numTo_succ zs a k)
      have z1 : (0 : Int) ≤ (a : Int) + (k : Int) := by omega
      have z2 : (a : Int) + (k : Int) < (n : Int) := by omega
      have z3 : ((a : Int) + (k : Int)).toNat = a + k := by omega
      clear hc
      have nb : 0 ≤ numTo zs a k ∧ numTo zs a k ≤ 256 := by omega
      generalize numTo zs a k = x at hst nb ⊢
      clear hnb hp
      go_wp2
      go_round
      case rel => exact ⟨k + 1, by omega, by go_num, by rw [hst.out]⟩
      case measure => simp [intOf]; omega
    · obtain rfl : k = 8 := by omega
      go_wp2
      go_ret
      exact ⟨rfl, rfl⟩
theorem equal_any (A B : Option Addr) (n m c d : Nat) (xs ys : List Int) (w : World) (hx : Rd w A n c xs) (hy : Rd w B m d ys) :
    Calls Try.prog 114 #[.slice A n c, .slice B m d] w fun e w' => e = .returned (.bool (eqB xs ys)) ∧ ∃ k, w' = w.drewN k := by
  have hlx := hx.le
  have hly := hy.le
  have hcx := hx.cap
  have hcy := hy.cap
  by_cases hnm : n = m
  · subst hnm
    have t1 : ((n : Int) != (n : Int)) = false := by simp
    go_enter Try.func114, Try.ntmps114
    go_wp2
    go_loopw [13] (fun i wr => ∃ k r : Nat, k ≤ n ∧ i = .int .i64 k ∧ wr = w.drewN r ∧ Hid (xs.take k = ys.take k)) (fun i _ => n - (intOf i).toNat)
    case atStart => exact ⟨0, 0, Nat.zero_le _, rfl, rfl, rfl⟩
    case round =>
      obtain ⟨k, r, hk, rfl, rfl, hh⟩ := hrel
      by_cases hlt : k < n
      · obtain ⟨b, off, rfl, hb, hc⟩ := hx.at_ (by omega)
        obtain ⟨b', off', rfl, hb', hc'⟩ := hy.at_ (by omega)
        have hck := hc k hlt
        have hck' := hc' k hlt
        have z1 : (0 : Int) ≤ (k : Int) := by omega
        have z2 : (k : Int) < (n : Int) := by omega
        clear hc hc'
        by_cases he : nth xs k = nth ys k
        · have ht : (nth xs k != nth ys k) = false := by simp [he]
          have hstep : Hid (xs.take (k + 1) = ys.take (k + 1)) := by
            show _ = _
            rw [take_snoc xs k (by omega), take_snoc ys k (by omega), hh.out, he]
          clear he
          go_wp2
          go_quiet (fail)
          go_wp2
          go_roundw
          case rel => exact ⟨k + 1, _, by omega, by go_num, rfl, hstep⟩
          case measure => simp [intOf]; omega
        · have ht : (nth xs k != nth ys k) = true := by simp [he]
          have hfin : Hid (eqB xs ys = false) := eqB_no (fun e => he (by rw [e]))
          clear he
          go_wp2
          go_quiet (fail)
          go_wp2
          go_ret
          exact ⟨ret_bool hfin.out.symm, _, by first | rfl | exact World.drewN_drewN _ _ _⟩
      · obtain rfl : k = n := by omega
        have hfin : Hid (eqB xs ys = true) := by
          have e := hh.out
          rw [List.take_of_length_le (by omega), List.take_of_length_le (by omega)] at e
          exact eqB_yes e
        clear hh
        go_wp2
        go_ret
        exact ⟨ret_bool hfin.out.symm, _, rfl⟩
  · have t1 : ((n : Int) != (m : Int)) = true := by simp; omega
    have hfin : Hid (eqB xs ys = false) := eqB_no (fun e => hnm (by have := congrArg List.length e; omega))
    clear hnm
    go_enter Try.func114, Try.ntmps114
    go_wp2
    go_ret
    exact ⟨ret_bool hfin.out.symm, 0, rfl⟩
theorem equal_b (A B : Option Addr) (n m c d : Nat) (xs ys : List Int) (w : World) (hx : Rd w A n c xs) (hy : Rd w B m d ys) :
    Calls Try.prog 114 #[.slice A n c, .slice B m d] w fun e w' => e = .returned (.bool (eqB xs ys)) ∧ Below w.heap.size w w' :=
  (equal_any A B n m c d xs ys w hx hy).mono fun _ _ ⟨he, k, hk⟩ => ⟨he, by rw [hk]; exact below_drewN (Below.refl _ _) _⟩
end Go.Proofs.Ytdodhjahihfaiaa
