/- Contracts: a value appended many times; runs made into samples. -/
import Derived.Test.YtopccpnkokdmiaaRuns
import Derived.Test.YtopccpnkokdmiaaSlip
namespace Go.Proofs.Ytopccpnkokdmiaa
open Go.RowKit
set_option linter.unusedVariables false
set_option linter.unusedSimpArgs false

/-- a write into a row that lies from B on -/
theorem below_own {w w0 w' : World} {B B' n c : Nat} {A : Option Addr} {zs : List Int} (h : Below B w0 w) (hs : B ≤ w.heap.size) (ho : Own w B' A n c zs) (hB : B ≤ B') (hg : w.grownBy w' (Value.slice A n c).ownBlock) : Below B w0 w' :=
  h.grown hg hs (fun k hk => Nat.le_trans hB (ho.row.lt k hk).1)
theorem rep_succ (k : Nat) (x : Int) : List.replicate (k + 1) x = List.replicate k x ++ [x] := by rw [List.replicate_succ']

theorem repeat_any (A : Option Addr) (n c : Nat) (zs : List Int) (B : Nat) (x m : Int) (w : World) (h : Own w B A n c zs) (hB : B ≤ w.heap.size) (hx : -9223372036854775808 ≤ x ∧ x ≤ 9223372036854775807) (h0 : 0 ≤ m) (hm : n + m ≤ 16777216) :
    Calls Try.prog 109 #[.slice A n c, .int .i64 x, .int .i64 m] w fun e w' => ∃ A' c', e = .returned (.slice A' (n + m.toNat) c') ∧ Own w' B A' (n + m.toNat) c' (zs ++ List.replicate m.toNat x) ∧ Below B w w' := by
  obtain ⟨m, rfl⟩ := Int.eq_ofNat_of_zero_le h0
  simp only [Int.toNat_natCast]
  go_enter Try.func109, Try.ntmps109
  go_wp2
  go_loopw [0, 8] (fun s i wr => ∃ (k : Nat) (A' : Option Addr) (c' : Nat), k ≤ m ∧ s = .slice A' (n + k) c' ∧ i = .int .i64 k ∧ Own wr B A' (n + k) c' (zs ++ List.replicate k x) ∧ Below B w wr) (fun _ i _ => m - (intOf i).toNat)
  case atStart => exact ⟨0, A, c, by omega, rfl, rfl, by simpa using h, Below.refl _ _⟩
  case round =>
    obtain ⟨k, A', c', hk, rfl, rfl, hown, hbel⟩ := hrel
    have hsz : B ≤ wr.heap.size := Nat.le_trans hB hbel.size
    by_cases hlt : k < m
    · have hd := hide (rep_succ k x)
      go_wp2_with (at_builtin; refine append_new rfl _ _ rfl B rfl hown _ [x] 1 rfl (I64.one hx.1 hx.2) rfl rfl (by omega) hsz ?_; intro A2 c2 w2 own2 gr2)
      have hb2 := below_own hbel hsz hown (Nat.le_refl _) gr2
      rw [List.append_assoc, ← hd.out] at own2
      go_roundw
      case rel => exact ⟨k + 1, A2, c2, by omega, rfl, by go_num, own2, hb2⟩
      case measure => simp [intOf]; omega
    · obtain rfl : k = m := by omega
      go_wp2
      go_ret
      exact ⟨A', c', rfl, hown, hbel⟩

theorem l20Equal_any (m x : Int) (w : World) (hx : -9223372036854775808 ≤ x ∧ x ≤ 9223372036854775807) (h0 : 0 ≤ m) (hm : m ≤ 16777216) :
    Calls Try.prog 107 #[.int .i64 m, .int .i64 x] w fun e w' => ∃ A' c', e = .returned (.slice A' m.toNat c') ∧ Own w' w.heap.size A' m.toNat c' (List.replicate m.toNat x) ∧ Below w.heap.size w w' := by
  obtain ⟨m, rfl⟩ := Int.eq_ofNat_of_zero_le h0
  simp only [Int.toNat_natCast]
  go_enter Try.func107, Try.ntmps107
  go_wp2
  go_loopw [0, 5] (fun i s wr => ∃ (k : Nat) (A' : Option Addr) (c' : Nat), k ≤ m ∧ s = .slice A' k c' ∧ i = .int .i64 ((m : Int) - k) ∧ Own wr w.heap.size A' k c' (List.replicate k x) ∧ Below w.heap.size w wr) (fun i _ _ => (intOf i).toNat)
  case atStart => exact ⟨0, _, _, by omega, rfl, by go_num, Own.empty w (Nat.le_refl _), (Below.refl _ _).alloc (Nat.le_refl _) _⟩
  case round =>
    obtain ⟨k, A', c', hk, rfl, rfl, hown, hbel⟩ := hrel
    have hsz := hbel.size
    by_cases hlt : k < m
    · have hd := hide (rep_succ k x)
      go_wp2_with (at_builtin; refine append_new rfl _ _ rfl w.heap.size rfl hown _ [x] 1 rfl (I64.one hx.1 hx.2) rfl rfl (by omega) hsz ?_; intro A2 c2 w2 own2 gr2)
      have hb2 := below_mark hbel hown (Nat.le_refl _) gr2
      rw [← hd.out] at own2
      go_roundw
      case rel => exact ⟨k + 1, A2, c2, by omega, rfl, by go_num, own2, hb2⟩
      case measure => simp [intOf]; omega
    · obtain rfl : k = m := by omega
      go_wp2
      go_ret
      exact ⟨A', c', rfl, hown, hbel⟩

/-- the samples of the first k runs -/
def fromTo (f : Int) (ls : List Int) : Nat → List Int
  | 0 => []
  | k + 1 => fromTo f ls k ++ List.replicate (nth ls k).toNat (if k % 2 = 0 then f else 1 - f)
/-- the value of run k -/
def runV (f : Int) (k : Nat) : Int := if k % 2 = 0 then f else 1 - f
theorem runV_succ (f : Int) (k : Nat) : runV f (k + 1) = 1 - runV f k := by
  unfold runV
  by_cases h : k % 2 = 0
  · have : ¬ (k + 1) % 2 = 0 := by omega
    rw [if_pos h, if_neg this]
  · have : (k + 1) % 2 = 0 := by omega
    rw [if_neg h, if_pos this]; omega
theorem runV_bit {f : Int} (h0 : 0 ≤ f) (h1 : f ≤ 1) (k : Nat) : 0 ≤ runV f k ∧ runV f k ≤ 1 := by
  unfold runV; split <;> omega
theorem fromTo_succ (f : Int) (ls : List Int) (k : Nat) : fromTo f ls (k + 1) = fromTo f ls k ++ List.replicate (nth ls k).toNat (runV f k) := rfl
theorem fromTo_len {f : Int} {ls : List Int} {hi : Int} (h : allB 1 hi ls = true) (k : Nat) (hk : k ≤ ls.length) : ((fromTo f ls k).length : Int) = sm (ls.take k) := by
  induction k with
  | zero => simp [fromTo, sm]
  | succ k ih =>
    have hb := allB_get h k (by omega)
    rw [fromTo_succ, List.length_append, List.length_replicate, sm_take ls k (by omega), Int.natCast_add, ih (by omega)]
    omega
theorem sm_mono {ls : List Int} {hi : Int} (h : allB 1 hi ls = true) (k : Nat) (hk : k ≤ ls.length) : sm (ls.take k) ≤ sm ls := by
  obtain ⟨j, hj⟩ : ∃ j, ls.length = k + j := ⟨ls.length - k, by omega⟩
  induction j generalizing k with
  | zero => rw [List.take_of_length_le (by omega)]; exact Int.le_refl _
  | succ j ih =>
    have h1 := ih (k + 1) (by omega) (by omega)
    have hb := allB_get h k (by omega)
    rw [sm_take ls k (by omega)] at h1
    omega
/-- a first sample of 0 or 1, lengths of 1 to 8192 -/
def frOk (f : Int) (ls : List Int) : Bool := inB 0 1 f && allB 1 8192 ls
def frR (f : Int) (ls : List Int) : List Int := if frOk f ls && decide (sm ls ≤ 8192) then fromTo f ls ls.length else []
def frC (f : Int) (ls : List Int) : Int := if frOk f ls then (if sm ls ≤ 8192 then 0 else 3) else 2

theorem sFromRuns_c (f : Int) (A : Option Addr) (n c : Nat) (ls : List Int) (w : World) (hf : -9223372036854775808 ≤ f ∧ f ≤ 9223372036854775807) (h : Rd w A n c ls) (hn : n ≤ 1048576) :
    Calls Try.prog 51 #[.int .i64 f, .slice A n c] w fun e w' => ∃ A' n' c', e = .returned (.tuple #[.slice A' n' c', .int .i64 (frC f ls)]) ∧ Own w' w.heap.size A' n' c' (frR f ls) ∧ Below w.heap.size w w' ∧ n' ≤ 1048576 := by
  have hlen := h.le
  have hcap := h.cap
  by_cases hin : 0 ≤ f ∧ f ≤ 1
  · have hy := inB_yes hin.1 hin.2
    obtain ⟨f0, f1⟩ := hin
    have ZY := hide hy
    go_enter Try.func51, Try.ntmps51
    go_wp2_with (first | (go_at_call 89; refine (l01In_any _ _ _ _).mono ?_; rintro e w' ⟨rfl, rfl⟩))
    go_loop [6, 7] (fun t i => ∃ k : Nat, k ≤ n ∧ i = .int .i64 k ∧ t = .int .i64 (sm (ls.take k)) ∧ Hid (allB 1 8192 (ls.take k) = true)) (fun _ i => n - (intOf i).toNat)
    case atStart => exact ⟨0, Nat.zero_le _, rfl, rfl, rfl⟩
    case round =>
      obtain ⟨k, hk, rfl, rfl, hall⟩ := hrel
      by_cases hlt : k < n
      · obtain ⟨b, off, rfl, hbb, hc⟩ := h.at_ (by omega)
        have hck := hc k hlt
        clear hc
        by_cases h1 : 1 ≤ nth ls k ∧ nth ls k ≤ 8192
        · have hstep := hide (allB_step 1 8192 ls k (by omega) hall.out h1.1 h1.2)
          have hin := inB_yes h1.1 h1.2
          have hsm := sm_bounds hall.out k (by rw [List.length_take]; omega)
          rw [List.take_take, Nat.min_self] at hsm
          have hst := hide (sm_take ls k (by omega))
          obtain ⟨s, hs⟩ : ∃ s, s = sm (ls.take k) := ⟨_, rfl⟩
          have HS := hide hs
          rw [← hs] at hsm ⊢
          clear hs
          go_wp2_with (first | (go_at_call 89; refine (l01In_any _ _ _ _).mono ?_; rintro e w' ⟨rfl, rfl⟩))
          go_round
          case rel => exact ⟨k + 1, by omega, by go_num, by rw [hst.out, HS.out], hstep⟩
          case measure => simp [intOf]; omega
        · have hbad : frOk f ls = false := by rw [frOk, allB_bad 1 8192 ls k (by omega) (by omega), Bool.and_false]
          have hC : Hid (2 = frC f ls) := by
            show _ = _
            rw [frC, hbad]; rfl
          have hR : Hid (frR f ls = []) := by
            show _ = _
            rw [frR, hbad]; rfl
          have hin := inB_no (lo := 1) (hi := 8192) (x := nth ls k) (by omega)
          clear h1 hbad
          go_wp2_with (first | (go_at_call 89; refine (l01In_any _ _ _ _).mono ?_; rintro e w' ⟨rfl, rfl⟩))
          go_ret2
          exact ⟨none, 0, 0, ret_sc hC.out, by rw [hR.out]; exact Own.nil _ _, Below.refl _ _, by omega⟩
      · obtain rfl : k = n := by omega
        have hall' : allB 1 8192 ls = true := by
          have := hall.out
          rwa [List.take_of_length_le (by omega)] at this
        have hok : frOk f ls = true := by rw [frOk, ZY.out, hall']; rfl
        have HA := hide hall'
        have hfull := hide (List.take_of_length_le (l := ls) (i := k) (by omega))
        rw [hfull.out]
        clear hall hall'
        by_cases hs8 : 8192 < sm ls
        · have hC : Hid (3 = frC f ls) := by
            show _ = _
            rw [frC, hok, if_pos rfl, if_neg (by omega)]
          have hR : Hid (frR f ls = []) := by
            have : ¬ sm ls ≤ 8192 := by omega
            show _ = _
            rw [frR, hok, decide_eq_false this]; rfl
          clear hok
          go_wp2
          go_ret2
          exact ⟨none, 0, 0, ret_sc hC.out, by rw [hR.out]; exact Own.nil _ _, Below.refl _ _, by omega⟩
        · have hC : Hid (0 = frC f ls) := by
            show _ = _
            rw [frC, hok, if_pos rfl, if_pos (by omega)]
          have hR : Hid (frR f ls = fromTo f ls ls.length) := by
            have : sm ls ≤ 8192 := by omega
            show _ = _
            rw [frR, hok, decide_eq_true this]; rfl
          clear hok
          have hl := hide h.len
          have t3 : decide (8192 < sm ls) = false := by simpa using hs8
          go_wp2
          go_loopw [0, 8, 9] (fun x s i wr => ∃ (j m : Nat) (A' : Option Addr) (c' : Nat), j ≤ k ∧ x = .int .i64 (runV f j) ∧ s = .slice A' m c' ∧ i = .int .i64 j ∧ Own wr w.heap.size A' m c' (fromTo f ls j) ∧ Below w.heap.size w wr) (fun _ _ i _ => k - (intOf i).toNat)
          case atStart => exact ⟨0, 0, _, _, by omega, rfl, rfl, rfl, Own.empty w (Nat.le_refl _), (Below.refl _ _).alloc (Nat.le_refl _) _⟩
          case round =>
            obtain ⟨j, m, A', c', hj, rfl, rfl, rfl, hown, hbel⟩ := hrel
            have hsz := hbel.size
            have hv := runV_bit f0 f1 j
            have hml : (m : Int) = sm (ls.take j) := by rw [← fromTo_len (f := f) HA.out j (by omega), hown.len]
            by_cases hlj : j < k
            · obtain ⟨b, off, rfl, hbb, hc⟩ := h.at_ (by omega)
              have hck := (hbel.cell (p := ⟨b, off + j, none⟩) hbb).trans (hc j hlj)
              have hz := allB_get HA.out j (by omega)
              have hmono := sm_mono HA.out (j + 1) (by omega)
              rw [sm_take ls j (by omega), ← hml] at hmono
              have hst := hide (fromTo_succ f ls j)
              have hvs := hide (runV_succ f j)
              clear hc hml
              go_wp2_with (first | (go_at_call 107; refine (l20Equal_any _ _ _ (by omega) (by omega) (by omega)).mono ?_; rintro e wq ⟨Aq, cq, rfl, oq, bq⟩) | (at_builtin; refine append_rd rfl _ _ rfl w.heap.size rfl (hown.below bq) oq.rd rfl (by omega) (Nat.le_trans hsz bq.size) ?_; intro A2 c2 w2 own2 gr2))
              have hb2 := below_mark (below_trans hbel bq) (hown.below bq) (Nat.le_refl _) gr2
              rw [← hst.out] at own2
              go_roundw
              case rel => exact ⟨j + 1, _, A2, c2, by omega, by rw [hvs.out], rfl, by go_num, own2, hb2⟩
              case measure => simp [intOf]; omega
            · obtain rfl : j = k := by omega
              have hfin : Own wr w.heap.size A' m c' (frR f ls) := by rw [hR.out, hl.out]; exact hown
              rw [hfull.out] at hml
              have hmb : m ≤ 8192 := by omega
              clear hml
              go_wp2
              go_ret2
              exact ⟨A', m, c', ret_sc hC.out, hfin, hbel, by omega⟩
  · have hbad : inB 0 1 f = false := inB_no (by omega)
    have hC : Hid (2 = frC f ls) := by
      show _ = _
      rw [frC, frOk, hbad]; rfl
    have hR : Hid (frR f ls = []) := by
      show _ = _
      rw [frR, frOk, hbad]; rfl
    go_enter Try.func51, Try.ntmps51
    go_wp2_with (first | (go_at_call 89; refine (l01In_any _ _ _ _).mono ?_; rintro e w' ⟨rfl, rfl⟩))
    go_ret2
    exact ⟨none, 0, 0, ret_sc hC.out, by rw [hR.out]; exact Own.nil _ _, Below.refl _ _, by omega⟩

theorem iFromRuns_c (f : Int) (A : Option Addr) (n c : Nat) (ls : List Int) (w : World) (hf : -9223372036854775808 ≤ f ∧ f ≤ 9223372036854775807) (h : Rd w A n c ls) (hn : n ≤ 1048576) :
    Calls Try.prog 52 #[.int .i64 f, .slice A n c] w fun e w' => ∃ A' n' c', e = .returned (.tuple #[.slice A' n' c', .int .i64 (frC f ls)]) ∧ Own w' w.heap.size A' n' c' (frR f ls) ∧ Below w.heap.size w w' ∧ n' ≤ 1048576 := by
  have hlen := h.le
  have hcap := h.cap
  by_cases hin : 0 ≤ f ∧ f ≤ 1
  · have hy := inB_yes hin.1 hin.2
    obtain ⟨f0, f1⟩ := hin
    by_cases hall : allB 1 8192 ls = true
    · have hok : frOk f ls = true := by rw [frOk, hy, hall]; rfl
      have HA := hide hall
      have HOK := hide hok
      clear hok
      have hl := hide h.len
      go_enter Try.func52, Try.ntmps52
      go_wp2_with (first | (go_at_call 91; refine (within_any _ _ _ _).mono ?_; rintro e w' ⟨rfl, rfl⟩) | (go_at_call 108; refine (allWithin_any _ _ _ ls _ _ _ h).mono ?_; rintro e w' ⟨rfl, rfl⟩))
      go_loopw [0, 6, 20] (fun x s i wr => ∃ (j m : Nat) (A' : Option Addr) (c' : Nat), j ≤ n ∧ m ≤ 8192 ∧ x = .int .i64 (runV f j) ∧ s = .slice A' m c' ∧ i = .int .i64 j ∧ Own wr w.heap.size A' m c' (fromTo f ls j) ∧ Below w.heap.size w wr) (fun _ _ i _ => n - (intOf i).toNat)
      case atStart => exact ⟨0, 0, _, _, by omega, by omega, rfl, rfl, rfl, Own.empty w (Nat.le_refl _), (Below.refl _ _).alloc (Nat.le_refl _) _⟩
      case round =>
        obtain ⟨j, m, A', c', hj, hm8, rfl, rfl, rfl, hown, hbel⟩ := hrel
        have hsz := hbel.size
        have hv := runV_bit f0 f1 j
        have hml : (m : Int) = sm (ls.take j) := by rw [← fromTo_len (f := f) HA.out j (by omega), hown.len]
        by_cases hlj : j < n
        · obtain ⟨b, off, rfl, hbb, hc⟩ := h.at_ (by omega)
          have hck := (hbel.cell (p := ⟨b, off + j, none⟩) hbb).trans (hc j hlj)
          have hz := allB_get HA.out j (by omega)
          have hmono := sm_mono HA.out (j + 1) (by omega)
          rw [sm_take ls j (by omega), ← hml] at hmono
          have hst := hide (fromTo_succ f ls j)
          have hvs := hide (runV_succ f j)
          clear hc hml
          by_cases h8 : (m : Int) + nth ls j ≤ 8192
          · have t8 : m + (nth ls j).toNat ≤ 8192 := by omega
            go_wp2_with (first | (go_at_call 109; refine (repeat_any _ _ _ _ w.heap.size _ _ _ hown hsz (by omega) (by omega) (by omega)).mono ?_; rintro e w2 ⟨A2, c2, rfl, own2, bel2⟩; rw [← hst.out] at own2))
            go_roundw
            case rel => exact ⟨j + 1, _, A2, c2, by omega, t8, by rw [hvs.out], rfl, by go_num, own2, hbel.trans bel2⟩
            case measure => simp [intOf]; omega
          · have t8 : 8192 < m + (nth ls j).toNat := by omega
            have hC : Hid (3 = frC f ls) := by
              show _ = _
              rw [frC, HOK.out, if_pos rfl, if_neg (by omega)]
            have hR : Hid (frR f ls = []) := by
              have : ¬ sm ls ≤ 8192 := by omega
              show _ = _
              rw [frR, HOK.out, decide_eq_false this]; rfl
            go_wp2_with (first | (go_at_call 109; refine (repeat_any _ _ _ _ w.heap.size _ _ _ hown hsz (by omega) (by omega) (by omega)).mono ?_; rintro e w2 ⟨A2, c2, rfl, own2, bel2⟩))
            go_ret2
            exact ⟨none, 0, 0, ret_sc hC.out, by rw [hR.out]; exact Own.nil _ _, hbel.trans bel2, by omega⟩
        · obtain rfl : j = n := by omega
          have hfull := hide (List.take_of_length_le (l := ls) (i := j) (by omega))
          rw [hfull.out] at hml
          have hC : Hid (0 = frC f ls) := by
            show _ = _
            rw [frC, HOK.out, if_pos rfl, if_pos (by omega)]
          have hR : Hid (frR f ls = fromTo f ls ls.length) := by
            have : sm ls ≤ 8192 := by omega
            show _ = _
            rw [frR, HOK.out, decide_eq_true this]; rfl
          have hfin : Own wr w.heap.size A' m c' (frR f ls) := by rw [hR.out, hl.out]; exact hown
          clear hml
          go_wp2
          go_ret2
          exact ⟨A', m, c', ret_sc hC.out, hfin, hbel, by omega⟩
    · have hall : allB 1 8192 ls = false := by simpa using hall
      have hC : Hid (2 = frC f ls) := by
        show _ = _
        rw [frC, frOk, hall, Bool.and_false]; rfl
      have hR : Hid (frR f ls = []) := by
        show _ = _
        rw [frR, frOk, hall, Bool.and_false]; rfl
      go_enter Try.func52, Try.ntmps52
      go_wp2_with (first | (go_at_call 91; refine (within_any _ _ _ _).mono ?_; rintro e w' ⟨rfl, rfl⟩) | (go_at_call 108; refine (allWithin_any _ _ _ ls _ _ _ h).mono ?_; rintro e w' ⟨rfl, rfl⟩))
      go_ret2
      exact ⟨none, 0, 0, ret_sc hC.out, by rw [hR.out]; exact Own.nil _ _, Below.refl _ _, by omega⟩
  · have hbad : inB 0 1 f = false := inB_no (by omega)
    have hC : Hid (2 = frC f ls) := by
      show _ = _
      rw [frC, frOk, hbad]; rfl
    have hR : Hid (frR f ls = []) := by
      show _ = _
      rw [frR, frOk, hbad]; rfl
    go_enter Try.func52, Try.ntmps52
    go_wp2_with (first | (go_at_call 91; refine (within_any _ _ _ _).mono ?_; rintro e w' ⟨rfl, rfl⟩))
    go_ret2
    exact ⟨none, 0, 0, ret_sc hC.out, by rw [hR.out]; exact Own.nil _ _, Below.refl _ _, by omega⟩
end Go.Proofs.Ytopccpnkokdmiaa
