/- Contracts: a booking fits a table, is put into it; by the reference and by the program. -/
import Derived.Test.YtcbejjkbjompfaaTabF
namespace Go.Proofs.Ytcbejjkbjompfaa
open Go.RowKit
set_option linter.unusedVariables false
set_option linter.unusedSimpArgs false

/-- the rounds of a class are free in a slot -/
def freeB (T : Nat → Nat → Int) (n e s p : Nat) : Bool := (List.range n).all fun r => decide (r % e = p → T r s < 0)
def fitN (T : Nat → Nat → Int) (n e s p : Nat) : Bool := decide (e ≤ n) && freeB T n e s p
def putN (T : Nat → Nat → Int) (e s p : Nat) (k : Int) (q : Nat) : Nat → Nat → Int := fun r t => if r < q ∧ r % e = p ∧ t = s then k else T r t
theorem freeB_yes {T : Nat → Nat → Int} {n e s p : Nat} (h : ∀ r, r < n → r % e = p → T r s < 0) : freeB T n e s p = true := by
  simp only [freeB, List.all_eq_true, List.mem_range, decide_eq_true_eq]
  exact h
theorem freeB_get {T : Nat → Nat → Int} {n e s p : Nat} (h : freeB T n e s p = true) : ∀ r, r < n → r % e = p → T r s < 0 := by
  simp only [freeB, List.all_eq_true, List.mem_range, decide_eq_true_eq] at h
  exact h
theorem freeB_no {T : Nat → Nat → Int} {n e s p r : Nat} (hr : r < n) (hp : r % e = p) (h : 0 ≤ T r s) : freeB T n e s p = false := by
  cases e1 : freeB T n e s p
  · rfl
  · have := freeB_get e1 r hr hp
    omega
theorem mod_gap {e p r r' : Nat} (h : r % e = p) (h' : r' % e = p) (hlt : r < r') : r + e ≤ r' := by
  have e1 := Nat.div_add_mod r e
  have e2 := Nat.div_add_mod r' e
  have h3 : r / e < r' / e := by
    apply Nat.lt_of_not_le
    intro h4
    have := Nat.mul_le_mul_left e h4
    omega
  have h5 := Nat.mul_le_mul_left e (Nat.succ_le_of_lt h3)
  rw [Nat.mul_succ] at h5
  omega
theorem fit_free {T : Nat → Nat → Int} {n e s p : Nat} (h : e ≤ n) : fitN T n e s p = freeB T n e s p := by simp [fitN, h]
theorem fit_far {T : Nat → Nat → Int} {n e s p : Nat} (h : ¬ e ≤ n) : fitN T n e s p = false := by simp [fitN, h]
theorem putN_done (T : Nat → Nat → Int) {n e s p q : Nat} (k : Int) (hq : n ≤ q) : ∀ r t, r < n → t < q → putN T e s p k q r t = putN T e s p k n r t := by
  intro r t hr ht
  simp [putN, hr, Nat.lt_of_lt_of_le hr hq]
theorem l01In_q {x lo hi : Int} {v : Bool} (h : inB lo hi x = v) (w : World) : Calls Try.prog 39 #[.int .i64 x, .int .i64 lo, .int .i64 hi] w fun e w' => e = .returned (.bool v) ∧ w' = w :=
  (l01In_any x lo hi w).mono fun _ _ ⟨a, b⟩ => ⟨by rw [a, h], b.symm⟩
set_option maxHeartbeats 3200000 in
set_option maxRecDepth 100000 in
theorem l16Fits_any (B : Nat) (hs : List (Nat × Nat)) (A : Option Addr) (n c m : Nat) (T : Nat → Nat → Int) (w : World) (h : TabH w B hs A n c m T) (nd sz : Int) (e s p : Nat) (h1 : 1 ≤ e ∧ e ≤ 8) (hn : 1 ≤ n ∧ n ≤ 8) (hm : m ≤ 16) (hs' : s < m) (hp : p < e) :
    Calls Try.prog 41 #[.slice A n c, .agg #[.int .i64 nd, .int .i64 (e : Int), .int .i64 sz], .agg #[.int .i64 (s : Int), .int .i64 (p : Int)]] w fun x w' => x = .returned (.bool (fitN T n e s p)) ∧ Below w.heap.size w w' := by
  obtain ⟨g, rfl, hgl, hout⟩ := h.outer (by omega)
  have hcap := h.cap
  have ba : Below w.heap.size w ((w.alloc (.cells #[.int .i64 nd, .int .i64 (e : Int), .int .i64 sz] 38)).alloc (.cells #[.int .i64 (s : Int), .int .i64 (p : Int)] 31)) := by (repeat (first | exact Below.refl _ _ | (refine Below.alloc ?_ (by simp <;> omega) _) | (refine Below.setCell ?_ (by simp <;> omega) _)))
  have BA := hide ba
  have TW := hide h
  have ho0 := hout 0 (by omega)
  have hr0 := h.rcap (r := 0) (by omega)
  have HO := hide hout
  have i1 : inB 0 ((m : Int) - 1) (s : Int) = true := inB_yes (by omega) (by omega)
  have i2 : inB 0 ((e : Int) - 1) (p : Int) = true := inB_yes (by omega) (by omega)
  clear ba hout h
  go_enter Try.func41, Try.ntmps41
  by_cases hen : e ≤ n
  · have t0 : decide (n < e) = false := decide_eq_false (by omega)
    have hn0 : 0 < n := by omega
    go_wp2
    go_quiet ((go_at_call 39; first | with_reducible exact Calls.quiet_of_same (l01In_q i1 _) | with_reducible exact Calls.quiet_of_same (l01In_q i2 _)))
    go_wp2
    go_loopw [8] (fun i wr => ∃ r q : Nat, r ≤ n + 8 ∧ p ≤ r ∧ r % e = p ∧ i = .int .i64 r ∧ wr = ((w.alloc (.cells #[.int .i64 nd, .int .i64 (e : Int), .int .i64 sz] 38)).alloc (.cells #[.int .i64 (s : Int), .int .i64 (p : Int)] 31)).drewN q ∧ Hid (∀ r', r' < r → r' % e = p → T r' s < 0)) (fun i _ => n + 8 - (intOf i).toNat)
    case atStart => exact ⟨p, _, by omega, Nat.le_refl _, Nat.mod_eq_of_lt hp, rfl, rfl, hide (fun r' hr' he => by have := Nat.mod_eq_of_lt (Nat.lt_trans hr' hp); omega)⟩
    case round =>
      obtain ⟨r, q, hr8, hpr, hre, rfl, rfl, hall⟩ := hrel
      by_cases hlt : r < n
      · have o1 := HO.out r hlt
        have o2 := TW.out.cell hlt hs'
        have or0 := TW.out.rcap hlt
        have ol := TW.out.lt hlt
        have z1 : (0 : Int) ≤ (r : Int) := by omega
        by_cases hT : 0 ≤ T r s
        · have t1 : decide (0 ≤ T r s) = true := decide_eq_true hT
          have HT := hide (freeB_no (n := n) hlt hre hT)
          clear hT
          go_wp2
          go_quiet (fail)
          go_wp2
          go_ret
          exact ⟨by rw [fit_free hen, HT.out]; rfl, below_drewN (below_drewN BA.out _) _⟩
        · have t1 : decide (0 ≤ T r s) = false := decide_eq_false hT
          have hall2 : Hid (∀ r', r' < r + e → r' % e = p → T r' s < 0) := hide (fun r' hr' he => by
            by_cases h1 : r' < r
            · exact hall.out r' h1 he
            · by_cases h2 : r' = r
              · subst h2; omega
              · have := mod_gap hre he (by omega); omega)
          clear hT
          go_wp2
          go_quiet (fail)
          go_wp2
          go_roundw
          case rel => exact ⟨r + e, _, by omega, by omega, by rw [Nat.add_mod_right]; exact hre, by go_num, rfl, hall2⟩
          case measure => simp [intOf]; omega
      · have HF := hide (freeB_yes (n := n) (e := e) (s := s) (p := p) (T := T) (fun r' hr' he => hall.out r' (by omega) he))
        go_wp2
        go_ret
        exact ⟨by rw [fit_free hen, HF.out]; rfl, below_drewN BA.out _⟩
  · have t0 : decide (n < e) = true := decide_eq_true (by omega)
    go_wp2
    go_quiet ((go_at_call 39; first | with_reducible exact Calls.quiet_of_same (l01In_q i1 _) | with_reducible exact Calls.quiet_of_same (l01In_q i2 _)))
    go_wp2
    go_ret
    exact ⟨by rw [fit_far hen]; rfl, below_drewN BA.out _⟩
theorem TabH.outAt {w : World} {B : Nat} {hs : List (Nat × Nat)} {g n c m : Nat} {T : Nat → Nat → Int} (h : TabH w B hs (some ⟨g, 0, none⟩) n c m T) {r : Nat} (hr : r < n) : w.cell? ⟨g, r, none⟩ = some (.slice (some ⟨(hd hs r).1, 0, none⟩) m (hd hs r).2) ∧ g < w.heap.size := by
  obtain ⟨g', hA, hl, hc⟩ := h.outer (by omega)
  simp at hA
  subst hA
  exact ⟨hc r hr, hl⟩
theorem Tk.cell {w w' : World} {hs : List (Nat × Nat)} (h : Tk w w' hs) {b : Nat} (hb : b < w.heap.size) (hp : ∀ p ∈ hs, p.1 ≠ b) (i : Nat) : w'.cell? ⟨b, i, none⟩ = w.cell? ⟨b, i, none⟩ :=
  World.cell?_of_block (h.block b hb hp)
theorem Tk.drew {w w' : World} {hs : List (Nat × Nat)} (h : Tk w w' hs) : Tk w w'.drew hs := ⟨h.os, h.tape, h.output, h.size, h.block⟩
theorem TabH.drew {w : World} {B : Nat} {hs : List (Nat × Nat)} {A : Option Addr} {n c m : Nat} {T : Nat → Nat → Int} (h : TabH w B hs A n c m T) : TabH w.drew B hs A n c m T := ⟨h.hl, h.out, h.row, h.inj⟩
theorem putN_start (T : Nat → Nat → Int) {e s p : Nat} (k : Int) (hp : p < e) : putN T e s p k p = T := by
  funext r t
  simp only [putN]
  rw [if_neg]
  rintro ⟨h1, h2, _⟩
  have := Nat.mod_eq_of_lt (Nat.lt_trans h1 hp)
  omega
theorem putN_step (T : Nat → Nat → Int) {e s p r : Nat} (k : Int) (hre : r % e = p) (he : 0 < e) : updT (putN T e s p k r) r s k = putN T e s p k (r + e) := by
  funext r' t
  simp only [updT, putN]
  by_cases h1 : r' = r ∧ t = s
  · rw [if_pos h1, if_pos ⟨by omega, by rw [h1.1]; exact hre, h1.2⟩]
  · rw [if_neg h1]
    by_cases h2 : r' < r ∧ r' % e = p ∧ t = s
    · rw [if_pos h2, if_pos ⟨by omega, h2.2⟩]
    · rw [if_neg h2, if_neg]
      rintro ⟨h3, h4, h5⟩
      apply h2
      refine ⟨?_, h4, h5⟩
      by_cases h6 : r' < r
      · exact h6
      · by_cases h7 : r' = r
        · exact absurd ⟨h7, h5⟩ h1
        · have := mod_gap hre h4 (by omega)
          omega
theorem putN_end (T : Nat → Nat → Int) {e s p r n : Nat} (k : Int) (h : n ≤ r) : ∀ a b, a < n → putN T e s p k r a b = putN T e s p k n a b := by
  intro a b ha
  simp [putN, ha, Nat.lt_of_lt_of_le ha h]
set_option maxHeartbeats 3200000 in
set_option maxRecDepth 100000 in
theorem l16Put_any (B : Nat) (hs : List (Nat × Nat)) (A : Option Addr) (n c m : Nat) (T : Nat → Nat → Int) (w : World) (h : TabH w B hs A n c m T) (nd sz : Int) (e s p : Nat) (k : Nat) (h1 : 1 ≤ e ∧ e ≤ 8) (hn : 1 ≤ n ∧ n ≤ 8) (hm : m ≤ 16) (hs' : s < m) (hp : p < e) (hk : k ≤ 1000) :
    Calls Try.prog 34 #[.slice A n c, .agg #[.int .i64 nd, .int .i64 (e : Int), .int .i64 sz], .agg #[.int .i64 (s : Int), .int .i64 (p : Int)], .int .i64 (k : Int)] w fun x w' => x = .returned (.tuple #[]) ∧ TabH w' B hs A n c m (putN T e s p k n) ∧ Tk w w' hs := by
  obtain ⟨g, rfl, hgl, hout⟩ := h.outer (by omega)
  have hcap := h.cap
  have ba : Below w.heap.size w ((w.alloc (.cells #[.int .i64 nd, .int .i64 (e : Int), .int .i64 sz] 38)).alloc (.cells #[.int .i64 (s : Int), .int .i64 (p : Int)] 31)) := by (repeat (first | exact Below.refl _ _ | (refine Below.alloc ?_ (by simp <;> omega) _) | (refine Below.setCell ?_ (by simp <;> omega) _)))
  have TA := hide (h.below ba)
  have KA := hide (Tk.of_below (hs := hs) ba)
  have hnot : ∀ b, w.heap.size ≤ b → ∀ p ∈ hs, p.1 ≠ b := fun b hb p hp e => by have := (h.base p hp).2; omega
  have HN := hide hnot
  have HL := hide (fun (r : Nat) (hr : r < n) => h.lt hr)
  have e1 := h1.1
  clear ba hout h hnot
  go_enter Try.func34, Try.ntmps34
  go_wp2
  go_loopw [8] (fun i wr => ∃ r : Nat, r ≤ n + 8 ∧ p ≤ r ∧ r % e = p ∧ i = .int .i64 r ∧ TabH wr B hs (some ⟨g, 0, none⟩) n c m (putN T e s p k r) ∧ Hid (Tk ((w.alloc (.cells #[.int .i64 nd, .int .i64 (e : Int), .int .i64 sz] 38)).alloc (.cells #[.int .i64 (s : Int), .int .i64 (p : Int)] 31)) wr hs)) (fun i _ => n + 8 - (intOf i).toNat)
  case atStart => exact ⟨p, by omega, Nat.le_refl _, Nat.mod_eq_of_lt hp, rfl, by rw [putN_start T k hp]; exact TA.out, hide (Tk.refl _ _)⟩
  case round =>
    obtain ⟨r, hr8, hpr, hre, rfl, htab, hkk⟩ := hrel
    have b1 : wr.cell? ⟨w.heap.size, 1, none⟩ = some (.int .i64 (e : Int)) := (hkk.out.cell (b := w.heap.size) (by simp; omega) (HN.out _ (Nat.le_refl _)) 1).trans (by simp)
    have b2 : wr.cell? ⟨w.heap.size + 1, 0, none⟩ = some (.int .i64 (s : Int)) := (hkk.out.cell (b := w.heap.size + 1) (by simp) (HN.out _ (by omega)) 0).trans (by simp)
    by_cases hlt : r < n
    · have o1 := (htab.outAt hlt).1
      have o2 := htab.cell hlt hs'
      have o3 := htab.frozen hlt s
      have or0 := htab.rcap hlt
      have z1 : (0 : Int) ≤ (r : Int) := by omega
      have HT := hide (htab.set hlt hs' (x := (k : Int)) (by omega) (by omega))
      have HK := hide (hkk.out.trans (Tk.set htab hlt s (.int .i64 (k : Int))))
      have n1 := Nat.ne_of_lt (HL.out r hlt)
      have n2 := Nat.ne_of_gt (HL.out r hlt)
      clear htab hkk
      go_wp2
      go_region
      go_wp2
      go_roundw
      case rel => exact ⟨r + e, by omega, by omega, by rw [Nat.add_mod_right]; exact hre, by go_num, by rw [← putN_step T k hre (by omega)]; exact HT.out.drew, hide HK.out.drew⟩
      case measure => simp [intOf]; omega
    · go_wp2
      go_end0
      exact ⟨rfl, htab.congr (fun a b ha _ => putN_end T k (by omega) a b ha), KA.out.trans hkk.out⟩
end Go.Proofs.Ytcbejjkbjompfaa
