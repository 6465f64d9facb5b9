/- Contracts: a booking is tried and put into a table, by the program; the first booking that fits, by the reference. -/
import Derived.Test.YtcbejjkbjompfaaFit
namespace Go.Proofs.Ytcbejjkbjompfaa
open Go.RowKit
set_option linter.unusedVariables false
set_option linter.unusedSimpArgs false

theorem Tk.drewN {w w' : World} {hs : List (Nat × Nat)} (h : Tk w w' hs) (k : Nat) : Tk w (w'.drewN k) hs := ⟨h.os, h.tape, h.output, h.size, h.block⟩
theorem TabH.drewN {w : World} {B : Nat} {hs : List (Nat × Nat)} {A : Option Addr} {n c m : Nat} {T : Nat → Nat → Int} (h : TabH w B hs A n c m T) (k : Nat) : TabH (w.drewN k) B hs A n c m T := ⟨h.hl, h.out, h.row, h.inj⟩
def bookT (T : Nat → Nat → Int) (n e s p k : Nat) : Nat → Nat → Int := if fitN T n e s p then putN T e s p k n else T
theorem bookT_no {T : Nat → Nat → Int} {n e s p : Nat} (k : Nat) (h : fitN T n e s p = false) : bookT T n e s p k = T := by simp [bookT, h]
theorem bookT_yes {T : Nat → Nat → Int} {n e s p : Nat} (k : Nat) (h : fitN T n e s p = true) : bookT T n e s p k = putN T e s p k n := by simp [bookT, h]
theorem within_w {x lo hi : Int} {v : Bool} (h : inB lo hi x = v) (w : World) : Calls Try.prog 28 #[.int .i64 x, .int .i64 lo, .int .i64 hi] w fun e w' => e = .returned (.bool v) ∧ w' = w :=
  (within_any x lo hi w).mono fun _ _ ⟨a, b⟩ => ⟨by rw [a, h], b.symm⟩
set_option maxHeartbeats 6400000 in
set_option maxRecDepth 100000 in
theorem book_any (B : Nat) (hs : List (Nat × Nat)) (A : Option Addr) (n c m : Nat) (T : Nat → Nat → Int) (w : World) (h : TabH w B hs A n c m T) (nd sz : Int) (e s p : Nat) (k : Nat) (h1 : 1 ≤ e ∧ e ≤ 8) (hn : 1 ≤ n ∧ n ≤ 8) (hm : m ≤ 16) (hs' : s < m) (hp : p < e) (hk : k ≤ 1000) :
    Calls Try.prog 30 #[.slice A n c, .agg #[.int .i64 nd, .int .i64 (e : Int), .int .i64 sz], .agg #[.int .i64 (s : Int), .int .i64 (p : Int)], .int .i64 (k : Int)] w fun x w' => x = .returned (.bool (fitN T n e s p)) ∧ TabH w' B hs A n c m (bookT T n e s p k) ∧ Tk w w' hs := by
  obtain ⟨g, rfl, hgl, hout⟩ := h.outer (by omega)
  have hcap := h.cap
  have ba : Below w.heap.size w ((w.alloc (.cells #[.int .i64 nd, .int .i64 (e : Int), .int .i64 sz] 38)).alloc (.cells #[.int .i64 (s : Int), .int .i64 (p : Int)] 31)) := by (repeat (first | exact Below.refl _ _ | (refine Below.alloc ?_ (by simp <;> omega) _) | (refine Below.setCell ?_ (by simp <;> omega) _)))
  have TA := hide (h.below ba)
  have KA := hide (Tk.of_below (hs := hs) ba)
  have TW := hide h
  have HN := hide (show ∀ b, w.heap.size ≤ b → ∀ p ∈ hs, p.1 ≠ b from fun b hb p hp e => by have := (h.base p hp).2; omega)
  have HL := hide (fun (r : Nat) (hr : r < n) => h.lt hr)
  have ho0 := hout 0 (by omega)
  have hr0 := h.rcap (r := 0) (by omega)
  have HO := hide hout
  have i1 : inB 0 ((m : Int) - 1) (s : Int) = true := inB_yes (by omega) (by omega)
  have i2 : inB 0 ((e : Int) - 1) (p : Int) = true := inB_yes (by omega) (by omega)
  have e1 := h1.1
  clear ba hout h
  go_enter Try.func30, Try.ntmps30
  by_cases hen : e ≤ n
  · have t0 : decide (n < e) = false := decide_eq_false (by omega)
    have hn0 : 0 < n := by omega
    go_wp2
    go_quiet ((go_at_call 28; first | with_reducible exact Calls.quiet_of_same (within_w i1 _) | with_reducible exact Calls.quiet_of_same (within_w i2 _)))
    go_wp2
    go_loopw [10] (fun i wr => ∃ r q : Nat, r ≤ n + 8 ∧ p ≤ r ∧ r % e = p ∧ i = .int .i64 r ∧ wr = ((w.alloc (.cells #[.int .i64 nd, .int .i64 (e : Int), .int .i64 sz] 38)).alloc (.cells #[.int .i64 (s : Int), .int .i64 (p : Int)] 31)).drewN q ∧ Hid (∀ r', r' < r → r' % e = p → T r' s < 0)) (fun i _ => n + 8 - (intOf i).toNat)
    case atStart => exact ⟨p, _, by omega, Nat.le_refl _, Nat.mod_eq_of_lt hp, rfl, rfl, hide (fun r' hr' he => by have := Nat.mod_eq_of_lt (Nat.lt_trans hr' hp); omega)⟩
    case round =>
      obtain ⟨r, q, hr8, hpr, hre, rfl, rfl, hall⟩ := hrel
      by_cases hlt : r < n
      · have o1 := HO.out r hlt
        have o2 := TW.out.cell hlt hs'
        have or0 := TW.out.rcap hlt
        have ol := TW.out.lt hlt
        have z1 : (0 : Int) ≤ (r : Int) := by omega
        by_cases hT : 0 ≤ T r s
        · have t1 : decide (0 ≤ T r s) = true := decide_eq_true hT
          have HT := hide (show fitN T n e s p = false by rw [fit_free hen]; exact freeB_no (n := n) hlt hre hT)
          clear hT
          go_wp2
          go_quiet (fail)
          go_wp2
          go_ret
          exact ⟨by rw [HT.out]; rfl, by rw [bookT_no k HT.out]; first | exact TA.out.drewN _ | exact (TA.out.drewN _).drewN _, by first | exact KA.out.drewN _ | exact (KA.out.drewN _).drewN _⟩
        · have t1 : decide (0 ≤ T r s) = false := decide_eq_false hT
          have hall2 : Hid (∀ r', r' < r + e → r' % e = p → T r' s < 0) := hide (fun r' hr' he => by
            by_cases h1 : r' < r
            · exact hall.out r' h1 he
            · by_cases h2 : r' = r
              · subst h2; omega
              · have := mod_gap hre he (by omega); omega)
          clear hT
          go_wp2
          go_quiet (fail)
          go_wp2
          go_roundw
          case rel => exact ⟨r + e, _, by omega, by omega, by rw [Nat.add_mod_right]; exact hre, by go_num, rfl, hall2⟩
          case measure => simp [intOf]; omega
      · have HF := hide (show fitN T n e s p = true by rw [fit_free hen]; exact freeB_yes (n := n) (e := e) (s := s) (p := p) (T := T) (fun r' hr' he => hall.out r' (by omega) he))
        have TQ := hide (TA.out.drewN q)
        have KQ := hide (KA.out.drewN q)
        clear hall hre hpr hr8
        go_wp2
        go_loopw [11] (fun i wr => ∃ r : Nat, r ≤ n + 8 ∧ p ≤ r ∧ r % e = p ∧ i = .int .i64 r ∧ TabH wr B hs (some ⟨g, 0, none⟩) n c m (putN T e s p k r) ∧ Hid (Tk (((w.alloc (.cells #[.int .i64 nd, .int .i64 (e : Int), .int .i64 sz] 38)).alloc (.cells #[.int .i64 (s : Int), .int .i64 (p : Int)] 31)).drewN q) wr hs)) (fun i _ => n + 8 - (intOf i).toNat)
        case atStart => exact ⟨p, by omega, Nat.le_refl _, Nat.mod_eq_of_lt hp, rfl, by rw [putN_start T k hp]; exact TQ.out, hide (Tk.refl _ _)⟩
        case round =>
          obtain ⟨r, hr8, hpr, hre, rfl, htab, hkk⟩ := hrel
          have b1 : wr.cell? ⟨w.heap.size, 1, none⟩ = some (.int .i64 (e : Int)) := (hkk.out.cell (b := w.heap.size) (by simp; omega) (HN.out _ (Nat.le_refl _)) 1).trans (by simp)
          have b2 : wr.cell? ⟨w.heap.size + 1, 0, none⟩ = some (.int .i64 (s : Int)) := (hkk.out.cell (b := w.heap.size + 1) (by simp) (HN.out _ (by omega)) 0).trans (by simp)
          by_cases hlt : r < n
          · have o1 := (htab.outAt hlt).1
            have o2 := htab.cell hlt hs'
            have o3 := htab.frozen hlt s
            have or0 := htab.rcap hlt
            have z1 : (0 : Int) ≤ (r : Int) := by omega
            have HT := hide (htab.set hlt hs' (x := (k : Int)) (by omega) (by omega))
            have HK := hide (hkk.out.trans (Tk.set htab hlt s (.int .i64 (k : Int))))
            have n1 := Nat.ne_of_lt (HL.out r hlt)
            have n2 := Nat.ne_of_gt (HL.out r hlt)
            clear htab hkk
            go_wp2
            go_region
            go_wp2
            go_roundw
            case rel => exact ⟨r + e, by omega, by omega, by rw [Nat.add_mod_right]; exact hre, by go_num, by rw [← putN_step T k hre (by omega)]; exact HT.out.drew, hide HK.out.drew⟩
            case measure => simp [intOf]; omega
          · go_wp2
            go_ret
            exact ⟨by rw [HF.out]; rfl, by rw [bookT_yes k HF.out]; exact htab.congr (fun a b ha _ => putN_end T k (by omega) a b ha), KQ.out.trans hkk.out⟩
  · have t0 : decide (n < e) = true := decide_eq_true (by omega)
    go_wp2
    go_quiet ((go_at_call 28; first | with_reducible exact Calls.quiet_of_same (within_w i1 _) | with_reducible exact Calls.quiet_of_same (within_w i2 _)))
    go_wp2
    go_ret
    exact ⟨by rw [fit_far hen]; rfl, by rw [bookT_no k (fit_far hen)]; exact TA.out.drewN _, KA.out.drewN _⟩
/-- the first booking that fits -/
def firstI (T : Nat → Nat → Int) (n m e : Nat) : Option Nat := (List.range (m * e)).find? fun i => fitN T n e (i / e) (i % e)
theorem first_some {T : Nat → Nat → Int} {n m e i : Nat} (hi : i < m * e) (h : fitN T n e (i / e) (i % e) = true) (hj : ∀ j, j < i → fitN T n e (j / e) (j % e) = false) : firstI T n m e = some i := by
  rw [firstI, List.find?_range_eq_some]
  exact ⟨h, List.mem_range.2 hi, fun j hjl => by simp [hj j hjl]⟩
theorem first_none {T : Nat → Nat → Int} {n m e : Nat} (h : ∀ j, j < m * e → fitN T n e (j / e) (j % e) = false) : firstI T n m e = none := by
  rw [firstI, List.find?_range_eq_none]
  exact fun j hj => by simp [h j hj]
theorem first_get {T : Nat → Nat → Int} {n m e i : Nat} (h : firstI T n m e = some i) : i < m * e ∧ fitN T n e (i / e) (i % e) = true := by
  rw [firstI, List.find?_range_eq_some] at h
  exact ⟨List.mem_range.1 h.2.1, h.1⟩
theorem first_nil {T : Nat → Nat → Int} {n m e : Nat} (h : firstI T n m e = none) : ∀ j, j < m * e → fitN T n e (j / e) (j % e) = false := by
  rw [firstI, List.find?_range_eq_none] at h
  intro j hj
  simpa using h j hj
theorem place_div {e s p : Nat} (hp : p < e) : (s * e + p) / e = s ∧ (s * e + p) % e = p := by
  constructor
  · rw [Nat.mul_comm, Nat.mul_add_div (by omega), Nat.div_eq_of_lt hp, Nat.add_zero]
  · rw [Nat.mul_comm, Nat.mul_add_mod, Nat.mod_eq_of_lt hp]
end Go.Proofs.Ytcbejjkbjompfaa
