/- Contracts: the first booking that fits, by the reference. -/
import Derived.Test.YtcbejjkbjompfaaBook
namespace Go.Proofs.Ytcbejjkbjompfaa
open Go.RowKit
set_option linter.unusedVariables false
set_option linter.unusedSimpArgs false

def BkAt (w : World) (g : Nat) (a b : Value) : Prop := w.heap[g]? = some (.cells #[a, b] 31 (0, 0))
theorem BkAt.lt {w : World} {g : Nat} {a b : Value} (h : BkAt w g a b) : g < w.heap.size := (Array.getElem?_eq_some_iff.1 h).1
theorem BkAt.cell {w : World} {g : Nat} {a b : Value} (h : BkAt w g a b) (i : Nat) : w.cell? ⟨g, i, none⟩ = #[a, b][i]? := cell_of_row w g i _ _ (0, 0) h
theorem BkAt.frozen {w : World} {g : Nat} {a b : Value} (h : BkAt w g a b) (i : Nat) : w.frozen? ⟨g, i, none⟩ = false := frozen_of_row w g i _ _ h
theorem BkAt.fresh (w : World) (a b : Value) : BkAt (w.alloc (.cells #[a, b] 31)) w.heap.size a b := heap_alloc_new w _
theorem BkAt.below {w w' : World} {g : Nat} {a b : Value} (h : BkAt w g a b) (hb : Below w.heap.size w w') : BkAt w' g a b := (hb.block g h.lt).trans h
theorem BkAt.put2 {w : World} {g : Nat} {p q : Value} (h : BkAt w g p q) (a b : Value) : BkAt ((w.setCell ⟨g, 0, none⟩ a).setCell ⟨g, 1, none⟩ b) g a b := by
  unfold BkAt at h ⊢
  have h1 := heap_setCell_same w g 0 _ _ a h
  have h2 := heap_setCell_same _ g 1 _ _ b h1
  simpa using h2
theorem results_bk {fn : Func} {t u : Tmp} (h : fn.results = #[.cell t 31, .tmp u]) {tmps : Array Value} {w : World} {g : Nat} {a b x : Value} (hp : tmps.getD t undef = .pointer (some ⟨g, 0, none⟩)) (hx : tmps.getD u undef = x) (hs : BkAt w g a b) :
    (results fn tmps).run Try.prog w = .ok (.tuple #[.agg #[a, b], x]) w := by
  have d0 : w.cell? ⟨g, 0, none⟩ = some a := hs.cell 0
  have d1 : w.cell? ⟨g, 1, none⟩ = some b := hs.cell 1
  rw [Array.getD_eq_getD_getElem?] at hp hx
  simp [results, h, hp, hx, go_sem, d0, d1]
def FirstOut (T : Nat → Nat → Int) (n m e : Nat) (w : World) (x : Ending) (w' : World) : Prop :=
  ((∃ i, firstI T n m e = some i ∧ x = .returned (.tuple #[.agg #[.int .i64 ((i / e : Nat) : Int), .int .i64 ((i % e : Nat) : Int)], .bool true])) ∨ (firstI T n m e = none ∧ x = .returned (.tuple #[.agg #[.int .i64 0, .int .i64 0], .bool false]))) ∧ Below w.heap.size w w'
set_option maxHeartbeats 6400000 in
set_option maxRecDepth 100000 in
theorem l16First_any (B : Nat) (hs : List (Nat × Nat)) (A : Option Addr) (n c m : Nat) (T : Nat → Nat → Int) (w : World) (h : TabH w B hs A n c m T) (nd sz : Int) (e : Nat) (h1 : 1 ≤ e ∧ e ≤ 8) (hn : 1 ≤ n ∧ n ≤ 8) (hm : 1 ≤ m ∧ m ≤ 16) :
    Calls Try.prog 33 #[.slice A n c, .agg #[.int .i64 nd, .int .i64 (e : Int), .int .i64 sz]] w (FirstOut T n m e w) := by
  obtain ⟨g, rfl, hgl, hout⟩ := h.outer (by omega)
  have hcap := h.cap
  have hn0 : 0 < n := by omega
  have ba : Below w.heap.size w ((w.alloc (.cells #[.int .i64 nd, .int .i64 (e : Int), .int .i64 sz] 38)).alloc (.cells #[.int .i64 0, .int .i64 0] 31)) := by (repeat (first | exact Below.refl _ _ | (refine Below.alloc ?_ (by simp <;> omega) _) | (refine Below.setCell ?_ (by simp <;> omega) _)))
  have BA := hide ba
  have TA := hide (h.below ba)
  have RB := hide (BkAt.fresh (w.alloc (.cells #[.int .i64 nd, .int .i64 (e : Int), .int .i64 sz] 38)) (.int .i64 0) (.int .i64 0))
  have e1 := h1.1
  have hr0 := h.rcap (r := 0) (by omega)
  clear ba hout h
  go_enter Try.func33, Try.ntmps33
  go_wp2
  obtain ⟨WB, hWB⟩ : ∃ WB, (w.alloc (.cells #[.int .i64 nd, .int .i64 (e : Int), .int .i64 sz] 38)).alloc (.cells #[.int .i64 0, .int .i64 0] 31) = WB := ⟨_, rfl⟩
  have dc0 : WB.cell? ⟨w.heap.size, 0, none⟩ = some (.int .i64 nd) := by rw [← hWB]; simp
  have dc1 : WB.cell? ⟨w.heap.size, 1, none⟩ = some (.int .i64 (e : Int)) := by rw [← hWB]; simp
  have dc2 : WB.cell? ⟨w.heap.size, 2, none⟩ = some (.int .i64 sz) := by rw [← hWB]; simp
  have hwz : WB.heap.size = w.heap.size + 2 := by rw [← hWB]; simp
  have DC := hide (And.intro dc0 (And.intro dc1 dc2))
  rw [hWB] at BA TA RB ⊢
  clear dc0 dc1 dc2
  go_loopw [6] (fun i wr => ∃ s : Nat, s ≤ m ∧ i = .int .i64 s ∧ Hid (∀ j, j < s * e → fitN T n e (j / e) (j % e) = false) ∧ Below WB.heap.size WB wr) (fun i _ => m - (intOf i).toNat)
  case atStart => exact ⟨0, by omega, rfl, hide (fun j hj => by omega), Below.refl _ _⟩
  case round =>
    obtain ⟨s, hsm, rfl, hall, hbel⟩ := hrel
    have T1 := TA.out.below hbel
    have o1 := (T1.outAt (r := 0) (by omega)).1
    clear T1
    by_cases hlt : s < m
    · go_wp2
      go_loopw [7] (fun i wr => ∃ p : Nat, p ≤ e ∧ i = .int .i64 p ∧ Hid (∀ j, j < s * e + p → fitN T n e (j / e) (j % e) = false) ∧ Below WB.heap.size WB wr) (fun i _ => e - (intOf i).toNat)
      case atStart => exact ⟨0, by omega, rfl, hall, hbel⟩
      case round =>
        obtain ⟨p, hpe, rfl, hall2, hbel2⟩ := hrel
        have d0 := (hbel2.cell (p := ⟨w.heap.size, 0, none⟩) (by dsimp only; omega)).trans DC.out.1
        have d1 := (hbel2.cell (p := ⟨w.heap.size, 1, none⟩) (by dsimp only; omega)).trans DC.out.2.1
        have d2 := (hbel2.cell (p := ⟨w.heap.size, 2, none⟩) (by dsimp only; omega)).trans DC.out.2.2
        have hz2 := hbel2.size
        by_cases hlp : p < e
        · have ba2 : Below wr.heap.size wr (wr.alloc (.cells #[.int .i64 (s : Int), .int .i64 (p : Int)] 31)) := (Below.refl _ _).alloc (Nat.le_refl _) _
          have B2 := hide (below_trans hbel2 ba2)
          have T2 := hide (TA.out.below B2.out)
          have K2 := hide (BkAt.fresh wr (.int .i64 (s : Int)) (.int .i64 (p : Int)))
          have PD := hide (place_div (s := s) hlp)
          have zd : w.heap.size < wr.heap.size := by omega
          clear ba2
          cases hf : fitN T n e s p
          · go_wp2_with (go_at_call 41; refine (l16Fits_any B hs _ n c m T _ T2.out nd sz e s p h1 hn hm.2 hlt hlp).mono ?_; rintro x w3 ⟨rfl, b3⟩; rw [hf])
            have hall3 : Hid (∀ j, j < s * e + (p + 1) → fitN T n e (j / e) (j % e) = false) := hide (fun j hj => by
              by_cases ej : j = s * e + p
              · rw [ej, PD.out.1, PD.out.2]; exact hf
              · exact hall2.out j (by omega))
            go_roundw
            case rel => exact ⟨p + 1, by omega, by go_num, hall3, below_trans B2.out b3⟩
            case measure => simp [intOf]; omega
          · have hfirst : Hid (firstI T n m e = some (s * e + p)) := hide (first_some (by
              have := Nat.mul_le_mul_right e (Nat.succ_le_of_lt hlt)
              rw [Nat.succ_mul] at this
              omega) (by rw [PD.out.1, PD.out.2]; exact hf) hall2.out)
            go_wp2_with (go_at_call 41; refine (l16Fits_any B hs _ n c m T _ T2.out nd sz e s p h1 hn hm.2 hlt hlp).mono ?_; rintro x w3 ⟨rfl, b3⟩; rw [hf]; have K3 := hide (K2.out.below b3); have R3 := hide (RB.out.below (below_trans B2.out b3)); have B3 := hide (below_trans B2.out b3); have k0 : w3.cell? ⟨wr.heap.size, 0, none⟩ = some (.int .i64 (s : Int)) := K3.out.cell 0; have k1 : w3.cell? ⟨wr.heap.size, 1, none⟩ = some (.int .i64 (p : Int)) := K3.out.cell 1; have r0 : w3.cell? ⟨w.heap.size + 1, 0, none⟩ = some (.int .i64 0) := (by simpa using R3.out.cell 0); have r1 : w3.cell? ⟨w.heap.size + 1, 1, none⟩ = some (.int .i64 0) := (by simpa using R3.out.cell 1); have q0 : w3.frozen? ⟨w.heap.size + 1, 0, none⟩ = false := (by simpa using R3.out.frozen 0); have q1 : w3.frozen? ⟨w.heap.size + 1, 1, none⟩ = false := (by simpa using R3.out.frozen 1); clear b3)
            have hR : BkAt w3 (w.heap.size + 1) (.int .i64 0) (.int .i64 0) := by simpa using R3.out
            have fin := hR.put2 (.int .i64 (s : Int)) (.int .i64 (p : Int))
            have hB := ((below_trans BA.out B3.out).setCell (p := ⟨w.heap.size + 1, 0, none⟩) (Nat.le_succ _) (.int .i64 (s : Int))).setCell (p := ⟨w.heap.size + 1, 1, none⟩) (Nat.le_succ _) (.int .i64 (p : Int))
            have hres := fun (tmps : Array Value) (hp : tmps.getD 4 undef = .pointer (some ⟨w.heap.size + 1, 0, none⟩)) (hx : tmps.getD 5 undef = .bool true) => results_bk (tmps := tmps) Try.results33 hp hx fin
            refine bodyPost_ret (hres _ rfl rfl) rfl ?_
            exact ⟨.inl ⟨s * e + p, hfirst.out, by rw [PD.out.1, PD.out.2]⟩, hB⟩
        · obtain rfl : p = e := by omega
          go_wp2
          have hall3 : Hid (∀ j, j < (s + 1) * p → fitN T n p (j / p) (j % p) = false) := hide (by rw [Nat.succ_mul]; exact hall2.out)
          go_roundw
          case rel => exact ⟨s + 1, by omega, by go_num, hall3, hbel2⟩
          case measure => simp [intOf]; omega
    · obtain rfl : s = m := by omega
      have hfirst : Hid (firstI T n s e = none) := hide (first_none hall.out)
      have R3 := hide (RB.out.below hbel)
      have r0 : wr.cell? ⟨w.heap.size + 1, 0, none⟩ = some (.int .i64 0) := by simpa using R3.out.cell 0
      have r1 : wr.cell? ⟨w.heap.size + 1, 1, none⟩ = some (.int .i64 0) := by simpa using R3.out.cell 1
      have q0 : wr.frozen? ⟨w.heap.size + 1, 0, none⟩ = false := by simpa using R3.out.frozen 0
      have q1 : wr.frozen? ⟨w.heap.size + 1, 1, none⟩ = false := by simpa using R3.out.frozen 1
      go_wp2
      have hR : BkAt wr (w.heap.size + 1) (.int .i64 0) (.int .i64 0) := by simpa using R3.out
      have fin := hR.put2 (.int .i64 0) (.int .i64 0)
      have hB := ((below_trans BA.out hbel).setCell (p := ⟨w.heap.size + 1, 0, none⟩) (Nat.le_succ _) (.int .i64 0)).setCell (p := ⟨w.heap.size + 1, 1, none⟩) (Nat.le_succ _) (.int .i64 0)
      have hres := fun (tmps : Array Value) (hp : tmps.getD 4 undef = .pointer (some ⟨w.heap.size + 1, 0, none⟩)) (hx : tmps.getD 5 undef = .bool false) => results_bk (tmps := tmps) Try.results33 hp hx fin
      refine bodyPost_ret (hres _ rfl rfl) rfl ?_
      exact ⟨.inr ⟨hfirst.out, rfl⟩, hB⟩
end Go.Proofs.Ytcbejjkbjompfaa
