/- Contracts: a table of modes, by the program and by the reference. -/
import Derived.Test.YtdkhldebnpmiiaaGreatDoorRis
namespace Go.Proofs.YtdkhldebnpmiiaaGreatDoor
open Go.RowKit
set_option linter.unusedVariables false
set_option linter.unusedSimpArgs false

def okM (m : Nat) (k : Nat) (x : PMod) : Bool := inB 1 8 x.rd && (inB 1 16 x.sl && (risB m x.nx && !hasB x.nx k))
def okMs (ms : List PMod) (k : Nat) : Bool := match ms[k]? with | some x => okM ms.length k x | none => true
def allM (ms : List PMod) (k : Nat) : Bool := (List.range k).all (okMs ms)
theorem allM_succ (ms : List PMod) (k : Nat) : allM ms (k + 1) = (allM ms k && okMs ms k) := by simp [allM, List.range_succ]
def mtB (ms : List PMod) : Bool := inB 1 16 ms.length && allM ms ms.length
theorem okMs_at {ms : List PMod} {k : Nat} {x : PMod} (h : ms[k]? = some x) : okMs ms k = okM ms.length k x := by rw [okMs, h]
theorem mtB_bad {ms : List PMod} {k : Nat} {x : PMod} (h : ms[k]? = some x) (hb : okM ms.length k x = false) : mtB ms = false := by
  have : allM ms ms.length = false := List.all_eq_false.2 ⟨k, List.mem_range.2 (get_lt h), by rw [okMs_at h, hb]; simp⟩
  rw [mtB, this, Bool.and_false]
theorem mtB_good {ms : List PMod} {k : Nat} {x : PMod} (h : ms[k]? = some x) (ha : allM ms k = true) (hb : okM ms.length k x = true) : allM ms (k + 1) = true := by rw [allM_succ, ha, okMs_at h, hb]; rfl
set_option maxHeartbeats 6400000 in
theorem iIsModeTable_any (A : Option Addr) (n c : Nat) (ms : List PMod) (w : World) (h : RdMs w A n c ms) : Calls Tryz.prog 138 #[.slice A n c] w (BoolOut (mtB ms) w) := by
  have hcap := h.cap
  have hlen := hide h.len
  go_enter Tryz.func138, Tryz.ntmps138
  go_wp2
  go_loopw [7] (fun i wr => ∃ k : Nat, k ≤ n ∧ i = .int .i64 k ∧ Hid (allM ms k = true) ∧ Hid (Below w.heap.size w wr)) (fun i _ => n - (intOf i).toNat)
  case atStart => exact ⟨0, by omega, rfl, hide rfl, hide (Below.refl _ _)⟩
  case round =>
    obtain ⟨k, hk, rfl, hall, hbel⟩ := hrel
    by_cases hlt : k < n
    · obtain ⟨b, off, x, rfl, hb, hx, rx, c0, c1, c2⟩ := mod_at (h.below hbel.out) hlt
      have HX := hide hx
      have BA := (Below.refl wr.heap.size wr).alloc (Nat.le_refl _) (.cells #[.int .i64 x.rd, .int .i64 x.sl, .slice x.A x.n x.c] 107)
      have F0 := At.fresh wr 107 #[.int .i64 x.rd, .int .i64 x.sl, .slice x.A x.n x.c]
      have HR := hide (rx.below BA)
      have HB := hide (below_trans hbel.out BA)
      have hxc := rx.cap
      clear hx rx BA
      cases h1 : inB 1 8 x.rd
      · have E := hide (mtB_bad HX.out (show okM ms.length k (Mod.p x) = false by rw [okM, show (Mod.p x).rd = x.rd from rfl, h1, Bool.false_and]))
        have H1 := hide h1
        have H2 := H1
        clear h1
        go_wp2_with (first | (go_at_call 101; refine (within_any _ _ _ _).mono ?_; rintro ee w2 ⟨rfl, rfl⟩; first | rw [H1.out] | rw [H2.out]))
        go_ret
        exact ⟨by rw [E.out]; rfl, HB.out⟩
      · have H1 := hide h1
        cases h2 : inB 1 16 x.sl
        · have E := hide (mtB_bad HX.out (show okM ms.length k (Mod.p x) = false by rw [okM, show (Mod.p x).rd = x.rd from rfl, show (Mod.p x).sl = x.sl from rfl, h1, h2]; rfl))
          have H2 := hide h2
          clear h1 h2
          go_wp2_with (first | (go_at_call 101; refine (within_any _ _ _ _).mono ?_; rintro ee w2 ⟨rfl, rfl⟩; first | rw [H1.out] | rw [H2.out]))
          go_ret
          exact ⟨by rw [E.out]; rfl, HB.out⟩
        · have H2 := hide h2
          cases h3 : risB n x.nx
          · have E := hide (mtB_bad HX.out (show okM ms.length k (Mod.p x) = false by rw [okM, show (Mod.p x).rd = x.rd from rfl, show (Mod.p x).sl = x.sl from rfl, show (Mod.p x).nx = x.nx from rfl, hlen.out, h1, h2, h3]; rfl))
            have H3 := hide h3
            clear h1 h2 h3
            go_wp2_with (first | (go_at_call 101; refine (within_any _ _ _ _).mono ?_; rintro ee w2 ⟨rfl, rfl⟩; first | rw [H1.out] | rw [H2.out]) | (go_at_call 157; refine (iisRising_any _ _ _ _ (n : Int) _ HR.out).mono ?_; rintro ee w3 ⟨rfl, rfl⟩; rw [H3.out]))
            go_ret
            exact ⟨by rw [E.out]; rfl, HB.out⟩
          · have H3 := hide h3
            cases h4 : hasB x.nx k
            · have NN := hide (mtB_good HX.out hall.out (show okM ms.length k (Mod.p x) = true by rw [okM, show (Mod.p x).rd = x.rd from rfl, show (Mod.p x).sl = x.sl from rfl, show (Mod.p x).nx = x.nx from rfl, hlen.out, h1, h2, h3, h4]; rfl))
              have H4 := hide h4
              clear h1 h2 h3 h4
              go_wp2_with (first | (go_at_call 101; refine (within_any _ _ _ _).mono ?_; rintro ee w2 ⟨rfl, rfl⟩; first | rw [H1.out] | rw [H2.out]) | (go_at_call 157; refine (iisRising_any _ _ _ _ (n : Int) _ HR.out).mono ?_; rintro ee w3 ⟨rfl, rfl⟩; rw [H3.out]) | (go_at_call 158; refine (sContains_any _ _ _ _ (k : Int) _ HR.out).mono ?_; rintro ee w4 ⟨rfl, rfl⟩; rw [H4.out]))
              go_roundw
              case rel => exact ⟨k + 1, by omega, by go_num, NN, HB⟩
              case measure => simp [intOf]; omega
            · have E := hide (mtB_bad HX.out (show okM ms.length k (Mod.p x) = false by rw [okM, show (Mod.p x).rd = x.rd from rfl, show (Mod.p x).sl = x.sl from rfl, show (Mod.p x).nx = x.nx from rfl, hlen.out, h1, h2, h3, h4]; rfl))
              have H4 := hide h4
              clear h1 h2 h3 h4
              go_wp2_with (first | (go_at_call 101; refine (within_any _ _ _ _).mono ?_; rintro ee w2 ⟨rfl, rfl⟩; first | rw [H1.out] | rw [H2.out]) | (go_at_call 157; refine (iisRising_any _ _ _ _ (n : Int) _ HR.out).mono ?_; rintro ee w3 ⟨rfl, rfl⟩; rw [H3.out]) | (go_at_call 158; refine (sContains_any _ _ _ _ (k : Int) _ HR.out).mono ?_; rintro ee w4 ⟨rfl, rfl⟩; rw [H4.out]))
              go_ret
              exact ⟨by rw [E.out]; rfl, HB.out⟩
    · obtain rfl : k = n := by omega
      have E : Hid (mtB ms = (decide ((1 : Int) ≤ (k : Int)) && decide ((k : Int) ≤ 16))) := by
        have h1 := hall.out
        show mtB ms = _
        rw [mtB, hlen.out, h1, Bool.and_true]
        rfl
      by_cases h1 : 1 ≤ k
      · have t1 : decide ((1 : Int) ≤ (k : Int)) = true := decide_eq_true (by omega)
        go_wp2
        go_ret
        exact ⟨by rw [E.out, t1]; rfl, hbel.out⟩
      · have t1 : decide ((1 : Int) ≤ (k : Int)) = false := decide_eq_false (by omega)
        go_wp2
        go_ret
        exact ⟨by rw [E.out, t1]; rfl, hbel.out⟩
set_option maxHeartbeats 6400000 in
theorem sIsModeTable_any (A : Option Addr) (n c : Nat) (ms : List PMod) (w : World) (h : RdMs w A n c ms) : Calls Tryz.prog 145 #[.slice A n c] w (BoolOut (mtB ms) w) := by
  have hcap := h.cap
  have hlen := hide h.len
  go_enter Tryz.func145, Tryz.ntmps145
  cases hin : inB 1 16 n
  · have E := hide (show mtB ms = false by rw [mtB, hlen.out, hin]; rfl)
    go_wp2_with (go_at_call 122; refine (l01In_any _ _ _ _).mono ?_; rintro ee w1 ⟨rfl, rfl⟩; rw [hin])
    go_ret
    exact ⟨by rw [E.out]; rfl, Below.refl _ _⟩
  · have E0 := hide (show mtB ms = allM ms n by rw [mtB, hlen.out, hin]; rfl)
    go_wp2_with (go_at_call 122; refine (l01In_any _ _ _ _).mono ?_; rintro ee w1 ⟨rfl, rfl⟩; rw [hin])
    clear hin
    go_loopw [3] (fun i wr => ∃ k : Nat, k ≤ n ∧ i = .int .i64 k ∧ Hid (allM ms k = true) ∧ Hid (Below w.heap.size w wr)) (fun i _ => n - (intOf i).toNat)
    case atStart => exact ⟨0, by omega, rfl, hide rfl, hide (Below.refl _ _)⟩
    case round =>
      obtain ⟨k, hk, rfl, hall, hbel⟩ := hrel
      by_cases hlt : k < n
      · obtain ⟨b, off, x, rfl, hb, hx, rx, c0, c1, c2⟩ := mod_at (h.below hbel.out) hlt
        have HX := hide hx
        have BA := (Below.refl wr.heap.size wr).alloc (Nat.le_refl _) (.cells #[.int .i64 x.rd, .int .i64 x.sl, .slice x.A x.n x.c] 107)
        have F0 := At.fresh wr 107 #[.int .i64 x.rd, .int .i64 x.sl, .slice x.A x.n x.c]
        have HR := hide (rx.below BA)
        have HB := hide (below_trans hbel.out BA)
        have hxc := rx.cap
        clear hx rx BA
        cases h1 : inB 1 8 x.rd
        · have E := hide (mtB_bad HX.out (show okM ms.length k (Mod.p x) = false by rw [okM, show (Mod.p x).rd = x.rd from rfl, h1, Bool.false_and]))
          have H1 := hide h1
          have H2 := H1
          clear h1
          go_wp2_with (first | (go_at_call 122; refine (l01In_any _ _ _ _).mono ?_; rintro ee w2 ⟨rfl, rfl⟩; first | rw [H1.out] | rw [H2.out]))
          go_ret
          exact ⟨by rw [E.out]; rfl, HB.out⟩
        · have H1 := hide h1
          cases h2 : inB 1 16 x.sl
          · have E := hide (mtB_bad HX.out (show okM ms.length k (Mod.p x) = false by rw [okM, show (Mod.p x).rd = x.rd from rfl, show (Mod.p x).sl = x.sl from rfl, h1, h2]; rfl))
            have H2 := hide h2
            clear h1 h2
            go_wp2_with (first | (go_at_call 122; refine (l01In_any _ _ _ _).mono ?_; rintro ee w2 ⟨rfl, rfl⟩; first | rw [H1.out] | rw [H2.out]))
            go_ret
            exact ⟨by rw [E.out]; rfl, HB.out⟩
          · have H2 := hide h2
            cases h3 : risB n x.nx
            · have E := hide (mtB_bad HX.out (show okM ms.length k (Mod.p x) = false by rw [okM, show (Mod.p x).rd = x.rd from rfl, show (Mod.p x).sl = x.sl from rfl, show (Mod.p x).nx = x.nx from rfl, hlen.out, h1, h2, h3]; rfl))
              have H3 := hide h3
              clear h1 h2 h3
              go_wp2_with (first | (go_at_call 122; refine (l01In_any _ _ _ _).mono ?_; rintro ee w2 ⟨rfl, rfl⟩; first | rw [H1.out] | rw [H2.out]) | (go_at_call 163; refine (l01Rises_any _ _ _ _ (n : Int) _ HR.out (by omega) (by omega)).mono ?_; rintro ee w3 ⟨rfl, b3⟩; rw [H3.out]; have B3 := hide (below_trans HB.out b3); have HR3 := hide (HR.out.below b3); have F3 := F0.keep b3; have e2 := F3.cell 2; simp at e2; clear b3 F3))
              go_ret
              exact ⟨by rw [E.out]; rfl, B3.out⟩
            · have H3 := hide h3
              cases h4 : hasB x.nx k
              · have NN := hide (mtB_good HX.out hall.out (show okM ms.length k (Mod.p x) = true by rw [okM, show (Mod.p x).rd = x.rd from rfl, show (Mod.p x).sl = x.sl from rfl, show (Mod.p x).nx = x.nx from rfl, hlen.out, h1, h2, h3, h4]; rfl))
                have H4 := hide h4
                clear h1 h2 h3 h4
                go_wp2_with (first | (go_at_call 122; refine (l01In_any _ _ _ _).mono ?_; rintro ee w2 ⟨rfl, rfl⟩; first | rw [H1.out] | rw [H2.out]) | (go_at_call 163; refine (l01Rises_any _ _ _ _ (n : Int) _ HR.out (by omega) (by omega)).mono ?_; rintro ee w3 ⟨rfl, b3⟩; rw [H3.out]; have B3 := hide (below_trans HB.out b3); have HR3 := hide (HR.out.below b3); have F3 := F0.keep b3; have e2 := F3.cell 2; simp at e2; clear b3 F3) | (go_at_call 164; refine (l01Has_any _ _ _ _ (k : Int) _ HR3.out).mono ?_; rintro ee w4 ⟨rfl, rfl⟩; rw [H4.out]))
                go_roundw
                case rel => exact ⟨k + 1, by omega, by go_num, NN, B3⟩
                case measure => simp [intOf]; omega
              · have E := hide (mtB_bad HX.out (show okM ms.length k (Mod.p x) = false by rw [okM, show (Mod.p x).rd = x.rd from rfl, show (Mod.p x).sl = x.sl from rfl, show (Mod.p x).nx = x.nx from rfl, hlen.out, h1, h2, h3, h4]; rfl))
                have H4 := hide h4
                clear h1 h2 h3 h4
                go_wp2_with (first | (go_at_call 122; refine (l01In_any _ _ _ _).mono ?_; rintro ee w2 ⟨rfl, rfl⟩; first | rw [H1.out] | rw [H2.out]) | (go_at_call 163; refine (l01Rises_any _ _ _ _ (n : Int) _ HR.out (by omega) (by omega)).mono ?_; rintro ee w3 ⟨rfl, b3⟩; rw [H3.out]; have B3 := hide (below_trans HB.out b3); have HR3 := hide (HR.out.below b3); have F3 := F0.keep b3; have e2 := F3.cell 2; simp at e2; clear b3 F3) | (go_at_call 164; refine (l01Has_any _ _ _ _ (k : Int) _ HR3.out).mono ?_; rintro ee w4 ⟨rfl, rfl⟩; rw [H4.out]))
                go_ret
                exact ⟨by rw [E.out]; rfl, B3.out⟩
      · obtain rfl : k = n := by omega
        go_wp2
        go_ret
        exact ⟨by rw [E0.out, hall.out]; rfl, hbel.out⟩
end Go.Proofs.YtdkhldebnpmiiaaGreatDoor
