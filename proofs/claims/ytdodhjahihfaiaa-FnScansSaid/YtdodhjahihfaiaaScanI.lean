/- Contracts: a valid scan, a finished scan, by the program and by the reference. -/
import Derived.Test.YtdodhjahihfaiaaScanD
namespace Go.Proofs.Ytdodhjahihfaiaa
open Go.RowKit
set_option linter.unusedVariables false
set_option linter.unusedSimpArgs false

theorem scnB_parts (s : Scn) : scnB s = (inB 0 7 s.ph && (bytesB s.bs && (inB 0 15 s.ct && inB 0 255 s.vl))) := rfl

set_option maxHeartbeats 800000 in
theorem iIsScan_c (s : Scn) (A : Option Addr) (n c : Nat) (w : World) (h : Rd w A n c s.bs) :
    Calls Try.prog 27 #[.agg #[.int .i64 s.ph, .int .i64 s.ct, .int .i64 s.vl, .slice A n c]] w fun e w' => e = .returned (.bool (scnB s)) ∧ Below w.heap.size w w' := by
  have B0 := hide ((Below.refl w.heap.size w).alloc (Nat.le_refl _) (.cells #[.int .i64 s.ph, .int .i64 s.ct, .int .i64 s.vl, .slice A n c] 30))
  have H0 := hide (h.below B0.out)
  have P := scnB_parts s
  cases e1 : inB 0 7 s.ph
  · have F := hide (show scnB s = false by rw [P, e1]; rfl)
    clear P
    go_enter Try.func27, Try.ntmps27
    go_wp2_with (first | (go_at_call 74; (with_reducible refine (within_any _ _ _ _).mono ?_); rintro e w' ⟨rfl, rfl⟩) | (go_at_call 79; (with_reducible refine (iIsBytes_any _ _ _ _ _ H0.out).mono ?_); rintro e w' ⟨rfl, rfl⟩))
    go_ret
    exact ⟨ret_bool F.out.symm, B0.out⟩
  cases e2 : bytesB s.bs
  · have F := hide (show scnB s = false by rw [P, e1, e2]; rfl)
    clear P
    go_enter Try.func27, Try.ntmps27
    go_wp2_with (first | (go_at_call 74; (with_reducible refine (within_any _ _ _ _).mono ?_); rintro e w' ⟨rfl, rfl⟩) | (go_at_call 79; (with_reducible refine (iIsBytes_any _ _ _ _ _ H0.out).mono ?_); rintro e w' ⟨rfl, rfl⟩))
    go_ret
    exact ⟨ret_bool F.out.symm, B0.out⟩
  cases e3 : inB 0 15 s.ct
  · have F := hide (show scnB s = false by rw [P, e1, e2, e3]; rfl)
    clear P
    go_enter Try.func27, Try.ntmps27
    go_wp2_with (first | (go_at_call 74; (with_reducible refine (within_any _ _ _ _).mono ?_); rintro e w' ⟨rfl, rfl⟩) | (go_at_call 79; (with_reducible refine (iIsBytes_any _ _ _ _ _ H0.out).mono ?_); rintro e w' ⟨rfl, rfl⟩))
    go_ret
    exact ⟨ret_bool F.out.symm, B0.out⟩
  cases e4 : inB 0 255 s.vl
  · have F := hide (show scnB s = false by rw [P, e1, e2, e3, e4]; rfl)
    clear P
    go_enter Try.func27, Try.ntmps27
    go_wp2_with (first | (go_at_call 74; (with_reducible refine (within_any _ _ _ _).mono ?_); rintro e w' ⟨rfl, rfl⟩) | (go_at_call 79; (with_reducible refine (iIsBytes_any _ _ _ _ _ H0.out).mono ?_); rintro e w' ⟨rfl, rfl⟩))
    go_ret
    exact ⟨ret_bool F.out.symm, B0.out⟩
  · have F := hide (show scnB s = true by rw [P, e1, e2, e3, e4]; rfl)
    clear P
    go_enter Try.func27, Try.ntmps27
    go_wp2_with (first | (go_at_call 74; (with_reducible refine (within_any _ _ _ _).mono ?_); rintro e w' ⟨rfl, rfl⟩) | (go_at_call 79; (with_reducible refine (iIsBytes_any _ _ _ _ _ H0.out).mono ?_); rintro e w' ⟨rfl, rfl⟩))
    go_ret
    exact ⟨ret_bool F.out.symm, B0.out⟩

set_option maxHeartbeats 800000 in
theorem sIsScan_c (s : Scn) (A : Option Addr) (n c : Nat) (w : World) (h : Rd w A n c s.bs) :
    Calls Try.prog 25 #[.agg #[.int .i64 s.ph, .int .i64 s.ct, .int .i64 s.vl, .slice A n c]] w fun e w' => e = .returned (.bool (scnB s)) ∧ Below w.heap.size w w' := by
  have B0 := hide ((Below.refl w.heap.size w).alloc (Nat.le_refl _) (.cells #[.int .i64 s.ph, .int .i64 s.ct, .int .i64 s.vl, .slice A n c] 30))
  have H0 := hide (h.below B0.out)
  have P := scnB_parts s
  cases e1 : inB 0 7 s.ph
  · have F := hide (show scnB s = false by rw [P, e1]; rfl)
    clear P
    go_enter Try.func25, Try.ntmps25
    go_wp2_with (first | (go_at_call 72; (with_reducible refine (l01In_any _ _ _ _).mono ?_); rintro e w' ⟨rfl, rfl⟩) | (go_at_call 78; (with_reducible refine (sIsBytes_any _ _ _ _ _ H0.out).mono ?_); rintro e w' ⟨rfl, rfl⟩))
    go_ret
    exact ⟨ret_bool F.out.symm, B0.out⟩
  cases e2 : bytesB s.bs
  · have F := hide (show scnB s = false by rw [P, e1, e2]; rfl)
    clear P
    go_enter Try.func25, Try.ntmps25
    go_wp2_with (first | (go_at_call 72; (with_reducible refine (l01In_any _ _ _ _).mono ?_); rintro e w' ⟨rfl, rfl⟩) | (go_at_call 78; (with_reducible refine (sIsBytes_any _ _ _ _ _ H0.out).mono ?_); rintro e w' ⟨rfl, rfl⟩))
    go_ret
    exact ⟨ret_bool F.out.symm, B0.out⟩
  cases e3 : inB 0 15 s.ct
  · have F := hide (show scnB s = false by rw [P, e1, e2, e3]; rfl)
    clear P
    go_enter Try.func25, Try.ntmps25
    go_wp2_with (first | (go_at_call 72; (with_reducible refine (l01In_any _ _ _ _).mono ?_); rintro e w' ⟨rfl, rfl⟩) | (go_at_call 78; (with_reducible refine (sIsBytes_any _ _ _ _ _ H0.out).mono ?_); rintro e w' ⟨rfl, rfl⟩))
    go_ret
    exact ⟨ret_bool F.out.symm, B0.out⟩
  cases e4 : inB 0 255 s.vl
  · have F := hide (show scnB s = false by rw [P, e1, e2, e3, e4]; rfl)
    clear P
    go_enter Try.func25, Try.ntmps25
    go_wp2_with (first | (go_at_call 72; (with_reducible refine (l01In_any _ _ _ _).mono ?_); rintro e w' ⟨rfl, rfl⟩) | (go_at_call 78; (with_reducible refine (sIsBytes_any _ _ _ _ _ H0.out).mono ?_); rintro e w' ⟨rfl, rfl⟩))
    go_ret
    exact ⟨ret_bool F.out.symm, B0.out⟩
  · have F := hide (show scnB s = true by rw [P, e1, e2, e3, e4]; rfl)
    clear P
    go_enter Try.func25, Try.ntmps25
    go_wp2_with (first | (go_at_call 72; (with_reducible refine (l01In_any _ _ _ _).mono ?_); rintro e w' ⟨rfl, rfl⟩) | (go_at_call 78; (with_reducible refine (sIsBytes_any _ _ _ _ _ H0.out).mono ?_); rintro e w' ⟨rfl, rfl⟩))
    go_ret
    exact ⟨ret_bool F.out.symm, B0.out⟩

set_option maxHeartbeats 800000 in
theorem iIsFinished_c (s : Scn) (A : Option Addr) (n c : Nat) (w : World) (h : Rd w A n c s.bs) :
    Calls Try.prog 30 #[.agg #[.int .i64 s.ph, .int .i64 s.ct, .int .i64 s.vl, .slice A n c]] w fun e w' => e = .returned (.bool (scnB s && (s.ph == 6))) ∧ Below w.heap.size w w' := by
  have B0 := hide ((Below.refl w.heap.size w).alloc (Nat.le_refl _) (.cells #[.int .i64 s.ph, .int .i64 s.ct, .int .i64 s.vl, .slice A n c] 30))
  have S0 := hide (ScnAt.fresh w #[.int .i64 s.ph, .int .i64 s.ct, .int .i64 s.vl, .slice A n c])
  have H0 := hide (h.below B0.out)
  cases e1 : scnB s
  · go_enter Try.func30, Try.ntmps30
    go_wp2_with (go_at_call 27; (with_reducible refine (iIsScan_c s A n c _ H0.out).mono ?_); rintro e w2 ⟨rfl, b2⟩; have B2 := hide (below_trans B0.out b2); have c0 : w2.cell? ⟨w.heap.size, 0, none⟩ = some (.int .i64 s.ph) := (S0.out.below b2).cell 0; clear b2)
    go_ret
    exact ⟨rfl, B2.out⟩
  · go_enter Try.func30, Try.ntmps30
    go_wp2_with (go_at_call 27; (with_reducible refine (iIsScan_c s A n c _ H0.out).mono ?_); rintro e w2 ⟨rfl, b2⟩; have B2 := hide (below_trans B0.out b2); have c0 : w2.cell? ⟨w.heap.size, 0, none⟩ = some (.int .i64 s.ph) := (S0.out.below b2).cell 0; clear b2)
    go_ret
    exact ⟨rfl, B2.out⟩

set_option maxHeartbeats 800000 in
theorem sIsFinished_c (s : Scn) (A : Option Addr) (n c : Nat) (w : World) (h : Rd w A n c s.bs) :
    Calls Try.prog 29 #[.agg #[.int .i64 s.ph, .int .i64 s.ct, .int .i64 s.vl, .slice A n c]] w fun e w' => e = .returned (.bool (scnB s && (s.ph == 6))) ∧ Below w.heap.size w w' := by
  have B0 := hide ((Below.refl w.heap.size w).alloc (Nat.le_refl _) (.cells #[.int .i64 s.ph, .int .i64 s.ct, .int .i64 s.vl, .slice A n c] 30))
  have S0 := hide (ScnAt.fresh w #[.int .i64 s.ph, .int .i64 s.ct, .int .i64 s.vl, .slice A n c])
  have H0 := hide (h.below B0.out)
  cases e1 : scnB s
  · go_enter Try.func29, Try.ntmps29
    go_wp2_with (go_at_call 25; (with_reducible refine (sIsScan_c s A n c _ H0.out).mono ?_); rintro e w2 ⟨rfl, b2⟩; have B2 := hide (below_trans B0.out b2); have c0 : w2.cell? ⟨w.heap.size, 0, none⟩ = some (.int .i64 s.ph) := (S0.out.below b2).cell 0; clear b2)
    go_ret
    exact ⟨rfl, B2.out⟩
  · go_enter Try.func29, Try.ntmps29
    go_wp2_with (go_at_call 25; (with_reducible refine (sIsScan_c s A n c _ H0.out).mono ?_); rintro e w2 ⟨rfl, b2⟩; have B2 := hide (below_trans B0.out b2); have c0 : w2.cell? ⟨w.heap.size, 0, none⟩ = some (.int .i64 s.ph) := (S0.out.below b2).cell 0; clear b2)
    go_ret
    exact ⟨rfl, B2.out⟩

end Go.Proofs.Ytdodhjahihfaiaa
