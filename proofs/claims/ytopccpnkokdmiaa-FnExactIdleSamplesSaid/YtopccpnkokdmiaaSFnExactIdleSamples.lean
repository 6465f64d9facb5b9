/- For every input the law FnExactIdleSamples of the statements returns true and leaves its arguments as they were. No condition. -/
import Derived.Test.YtopccpnkokdmiaaRows
import Derived.Test.YtopccpnkokdmiaaFacts
import Derived.Test.YtopccpnkokdmiaaLIdleSamples
import Derived.WalkKit
import Derived.ProofKit
import Derived.OpenShut
import Derived.ShutString
import Derived.ChangeOld
import Derived.Below
namespace Go.Proofs.Ytopccpnkokdmiaa.fnExactIdleSamples
open Go.ChangeShapes Go.WideShapes Go.ChangeAt Go.RowKit
open Go.ChangeMaps (open_string shut_string)
set_option linter.unusedVariables false


theorem walk (a0 : Int) (w0 : (Lit.int .i64 a0).wf = true) (w : World) :
    Calls Try.prog 13 #[.int .i64 a0] w fun e w' => e = .returned (.bool true) ∧ Below w.heap.size w w' := by
  exact walkIdleSamples a0 w (wf_i64_bounds w0)

set_option maxRecDepth 100000 in
theorem lifted (os : Os) (started : os.Started) (H : Type) (enc : TypeId × Value → H) :
    ReturnsInHanded {} Try.checked os 13 .any (Rows.fnExactIdleSamplesSpec.pre6 enc Try.prog Try.f13 Rows.fnExactIdleSamplesRow.domain false) (Rows.fnExactIdleSamplesSpec.post enc Try.prog Try.f13 false true false false) := by
  refine returnsInHanded_of_change (C := Try.checked) own started (by kernel_rfl) Try.func13
    (ChangeSpec.witness6 (enc := enc) (C := Try.checked) false ⟨#[], #[.int .i64 0], []⟩ 8 (by kernel_rfl) (by kernel_rfl) (by kernel_rfl) (by kernel_rfl)) ?_
  intro W base args ds gs before hval0 hW hcnd _
  have hval : ∀ (j : Nat) t v, Try.f13.params[j]? = some t → args[j]? = some v → Value.okWide Try.prog W .any base t v := hval0
  have hW' := hW
  obtain ⟨p, q, hA0, hV, rfl, hfz, hnd⟩ := hW
  have hA : DataW.TrodAll enc Try.prog W 0 (fun _ => true) true Try.f13.params.toList args.toList ds p := hA0
  rw [Try.params13] at hA hval
  obtain ⟨v0, vs0, d0, ds0, p0, q0, hargs, rfl, rfl, h0, r0⟩ := trodAll_cons hA
  obtain ⟨rfl, rfl, rfl⟩ := trodAll_nil r0
  obtain rfl : args = #[v0] := by cases args; simp_all
  obtain ⟨rfl, rfl⟩ := trodVars_none hV
  obtain ⟨a0, rfl, rfl, rfl, w0⟩ := open_int Try.underlying2 (hval 0 2 v0 rfl rfl) h0
  clear hA0 hval0
  simp only [List.append_nil] at hW'
  refine (walk a0 w0 W).mono fun e W' ⟨he, bel⟩ => ?_
  subst he
  exact ⟨_, rfl, _, _, _, [], _, [], hW', trodAll_mk1 (shut_bool Try.underlying4 _), (trodAll_cons_mk (shut_int Try.underlying2 w0) trodAll_mk0), rfl, bel.frame _, fun h => by cases h⟩

theorem closed : joinedFacts Try.prog 13 Try.f13 Rows.fnExactIdleSamplesSpec Rows.fnExactIdleSamplesRow = true := by
  unfold joinedFacts
  simp only [Bool.and_eq_true, beq_iff_eq]
  exact ⟨⟨⟨⟨⟨⟨⟨⟨⟨⟨⟨⟨⟨⟨⟨⟨⟨⟨⟨⟨⟨⟨⟨⟨⟨⟨⟨⟨⟨⟨⟨(by as_aux_lemma => kernel_rfl), fact_laid⟩, fact_maps⟩, (by as_aux_lemma => kernel_rfl)⟩, (by as_aux_lemma => kernel_rfl)⟩, (by as_aux_lemma => kernel_rfl)⟩, fact_stops⟩, (by as_aux_lemma => kernel_rfl)⟩, fact_knobs⟩, (by as_aux_lemma => kernel_rfl)⟩, (by as_aux_lemma => kernel_rfl)⟩, (by as_aux_lemma => kernel_rfl)⟩, (by as_aux_lemma => kernel_rfl)⟩, (by as_aux_lemma => kernel_rfl)⟩, (by as_aux_lemma => kernel_rfl)⟩, (by as_aux_lemma => kernel_rfl)⟩, (by as_aux_lemma => kernel_rfl)⟩, (by as_aux_lemma => kernel_rfl)⟩, (by as_aux_lemma => kernel_rfl)⟩, (by as_aux_lemma => kernel_rfl)⟩, (by as_aux_lemma => kernel_rfl)⟩, (by as_aux_lemma => kernel_rfl)⟩, (by as_aux_lemma => kernel_rfl)⟩, (by as_aux_lemma => kernel_rfl)⟩, fact_heard⟩, fact_enter⟩, (Eq.trans (b := false) (by kernel_rfl) fact_lifts.symm)⟩, (Eq.trans (b := some .cut) fact_make (by kernel_rfl))⟩, (by as_aux_lemma => kernel_rfl)⟩, (by as_aux_lemma => kernel_rfl)⟩, (by as_aux_lemma => kernel_rfl)⟩, (by as_aux_lemma => kernel_rfl)⟩

theorem over : Rows.fnExactIdleSamplesRow.holds Try.pinned (OpenSpec.ofChange Rows.fnExactIdleSamplesSpec) :=
  OpenClaim.holds_of_wide 13 Try.f13 rfl rfl rfl rfl rfl rfl rfl ⟨rfl, rfl, rfl, rfl, rfl⟩ rfl rfl rfl rfl rfl (by kernel_rfl) Try.func13 closed
    (of_decide_eq_true (by kernel_rfl)) (by unfold Func.isWrapper; first | (rw [if_pos (by decide +kernel)]; kernel_rfl) | (rw [if_neg (by decide +kernel)]; exact ⟨rfl, rfl⟩))
    (fun os started H enc _ => lifted os started H enc)

theorem proved : Rows.FnExactIdleSamplesSaid :=
  over
#print axioms proved
end Go.Proofs.Ytopccpnkokdmiaa.fnExactIdleSamples
