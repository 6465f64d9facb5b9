/- The closed facts of the whole program that every statement's row asks: the three that read the head's words are shown over the list of its letters (a long literal's letters are dear to the kernel). -/
import Derived.Test.YtcbejjkbjompfaaRows
import Derived.WalkKit
import Derived.ProofKit
namespace Go.Proofs.Ytcbejjkbjompfaa
set_option maxRecDepth 100000
/-- The letters of the head's words, as numbers. -/
def sgn : List Nat := [104, 97, 114, 110, 101, 115, 115, 32, 50, 97, 101, 54, 54, 100, 102, 50, 100, 100, 57, 48, 98, 54, 98, 98, 97, 102, 54, 49, 101, 49, 49, 48, 53, 48, 99, 56, 100, 101, 53, 100, 50, 57, 49, 102, 102, 56, 51, 98, 50, 97, 57, 99, 50, 51, 52, 57, 55, 102, 100, 102, 101, 101, 49, 100, 55, 53, 52, 101, 100, 56, 101, 101, 32, 99, 117, 116, 32, 97, 116, 32, 108, 111, 111, 112, 46, 101, 120, 97, 109, 112, 108, 101, 47, 103, 48, 48, 56, 51, 51, 47, 108, 97, 119, 115, 46, 70, 110, 80, 108, 97, 110, 110, 101, 100]
theorem head_of : Try.prog.initOrder = String.ofList (sgn.map Char.ofNat) := by kernel_rfl
theorem head_list : Try.prog.initOrder.toList = sgn.map Char.ofNat := by rw [head_of]; exact String.toList_ofList
theorem fact_lifts : Try.prog.liftsFinal = false := by
  unfold Program.liftsFinal Program.headLifts
  rw [head_list]
  kernel_rfl
theorem make_of (P : Program) (l : List Char) (h : P.initOrder.toList = l) (hl : (behindMainWord (wordsSigns l)).head? = some ([99, 117, 116].map Char.ofNat)) : P.make = some .cut := by
  unfold Program.make
  rw [h]
  cases hb : behindMainWord (wordsSigns l) with
  | nil => rw [hb] at hl; cases hl
  | cons c rest =>
    rw [hb] at hl
    obtain rfl : c = [99, 117, 116].map Char.ofNat := by simpa using hl
    rfl
theorem enter_of (P : Program) (l : List Char) (h : P.initOrder.toList = l) (hl : (behindMainWord (wordsSigns l)).head? = some ([99, 117, 116].map Char.ofNat)) (h1 : P.laysLater = false) (h2 : P.bearsReflect = false) (h3 : P.doorFits [] = true) : P.mayEnter = true := by
  unfold Program.mayEnter
  rw [h]
  cases hb : behindMainWord (wordsSigns l) with
  | nil => rw [hb] at hl; cases hl
  | cons c rest =>
    rw [hb] at hl
    obtain rfl : c = [99, 117, 116].map Char.ofNat := by simpa using hl
    have hs : stripLifts liftWords ([99, 117, 116].map Char.ofNat :: rest) = ([], [99, 117, 116].map Char.ofNat :: rest) := by rfl
    simp only [hs, h1, h2, h3]
    rfl
theorem head_cut : (behindMainWord (wordsSigns (sgn.map Char.ofNat))).head? = some ([99, 117, 116].map Char.ofNat) := by kernel_rfl
theorem fact_make : Try.prog.make = some .cut := make_of _ _ head_list head_cut
theorem fact_later : Try.prog.laysLater = false := by kernel_rfl
theorem fact_reflect : Try.prog.bearsReflect = false := by kernel_rfl
theorem fact_door : Try.prog.doorFits [] = true := by kernel_rfl
theorem fact_enter : Try.prog.mayEnter = true := enter_of _ _ head_list head_cut fact_later fact_reflect fact_door
theorem fact_laid : laidOutB Try.prog = true := by kernel_rfl
theorem fact_maps : mapsRowed Try.prog = true := by kernel_rfl
theorem fact_heard : Try.prog.stopsHeard = true := by kernel_rfl
theorem fact_stops : Try.prog.stops = [] := by kernel_rfl
theorem fact_knobs : Try.prog.stopKnobs = [] := by kernel_rfl
theorem fact_plain : Try.prog.plainKeys = true := by kernel_rfl
theorem own : ownKnob Try.prog.godebug = none := by kernel_rfl
end Go.Proofs.Ytcbejjkbjompfaa
