/- The closed facts of the whole program that every statement's row asks: the three that read the head's words are shown over the list of its letters (a long literal's letters are dear to the kernel). -/
import Derived.Test.YtdkhldebnpmiiaaGreatDoorRows
import Derived.WalkKit
import Derived.ProofKit
namespace Go.Proofs.YtdkhldebnpmiiaaGreatDoor
set_option maxRecDepth 100000
/-- The letters of the head's words, as numbers. -/
def sgn : List Nat := [104, 97, 114, 110, 101, 115, 115, 32, 100, 53, 100, 101, 52, 56, 101, 55, 51, 101, 54, 99, 54, 100, 54, 49, 52, 48, 54, 53, 55, 57, 53, 102, 101, 50, 100, 48, 54, 54, 57, 100, 97, 97, 97, 55, 56, 98, 53, 99, 50, 50, 54, 100, 49, 48, 102, 53, 56, 101, 55, 55, 49, 99, 56, 99, 101, 50, 48, 57, 98, 51, 54, 102, 32, 99, 117, 116, 32, 97, 116, 32, 108, 111, 111, 112, 46, 101, 120, 97, 109, 112, 108, 101, 47, 103, 48, 48, 56, 51, 51, 47, 108, 97, 119, 115, 46, 70, 110, 67, 104, 97, 105, 110, 115, 32, 108, 111, 111, 112, 46, 101, 120, 97, 109, 112, 108, 101, 47, 103, 48, 48, 56, 51, 51, 47, 108, 97, 119, 115, 46, 70, 110, 69, 120, 97, 99, 116, 71, 97, 112, 115, 79, 102, 32, 108, 111, 111, 112, 46, 101, 120, 97, 109, 112, 108, 101, 47, 103, 48, 48, 56, 51, 51, 47, 108, 97, 119, 115, 46, 70, 110, 71, 97, 112, 115, 32, 108, 111, 111, 112, 46, 101, 120, 97, 109, 112, 108, 101, 47, 103, 48, 48, 56, 51, 51, 47, 108, 97, 119, 115, 46, 70, 110, 69, 120, 97, 99, 116, 83, 108, 97, 99, 107, 79, 102, 32, 108, 111, 111, 112, 46, 101, 120, 97, 109, 112, 108, 101, 47, 103, 48, 48, 56, 51, 51, 47, 108, 97, 119, 115, 46, 70, 110, 69, 120, 97, 99, 116, 85, 115, 101, 79, 102, 32, 108, 111, 111, 112, 46, 101, 120, 97, 109, 112, 108, 101, 47, 103, 48, 48, 56, 51, 51, 47, 108, 97, 119, 115, 46, 70, 110, 69, 120, 97, 99, 116, 80, 97, 121, 108, 111, 97, 100, 79, 102, 32, 108, 111, 111, 112, 46, 101, 120, 97, 109, 112, 108, 101, 47, 103, 48, 48, 56, 51, 51, 47, 108, 97, 119, 115, 46, 70, 110, 69, 120, 97, 99, 116, 67, 104, 97, 105, 110, 84, 105, 109, 101, 32, 108, 111, 111, 112, 46, 101, 120, 97, 109, 112, 108, 101, 47, 103, 48, 48, 56, 51, 51, 47, 108, 97, 119, 115, 46, 70, 110, 69, 120, 97, 99, 116, 87, 111, 114, 115, 116, 71, 97, 112, 32, 108, 111, 111, 112, 46, 101, 120, 97, 109, 112, 108, 101, 47, 103, 48, 48, 56, 51, 51, 47, 108, 97, 119, 115, 46, 70, 110, 85, 115, 101, 32, 108, 111, 111, 112, 46, 101, 120, 97, 109, 112, 108, 101, 47, 103, 48, 48, 56, 51, 51, 47, 108, 97, 119, 115, 46, 70, 110, 69, 120, 97, 99, 116, 74, 105, 116, 116, 101, 114, 79, 102]
theorem head_of : Tryz.prog.initOrder = String.ofList (sgn.map Char.ofNat) := by kernel_rfl
theorem head_list : Tryz.prog.initOrder.toList = sgn.map Char.ofNat := by rw [head_of]; exact String.toList_ofList
theorem fact_lifts : Tryz.prog.liftsFinal = false := by
  unfold Program.liftsFinal Program.headLifts
  rw [head_list]
  kernel_rfl
theorem make_of (P : Program) (l : List Char) (h : P.initOrder.toList = l) (hl : (behindMainWord (wordsSigns l)).head? = some ([99, 117, 116].map Char.ofNat)) : P.make = some .cut := by
  unfold Program.make
  rw [h]
  cases hb : behindMainWord (wordsSigns l) with
  | nil => rw [hb] at hl; cases hl
  | cons c rest =>
    rw [hb] at hl
    obtain rfl : c = [99, 117, 116].map Char.ofNat := by simpa using hl
    rfl
theorem enter_of (P : Program) (l : List Char) (h : P.initOrder.toList = l) (hl : (behindMainWord (wordsSigns l)).head? = some ([99, 117, 116].map Char.ofNat)) (h1 : P.laysLater = false) (h2 : P.bearsReflect = false) (h3 : P.doorFits [] = true) : P.mayEnter = true := by
  unfold Program.mayEnter
  rw [h]
  cases hb : behindMainWord (wordsSigns l) with
  | nil => rw [hb] at hl; cases hl
  | cons c rest =>
    rw [hb] at hl
    obtain rfl : c = [99, 117, 116].map Char.ofNat := by simpa using hl
    have hs : stripLifts liftWords ([99, 117, 116].map Char.ofNat :: rest) = ([], [99, 117, 116].map Char.ofNat :: rest) := by rfl
    simp only [hs, h1, h2, h3]
    rfl
theorem head_cut : (behindMainWord (wordsSigns (sgn.map Char.ofNat))).head? = some ([99, 117, 116].map Char.ofNat) := by kernel_rfl
theorem fact_make : Tryz.prog.make = some .cut := make_of _ _ head_list head_cut
theorem fact_later : Tryz.prog.laysLater = false := by kernel_rfl
theorem fact_reflect : Tryz.prog.bearsReflect = false := by kernel_rfl
theorem fact_door : Tryz.prog.doorFits [] = true := by kernel_rfl
theorem fact_enter : Tryz.prog.mayEnter = true := enter_of _ _ head_list head_cut fact_later fact_reflect fact_door
theorem fact_laid : laidOutB Tryz.prog = true := by kernel_rfl
theorem fact_maps : mapsRowed Tryz.prog = true := by kernel_rfl
theorem fact_heard : Tryz.prog.stopsHeard = true := by kernel_rfl
theorem fact_stops : Tryz.prog.stops = [] := by kernel_rfl
theorem fact_knobs : Tryz.prog.stopKnobs = [] := by kernel_rfl
theorem own : ownKnob Tryz.prog.godebug = none := by kernel_rfl
end Go.Proofs.YtdkhldebnpmiiaaGreatDoor
