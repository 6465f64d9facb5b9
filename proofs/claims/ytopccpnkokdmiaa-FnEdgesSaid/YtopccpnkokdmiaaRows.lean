/-
  No cell of these rows narrows 'for every input' (looked for: loops, veiled, ifaces, maps, wideKeys, modest, calm, conditions, laid).
  DERIVED. THE GIVEN ROWS OF THIS SEAT. 26 by the template 'for every input the law returns true; each argument reads behind the call as it read before'; 0 by the template 'total and deterministic' (their statements: YtopccpnkokdmiaaTotals.lean).
  GIVEN WITH THE SEED: the statements are not yours to turn. If you find one false, say at which input.
  Laid BY PROGRAM, IN A SANDBOX (cutbox-rows.mjs): the forced cells as the released guide's own fill.sh prints them over the translation a66bef05e1c65e68… (all of the seat's roots in one cut). By AI agents, Wed Nov 11 2026. No macro, syntax, notation, axiom, sorry.
-/
import Derived.Test.YtopccpnkokdmiaaChecked
import GoSem.Claim
import GoSem.ClaimJoined
import GoSem.ClaimMapViews
import Derived.JoinedTies
import Derived.KernelRfl
namespace Go.Proofs.Ytopccpnkokdmiaa
/- THE CELL 'sum', in the pinned program and in every row, IS THE sha256 OF THE DUMP (.gsa) THAT YtopccpnkokdmiaaProg.lean LOADS. Nothing in Lean hashes anything: it is a label: what it is worth is what the hold of that sum in a sandbox is worth. -/
noncomputable def Try.pinned : Pinned := { name := "ytopccpnkokdmiaa", sum := "a66bef05e1c65e68eac40eae6e10672beea8ee2c6129e85791ab008ed29ed012", checked := Try.checked }
namespace Rows
def none {H : Type} : Left H := { results := [], args := [] }

/-- 'laws.FnExactRoundCells': WHATEVER THE INPUT: true; the input reads as it did. -/
def fnExactRoundCellsSpec : ChangeSpec := { name := "fnExactRoundCells", fn := fun _ => fun
  | [d] => { results := [.lit (.bool true)], args := [d] }
  | _ => none }
def fnExactRoundCellsRow : OpenClaim := { program := "ytopccpnkokdmiaa", sum := "a66bef05e1c65e68eac40eae6e10672beea8ee2c6129e85791ab008ed29ed012", func := "loop.example/g00833/laws.FnExactRoundCells", spec := "fnExactRoundCells", apart := false }
def FnExactRoundCellsSaid : Prop := fnExactRoundCellsRow.holds Try.pinned (OpenSpec.ofChange fnExactRoundCellsSpec)

/-- ITS FALSE NEIGHBOUR: 'it returns false'. Refute it at one input. -/
def fnExactRoundCellsWrong : ChangeSpec := { name := "fnExactRoundCells", fn := fun _ => fun
  | [d] => { results := [.lit (.bool false)], args := [d] }
  | _ => none }
def FnExactRoundCellsWrongFalsely : Prop := fnExactRoundCellsRow.holds Try.pinned (OpenSpec.ofChange fnExactRoundCellsWrong)

/-- 'laws.FnExactAreApart': WHATEVER THE INPUT: true; the input reads as it did. -/
def fnExactAreApartSpec : ChangeSpec := { name := "fnExactAreApart", fn := fun _ => fun
  | [d1, d2] => { results := [.lit (.bool true)], args := [d1, d2] }
  | _ => none }
def fnExactAreApartRow : OpenClaim := { program := "ytopccpnkokdmiaa", sum := "a66bef05e1c65e68eac40eae6e10672beea8ee2c6129e85791ab008ed29ed012", func := "loop.example/g00833/laws.FnExactAreApart", spec := "fnExactAreApart", apart := false }
def FnExactAreApartSaid : Prop := fnExactAreApartRow.holds Try.pinned (OpenSpec.ofChange fnExactAreApartSpec)

/-- ITS FALSE NEIGHBOUR: 'it returns false'. Refute it at one input. -/
def fnExactAreApartWrong : ChangeSpec := { name := "fnExactAreApart", fn := fun _ => fun
  | [d1, d2] => { results := [.lit (.bool false)], args := [d1, d2] }
  | _ => none }
def FnExactAreApartWrongFalsely : Prop := fnExactAreApartRow.holds Try.pinned (OpenSpec.ofChange fnExactAreApartWrong)

/-- 'laws.FnExactSlipOf': WHATEVER THE INPUT: true; the input reads as it did. -/
def fnExactSlipOfSpec : ChangeSpec := { name := "fnExactSlipOf", fn := fun _ => fun
  | [d] => { results := [.lit (.bool true)], args := [d] }
  | _ => none }
def fnExactSlipOfRow : OpenClaim := { program := "ytopccpnkokdmiaa", sum := "a66bef05e1c65e68eac40eae6e10672beea8ee2c6129e85791ab008ed29ed012", func := "loop.example/g00833/laws.FnExactSlipOf", spec := "fnExactSlipOf", apart := false }
def FnExactSlipOfSaid : Prop := fnExactSlipOfRow.holds Try.pinned (OpenSpec.ofChange fnExactSlipOfSpec)

/-- ITS FALSE NEIGHBOUR: 'it returns false'. Refute it at one input. -/
def fnExactSlipOfWrong : ChangeSpec := { name := "fnExactSlipOf", fn := fun _ => fun
  | [d] => { results := [.lit (.bool false)], args := [d] }
  | _ => none }
def FnExactSlipOfWrongFalsely : Prop := fnExactSlipOfRow.holds Try.pinned (OpenSpec.ofChange fnExactSlipOfWrong)

/-- 'laws.FnExactMiddleSamples': WHATEVER THE INPUT: true; the input reads as it did. -/
def fnExactMiddleSamplesSpec : ChangeSpec := { name := "fnExactMiddleSamples", fn := fun _ => fun
  | [d] => { results := [.lit (.bool true)], args := [d] }
  | _ => none }
def fnExactMiddleSamplesRow : OpenClaim := { program := "ytopccpnkokdmiaa", sum := "a66bef05e1c65e68eac40eae6e10672beea8ee2c6129e85791ab008ed29ed012", func := "loop.example/g00833/laws.FnExactMiddleSamples", spec := "fnExactMiddleSamples", apart := false }
def FnExactMiddleSamplesSaid : Prop := fnExactMiddleSamplesRow.holds Try.pinned (OpenSpec.ofChange fnExactMiddleSamplesSpec)

/-- ITS FALSE NEIGHBOUR: 'it returns false'. Refute it at one input. -/
def fnExactMiddleSamplesWrong : ChangeSpec := { name := "fnExactMiddleSamples", fn := fun _ => fun
  | [d] => { results := [.lit (.bool false)], args := [d] }
  | _ => none }
def FnExactMiddleSamplesWrongFalsely : Prop := fnExactMiddleSamplesRow.holds Try.pinned (OpenSpec.ofChange fnExactMiddleSamplesWrong)

/-- 'laws.FnExactOnesInWindow': WHATEVER THE INPUT: true; the input reads as it did. -/
def fnExactOnesInWindowSpec : ChangeSpec := { name := "fnExactOnesInWindow", fn := fun _ => fun
  | [d1, d2] => { results := [.lit (.bool true)], args := [d1, d2] }
  | _ => none }
def fnExactOnesInWindowRow : OpenClaim := { program := "ytopccpnkokdmiaa", sum := "a66bef05e1c65e68eac40eae6e10672beea8ee2c6129e85791ab008ed29ed012", func := "loop.example/g00833/laws.FnExactOnesInWindow", spec := "fnExactOnesInWindow", apart := false }
def FnExactOnesInWindowSaid : Prop := fnExactOnesInWindowRow.holds Try.pinned (OpenSpec.ofChange fnExactOnesInWindowSpec)

/-- ITS FALSE NEIGHBOUR: 'it returns false'. Refute it at one input. -/
def fnExactOnesInWindowWrong : ChangeSpec := { name := "fnExactOnesInWindow", fn := fun _ => fun
  | [d1, d2] => { results := [.lit (.bool false)], args := [d1, d2] }
  | _ => none }
def FnExactOnesInWindowWrongFalsely : Prop := fnExactOnesInWindowRow.holds Try.pinned (OpenSpec.ofChange fnExactOnesInWindowWrong)

/-- 'laws.FnExactDelaySamples': WHATEVER THE INPUT: true; the input reads as it did. -/
def fnExactDelaySamplesSpec : ChangeSpec := { name := "fnExactDelaySamples", fn := fun _ => fun
  | [d] => { results := [.lit (.bool true)], args := [d] }
  | _ => none }
def fnExactDelaySamplesRow : OpenClaim := { program := "ytopccpnkokdmiaa", sum := "a66bef05e1c65e68eac40eae6e10672beea8ee2c6129e85791ab008ed29ed012", func := "loop.example/g00833/laws.FnExactDelaySamples", spec := "fnExactDelaySamples", apart := false }
def FnExactDelaySamplesSaid : Prop := fnExactDelaySamplesRow.holds Try.pinned (OpenSpec.ofChange fnExactDelaySamplesSpec)

/-- ITS FALSE NEIGHBOUR: 'it returns false'. Refute it at one input. -/
def fnExactDelaySamplesWrong : ChangeSpec := { name := "fnExactDelaySamples", fn := fun _ => fun
  | [d] => { results := [.lit (.bool false)], args := [d] }
  | _ => none }
def FnExactDelaySamplesWrongFalsely : Prop := fnExactDelaySamplesRow.holds Try.pinned (OpenSpec.ofChange fnExactDelaySamplesWrong)

/-- 'laws.FnExactFallingEdges': WHATEVER THE INPUT: true; the input reads as it did. -/
def fnExactFallingEdgesSpec : ChangeSpec := { name := "fnExactFallingEdges", fn := fun _ => fun
  | [d] => { results := [.lit (.bool true)], args := [d] }
  | _ => none }
def fnExactFallingEdgesRow : OpenClaim := { program := "ytopccpnkokdmiaa", sum := "a66bef05e1c65e68eac40eae6e10672beea8ee2c6129e85791ab008ed29ed012", func := "loop.example/g00833/laws.FnExactFallingEdges", spec := "fnExactFallingEdges", apart := false }
def FnExactFallingEdgesSaid : Prop := fnExactFallingEdgesRow.holds Try.pinned (OpenSpec.ofChange fnExactFallingEdgesSpec)

/-- ITS FALSE NEIGHBOUR: 'it returns false'. Refute it at one input. -/
def fnExactFallingEdgesWrong : ChangeSpec := { name := "fnExactFallingEdges", fn := fun _ => fun
  | [d] => { results := [.lit (.bool false)], args := [d] }
  | _ => none }
def FnExactFallingEdgesWrongFalsely : Prop := fnExactFallingEdgesRow.holds Try.pinned (OpenSpec.ofChange fnExactFallingEdgesWrong)

/-- 'laws.FnExactRisingEdges': WHATEVER THE INPUT: true; the input reads as it did. -/
def fnExactRisingEdgesSpec : ChangeSpec := { name := "fnExactRisingEdges", fn := fun _ => fun
  | [d] => { results := [.lit (.bool true)], args := [d] }
  | _ => none }
def fnExactRisingEdgesRow : OpenClaim := { program := "ytopccpnkokdmiaa", sum := "a66bef05e1c65e68eac40eae6e10672beea8ee2c6129e85791ab008ed29ed012", func := "loop.example/g00833/laws.FnExactRisingEdges", spec := "fnExactRisingEdges", apart := false }
def FnExactRisingEdgesSaid : Prop := fnExactRisingEdgesRow.holds Try.pinned (OpenSpec.ofChange fnExactRisingEdgesSpec)

/-- ITS FALSE NEIGHBOUR: 'it returns false'. Refute it at one input. -/
def fnExactRisingEdgesWrong : ChangeSpec := { name := "fnExactRisingEdges", fn := fun _ => fun
  | [d] => { results := [.lit (.bool false)], args := [d] }
  | _ => none }
def FnExactRisingEdgesWrongFalsely : Prop := fnExactRisingEdgesRow.holds Try.pinned (OpenSpec.ofChange fnExactRisingEdgesWrong)

/-- 'laws.FnExactRunLengths': WHATEVER THE INPUT: true; the input reads as it did. -/
def fnExactRunLengthsSpec : ChangeSpec := { name := "fnExactRunLengths", fn := fun _ => fun
  | [d] => { results := [.lit (.bool true)], args := [d] }
  | _ => none }
def fnExactRunLengthsRow : OpenClaim := { program := "ytopccpnkokdmiaa", sum := "a66bef05e1c65e68eac40eae6e10672beea8ee2c6129e85791ab008ed29ed012", func := "loop.example/g00833/laws.FnExactRunLengths", spec := "fnExactRunLengths", apart := false }
def FnExactRunLengthsSaid : Prop := fnExactRunLengthsRow.holds Try.pinned (OpenSpec.ofChange fnExactRunLengthsSpec)

/-- ITS FALSE NEIGHBOUR: 'it returns false'. Refute it at one input. -/
def fnExactRunLengthsWrong : ChangeSpec := { name := "fnExactRunLengths", fn := fun _ => fun
  | [d] => { results := [.lit (.bool false)], args := [d] }
  | _ => none }
def FnExactRunLengthsWrongFalsely : Prop := fnExactRunLengthsRow.holds Try.pinned (OpenSpec.ofChange fnExactRunLengthsWrong)

/-- 'laws.FnExactFromRuns': WHATEVER THE INPUT: true; the input reads as it did. -/
def fnExactFromRunsSpec : ChangeSpec := { name := "fnExactFromRuns", fn := fun _ => fun
  | [d1, d2] => { results := [.lit (.bool true)], args := [d1, d2] }
  | _ => none }
def fnExactFromRunsRow : OpenClaim := { program := "ytopccpnkokdmiaa", sum := "a66bef05e1c65e68eac40eae6e10672beea8ee2c6129e85791ab008ed29ed012", func := "loop.example/g00833/laws.FnExactFromRuns", spec := "fnExactFromRuns", apart := false }
def FnExactFromRunsSaid : Prop := fnExactFromRunsRow.holds Try.pinned (OpenSpec.ofChange fnExactFromRunsSpec)

/-- ITS FALSE NEIGHBOUR: 'it returns false'. Refute it at one input. -/
def fnExactFromRunsWrong : ChangeSpec := { name := "fnExactFromRuns", fn := fun _ => fun
  | [d1, d2] => { results := [.lit (.bool false)], args := [d1, d2] }
  | _ => none }
def FnExactFromRunsWrongFalsely : Prop := fnExactFromRunsRow.holds Try.pinned (OpenSpec.ofChange fnExactFromRunsWrong)

/-- 'laws.FnExactIdleSamples': WHATEVER THE INPUT: true; the input reads as it did. -/
def fnExactIdleSamplesSpec : ChangeSpec := { name := "fnExactIdleSamples", fn := fun _ => fun
  | [d] => { results := [.lit (.bool true)], args := [d] }
  | _ => none }
def fnExactIdleSamplesRow : OpenClaim := { program := "ytopccpnkokdmiaa", sum := "a66bef05e1c65e68eac40eae6e10672beea8ee2c6129e85791ab008ed29ed012", func := "loop.example/g00833/laws.FnExactIdleSamples", spec := "fnExactIdleSamples", apart := false }
def FnExactIdleSamplesSaid : Prop := fnExactIdleSamplesRow.holds Try.pinned (OpenSpec.ofChange fnExactIdleSamplesSpec)

/-- ITS FALSE NEIGHBOUR: 'it returns false'. Refute it at one input. -/
def fnExactIdleSamplesWrong : ChangeSpec := { name := "fnExactIdleSamples", fn := fun _ => fun
  | [d] => { results := [.lit (.bool false)], args := [d] }
  | _ => none }
def FnExactIdleSamplesWrongFalsely : Prop := fnExactIdleSamplesRow.holds Try.pinned (OpenSpec.ofChange fnExactIdleSamplesWrong)

/-- 'laws.FnExactCellRuns': WHATEVER THE INPUT: true; the input reads as it did. -/
def fnExactCellRunsSpec : ChangeSpec := { name := "fnExactCellRuns", fn := fun _ => fun
  | [d] => { results := [.lit (.bool true)], args := [d] }
  | _ => none }
def fnExactCellRunsRow : OpenClaim := { program := "ytopccpnkokdmiaa", sum := "a66bef05e1c65e68eac40eae6e10672beea8ee2c6129e85791ab008ed29ed012", func := "loop.example/g00833/laws.FnExactCellRuns", spec := "fnExactCellRuns", apart := false }
def FnExactCellRunsSaid : Prop := fnExactCellRunsRow.holds Try.pinned (OpenSpec.ofChange fnExactCellRunsSpec)

/-- ITS FALSE NEIGHBOUR: 'it returns false'. Refute it at one input. -/
def fnExactCellRunsWrong : ChangeSpec := { name := "fnExactCellRuns", fn := fun _ => fun
  | [d] => { results := [.lit (.bool false)], args := [d] }
  | _ => none }
def FnExactCellRunsWrongFalsely : Prop := fnExactCellRunsRow.holds Try.pinned (OpenSpec.ofChange fnExactCellRunsWrong)

/-- 'laws.FnExactNominalSamples': WHATEVER THE INPUT: true; the input reads as it did. -/
def fnExactNominalSamplesSpec : ChangeSpec := { name := "fnExactNominalSamples", fn := fun _ => fun
  | [d] => { results := [.lit (.bool true)], args := [d] }
  | _ => none }
def fnExactNominalSamplesRow : OpenClaim := { program := "ytopccpnkokdmiaa", sum := "a66bef05e1c65e68eac40eae6e10672beea8ee2c6129e85791ab008ed29ed012", func := "loop.example/g00833/laws.FnExactNominalSamples", spec := "fnExactNominalSamples", apart := false }
def FnExactNominalSamplesSaid : Prop := fnExactNominalSamplesRow.holds Try.pinned (OpenSpec.ofChange fnExactNominalSamplesSpec)

/-- ITS FALSE NEIGHBOUR: 'it returns false'. Refute it at one input. -/
def fnExactNominalSamplesWrong : ChangeSpec := { name := "fnExactNominalSamples", fn := fun _ => fun
  | [d] => { results := [.lit (.bool false)], args := [d] }
  | _ => none }
def FnExactNominalSamplesWrongFalsely : Prop := fnExactNominalSamplesRow.holds Try.pinned (OpenSpec.ofChange fnExactNominalSamplesWrong)

/-- 'laws.FnExactVoteSamples': WHATEVER THE INPUT: true; the input reads as it did. -/
def fnExactVoteSamplesSpec : ChangeSpec := { name := "fnExactVoteSamples", fn := fun _ => fun
  | [d] => { results := [.lit (.bool true)], args := [d] }
  | _ => none }
def fnExactVoteSamplesRow : OpenClaim := { program := "ytopccpnkokdmiaa", sum := "a66bef05e1c65e68eac40eae6e10672beea8ee2c6129e85791ab008ed29ed012", func := "loop.example/g00833/laws.FnExactVoteSamples", spec := "fnExactVoteSamples", apart := false }
def FnExactVoteSamplesSaid : Prop := fnExactVoteSamplesRow.holds Try.pinned (OpenSpec.ofChange fnExactVoteSamplesSpec)

/-- ITS FALSE NEIGHBOUR: 'it returns false'. Refute it at one input. -/
def fnExactVoteSamplesWrong : ChangeSpec := { name := "fnExactVoteSamples", fn := fun _ => fun
  | [d] => { results := [.lit (.bool false)], args := [d] }
  | _ => none }
def FnExactVoteSamplesWrongFalsely : Prop := fnExactVoteSamplesRow.holds Try.pinned (OpenSpec.ofChange fnExactVoteSamplesWrong)

/-- 'laws.FnExactStretchedSamples': WHATEVER THE INPUT: true; the input reads as it did. -/
def fnExactStretchedSamplesSpec : ChangeSpec := { name := "fnExactStretchedSamples", fn := fun _ => fun
  | [d1, d2] => { results := [.lit (.bool true)], args := [d1, d2] }
  | _ => none }
def fnExactStretchedSamplesRow : OpenClaim := { program := "ytopccpnkokdmiaa", sum := "a66bef05e1c65e68eac40eae6e10672beea8ee2c6129e85791ab008ed29ed012", func := "loop.example/g00833/laws.FnExactStretchedSamples", spec := "fnExactStretchedSamples", apart := false }
def FnExactStretchedSamplesSaid : Prop := fnExactStretchedSamplesRow.holds Try.pinned (OpenSpec.ofChange fnExactStretchedSamplesSpec)

/-- ITS FALSE NEIGHBOUR: 'it returns false'. Refute it at one input. -/
def fnExactStretchedSamplesWrong : ChangeSpec := { name := "fnExactStretchedSamples", fn := fun _ => fun
  | [d1, d2] => { results := [.lit (.bool false)], args := [d1, d2] }
  | _ => none }
def FnExactStretchedSamplesWrongFalsely : Prop := fnExactStretchedSamplesRow.holds Try.pinned (OpenSpec.ofChange fnExactStretchedSamplesWrong)

/-- 'laws.FnExactVoteEdges': WHATEVER THE INPUT: true; the input reads as it did. -/
def fnExactVoteEdgesSpec : ChangeSpec := { name := "fnExactVoteEdges", fn := fun _ => fun
  | [d] => { results := [.lit (.bool true)], args := [d] }
  | _ => none }
def fnExactVoteEdgesRow : OpenClaim := { program := "ytopccpnkokdmiaa", sum := "a66bef05e1c65e68eac40eae6e10672beea8ee2c6129e85791ab008ed29ed012", func := "loop.example/g00833/laws.FnExactVoteEdges", spec := "fnExactVoteEdges", apart := false }
def FnExactVoteEdgesSaid : Prop := fnExactVoteEdgesRow.holds Try.pinned (OpenSpec.ofChange fnExactVoteEdgesSpec)

/-- ITS FALSE NEIGHBOUR: 'it returns false'. Refute it at one input. -/
def fnExactVoteEdgesWrong : ChangeSpec := { name := "fnExactVoteEdges", fn := fun _ => fun
  | [d] => { results := [.lit (.bool false)], args := [d] }
  | _ => none }
def FnExactVoteEdgesWrongFalsely : Prop := fnExactVoteEdgesRow.holds Try.pinned (OpenSpec.ofChange fnExactVoteEdgesWrong)

/-- 'laws.FnExactChangedVotes': WHATEVER THE INPUT: true; the input reads as it did. -/
def fnExactChangedVotesSpec : ChangeSpec := { name := "fnExactChangedVotes", fn := fun _ => fun
  | [d1, d2] => { results := [.lit (.bool true)], args := [d1, d2] }
  | _ => none }
def fnExactChangedVotesRow : OpenClaim := { program := "ytopccpnkokdmiaa", sum := "a66bef05e1c65e68eac40eae6e10672beea8ee2c6129e85791ab008ed29ed012", func := "loop.example/g00833/laws.FnExactChangedVotes", spec := "fnExactChangedVotes", apart := false }
def FnExactChangedVotesSaid : Prop := fnExactChangedVotesRow.holds Try.pinned (OpenSpec.ofChange fnExactChangedVotesSpec)

/-- ITS FALSE NEIGHBOUR: 'it returns false'. Refute it at one input. -/
def fnExactChangedVotesWrong : ChangeSpec := { name := "fnExactChangedVotes", fn := fun _ => fun
  | [d1, d2] => { results := [.lit (.bool false)], args := [d1, d2] }
  | _ => none }
def FnExactChangedVotesWrongFalsely : Prop := fnExactChangedVotesRow.holds Try.pinned (OpenSpec.ofChange fnExactChangedVotesWrong)

/-- 'laws.FnWindows': WHATEVER THE INPUT: true; the input reads as it did. -/
def fnWindowsSpec : ChangeSpec := { name := "fnWindows", fn := fun _ => fun
  | [d] => { results := [.lit (.bool true)], args := [d] }
  | _ => none }
def fnWindowsRow : OpenClaim := { program := "ytopccpnkokdmiaa", sum := "a66bef05e1c65e68eac40eae6e10672beea8ee2c6129e85791ab008ed29ed012", func := "loop.example/g00833/laws.FnWindows", spec := "fnWindows", apart := false }
def FnWindowsSaid : Prop := fnWindowsRow.holds Try.pinned (OpenSpec.ofChange fnWindowsSpec)

/-- ITS FALSE NEIGHBOUR: 'it returns false'. Refute it at one input. -/
def fnWindowsWrong : ChangeSpec := { name := "fnWindows", fn := fun _ => fun
  | [d] => { results := [.lit (.bool false)], args := [d] }
  | _ => none }
def FnWindowsWrongFalsely : Prop := fnWindowsRow.holds Try.pinned (OpenSpec.ofChange fnWindowsWrong)

/-- 'laws.FnVoted': WHATEVER THE INPUT: true; the input reads as it did. -/
def fnVotedSpec : ChangeSpec := { name := "fnVoted", fn := fun _ => fun
  | [d] => { results := [.lit (.bool true)], args := [d] }
  | _ => none }
def fnVotedRow : OpenClaim := { program := "ytopccpnkokdmiaa", sum := "a66bef05e1c65e68eac40eae6e10672beea8ee2c6129e85791ab008ed29ed012", func := "loop.example/g00833/laws.FnVoted", spec := "fnVoted", apart := false }
def FnVotedSaid : Prop := fnVotedRow.holds Try.pinned (OpenSpec.ofChange fnVotedSpec)

/-- ITS FALSE NEIGHBOUR: 'it returns false'. Refute it at one input. -/
def fnVotedWrong : ChangeSpec := { name := "fnVoted", fn := fun _ => fun
  | [d] => { results := [.lit (.bool false)], args := [d] }
  | _ => none }
def FnVotedWrongFalsely : Prop := fnVotedRow.holds Try.pinned (OpenSpec.ofChange fnVotedWrong)

/-- 'laws.FnRuns': WHATEVER THE INPUT: true; the input reads as it did. -/
def fnRunsSpec : ChangeSpec := { name := "fnRuns", fn := fun _ => fun
  | [d] => { results := [.lit (.bool true)], args := [d] }
  | _ => none }
def fnRunsRow : OpenClaim := { program := "ytopccpnkokdmiaa", sum := "a66bef05e1c65e68eac40eae6e10672beea8ee2c6129e85791ab008ed29ed012", func := "loop.example/g00833/laws.FnRuns", spec := "fnRuns", apart := false }
def FnRunsSaid : Prop := fnRunsRow.holds Try.pinned (OpenSpec.ofChange fnRunsSpec)

/-- ITS FALSE NEIGHBOUR: 'it returns false'. Refute it at one input. -/
def fnRunsWrong : ChangeSpec := { name := "fnRuns", fn := fun _ => fun
  | [d] => { results := [.lit (.bool false)], args := [d] }
  | _ => none }
def FnRunsWrongFalsely : Prop := fnRunsRow.holds Try.pinned (OpenSpec.ofChange fnRunsWrong)

/-- 'laws.FnStretched': WHATEVER THE INPUT: true; the input reads as it did. -/
def fnStretchedSpec : ChangeSpec := { name := "fnStretched", fn := fun _ => fun
  | [d] => { results := [.lit (.bool true)], args := [d] }
  | _ => none }
def fnStretchedRow : OpenClaim := { program := "ytopccpnkokdmiaa", sum := "a66bef05e1c65e68eac40eae6e10672beea8ee2c6129e85791ab008ed29ed012", func := "loop.example/g00833/laws.FnStretched", spec := "fnStretched", apart := false }
def FnStretchedSaid : Prop := fnStretchedRow.holds Try.pinned (OpenSpec.ofChange fnStretchedSpec)

/-- ITS FALSE NEIGHBOUR: 'it returns false'. Refute it at one input. -/
def fnStretchedWrong : ChangeSpec := { name := "fnStretched", fn := fun _ => fun
  | [d] => { results := [.lit (.bool false)], args := [d] }
  | _ => none }
def FnStretchedWrongFalsely : Prop := fnStretchedRow.holds Try.pinned (OpenSpec.ofChange fnStretchedWrong)

/-- 'laws.FnVoteFlips': WHATEVER THE INPUT: true; the input reads as it did. -/
def fnVoteFlipsSpec : ChangeSpec := { name := "fnVoteFlips", fn := fun _ => fun
  | [d] => { results := [.lit (.bool true)], args := [d] }
  | _ => none }
def fnVoteFlipsRow : OpenClaim := { program := "ytopccpnkokdmiaa", sum := "a66bef05e1c65e68eac40eae6e10672beea8ee2c6129e85791ab008ed29ed012", func := "loop.example/g00833/laws.FnVoteFlips", spec := "fnVoteFlips", apart := false }
def FnVoteFlipsSaid : Prop := fnVoteFlipsRow.holds Try.pinned (OpenSpec.ofChange fnVoteFlipsSpec)

/-- ITS FALSE NEIGHBOUR: 'it returns false'. Refute it at one input. -/
def fnVoteFlipsWrong : ChangeSpec := { name := "fnVoteFlips", fn := fun _ => fun
  | [d] => { results := [.lit (.bool false)], args := [d] }
  | _ => none }
def FnVoteFlipsWrongFalsely : Prop := fnVoteFlipsRow.holds Try.pinned (OpenSpec.ofChange fnVoteFlipsWrong)

/-- 'laws.FnExactWorstDriftOf': WHATEVER THE INPUT: true; the input reads as it did. -/
def fnExactWorstDriftOfSpec : ChangeSpec := { name := "fnExactWorstDriftOf", fn := fun _ => fun
  | [d] => { results := [.lit (.bool true)], args := [d] }
  | _ => none }
def fnExactWorstDriftOfRow : OpenClaim := { program := "ytopccpnkokdmiaa", sum := "a66bef05e1c65e68eac40eae6e10672beea8ee2c6129e85791ab008ed29ed012", func := "loop.example/g00833/laws.FnExactWorstDriftOf", spec := "fnExactWorstDriftOf", recurses := true, apart := false }
def FnExactWorstDriftOfSaid : Prop := fnExactWorstDriftOfRow.holds Try.pinned (OpenSpec.ofChange fnExactWorstDriftOfSpec)

/-- ITS FALSE NEIGHBOUR: 'it returns false'. Refute it at one input. -/
def fnExactWorstDriftOfWrong : ChangeSpec := { name := "fnExactWorstDriftOf", fn := fun _ => fun
  | [d] => { results := [.lit (.bool false)], args := [d] }
  | _ => none }
def FnExactWorstDriftOfWrongFalsely : Prop := fnExactWorstDriftOfRow.holds Try.pinned (OpenSpec.ofChange fnExactWorstDriftOfWrong)

/-- 'laws.FnExactNextEdge': WHATEVER THE INPUT: true; the input reads as it did. -/
def fnExactNextEdgeSpec : ChangeSpec := { name := "fnExactNextEdge", fn := fun _ => fun
  | [d1, d2] => { results := [.lit (.bool true)], args := [d1, d2] }
  | _ => none }
def fnExactNextEdgeRow : OpenClaim := { program := "ytopccpnkokdmiaa", sum := "a66bef05e1c65e68eac40eae6e10672beea8ee2c6129e85791ab008ed29ed012", func := "loop.example/g00833/laws.FnExactNextEdge", spec := "fnExactNextEdge", recurses := true, apart := false }
def FnExactNextEdgeSaid : Prop := fnExactNextEdgeRow.holds Try.pinned (OpenSpec.ofChange fnExactNextEdgeSpec)

/-- ITS FALSE NEIGHBOUR: 'it returns false'. Refute it at one input. -/
def fnExactNextEdgeWrong : ChangeSpec := { name := "fnExactNextEdge", fn := fun _ => fun
  | [d1, d2] => { results := [.lit (.bool false)], args := [d1, d2] }
  | _ => none }
def FnExactNextEdgeWrongFalsely : Prop := fnExactNextEdgeRow.holds Try.pinned (OpenSpec.ofChange fnExactNextEdgeWrong)

/-- 'laws.FnExactEdgeDrift': WHATEVER THE INPUT: true; the input reads as it did. -/
def fnExactEdgeDriftSpec : ChangeSpec := { name := "fnExactEdgeDrift", fn := fun _ => fun
  | [d1, d2, d3] => { results := [.lit (.bool true)], args := [d1, d2, d3] }
  | _ => none }
def fnExactEdgeDriftRow : OpenClaim := { program := "ytopccpnkokdmiaa", sum := "a66bef05e1c65e68eac40eae6e10672beea8ee2c6129e85791ab008ed29ed012", func := "loop.example/g00833/laws.FnExactEdgeDrift", spec := "fnExactEdgeDrift", recurses := true, apart := false }
def FnExactEdgeDriftSaid : Prop := fnExactEdgeDriftRow.holds Try.pinned (OpenSpec.ofChange fnExactEdgeDriftSpec)

/-- ITS FALSE NEIGHBOUR: 'it returns false'. Refute it at one input. -/
def fnExactEdgeDriftWrong : ChangeSpec := { name := "fnExactEdgeDrift", fn := fun _ => fun
  | [d1, d2, d3] => { results := [.lit (.bool false)], args := [d1, d2, d3] }
  | _ => none }
def FnExactEdgeDriftWrongFalsely : Prop := fnExactEdgeDriftRow.holds Try.pinned (OpenSpec.ofChange fnExactEdgeDriftWrong)

/-- 'laws.FnEdges': WHATEVER THE INPUT: true; the input reads as it did. -/
def fnEdgesSpec : ChangeSpec := { name := "fnEdges", fn := fun _ => fun
  | [d] => { results := [.lit (.bool true)], args := [d] }
  | _ => none }
def fnEdgesRow : OpenClaim := { program := "ytopccpnkokdmiaa", sum := "a66bef05e1c65e68eac40eae6e10672beea8ee2c6129e85791ab008ed29ed012", func := "loop.example/g00833/laws.FnEdges", spec := "fnEdges", recurses := true, apart := false }
def FnEdgesSaid : Prop := fnEdgesRow.holds Try.pinned (OpenSpec.ofChange fnEdgesSpec)

/-- ITS FALSE NEIGHBOUR: 'it returns false'. Refute it at one input. -/
def fnEdgesWrong : ChangeSpec := { name := "fnEdges", fn := fun _ => fun
  | [d] => { results := [.lit (.bool false)], args := [d] }
  | _ => none }
def FnEdgesWrongFalsely : Prop := fnEdgesRow.holds Try.pinned (OpenSpec.ofChange fnEdgesWrong)

/- THE SECOND FORM. 'bulk': how many values and letters a reading holds, each counted each time it is reached (what is shared counts as often as it is met; a slice's spare places count too). A statement '..UptoSaid' is the law's where the arguments, and the package variables that the reading takes, are together of bulk at most 1048576: NARROWER than '..Said'. Prove '..Said' where nothing that the law and all that it calls make is longer than what came in: it says more and counts as full. Else prove '..UptoSaid'. A law counts once. -/
mutual
def uptoBulk {H : Type} : DataW H → Nat
  | .lit (.string bytes) => bytes.length + 1
  | .lit _ => 1
  | .nil => 1
  | .ptr d => uptoBulk d + 1
  | .slice elems spare => uptoBulkAll elems + uptoBulkAll spare + 1
  | .agg parts => uptoBulkAll parts + 1
  | .iface _ d => uptoBulk d + 1
  | .map entries => uptoBulkEntries entries + 1
  | .held _ => 1
def uptoBulkAll {H : Type} : List (DataW H) → Nat
  | [] => 0
  | d :: r => uptoBulk d + uptoBulkAll r
def uptoBulkEntries {H : Type} : List (Lit × DataW H) → Nat
  | [] => 0
  | x :: r => uptoBulkEntry x + uptoBulkEntries r
def uptoBulkEntry {H : Type} : Lit × DataW H → Nat
  | (.string bytes, d) => bytes.length + uptoBulk d + 1
  | (_, d) => uptoBulk d + 1
 end
def uptoSmall : (H : Type) → List (DataW H) → Bool := fun _ ds => decide (uptoBulkAll ds ≤ 1048576)
def OpenSpec.upto (s : _root_.Go.ChangeSpec) : _root_.Go.OpenSpec := { _root_.Go.OpenSpec.ofChange s with cond := some uptoSmall }

/-- 'laws.FnExactRoundCells', WHERE WHAT IT READS IS OF BULK AT MOST 1048576: true; the input reads as it did. -/
def fnExactRoundCellsUptoRow : OpenClaim := { program := "ytopccpnkokdmiaa", sum := "a66bef05e1c65e68eac40eae6e10672beea8ee2c6129e85791ab008ed29ed012", func := "loop.example/g00833/laws.FnExactRoundCells", spec := "fnExactRoundCells", apart := false, narrowed := true }
def FnExactRoundCellsUptoSaid : Prop := fnExactRoundCellsUptoRow.holds Try.pinned (OpenSpec.upto fnExactRoundCellsSpec)

/-- 'laws.FnExactAreApart', WHERE WHAT IT READS IS OF BULK AT MOST 1048576: true; the input reads as it did. -/
def fnExactAreApartUptoRow : OpenClaim := { program := "ytopccpnkokdmiaa", sum := "a66bef05e1c65e68eac40eae6e10672beea8ee2c6129e85791ab008ed29ed012", func := "loop.example/g00833/laws.FnExactAreApart", spec := "fnExactAreApart", apart := false, narrowed := true }
def FnExactAreApartUptoSaid : Prop := fnExactAreApartUptoRow.holds Try.pinned (OpenSpec.upto fnExactAreApartSpec)

/-- 'laws.FnExactSlipOf', WHERE WHAT IT READS IS OF BULK AT MOST 1048576: true; the input reads as it did. -/
def fnExactSlipOfUptoRow : OpenClaim := { program := "ytopccpnkokdmiaa", sum := "a66bef05e1c65e68eac40eae6e10672beea8ee2c6129e85791ab008ed29ed012", func := "loop.example/g00833/laws.FnExactSlipOf", spec := "fnExactSlipOf", apart := false, narrowed := true }
def FnExactSlipOfUptoSaid : Prop := fnExactSlipOfUptoRow.holds Try.pinned (OpenSpec.upto fnExactSlipOfSpec)

/-- 'laws.FnExactMiddleSamples', WHERE WHAT IT READS IS OF BULK AT MOST 1048576: true; the input reads as it did. -/
def fnExactMiddleSamplesUptoRow : OpenClaim := { program := "ytopccpnkokdmiaa", sum := "a66bef05e1c65e68eac40eae6e10672beea8ee2c6129e85791ab008ed29ed012", func := "loop.example/g00833/laws.FnExactMiddleSamples", spec := "fnExactMiddleSamples", apart := false, narrowed := true }
def FnExactMiddleSamplesUptoSaid : Prop := fnExactMiddleSamplesUptoRow.holds Try.pinned (OpenSpec.upto fnExactMiddleSamplesSpec)

/-- 'laws.FnExactOnesInWindow', WHERE WHAT IT READS IS OF BULK AT MOST 1048576: true; the input reads as it did. -/
def fnExactOnesInWindowUptoRow : OpenClaim := { program := "ytopccpnkokdmiaa", sum := "a66bef05e1c65e68eac40eae6e10672beea8ee2c6129e85791ab008ed29ed012", func := "loop.example/g00833/laws.FnExactOnesInWindow", spec := "fnExactOnesInWindow", apart := false, narrowed := true }
def FnExactOnesInWindowUptoSaid : Prop := fnExactOnesInWindowUptoRow.holds Try.pinned (OpenSpec.upto fnExactOnesInWindowSpec)

/-- 'laws.FnExactDelaySamples', WHERE WHAT IT READS IS OF BULK AT MOST 1048576: true; the input reads as it did. -/
def fnExactDelaySamplesUptoRow : OpenClaim := { program := "ytopccpnkokdmiaa", sum := "a66bef05e1c65e68eac40eae6e10672beea8ee2c6129e85791ab008ed29ed012", func := "loop.example/g00833/laws.FnExactDelaySamples", spec := "fnExactDelaySamples", apart := false, narrowed := true }
def FnExactDelaySamplesUptoSaid : Prop := fnExactDelaySamplesUptoRow.holds Try.pinned (OpenSpec.upto fnExactDelaySamplesSpec)

/-- 'laws.FnExactFallingEdges', WHERE WHAT IT READS IS OF BULK AT MOST 1048576: true; the input reads as it did. -/
def fnExactFallingEdgesUptoRow : OpenClaim := { program := "ytopccpnkokdmiaa", sum := "a66bef05e1c65e68eac40eae6e10672beea8ee2c6129e85791ab008ed29ed012", func := "loop.example/g00833/laws.FnExactFallingEdges", spec := "fnExactFallingEdges", apart := false, narrowed := true }
def FnExactFallingEdgesUptoSaid : Prop := fnExactFallingEdgesUptoRow.holds Try.pinned (OpenSpec.upto fnExactFallingEdgesSpec)

/-- 'laws.FnExactRisingEdges', WHERE WHAT IT READS IS OF BULK AT MOST 1048576: true; the input reads as it did. -/
def fnExactRisingEdgesUptoRow : OpenClaim := { program := "ytopccpnkokdmiaa", sum := "a66bef05e1c65e68eac40eae6e10672beea8ee2c6129e85791ab008ed29ed012", func := "loop.example/g00833/laws.FnExactRisingEdges", spec := "fnExactRisingEdges", apart := false, narrowed := true }
def FnExactRisingEdgesUptoSaid : Prop := fnExactRisingEdgesUptoRow.holds Try.pinned (OpenSpec.upto fnExactRisingEdgesSpec)

/-- 'laws.FnExactRunLengths', WHERE WHAT IT READS IS OF BULK AT MOST 1048576: true; the input reads as it did. -/
def fnExactRunLengthsUptoRow : OpenClaim := { program := "ytopccpnkokdmiaa", sum := "a66bef05e1c65e68eac40eae6e10672beea8ee2c6129e85791ab008ed29ed012", func := "loop.example/g00833/laws.FnExactRunLengths", spec := "fnExactRunLengths", apart := false, narrowed := true }
def FnExactRunLengthsUptoSaid : Prop := fnExactRunLengthsUptoRow.holds Try.pinned (OpenSpec.upto fnExactRunLengthsSpec)

/-- 'laws.FnExactFromRuns', WHERE WHAT IT READS IS OF BULK AT MOST 1048576: true; the input reads as it did. -/
def fnExactFromRunsUptoRow : OpenClaim := { program := "ytopccpnkokdmiaa", sum := "a66bef05e1c65e68eac40eae6e10672beea8ee2c6129e85791ab008ed29ed012", func := "loop.example/g00833/laws.FnExactFromRuns", spec := "fnExactFromRuns", apart := false, narrowed := true }
def FnExactFromRunsUptoSaid : Prop := fnExactFromRunsUptoRow.holds Try.pinned (OpenSpec.upto fnExactFromRunsSpec)

/-- 'laws.FnExactIdleSamples', WHERE WHAT IT READS IS OF BULK AT MOST 1048576: true; the input reads as it did. -/
def fnExactIdleSamplesUptoRow : OpenClaim := { program := "ytopccpnkokdmiaa", sum := "a66bef05e1c65e68eac40eae6e10672beea8ee2c6129e85791ab008ed29ed012", func := "loop.example/g00833/laws.FnExactIdleSamples", spec := "fnExactIdleSamples", apart := false, narrowed := true }
def FnExactIdleSamplesUptoSaid : Prop := fnExactIdleSamplesUptoRow.holds Try.pinned (OpenSpec.upto fnExactIdleSamplesSpec)

/-- 'laws.FnExactCellRuns', WHERE WHAT IT READS IS OF BULK AT MOST 1048576: true; the input reads as it did. -/
def fnExactCellRunsUptoRow : OpenClaim := { program := "ytopccpnkokdmiaa", sum := "a66bef05e1c65e68eac40eae6e10672beea8ee2c6129e85791ab008ed29ed012", func := "loop.example/g00833/laws.FnExactCellRuns", spec := "fnExactCellRuns", apart := false, narrowed := true }
def FnExactCellRunsUptoSaid : Prop := fnExactCellRunsUptoRow.holds Try.pinned (OpenSpec.upto fnExactCellRunsSpec)

/-- 'laws.FnExactNominalSamples', WHERE WHAT IT READS IS OF BULK AT MOST 1048576: true; the input reads as it did. -/
def fnExactNominalSamplesUptoRow : OpenClaim := { program := "ytopccpnkokdmiaa", sum := "a66bef05e1c65e68eac40eae6e10672beea8ee2c6129e85791ab008ed29ed012", func := "loop.example/g00833/laws.FnExactNominalSamples", spec := "fnExactNominalSamples", apart := false, narrowed := true }
def FnExactNominalSamplesUptoSaid : Prop := fnExactNominalSamplesUptoRow.holds Try.pinned (OpenSpec.upto fnExactNominalSamplesSpec)

/-- 'laws.FnExactVoteSamples', WHERE WHAT IT READS IS OF BULK AT MOST 1048576: true; the input reads as it did. -/
def fnExactVoteSamplesUptoRow : OpenClaim := { program := "ytopccpnkokdmiaa", sum := "a66bef05e1c65e68eac40eae6e10672beea8ee2c6129e85791ab008ed29ed012", func := "loop.example/g00833/laws.FnExactVoteSamples", spec := "fnExactVoteSamples", apart := false, narrowed := true }
def FnExactVoteSamplesUptoSaid : Prop := fnExactVoteSamplesUptoRow.holds Try.pinned (OpenSpec.upto fnExactVoteSamplesSpec)

/-- 'laws.FnExactStretchedSamples', WHERE WHAT IT READS IS OF BULK AT MOST 1048576: true; the input reads as it did. -/
def fnExactStretchedSamplesUptoRow : OpenClaim := { program := "ytopccpnkokdmiaa", sum := "a66bef05e1c65e68eac40eae6e10672beea8ee2c6129e85791ab008ed29ed012", func := "loop.example/g00833/laws.FnExactStretchedSamples", spec := "fnExactStretchedSamples", apart := false, narrowed := true }
def FnExactStretchedSamplesUptoSaid : Prop := fnExactStretchedSamplesUptoRow.holds Try.pinned (OpenSpec.upto fnExactStretchedSamplesSpec)

/-- 'laws.FnExactVoteEdges', WHERE WHAT IT READS IS OF BULK AT MOST 1048576: true; the input reads as it did. -/
def fnExactVoteEdgesUptoRow : OpenClaim := { program := "ytopccpnkokdmiaa", sum := "a66bef05e1c65e68eac40eae6e10672beea8ee2c6129e85791ab008ed29ed012", func := "loop.example/g00833/laws.FnExactVoteEdges", spec := "fnExactVoteEdges", apart := false, narrowed := true }
def FnExactVoteEdgesUptoSaid : Prop := fnExactVoteEdgesUptoRow.holds Try.pinned (OpenSpec.upto fnExactVoteEdgesSpec)

/-- 'laws.FnExactChangedVotes', WHERE WHAT IT READS IS OF BULK AT MOST 1048576: true; the input reads as it did. -/
def fnExactChangedVotesUptoRow : OpenClaim := { program := "ytopccpnkokdmiaa", sum := "a66bef05e1c65e68eac40eae6e10672beea8ee2c6129e85791ab008ed29ed012", func := "loop.example/g00833/laws.FnExactChangedVotes", spec := "fnExactChangedVotes", apart := false, narrowed := true }
def FnExactChangedVotesUptoSaid : Prop := fnExactChangedVotesUptoRow.holds Try.pinned (OpenSpec.upto fnExactChangedVotesSpec)

/-- 'laws.FnWindows', WHERE WHAT IT READS IS OF BULK AT MOST 1048576: true; the input reads as it did. -/
def fnWindowsUptoRow : OpenClaim := { program := "ytopccpnkokdmiaa", sum := "a66bef05e1c65e68eac40eae6e10672beea8ee2c6129e85791ab008ed29ed012", func := "loop.example/g00833/laws.FnWindows", spec := "fnWindows", apart := false, narrowed := true }
def FnWindowsUptoSaid : Prop := fnWindowsUptoRow.holds Try.pinned (OpenSpec.upto fnWindowsSpec)

/-- 'laws.FnVoted', WHERE WHAT IT READS IS OF BULK AT MOST 1048576: true; the input reads as it did. -/
def fnVotedUptoRow : OpenClaim := { program := "ytopccpnkokdmiaa", sum := "a66bef05e1c65e68eac40eae6e10672beea8ee2c6129e85791ab008ed29ed012", func := "loop.example/g00833/laws.FnVoted", spec := "fnVoted", apart := false, narrowed := true }
def FnVotedUptoSaid : Prop := fnVotedUptoRow.holds Try.pinned (OpenSpec.upto fnVotedSpec)

/-- 'laws.FnRuns', WHERE WHAT IT READS IS OF BULK AT MOST 1048576: true; the input reads as it did. -/
def fnRunsUptoRow : OpenClaim := { program := "ytopccpnkokdmiaa", sum := "a66bef05e1c65e68eac40eae6e10672beea8ee2c6129e85791ab008ed29ed012", func := "loop.example/g00833/laws.FnRuns", spec := "fnRuns", apart := false, narrowed := true }
def FnRunsUptoSaid : Prop := fnRunsUptoRow.holds Try.pinned (OpenSpec.upto fnRunsSpec)

/-- 'laws.FnStretched', WHERE WHAT IT READS IS OF BULK AT MOST 1048576: true; the input reads as it did. -/
def fnStretchedUptoRow : OpenClaim := { program := "ytopccpnkokdmiaa", sum := "a66bef05e1c65e68eac40eae6e10672beea8ee2c6129e85791ab008ed29ed012", func := "loop.example/g00833/laws.FnStretched", spec := "fnStretched", apart := false, narrowed := true }
def FnStretchedUptoSaid : Prop := fnStretchedUptoRow.holds Try.pinned (OpenSpec.upto fnStretchedSpec)

/-- 'laws.FnVoteFlips', WHERE WHAT IT READS IS OF BULK AT MOST 1048576: true; the input reads as it did. -/
def fnVoteFlipsUptoRow : OpenClaim := { program := "ytopccpnkokdmiaa", sum := "a66bef05e1c65e68eac40eae6e10672beea8ee2c6129e85791ab008ed29ed012", func := "loop.example/g00833/laws.FnVoteFlips", spec := "fnVoteFlips", apart := false, narrowed := true }
def FnVoteFlipsUptoSaid : Prop := fnVoteFlipsUptoRow.holds Try.pinned (OpenSpec.upto fnVoteFlipsSpec)

/-- 'laws.FnExactWorstDriftOf', WHERE WHAT IT READS IS OF BULK AT MOST 1048576: true; the input reads as it did. -/
def fnExactWorstDriftOfUptoRow : OpenClaim := { program := "ytopccpnkokdmiaa", sum := "a66bef05e1c65e68eac40eae6e10672beea8ee2c6129e85791ab008ed29ed012", func := "loop.example/g00833/laws.FnExactWorstDriftOf", spec := "fnExactWorstDriftOf", recurses := true, apart := false, narrowed := true }
def FnExactWorstDriftOfUptoSaid : Prop := fnExactWorstDriftOfUptoRow.holds Try.pinned (OpenSpec.upto fnExactWorstDriftOfSpec)

/-- 'laws.FnExactNextEdge', WHERE WHAT IT READS IS OF BULK AT MOST 1048576: true; the input reads as it did. -/
def fnExactNextEdgeUptoRow : OpenClaim := { program := "ytopccpnkokdmiaa", sum := "a66bef05e1c65e68eac40eae6e10672beea8ee2c6129e85791ab008ed29ed012", func := "loop.example/g00833/laws.FnExactNextEdge", spec := "fnExactNextEdge", recurses := true, apart := false, narrowed := true }
def FnExactNextEdgeUptoSaid : Prop := fnExactNextEdgeUptoRow.holds Try.pinned (OpenSpec.upto fnExactNextEdgeSpec)

/-- 'laws.FnExactEdgeDrift', WHERE WHAT IT READS IS OF BULK AT MOST 1048576: true; the input reads as it did. -/
def fnExactEdgeDriftUptoRow : OpenClaim := { program := "ytopccpnkokdmiaa", sum := "a66bef05e1c65e68eac40eae6e10672beea8ee2c6129e85791ab008ed29ed012", func := "loop.example/g00833/laws.FnExactEdgeDrift", spec := "fnExactEdgeDrift", recurses := true, apart := false, narrowed := true }
def FnExactEdgeDriftUptoSaid : Prop := fnExactEdgeDriftUptoRow.holds Try.pinned (OpenSpec.upto fnExactEdgeDriftSpec)

/-- 'laws.FnEdges', WHERE WHAT IT READS IS OF BULK AT MOST 1048576: true; the input reads as it did. -/
def fnEdgesUptoRow : OpenClaim := { program := "ytopccpnkokdmiaa", sum := "a66bef05e1c65e68eac40eae6e10672beea8ee2c6129e85791ab008ed29ed012", func := "loop.example/g00833/laws.FnEdges", spec := "fnEdges", recurses := true, apart := false, narrowed := true }
def FnEdgesUptoSaid : Prop := fnEdgesUptoRow.holds Try.pinned (OpenSpec.upto fnEdgesSpec)

end Rows
end Go.Proofs.Ytopccpnkokdmiaa
