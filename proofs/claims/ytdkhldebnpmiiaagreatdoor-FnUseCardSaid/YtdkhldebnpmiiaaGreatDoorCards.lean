/-
  DERIVED. GIVEN WITH THE SEED: THE CARDS: each row of YtdkhldebnpmiiaaGreatDoorRows.lean that lists a variable, with what it lists TIED to the program's text (the seventh form; the later family's looks); each row that meets fmt, with fmt's text TOLD by the authors' own Lean function (tested against real Go, not proved from fmt's source: count such statements apart). THE CARD IS WHAT COUNTS. Prove the row's statement (the work); the ties are given (YtdkhldebnpmiiaaGreatDoorTie.lean); close each card by the builder's one call (the guide's Derived/Test/ToyasCard.lean, 'card_holds'). Laid BY PROGRAM, IN A SANDBOX (cutbox-door.mjs). By AI agents, Wed Nov 11 2026. No macro, syntax, notation, axiom, sorry.
-/
import Derived.Test.YtdkhldebnpmiiaaGreatDoorRows
import GoSem.ClaimSeven
namespace Go.Proofs.YtdkhldebnpmiiaaGreatDoor
namespace Rows

/-- THE TIED CARD OF 'laws.FnChains'. -/
def fnChainsCard : Claim7 := { stood := { row := fnChainsRow, standIns := [], harness := (true, "d5de48e73e6c6d614065795fe2d0669daaa78b5c226d10f58e771c8ce209b36f"), looks := false }, kinds := [], alts := [], laidByText := true, laidKinds := [.data, .pinned], laidTests := true, laidLooks := .later }
def FnChainsCardSaid : Prop := Claim7.holds Tryz.pinned (.plain (OpenSpec.ofChange fnChainsSpec)) fnChainsCard

/-- THE TIED CARD OF 'laws.FnExactGapsOf'. -/
def fnExactGapsOfCard : Claim7 := { stood := { row := fnExactGapsOfRow, standIns := [], harness := (true, "d5de48e73e6c6d614065795fe2d0669daaa78b5c226d10f58e771c8ce209b36f"), looks := false }, kinds := [], alts := [], laidByText := true, laidKinds := [.data, .pinned], laidTests := true, laidLooks := .later }
def FnExactGapsOfCardSaid : Prop := Claim7.holds Tryz.pinned (.plain (OpenSpec.ofChange fnExactGapsOfSpec)) fnExactGapsOfCard

/-- THE TIED CARD OF 'laws.FnGaps'. -/
def fnGapsCard : Claim7 := { stood := { row := fnGapsRow, standIns := [], harness := (true, "d5de48e73e6c6d614065795fe2d0669daaa78b5c226d10f58e771c8ce209b36f"), looks := false }, kinds := [], alts := [], laidByText := true, laidKinds := [.data, .pinned], laidTests := true, laidLooks := .later }
def FnGapsCardSaid : Prop := Claim7.holds Tryz.pinned (.plain (OpenSpec.ofChange fnGapsSpec)) fnGapsCard

/-- THE TIED CARD OF 'laws.FnExactSlackOf'. -/
def fnExactSlackOfCard : Claim7 := { stood := { row := fnExactSlackOfRow, standIns := [], harness := (true, "d5de48e73e6c6d614065795fe2d0669daaa78b5c226d10f58e771c8ce209b36f"), looks := false }, kinds := [], alts := [], laidByText := true, laidKinds := [.data, .pinned], laidTests := true, laidLooks := .later }
def FnExactSlackOfCardSaid : Prop := Claim7.holds Tryz.pinned (.plain (OpenSpec.ofChange fnExactSlackOfSpec)) fnExactSlackOfCard

/-- THE TIED CARD OF 'laws.FnExactUseOf'. -/
def fnExactUseOfCard : Claim7 := { stood := { row := fnExactUseOfRow, standIns := [], harness := (true, "d5de48e73e6c6d614065795fe2d0669daaa78b5c226d10f58e771c8ce209b36f"), looks := false }, kinds := [], alts := [], laidByText := true, laidKinds := [.data, .pinned], laidTests := true, laidLooks := .later }
def FnExactUseOfCardSaid : Prop := Claim7.holds Tryz.pinned (.plain (OpenSpec.ofChange fnExactUseOfSpec)) fnExactUseOfCard

/-- THE TIED CARD OF 'laws.FnExactPayloadOf'. -/
def fnExactPayloadOfCard : Claim7 := { stood := { row := fnExactPayloadOfRow, standIns := [], harness := (true, "d5de48e73e6c6d614065795fe2d0669daaa78b5c226d10f58e771c8ce209b36f"), looks := false }, kinds := [], alts := [], laidByText := true, laidKinds := [.data, .pinned], laidTests := true, laidLooks := .later }
def FnExactPayloadOfCardSaid : Prop := Claim7.holds Tryz.pinned (.plain (OpenSpec.ofChange fnExactPayloadOfSpec)) fnExactPayloadOfCard

/-- THE TIED CARD OF 'laws.FnExactChainTime'. -/
def fnExactChainTimeCard : Claim7 := { stood := { row := fnExactChainTimeRow, standIns := [], harness := (true, "d5de48e73e6c6d614065795fe2d0669daaa78b5c226d10f58e771c8ce209b36f"), looks := false }, kinds := [], alts := [], laidByText := true, laidKinds := [.data, .pinned], laidTests := true, laidLooks := .later }
def FnExactChainTimeCardSaid : Prop := Claim7.holds Tryz.pinned (.plain (OpenSpec.ofChange fnExactChainTimeSpec)) fnExactChainTimeCard

/-- THE TIED CARD OF 'laws.FnExactWorstGap'. -/
def fnExactWorstGapCard : Claim7 := { stood := { row := fnExactWorstGapRow, standIns := [], harness := (true, "d5de48e73e6c6d614065795fe2d0669daaa78b5c226d10f58e771c8ce209b36f"), looks := false }, kinds := [], alts := [], laidByText := true, laidKinds := [.data, .pinned], laidTests := true, laidLooks := .later }
def FnExactWorstGapCardSaid : Prop := Claim7.holds Tryz.pinned (.plain (OpenSpec.ofChange fnExactWorstGapSpec)) fnExactWorstGapCard

/-- THE TIED CARD OF 'laws.FnUse'. -/
def fnUseCard : Claim7 := { stood := { row := fnUseRow, standIns := [], harness := (true, "d5de48e73e6c6d614065795fe2d0669daaa78b5c226d10f58e771c8ce209b36f"), looks := false }, kinds := [], alts := [], laidByText := true, laidKinds := [.data, .pinned], laidTests := true, laidLooks := .later }
def FnUseCardSaid : Prop := Claim7.holds Tryz.pinned (.plain (OpenSpec.ofChange fnUseSpec)) fnUseCard

/-- THE TIED CARD OF 'laws.FnExactJitterOf'. -/
def fnExactJitterOfCard : Claim7 := { stood := { row := fnExactJitterOfRow, standIns := [], harness := (true, "d5de48e73e6c6d614065795fe2d0669daaa78b5c226d10f58e771c8ce209b36f"), looks := false }, kinds := [], alts := [], laidByText := true, laidKinds := [.data, .pinned], laidTests := true, laidLooks := .later }
def FnExactJitterOfCardSaid : Prop := Claim7.holds Tryz.pinned (.plain (OpenSpec.ofChange fnExactJitterOfSpec)) fnExactJitterOfCard

/-- THE SECOND FORM's CARD OF 'laws.FnChains'. -/
def fnChainsUptoCard : Claim7 := { stood := { row := fnChainsUptoRow, standIns := [], harness := (true, "d5de48e73e6c6d614065795fe2d0669daaa78b5c226d10f58e771c8ce209b36f"), looks := false }, kinds := [], alts := [], laidByText := true, laidKinds := [.data, .pinned], laidTests := true, laidLooks := .later }
def FnChainsUptoCardSaid : Prop := Claim7.holds Tryz.pinned (.plain (OpenSpec.upto fnChainsSpec)) fnChainsUptoCard

/-- THE SECOND FORM's CARD OF 'laws.FnExactGapsOf'. -/
def fnExactGapsOfUptoCard : Claim7 := { stood := { row := fnExactGapsOfUptoRow, standIns := [], harness := (true, "d5de48e73e6c6d614065795fe2d0669daaa78b5c226d10f58e771c8ce209b36f"), looks := false }, kinds := [], alts := [], laidByText := true, laidKinds := [.data, .pinned], laidTests := true, laidLooks := .later }
def FnExactGapsOfUptoCardSaid : Prop := Claim7.holds Tryz.pinned (.plain (OpenSpec.upto fnExactGapsOfSpec)) fnExactGapsOfUptoCard

/-- THE SECOND FORM's CARD OF 'laws.FnGaps'. -/
def fnGapsUptoCard : Claim7 := { stood := { row := fnGapsUptoRow, standIns := [], harness := (true, "d5de48e73e6c6d614065795fe2d0669daaa78b5c226d10f58e771c8ce209b36f"), looks := false }, kinds := [], alts := [], laidByText := true, laidKinds := [.data, .pinned], laidTests := true, laidLooks := .later }
def FnGapsUptoCardSaid : Prop := Claim7.holds Tryz.pinned (.plain (OpenSpec.upto fnGapsSpec)) fnGapsUptoCard

/-- THE SECOND FORM's CARD OF 'laws.FnExactSlackOf'. -/
def fnExactSlackOfUptoCard : Claim7 := { stood := { row := fnExactSlackOfUptoRow, standIns := [], harness := (true, "d5de48e73e6c6d614065795fe2d0669daaa78b5c226d10f58e771c8ce209b36f"), looks := false }, kinds := [], alts := [], laidByText := true, laidKinds := [.data, .pinned], laidTests := true, laidLooks := .later }
def FnExactSlackOfUptoCardSaid : Prop := Claim7.holds Tryz.pinned (.plain (OpenSpec.upto fnExactSlackOfSpec)) fnExactSlackOfUptoCard

/-- THE SECOND FORM's CARD OF 'laws.FnExactUseOf'. -/
def fnExactUseOfUptoCard : Claim7 := { stood := { row := fnExactUseOfUptoRow, standIns := [], harness := (true, "d5de48e73e6c6d614065795fe2d0669daaa78b5c226d10f58e771c8ce209b36f"), looks := false }, kinds := [], alts := [], laidByText := true, laidKinds := [.data, .pinned], laidTests := true, laidLooks := .later }
def FnExactUseOfUptoCardSaid : Prop := Claim7.holds Tryz.pinned (.plain (OpenSpec.upto fnExactUseOfSpec)) fnExactUseOfUptoCard

/-- THE SECOND FORM's CARD OF 'laws.FnExactPayloadOf'. -/
def fnExactPayloadOfUptoCard : Claim7 := { stood := { row := fnExactPayloadOfUptoRow, standIns := [], harness := (true, "d5de48e73e6c6d614065795fe2d0669daaa78b5c226d10f58e771c8ce209b36f"), looks := false }, kinds := [], alts := [], laidByText := true, laidKinds := [.data, .pinned], laidTests := true, laidLooks := .later }
def FnExactPayloadOfUptoCardSaid : Prop := Claim7.holds Tryz.pinned (.plain (OpenSpec.upto fnExactPayloadOfSpec)) fnExactPayloadOfUptoCard

/-- THE SECOND FORM's CARD OF 'laws.FnExactChainTime'. -/
def fnExactChainTimeUptoCard : Claim7 := { stood := { row := fnExactChainTimeUptoRow, standIns := [], harness := (true, "d5de48e73e6c6d614065795fe2d0669daaa78b5c226d10f58e771c8ce209b36f"), looks := false }, kinds := [], alts := [], laidByText := true, laidKinds := [.data, .pinned], laidTests := true, laidLooks := .later }
def FnExactChainTimeUptoCardSaid : Prop := Claim7.holds Tryz.pinned (.plain (OpenSpec.upto fnExactChainTimeSpec)) fnExactChainTimeUptoCard

/-- THE SECOND FORM's CARD OF 'laws.FnExactWorstGap'. -/
def fnExactWorstGapUptoCard : Claim7 := { stood := { row := fnExactWorstGapUptoRow, standIns := [], harness := (true, "d5de48e73e6c6d614065795fe2d0669daaa78b5c226d10f58e771c8ce209b36f"), looks := false }, kinds := [], alts := [], laidByText := true, laidKinds := [.data, .pinned], laidTests := true, laidLooks := .later }
def FnExactWorstGapUptoCardSaid : Prop := Claim7.holds Tryz.pinned (.plain (OpenSpec.upto fnExactWorstGapSpec)) fnExactWorstGapUptoCard

/-- THE SECOND FORM's CARD OF 'laws.FnUse'. -/
def fnUseUptoCard : Claim7 := { stood := { row := fnUseUptoRow, standIns := [], harness := (true, "d5de48e73e6c6d614065795fe2d0669daaa78b5c226d10f58e771c8ce209b36f"), looks := false }, kinds := [], alts := [], laidByText := true, laidKinds := [.data, .pinned], laidTests := true, laidLooks := .later }
def FnUseUptoCardSaid : Prop := Claim7.holds Tryz.pinned (.plain (OpenSpec.upto fnUseSpec)) fnUseUptoCard

/-- THE SECOND FORM's CARD OF 'laws.FnExactJitterOf'. -/
def fnExactJitterOfUptoCard : Claim7 := { stood := { row := fnExactJitterOfUptoRow, standIns := [], harness := (true, "d5de48e73e6c6d614065795fe2d0669daaa78b5c226d10f58e771c8ce209b36f"), looks := false }, kinds := [], alts := [], laidByText := true, laidKinds := [.data, .pinned], laidTests := true, laidLooks := .later }
def FnExactJitterOfUptoCardSaid : Prop := Claim7.holds Tryz.pinned (.plain (OpenSpec.upto fnExactJitterOfSpec)) fnExactJitterOfUptoCard
end Rows
end Go.Proofs.YtdkhldebnpmiiaaGreatDoor
