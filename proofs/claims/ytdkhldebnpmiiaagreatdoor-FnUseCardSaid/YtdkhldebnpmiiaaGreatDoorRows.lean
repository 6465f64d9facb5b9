/-
  NARROWER THAN 'FOR EVERY INPUT', by the rows' own cells (each row's printed sentence says how): FnChains: laid · FnExactGapsOf: laid · FnGaps: laid · FnExactSlackOf: laid · FnExactUseOf: laid · FnExactPayloadOf: laid · FnExactChainTime: laid · FnExactWorstGap: laid · FnUse: laid · FnExactJitterOf: laid.
  DERIVED. THE GIVEN ROWS OF THIS SEAT. 10 by the template 'for every input the law returns true; each argument reads behind the call as it read before'; 0 by the template 'total and deterministic' (their statements: YtdkhldebnpmiiaaGreatDoorTotals.lean).
  GIVEN WITH THE SEED: the statements are not yours to turn. If you find one false, say at which input.
  Laid BY PROGRAM, IN A SANDBOX (cutbox-rows.mjs): the forced cells as the released guide's own fill.sh prints them over the translation aa11a1943c58ef26… (all of the seat's roots in one cut). By AI agents, Wed Nov 11 2026. No macro, syntax, notation, axiom, sorry.
-/
import Derived.Test.YtdkhldebnpmiiaaGreatDoorChecked
import GoSem.PinnedTables
import GoSem.Claim
import GoSem.ClaimJoined
import GoSem.ClaimMapViews
import Derived.JoinedTies
import Derived.KernelRfl
namespace Go.Proofs.YtdkhldebnpmiiaaGreatDoor
/- THE CELL 'sum', in the pinned program and in every row, IS THE sha256 OF THE DUMP (.gsa) THAT YtdkhldebnpmiiaaGreatDoorProg.lean LOADS. Nothing in Lean hashes anything: it is a label: what it is worth is what the hold of that sum in a sandbox is worth. -/
noncomputable def Tryz.pinned : Pinned := { name := "ytdkhldebnpmiiaagreatdoor", sum := "aa11a1943c58ef2638b016b6e751fef7e41aab3bc56a9ecc0c6639512b64a2df", checked := Tryz.checked }
namespace Rows
def none {H : Type} : Left H := { results := [], args := [] }

/- WHAT THE LISTED PACKAGE-LEVEL VARIABLES READ AS WHEN THE CALL BEGINS. Each datum BY PROGRAM (the guide's laid-datum.mjs) off the statement by which the dump's own 'gosem.cut.vars' lays the variable. In a bare row this is a premise. The card (YtdkhldebnpmiiaaGreatDoorCards.lean) ties it to the program's text. -/
def laid_unicode_utf8_acceptRanges {H : Type} : DataW H := .agg [.agg [.lit (.int .u8 128), .lit (.int .u8 191)], .agg [.lit (.int .u8 160), .lit (.int .u8 191)], .agg [.lit (.int .u8 128), .lit (.int .u8 159)], .agg [.lit (.int .u8 144), .lit (.int .u8 191)], .agg [.lit (.int .u8 128), .lit (.int .u8 143)], .agg [.lit (.int .u8 0), .lit (.int .u8 0)], .agg [.lit (.int .u8 0), .lit (.int .u8 0)], .agg [.lit (.int .u8 0), .lit (.int .u8 0)], .agg [.lit (.int .u8 0), .lit (.int .u8 0)], .agg [.lit (.int .u8 0), .lit (.int .u8 0)], .agg [.lit (.int .u8 0), .lit (.int .u8 0)], .agg [.lit (.int .u8 0), .lit (.int .u8 0)], .agg [.lit (.int .u8 0), .lit (.int .u8 0)], .agg [.lit (.int .u8 0), .lit (.int .u8 0)], .agg [.lit (.int .u8 0), .lit (.int .u8 0)], .agg [.lit (.int .u8 0), .lit (.int .u8 0)]]
/-- One of Go's own tables, pinned by name: the form's constant. -/
def laid_unicode_utf8_first : DataW Unit := Go.Pinned.utf8First

/-- 'laws.FnChains': WHATEVER THE INPUT: true; the input reads as it did. -/
def fnChainsSpec : ChangeSpec := { name := "fnChains", fn := fun _ => fun
  | [d] => { results := [.lit (.bool true)], args := [d] }
  | _ => none }
def fnChainsRow : OpenClaim := { program := "ytdkhldebnpmiiaagreatdoor", sum := "aa11a1943c58ef2638b016b6e751fef7e41aab3bc56a9ecc0c6639512b64a2df", func := "loop.example/g00833/laws.FnChains", spec := "fnChains", inPlace := ["internal/bytealg.IndexByteString", "internal/bytealg.IndexString"], unfollowed := true, recurses := true, named := ["unicode/utf8.first", "unicode/utf8.acceptRanges", "internal/bytealg.MaxLen"], apart := false, laid := [("unicode/utf8.acceptRanges", laid_unicode_utf8_acceptRanges), ("unicode/utf8.first", laid_unicode_utf8_first)] }
def FnChainsSaid : Prop := fnChainsRow.holds Tryz.pinned (OpenSpec.ofChange fnChainsSpec)

/-- ITS FALSE NEIGHBOUR: 'it returns false'. Refute it at one input. -/
def fnChainsWrong : ChangeSpec := { name := "fnChains", fn := fun _ => fun
  | [d] => { results := [.lit (.bool false)], args := [d] }
  | _ => none }
def FnChainsWrongFalsely : Prop := fnChainsRow.holds Tryz.pinned (OpenSpec.ofChange fnChainsWrong)

/-- 'laws.FnExactGapsOf': WHATEVER THE INPUT: true; the input reads as it did. -/
def fnExactGapsOfSpec : ChangeSpec := { name := "fnExactGapsOf", fn := fun _ => fun
  | [d1, d2, d3] => { results := [.lit (.bool true)], args := [d1, d2, d3] }
  | _ => none }
def fnExactGapsOfRow : OpenClaim := { program := "ytdkhldebnpmiiaagreatdoor", sum := "aa11a1943c58ef2638b016b6e751fef7e41aab3bc56a9ecc0c6639512b64a2df", func := "loop.example/g00833/laws.FnExactGapsOf", spec := "fnExactGapsOf", inPlace := ["internal/bytealg.IndexByteString", "internal/bytealg.IndexString"], unfollowed := true, recurses := true, named := ["unicode/utf8.first", "unicode/utf8.acceptRanges", "internal/bytealg.MaxLen"], apart := false, laid := [("unicode/utf8.acceptRanges", laid_unicode_utf8_acceptRanges), ("unicode/utf8.first", laid_unicode_utf8_first)] }
def FnExactGapsOfSaid : Prop := fnExactGapsOfRow.holds Tryz.pinned (OpenSpec.ofChange fnExactGapsOfSpec)

/-- ITS FALSE NEIGHBOUR: 'it returns false'. Refute it at one input. -/
def fnExactGapsOfWrong : ChangeSpec := { name := "fnExactGapsOf", fn := fun _ => fun
  | [d1, d2, d3] => { results := [.lit (.bool false)], args := [d1, d2, d3] }
  | _ => none }
def FnExactGapsOfWrongFalsely : Prop := fnExactGapsOfRow.holds Tryz.pinned (OpenSpec.ofChange fnExactGapsOfWrong)

/-- 'laws.FnGaps': WHATEVER THE INPUT: true; the input reads as it did. -/
def fnGapsSpec : ChangeSpec := { name := "fnGaps", fn := fun _ => fun
  | [d] => { results := [.lit (.bool true)], args := [d] }
  | _ => none }
def fnGapsRow : OpenClaim := { program := "ytdkhldebnpmiiaagreatdoor", sum := "aa11a1943c58ef2638b016b6e751fef7e41aab3bc56a9ecc0c6639512b64a2df", func := "loop.example/g00833/laws.FnGaps", spec := "fnGaps", inPlace := ["internal/bytealg.IndexByteString", "internal/bytealg.IndexString"], unfollowed := true, recurses := true, named := ["unicode/utf8.first", "unicode/utf8.acceptRanges", "internal/bytealg.MaxLen"], apart := false, laid := [("unicode/utf8.acceptRanges", laid_unicode_utf8_acceptRanges), ("unicode/utf8.first", laid_unicode_utf8_first)] }
def FnGapsSaid : Prop := fnGapsRow.holds Tryz.pinned (OpenSpec.ofChange fnGapsSpec)

/-- ITS FALSE NEIGHBOUR: 'it returns false'. Refute it at one input. -/
def fnGapsWrong : ChangeSpec := { name := "fnGaps", fn := fun _ => fun
  | [d] => { results := [.lit (.bool false)], args := [d] }
  | _ => none }
def FnGapsWrongFalsely : Prop := fnGapsRow.holds Tryz.pinned (OpenSpec.ofChange fnGapsWrong)

/-- 'laws.FnExactSlackOf': WHATEVER THE INPUT: true; the input reads as it did. -/
def fnExactSlackOfSpec : ChangeSpec := { name := "fnExactSlackOf", fn := fun _ => fun
  | [d1, d2] => { results := [.lit (.bool true)], args := [d1, d2] }
  | _ => none }
def fnExactSlackOfRow : OpenClaim := { program := "ytdkhldebnpmiiaagreatdoor", sum := "aa11a1943c58ef2638b016b6e751fef7e41aab3bc56a9ecc0c6639512b64a2df", func := "loop.example/g00833/laws.FnExactSlackOf", spec := "fnExactSlackOf", inPlace := ["internal/bytealg.IndexByteString", "internal/bytealg.IndexString"], unfollowed := true, recurses := true, named := ["unicode/utf8.first", "unicode/utf8.acceptRanges", "internal/bytealg.MaxLen"], apart := false, laid := [("unicode/utf8.acceptRanges", laid_unicode_utf8_acceptRanges), ("unicode/utf8.first", laid_unicode_utf8_first)] }
def FnExactSlackOfSaid : Prop := fnExactSlackOfRow.holds Tryz.pinned (OpenSpec.ofChange fnExactSlackOfSpec)

/-- ITS FALSE NEIGHBOUR: 'it returns false'. Refute it at one input. -/
def fnExactSlackOfWrong : ChangeSpec := { name := "fnExactSlackOf", fn := fun _ => fun
  | [d1, d2] => { results := [.lit (.bool false)], args := [d1, d2] }
  | _ => none }
def FnExactSlackOfWrongFalsely : Prop := fnExactSlackOfRow.holds Tryz.pinned (OpenSpec.ofChange fnExactSlackOfWrong)

/-- 'laws.FnExactUseOf': WHATEVER THE INPUT: true; the input reads as it did. -/
def fnExactUseOfSpec : ChangeSpec := { name := "fnExactUseOf", fn := fun _ => fun
  | [d1, d2] => { results := [.lit (.bool true)], args := [d1, d2] }
  | _ => none }
def fnExactUseOfRow : OpenClaim := { program := "ytdkhldebnpmiiaagreatdoor", sum := "aa11a1943c58ef2638b016b6e751fef7e41aab3bc56a9ecc0c6639512b64a2df", func := "loop.example/g00833/laws.FnExactUseOf", spec := "fnExactUseOf", inPlace := ["internal/bytealg.IndexByteString", "internal/bytealg.IndexString"], unfollowed := true, recurses := true, named := ["unicode/utf8.first", "unicode/utf8.acceptRanges", "internal/bytealg.MaxLen"], apart := false, laid := [("unicode/utf8.acceptRanges", laid_unicode_utf8_acceptRanges), ("unicode/utf8.first", laid_unicode_utf8_first)] }
def FnExactUseOfSaid : Prop := fnExactUseOfRow.holds Tryz.pinned (OpenSpec.ofChange fnExactUseOfSpec)

/-- ITS FALSE NEIGHBOUR: 'it returns false'. Refute it at one input. -/
def fnExactUseOfWrong : ChangeSpec := { name := "fnExactUseOf", fn := fun _ => fun
  | [d1, d2] => { results := [.lit (.bool false)], args := [d1, d2] }
  | _ => none }
def FnExactUseOfWrongFalsely : Prop := fnExactUseOfRow.holds Tryz.pinned (OpenSpec.ofChange fnExactUseOfWrong)

/-- 'laws.FnExactPayloadOf': WHATEVER THE INPUT: true; the input reads as it did. -/
def fnExactPayloadOfSpec : ChangeSpec := { name := "fnExactPayloadOf", fn := fun _ => fun
  | [d1, d2, d3] => { results := [.lit (.bool true)], args := [d1, d2, d3] }
  | _ => none }
def fnExactPayloadOfRow : OpenClaim := { program := "ytdkhldebnpmiiaagreatdoor", sum := "aa11a1943c58ef2638b016b6e751fef7e41aab3bc56a9ecc0c6639512b64a2df", func := "loop.example/g00833/laws.FnExactPayloadOf", spec := "fnExactPayloadOf", inPlace := ["internal/bytealg.IndexByteString", "internal/bytealg.IndexString"], unfollowed := true, recurses := true, named := ["unicode/utf8.first", "unicode/utf8.acceptRanges", "internal/bytealg.MaxLen"], apart := false, laid := [("unicode/utf8.acceptRanges", laid_unicode_utf8_acceptRanges), ("unicode/utf8.first", laid_unicode_utf8_first)] }
def FnExactPayloadOfSaid : Prop := fnExactPayloadOfRow.holds Tryz.pinned (OpenSpec.ofChange fnExactPayloadOfSpec)

/-- ITS FALSE NEIGHBOUR: 'it returns false'. Refute it at one input. -/
def fnExactPayloadOfWrong : ChangeSpec := { name := "fnExactPayloadOf", fn := fun _ => fun
  | [d1, d2, d3] => { results := [.lit (.bool false)], args := [d1, d2, d3] }
  | _ => none }
def FnExactPayloadOfWrongFalsely : Prop := fnExactPayloadOfRow.holds Tryz.pinned (OpenSpec.ofChange fnExactPayloadOfWrong)

/-- 'laws.FnExactChainTime': WHATEVER THE INPUT: true; the input reads as it did. -/
def fnExactChainTimeSpec : ChangeSpec := { name := "fnExactChainTime", fn := fun _ => fun
  | [d1, d2, d3, d4] => { results := [.lit (.bool true)], args := [d1, d2, d3, d4] }
  | _ => none }
def fnExactChainTimeRow : OpenClaim := { program := "ytdkhldebnpmiiaagreatdoor", sum := "aa11a1943c58ef2638b016b6e751fef7e41aab3bc56a9ecc0c6639512b64a2df", func := "loop.example/g00833/laws.FnExactChainTime", spec := "fnExactChainTime", inPlace := ["internal/bytealg.IndexByteString", "internal/bytealg.IndexString"], unfollowed := true, recurses := true, named := ["unicode/utf8.first", "unicode/utf8.acceptRanges", "internal/bytealg.MaxLen"], apart := false, laid := [("unicode/utf8.acceptRanges", laid_unicode_utf8_acceptRanges), ("unicode/utf8.first", laid_unicode_utf8_first)] }
def FnExactChainTimeSaid : Prop := fnExactChainTimeRow.holds Tryz.pinned (OpenSpec.ofChange fnExactChainTimeSpec)

/-- ITS FALSE NEIGHBOUR: 'it returns false'. Refute it at one input. -/
def fnExactChainTimeWrong : ChangeSpec := { name := "fnExactChainTime", fn := fun _ => fun
  | [d1, d2, d3, d4] => { results := [.lit (.bool false)], args := [d1, d2, d3, d4] }
  | _ => none }
def FnExactChainTimeWrongFalsely : Prop := fnExactChainTimeRow.holds Tryz.pinned (OpenSpec.ofChange fnExactChainTimeWrong)

/-- 'laws.FnExactWorstGap': WHATEVER THE INPUT: true; the input reads as it did. -/
def fnExactWorstGapSpec : ChangeSpec := { name := "fnExactWorstGap", fn := fun _ => fun
  | [d1, d2, d3] => { results := [.lit (.bool true)], args := [d1, d2, d3] }
  | _ => none }
def fnExactWorstGapRow : OpenClaim := { program := "ytdkhldebnpmiiaagreatdoor", sum := "aa11a1943c58ef2638b016b6e751fef7e41aab3bc56a9ecc0c6639512b64a2df", func := "loop.example/g00833/laws.FnExactWorstGap", spec := "fnExactWorstGap", inPlace := ["internal/bytealg.IndexByteString", "internal/bytealg.IndexString"], unfollowed := true, recurses := true, named := ["unicode/utf8.first", "unicode/utf8.acceptRanges", "internal/bytealg.MaxLen"], apart := false, laid := [("unicode/utf8.acceptRanges", laid_unicode_utf8_acceptRanges), ("unicode/utf8.first", laid_unicode_utf8_first)] }
def FnExactWorstGapSaid : Prop := fnExactWorstGapRow.holds Tryz.pinned (OpenSpec.ofChange fnExactWorstGapSpec)

/-- ITS FALSE NEIGHBOUR: 'it returns false'. Refute it at one input. -/
def fnExactWorstGapWrong : ChangeSpec := { name := "fnExactWorstGap", fn := fun _ => fun
  | [d1, d2, d3] => { results := [.lit (.bool false)], args := [d1, d2, d3] }
  | _ => none }
def FnExactWorstGapWrongFalsely : Prop := fnExactWorstGapRow.holds Tryz.pinned (OpenSpec.ofChange fnExactWorstGapWrong)

/-- 'laws.FnUse': WHATEVER THE INPUT: true; the input reads as it did. -/
def fnUseSpec : ChangeSpec := { name := "fnUse", fn := fun _ => fun
  | [d] => { results := [.lit (.bool true)], args := [d] }
  | _ => none }
def fnUseRow : OpenClaim := { program := "ytdkhldebnpmiiaagreatdoor", sum := "aa11a1943c58ef2638b016b6e751fef7e41aab3bc56a9ecc0c6639512b64a2df", func := "loop.example/g00833/laws.FnUse", spec := "fnUse", inPlace := ["internal/bytealg.IndexByteString", "internal/bytealg.IndexString"], unfollowed := true, recurses := true, named := ["unicode/utf8.first", "unicode/utf8.acceptRanges", "internal/bytealg.MaxLen"], apart := false, laid := [("unicode/utf8.acceptRanges", laid_unicode_utf8_acceptRanges), ("unicode/utf8.first", laid_unicode_utf8_first)] }
def FnUseSaid : Prop := fnUseRow.holds Tryz.pinned (OpenSpec.ofChange fnUseSpec)

/-- ITS FALSE NEIGHBOUR: 'it returns false'. Refute it at one input. -/
def fnUseWrong : ChangeSpec := { name := "fnUse", fn := fun _ => fun
  | [d] => { results := [.lit (.bool false)], args := [d] }
  | _ => none }
def FnUseWrongFalsely : Prop := fnUseRow.holds Tryz.pinned (OpenSpec.ofChange fnUseWrong)

/-- 'laws.FnExactJitterOf': WHATEVER THE INPUT: true; the input reads as it did. -/
def fnExactJitterOfSpec : ChangeSpec := { name := "fnExactJitterOf", fn := fun _ => fun
  | [d1, d2, d3] => { results := [.lit (.bool true)], args := [d1, d2, d3] }
  | _ => none }
def fnExactJitterOfRow : OpenClaim := { program := "ytdkhldebnpmiiaagreatdoor", sum := "aa11a1943c58ef2638b016b6e751fef7e41aab3bc56a9ecc0c6639512b64a2df", func := "loop.example/g00833/laws.FnExactJitterOf", spec := "fnExactJitterOf", inPlace := ["internal/bytealg.IndexByteString", "internal/bytealg.IndexString"], unfollowed := true, recurses := true, named := ["unicode/utf8.first", "unicode/utf8.acceptRanges", "internal/bytealg.MaxLen"], apart := false, laid := [("unicode/utf8.acceptRanges", laid_unicode_utf8_acceptRanges), ("unicode/utf8.first", laid_unicode_utf8_first)] }
def FnExactJitterOfSaid : Prop := fnExactJitterOfRow.holds Tryz.pinned (OpenSpec.ofChange fnExactJitterOfSpec)

/-- ITS FALSE NEIGHBOUR: 'it returns false'. Refute it at one input. -/
def fnExactJitterOfWrong : ChangeSpec := { name := "fnExactJitterOf", fn := fun _ => fun
  | [d1, d2, d3] => { results := [.lit (.bool false)], args := [d1, d2, d3] }
  | _ => none }
def FnExactJitterOfWrongFalsely : Prop := fnExactJitterOfRow.holds Tryz.pinned (OpenSpec.ofChange fnExactJitterOfWrong)

/- THE SECOND FORM. 'bulk': how many values and letters a reading holds, each counted each time it is reached (what is shared counts as often as it is met; a slice's spare places count too). A statement '..UptoSaid' is the law's where the arguments, and the package variables that the reading takes, are together of bulk at most 1048576: NARROWER than '..Said'. Prove '..Said' where nothing that the law and all that it calls make is longer than what came in: it says more and counts as full. Else prove '..UptoSaid'. A law counts once. -/
mutual
def uptoBulk {H : Type} : DataW H → Nat
  | .lit (.string bytes) => bytes.length + 1
  | .lit _ => 1
  | .nil => 1
  | .ptr d => uptoBulk d + 1
  | .slice elems spare => uptoBulkAll elems + uptoBulkAll spare + 1
  | .agg parts => uptoBulkAll parts + 1
  | .iface _ d => uptoBulk d + 1
  | .map entries => uptoBulkEntries entries + 1
  | .held _ => 1
def uptoBulkAll {H : Type} : List (DataW H) → Nat
  | [] => 0
  | d :: r => uptoBulk d + uptoBulkAll r
def uptoBulkEntries {H : Type} : List (Lit × DataW H) → Nat
  | [] => 0
  | x :: r => uptoBulkEntry x + uptoBulkEntries r
def uptoBulkEntry {H : Type} : Lit × DataW H → Nat
  | (.string bytes, d) => bytes.length + uptoBulk d + 1
  | (_, d) => uptoBulk d + 1
 end
def uptoSmall : (H : Type) → List (DataW H) → Bool := fun _ ds => decide (uptoBulkAll ds ≤ 1048576)
def OpenSpec.upto (s : _root_.Go.ChangeSpec) : _root_.Go.OpenSpec := { _root_.Go.OpenSpec.ofChange s with cond := some uptoSmall }

/-- 'laws.FnChains', WHERE WHAT IT READS IS OF BULK AT MOST 1048576: true; the input reads as it did. -/
def fnChainsUptoRow : OpenClaim := { program := "ytdkhldebnpmiiaagreatdoor", sum := "aa11a1943c58ef2638b016b6e751fef7e41aab3bc56a9ecc0c6639512b64a2df", func := "loop.example/g00833/laws.FnChains", spec := "fnChains", inPlace := ["internal/bytealg.IndexByteString", "internal/bytealg.IndexString"], unfollowed := true, recurses := true, named := ["unicode/utf8.first", "unicode/utf8.acceptRanges", "internal/bytealg.MaxLen"], apart := false, laid := [("unicode/utf8.acceptRanges", laid_unicode_utf8_acceptRanges), ("unicode/utf8.first", laid_unicode_utf8_first)], narrowed := true }
def FnChainsUptoSaid : Prop := fnChainsUptoRow.holds Tryz.pinned (OpenSpec.upto fnChainsSpec)

/-- 'laws.FnExactGapsOf', WHERE WHAT IT READS IS OF BULK AT MOST 1048576: true; the input reads as it did. -/
def fnExactGapsOfUptoRow : OpenClaim := { program := "ytdkhldebnpmiiaagreatdoor", sum := "aa11a1943c58ef2638b016b6e751fef7e41aab3bc56a9ecc0c6639512b64a2df", func := "loop.example/g00833/laws.FnExactGapsOf", spec := "fnExactGapsOf", inPlace := ["internal/bytealg.IndexByteString", "internal/bytealg.IndexString"], unfollowed := true, recurses := true, named := ["unicode/utf8.first", "unicode/utf8.acceptRanges", "internal/bytealg.MaxLen"], apart := false, laid := [("unicode/utf8.acceptRanges", laid_unicode_utf8_acceptRanges), ("unicode/utf8.first", laid_unicode_utf8_first)], narrowed := true }
def FnExactGapsOfUptoSaid : Prop := fnExactGapsOfUptoRow.holds Tryz.pinned (OpenSpec.upto fnExactGapsOfSpec)

/-- 'laws.FnGaps', WHERE WHAT IT READS IS OF BULK AT MOST 1048576: true; the input reads as it did. -/
def fnGapsUptoRow : OpenClaim := { program := "ytdkhldebnpmiiaagreatdoor", sum := "aa11a1943c58ef2638b016b6e751fef7e41aab3bc56a9ecc0c6639512b64a2df", func := "loop.example/g00833/laws.FnGaps", spec := "fnGaps", inPlace := ["internal/bytealg.IndexByteString", "internal/bytealg.IndexString"], unfollowed := true, recurses := true, named := ["unicode/utf8.first", "unicode/utf8.acceptRanges", "internal/bytealg.MaxLen"], apart := false, laid := [("unicode/utf8.acceptRanges", laid_unicode_utf8_acceptRanges), ("unicode/utf8.first", laid_unicode_utf8_first)], narrowed := true }
def FnGapsUptoSaid : Prop := fnGapsUptoRow.holds Tryz.pinned (OpenSpec.upto fnGapsSpec)

/-- 'laws.FnExactSlackOf', WHERE WHAT IT READS IS OF BULK AT MOST 1048576: true; the input reads as it did. -/
def fnExactSlackOfUptoRow : OpenClaim := { program := "ytdkhldebnpmiiaagreatdoor", sum := "aa11a1943c58ef2638b016b6e751fef7e41aab3bc56a9ecc0c6639512b64a2df", func := "loop.example/g00833/laws.FnExactSlackOf", spec := "fnExactSlackOf", inPlace := ["internal/bytealg.IndexByteString", "internal/bytealg.IndexString"], unfollowed := true, recurses := true, named := ["unicode/utf8.first", "unicode/utf8.acceptRanges", "internal/bytealg.MaxLen"], apart := false, laid := [("unicode/utf8.acceptRanges", laid_unicode_utf8_acceptRanges), ("unicode/utf8.first", laid_unicode_utf8_first)], narrowed := true }
def FnExactSlackOfUptoSaid : Prop := fnExactSlackOfUptoRow.holds Tryz.pinned (OpenSpec.upto fnExactSlackOfSpec)

/-- 'laws.FnExactUseOf', WHERE WHAT IT READS IS OF BULK AT MOST 1048576: true; the input reads as it did. -/
def fnExactUseOfUptoRow : OpenClaim := { program := "ytdkhldebnpmiiaagreatdoor", sum := "aa11a1943c58ef2638b016b6e751fef7e41aab3bc56a9ecc0c6639512b64a2df", func := "loop.example/g00833/laws.FnExactUseOf", spec := "fnExactUseOf", inPlace := ["internal/bytealg.IndexByteString", "internal/bytealg.IndexString"], unfollowed := true, recurses := true, named := ["unicode/utf8.first", "unicode/utf8.acceptRanges", "internal/bytealg.MaxLen"], apart := false, laid := [("unicode/utf8.acceptRanges", laid_unicode_utf8_acceptRanges), ("unicode/utf8.first", laid_unicode_utf8_first)], narrowed := true }
def FnExactUseOfUptoSaid : Prop := fnExactUseOfUptoRow.holds Tryz.pinned (OpenSpec.upto fnExactUseOfSpec)

/-- 'laws.FnExactPayloadOf', WHERE WHAT IT READS IS OF BULK AT MOST 1048576: true; the input reads as it did. -/
def fnExactPayloadOfUptoRow : OpenClaim := { program := "ytdkhldebnpmiiaagreatdoor", sum := "aa11a1943c58ef2638b016b6e751fef7e41aab3bc56a9ecc0c6639512b64a2df", func := "loop.example/g00833/laws.FnExactPayloadOf", spec := "fnExactPayloadOf", inPlace := ["internal/bytealg.IndexByteString", "internal/bytealg.IndexString"], unfollowed := true, recurses := true, named := ["unicode/utf8.first", "unicode/utf8.acceptRanges", "internal/bytealg.MaxLen"], apart := false, laid := [("unicode/utf8.acceptRanges", laid_unicode_utf8_acceptRanges), ("unicode/utf8.first", laid_unicode_utf8_first)], narrowed := true }
def FnExactPayloadOfUptoSaid : Prop := fnExactPayloadOfUptoRow.holds Tryz.pinned (OpenSpec.upto fnExactPayloadOfSpec)

/-- 'laws.FnExactChainTime', WHERE WHAT IT READS IS OF BULK AT MOST 1048576: true; the input reads as it did. -/
def fnExactChainTimeUptoRow : OpenClaim := { program := "ytdkhldebnpmiiaagreatdoor", sum := "aa11a1943c58ef2638b016b6e751fef7e41aab3bc56a9ecc0c6639512b64a2df", func := "loop.example/g00833/laws.FnExactChainTime", spec := "fnExactChainTime", inPlace := ["internal/bytealg.IndexByteString", "internal/bytealg.IndexString"], unfollowed := true, recurses := true, named := ["unicode/utf8.first", "unicode/utf8.acceptRanges", "internal/bytealg.MaxLen"], apart := false, laid := [("unicode/utf8.acceptRanges", laid_unicode_utf8_acceptRanges), ("unicode/utf8.first", laid_unicode_utf8_first)], narrowed := true }
def FnExactChainTimeUptoSaid : Prop := fnExactChainTimeUptoRow.holds Tryz.pinned (OpenSpec.upto fnExactChainTimeSpec)

/-- 'laws.FnExactWorstGap', WHERE WHAT IT READS IS OF BULK AT MOST 1048576: true; the input reads as it did. -/
def fnExactWorstGapUptoRow : OpenClaim := { program := "ytdkhldebnpmiiaagreatdoor", sum := "aa11a1943c58ef2638b016b6e751fef7e41aab3bc56a9ecc0c6639512b64a2df", func := "loop.example/g00833/laws.FnExactWorstGap", spec := "fnExactWorstGap", inPlace := ["internal/bytealg.IndexByteString", "internal/bytealg.IndexString"], unfollowed := true, recurses := true, named := ["unicode/utf8.first", "unicode/utf8.acceptRanges", "internal/bytealg.MaxLen"], apart := false, laid := [("unicode/utf8.acceptRanges", laid_unicode_utf8_acceptRanges), ("unicode/utf8.first", laid_unicode_utf8_first)], narrowed := true }
def FnExactWorstGapUptoSaid : Prop := fnExactWorstGapUptoRow.holds Tryz.pinned (OpenSpec.upto fnExactWorstGapSpec)

/-- 'laws.FnUse', WHERE WHAT IT READS IS OF BULK AT MOST 1048576: true; the input reads as it did. -/
def fnUseUptoRow : OpenClaim := { program := "ytdkhldebnpmiiaagreatdoor", sum := "aa11a1943c58ef2638b016b6e751fef7e41aab3bc56a9ecc0c6639512b64a2df", func := "loop.example/g00833/laws.FnUse", spec := "fnUse", inPlace := ["internal/bytealg.IndexByteString", "internal/bytealg.IndexString"], unfollowed := true, recurses := true, named := ["unicode/utf8.first", "unicode/utf8.acceptRanges", "internal/bytealg.MaxLen"], apart := false, laid := [("unicode/utf8.acceptRanges", laid_unicode_utf8_acceptRanges), ("unicode/utf8.first", laid_unicode_utf8_first)], narrowed := true }
def FnUseUptoSaid : Prop := fnUseUptoRow.holds Tryz.pinned (OpenSpec.upto fnUseSpec)

/-- 'laws.FnExactJitterOf', WHERE WHAT IT READS IS OF BULK AT MOST 1048576: true; the input reads as it did. -/
def fnExactJitterOfUptoRow : OpenClaim := { program := "ytdkhldebnpmiiaagreatdoor", sum := "aa11a1943c58ef2638b016b6e751fef7e41aab3bc56a9ecc0c6639512b64a2df", func := "loop.example/g00833/laws.FnExactJitterOf", spec := "fnExactJitterOf", inPlace := ["internal/bytealg.IndexByteString", "internal/bytealg.IndexString"], unfollowed := true, recurses := true, named := ["unicode/utf8.first", "unicode/utf8.acceptRanges", "internal/bytealg.MaxLen"], apart := false, laid := [("unicode/utf8.acceptRanges", laid_unicode_utf8_acceptRanges), ("unicode/utf8.first", laid_unicode_utf8_first)], narrowed := true }
def FnExactJitterOfUptoSaid : Prop := fnExactJitterOfUptoRow.holds Tryz.pinned (OpenSpec.upto fnExactJitterOfSpec)

end Rows
end Go.Proofs.YtdkhldebnpmiiaaGreatDoor
