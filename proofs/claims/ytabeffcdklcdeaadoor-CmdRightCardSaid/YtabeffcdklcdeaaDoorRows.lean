/-
  NARROWER THAN 'FOR EVERY INPUT', by the rows' own cells (each row's printed sentence says how): PathOverlaps: laid · PathAbove: laid · PathNormal: laid · PathOrder: laid · PathJoins: laid · PathParents: laid · PathMatches: laid · ClashPairs: laid · ClashKeys: laid · ClashSessions: laid · ClashLists: laid · CmdRight: laid.
  DERIVED. THE GIVEN ROWS OF THIS SEAT. 12 by the template 'for every input the law returns true; each argument reads behind the call as it read before'; 0 by the template 'total and deterministic' (their statements: YtabeffcdklcdeaaDoorTotals.lean).
  GIVEN WITH THE SEED: the statements are not yours to turn. If you find one false, say at which input.
  Laid BY PROGRAM, IN A SANDBOX (cutbox-rows.mjs): the forced cells as the released guide's own fill.sh prints them over the translation cf8562c6d0285980… (all of the seat's roots in one cut). By AI agents, Wed Nov 11 2026. No macro, syntax, notation, axiom, sorry.
-/
import Derived.Test.YtabeffcdklcdeaaDoorChecked
import GoSem.PinnedTables
import GoSem.Claim
import GoSem.ClaimJoined
import GoSem.ClaimMapViews
import Derived.JoinedTies
import Derived.KernelRfl
namespace Go.Proofs.YtabeffcdklcdeaaDoor
/- THE CELL 'sum', in the pinned program and in every row, IS THE sha256 OF THE DUMP (.gsa) THAT YtabeffcdklcdeaaDoorProg.lean LOADS. Nothing in Lean hashes anything: it is a label: what it is worth is what the hold of that sum in a sandbox is worth. -/
noncomputable def Tryd.pinned : Pinned := { name := "ytabeffcdklcdeaadoor", sum := "cf8562c6d0285980a46a9e0b67227794c8726c21393cc73317247b242cba11a4", checked := Tryd.checked }
namespace Rows
def none {H : Type} : Left H := { results := [], args := [] }

/- WHAT THE LISTED PACKAGE-LEVEL VARIABLES READ AS WHEN THE CALL BEGINS. Each datum BY PROGRAM (the guide's laid-datum.mjs) off the statement by which the dump's own 'gosem.cut.vars' lays the variable. In a bare row this is a premise. The card (YtabeffcdklcdeaaDoorCards.lean) ties it to the program's text. -/
def laid_unicode_utf8_acceptRanges {H : Type} : DataW H := .agg [.agg [.lit (.int .u8 128), .lit (.int .u8 191)], .agg [.lit (.int .u8 160), .lit (.int .u8 191)], .agg [.lit (.int .u8 128), .lit (.int .u8 159)], .agg [.lit (.int .u8 144), .lit (.int .u8 191)], .agg [.lit (.int .u8 128), .lit (.int .u8 143)], .agg [.lit (.int .u8 0), .lit (.int .u8 0)], .agg [.lit (.int .u8 0), .lit (.int .u8 0)], .agg [.lit (.int .u8 0), .lit (.int .u8 0)], .agg [.lit (.int .u8 0), .lit (.int .u8 0)], .agg [.lit (.int .u8 0), .lit (.int .u8 0)], .agg [.lit (.int .u8 0), .lit (.int .u8 0)], .agg [.lit (.int .u8 0), .lit (.int .u8 0)], .agg [.lit (.int .u8 0), .lit (.int .u8 0)], .agg [.lit (.int .u8 0), .lit (.int .u8 0)], .agg [.lit (.int .u8 0), .lit (.int .u8 0)], .agg [.lit (.int .u8 0), .lit (.int .u8 0)]]
/-- One of Go's own tables, pinned by name: the form's constant. -/
def laid_unicode_utf8_first : DataW Unit := Go.Pinned.utf8First

/-- 'moothilllaw04.PathOverlaps': WHATEVER THE INPUT: true; the input reads as it did. -/
def pathOverlapsSpec : ChangeSpec := { name := "pathOverlaps", fn := fun _ => fun
  | [d1, d2] => { results := [.lit (.bool true)], args := [d1, d2] }
  | _ => none }
def pathOverlapsRow : OpenClaim := { program := "ytabeffcdklcdeaadoor", sum := "cf8562c6d0285980a46a9e0b67227794c8726c21393cc73317247b242cba11a4", func := "moothill/moothilllaw04.PathOverlaps", spec := "pathOverlaps", inPlace := ["internal/bytealg.IndexByteString", "internal/bytealg.IndexString", "internal/abi.NoEscape", "internal/bytealg.MakeNoZero"], unfollowed := true, recurses := true, named := ["unicode/utf8.first", "unicode/utf8.acceptRanges", "internal/bytealg.MaxLen"], apart := false, laid := [("unicode/utf8.acceptRanges", laid_unicode_utf8_acceptRanges), ("unicode/utf8.first", laid_unicode_utf8_first)] }
def PathOverlapsSaid : Prop := pathOverlapsRow.holds Tryd.pinned (OpenSpec.ofChange pathOverlapsSpec)

/-- ITS FALSE NEIGHBOUR: 'it returns false'. Refute it at one input. -/
def pathOverlapsWrong : ChangeSpec := { name := "pathOverlaps", fn := fun _ => fun
  | [d1, d2] => { results := [.lit (.bool false)], args := [d1, d2] }
  | _ => none }
def PathOverlapsWrongFalsely : Prop := pathOverlapsRow.holds Tryd.pinned (OpenSpec.ofChange pathOverlapsWrong)

/-- 'moothilllaw04.PathAbove': WHATEVER THE INPUT: true; the input reads as it did. -/
def pathAboveSpec : ChangeSpec := { name := "pathAbove", fn := fun _ => fun
  | [d1, d2, d3] => { results := [.lit (.bool true)], args := [d1, d2, d3] }
  | _ => none }
def pathAboveRow : OpenClaim := { program := "ytabeffcdklcdeaadoor", sum := "cf8562c6d0285980a46a9e0b67227794c8726c21393cc73317247b242cba11a4", func := "moothill/moothilllaw04.PathAbove", spec := "pathAbove", inPlace := ["internal/bytealg.IndexByteString", "internal/bytealg.IndexString", "internal/abi.NoEscape", "internal/bytealg.MakeNoZero"], unfollowed := true, recurses := true, named := ["unicode/utf8.first", "unicode/utf8.acceptRanges", "internal/bytealg.MaxLen"], apart := false, laid := [("unicode/utf8.acceptRanges", laid_unicode_utf8_acceptRanges), ("unicode/utf8.first", laid_unicode_utf8_first)] }
def PathAboveSaid : Prop := pathAboveRow.holds Tryd.pinned (OpenSpec.ofChange pathAboveSpec)

/-- ITS FALSE NEIGHBOUR: 'it returns false'. Refute it at one input. -/
def pathAboveWrong : ChangeSpec := { name := "pathAbove", fn := fun _ => fun
  | [d1, d2, d3] => { results := [.lit (.bool false)], args := [d1, d2, d3] }
  | _ => none }
def PathAboveWrongFalsely : Prop := pathAboveRow.holds Tryd.pinned (OpenSpec.ofChange pathAboveWrong)

/-- 'moothilllaw04.PathNormal': WHATEVER THE INPUT: true; the input reads as it did. -/
def pathNormalSpec : ChangeSpec := { name := "pathNormal", fn := fun _ => fun
  | [d] => { results := [.lit (.bool true)], args := [d] }
  | _ => none }
def pathNormalRow : OpenClaim := { program := "ytabeffcdklcdeaadoor", sum := "cf8562c6d0285980a46a9e0b67227794c8726c21393cc73317247b242cba11a4", func := "moothill/moothilllaw04.PathNormal", spec := "pathNormal", inPlace := ["internal/bytealg.IndexByteString", "internal/bytealg.IndexString", "internal/abi.NoEscape", "internal/bytealg.MakeNoZero", "internal/bytealg.CountString"], unfollowed := true, recurses := true, named := ["unicode/utf8.first", "unicode/utf8.acceptRanges", "internal/bytealg.MaxLen"], apart := false, laid := [("unicode/utf8.acceptRanges", laid_unicode_utf8_acceptRanges), ("unicode/utf8.first", laid_unicode_utf8_first)] }
def PathNormalSaid : Prop := pathNormalRow.holds Tryd.pinned (OpenSpec.ofChange pathNormalSpec)

/-- ITS FALSE NEIGHBOUR: 'it returns false'. Refute it at one input. -/
def pathNormalWrong : ChangeSpec := { name := "pathNormal", fn := fun _ => fun
  | [d] => { results := [.lit (.bool false)], args := [d] }
  | _ => none }
def PathNormalWrongFalsely : Prop := pathNormalRow.holds Tryd.pinned (OpenSpec.ofChange pathNormalWrong)

/-- 'moothilllaw04.PathOrder': WHATEVER THE INPUT: true; the input reads as it did. -/
def pathOrderSpec : ChangeSpec := { name := "pathOrder", fn := fun _ => fun
  | [d1, d2, d3] => { results := [.lit (.bool true)], args := [d1, d2, d3] }
  | _ => none }
def pathOrderRow : OpenClaim := { program := "ytabeffcdklcdeaadoor", sum := "cf8562c6d0285980a46a9e0b67227794c8726c21393cc73317247b242cba11a4", func := "moothill/moothilllaw04.PathOrder", spec := "pathOrder", inPlace := ["internal/bytealg.IndexByteString", "internal/bytealg.IndexString", "internal/abi.NoEscape", "internal/bytealg.MakeNoZero", "internal/bytealg.CountString", "internal/bytealg.abigen_runtime_cmpstring"], unfollowed := true, recurses := true, named := ["unicode/utf8.first", "unicode/utf8.acceptRanges", "internal/bytealg.MaxLen"], apart := false, laid := [("unicode/utf8.acceptRanges", laid_unicode_utf8_acceptRanges), ("unicode/utf8.first", laid_unicode_utf8_first)] }
def PathOrderSaid : Prop := pathOrderRow.holds Tryd.pinned (OpenSpec.ofChange pathOrderSpec)

/-- ITS FALSE NEIGHBOUR: 'it returns false'. Refute it at one input. -/
def pathOrderWrong : ChangeSpec := { name := "pathOrder", fn := fun _ => fun
  | [d1, d2, d3] => { results := [.lit (.bool false)], args := [d1, d2, d3] }
  | _ => none }
def PathOrderWrongFalsely : Prop := pathOrderRow.holds Tryd.pinned (OpenSpec.ofChange pathOrderWrong)

/-- 'moothilllaw04.PathJoins': WHATEVER THE INPUT: true; the input reads as it did. -/
def pathJoinsSpec : ChangeSpec := { name := "pathJoins", fn := fun _ => fun
  | [d1, d2] => { results := [.lit (.bool true)], args := [d1, d2] }
  | _ => none }
def pathJoinsRow : OpenClaim := { program := "ytabeffcdklcdeaadoor", sum := "cf8562c6d0285980a46a9e0b67227794c8726c21393cc73317247b242cba11a4", func := "moothill/moothilllaw04.PathJoins", spec := "pathJoins", inPlace := ["internal/bytealg.IndexByteString", "internal/bytealg.IndexString", "internal/abi.NoEscape", "internal/bytealg.MakeNoZero", "internal/bytealg.CountString"], unfollowed := true, recurses := true, named := ["unicode/utf8.first", "unicode/utf8.acceptRanges", "internal/bytealg.MaxLen"], apart := false, laid := [("unicode/utf8.acceptRanges", laid_unicode_utf8_acceptRanges), ("unicode/utf8.first", laid_unicode_utf8_first)] }
def PathJoinsSaid : Prop := pathJoinsRow.holds Tryd.pinned (OpenSpec.ofChange pathJoinsSpec)

/-- ITS FALSE NEIGHBOUR: 'it returns false'. Refute it at one input. -/
def pathJoinsWrong : ChangeSpec := { name := "pathJoins", fn := fun _ => fun
  | [d1, d2] => { results := [.lit (.bool false)], args := [d1, d2] }
  | _ => none }
def PathJoinsWrongFalsely : Prop := pathJoinsRow.holds Tryd.pinned (OpenSpec.ofChange pathJoinsWrong)

/-- 'moothilllaw04.PathParents': WHATEVER THE INPUT: true; the input reads as it did. -/
def pathParentsSpec : ChangeSpec := { name := "pathParents", fn := fun _ => fun
  | [d1, d2] => { results := [.lit (.bool true)], args := [d1, d2] }
  | _ => none }
def pathParentsRow : OpenClaim := { program := "ytabeffcdklcdeaadoor", sum := "cf8562c6d0285980a46a9e0b67227794c8726c21393cc73317247b242cba11a4", func := "moothill/moothilllaw04.PathParents", spec := "pathParents", inPlace := ["internal/bytealg.IndexByteString", "internal/bytealg.IndexString", "internal/abi.NoEscape", "internal/bytealg.MakeNoZero", "internal/bytealg.CountString"], unfollowed := true, recurses := true, named := ["unicode/utf8.first", "unicode/utf8.acceptRanges", "internal/bytealg.MaxLen"], apart := false, laid := [("unicode/utf8.acceptRanges", laid_unicode_utf8_acceptRanges), ("unicode/utf8.first", laid_unicode_utf8_first)] }
def PathParentsSaid : Prop := pathParentsRow.holds Tryd.pinned (OpenSpec.ofChange pathParentsSpec)

/-- ITS FALSE NEIGHBOUR: 'it returns false'. Refute it at one input. -/
def pathParentsWrong : ChangeSpec := { name := "pathParents", fn := fun _ => fun
  | [d1, d2] => { results := [.lit (.bool false)], args := [d1, d2] }
  | _ => none }
def PathParentsWrongFalsely : Prop := pathParentsRow.holds Tryd.pinned (OpenSpec.ofChange pathParentsWrong)

/-- 'moothilllaw04.PathMatches': WHATEVER THE INPUT: true; the input reads as it did. -/
def pathMatchesSpec : ChangeSpec := { name := "pathMatches", fn := fun _ => fun
  | [d1, d2] => { results := [.lit (.bool true)], args := [d1, d2] }
  | _ => none }
def pathMatchesRow : OpenClaim := { program := "ytabeffcdklcdeaadoor", sum := "cf8562c6d0285980a46a9e0b67227794c8726c21393cc73317247b242cba11a4", func := "moothill/moothilllaw04.PathMatches", spec := "pathMatches", inPlace := ["internal/bytealg.IndexByteString", "internal/bytealg.IndexString", "internal/abi.NoEscape", "internal/bytealg.MakeNoZero", "internal/bytealg.CountString"], unfollowed := true, recurses := true, named := ["unicode/utf8.first", "unicode/utf8.acceptRanges", "internal/bytealg.MaxLen"], apart := false, laid := [("unicode/utf8.acceptRanges", laid_unicode_utf8_acceptRanges), ("unicode/utf8.first", laid_unicode_utf8_first)] }
def PathMatchesSaid : Prop := pathMatchesRow.holds Tryd.pinned (OpenSpec.ofChange pathMatchesSpec)

/-- ITS FALSE NEIGHBOUR: 'it returns false'. Refute it at one input. -/
def pathMatchesWrong : ChangeSpec := { name := "pathMatches", fn := fun _ => fun
  | [d1, d2] => { results := [.lit (.bool false)], args := [d1, d2] }
  | _ => none }
def PathMatchesWrongFalsely : Prop := pathMatchesRow.holds Tryd.pinned (OpenSpec.ofChange pathMatchesWrong)

/-- 'moothilllaw08.ClashPairs': WHATEVER THE INPUT: true; the input reads as it did. -/
def clashPairsSpec : ChangeSpec := { name := "clashPairs", fn := fun _ => fun
  | [d1, d2] => { results := [.lit (.bool true)], args := [d1, d2] }
  | _ => none }
def clashPairsRow : OpenClaim := { program := "ytabeffcdklcdeaadoor", sum := "cf8562c6d0285980a46a9e0b67227794c8726c21393cc73317247b242cba11a4", func := "moothill/moothilllaw08.ClashPairs", spec := "clashPairs", inPlace := ["internal/bytealg.IndexByteString", "internal/bytealg.IndexString", "internal/abi.NoEscape", "internal/bytealg.MakeNoZero"], unfollowed := true, recurses := true, named := ["unicode/utf8.first", "unicode/utf8.acceptRanges", "internal/bytealg.MaxLen"], apart := false, laid := [("unicode/utf8.acceptRanges", laid_unicode_utf8_acceptRanges), ("unicode/utf8.first", laid_unicode_utf8_first)] }
def ClashPairsSaid : Prop := clashPairsRow.holds Tryd.pinned (OpenSpec.ofChange clashPairsSpec)

/-- ITS FALSE NEIGHBOUR: 'it returns false'. Refute it at one input. -/
def clashPairsWrong : ChangeSpec := { name := "clashPairs", fn := fun _ => fun
  | [d1, d2] => { results := [.lit (.bool false)], args := [d1, d2] }
  | _ => none }
def ClashPairsWrongFalsely : Prop := clashPairsRow.holds Tryd.pinned (OpenSpec.ofChange clashPairsWrong)

/-- 'moothilllaw08.ClashKeys': WHATEVER THE INPUT: true; the input reads as it did. -/
def clashKeysSpec : ChangeSpec := { name := "clashKeys", fn := fun _ => fun
  | [d1, d2, d3] => { results := [.lit (.bool true)], args := [d1, d2, d3] }
  | _ => none }
def clashKeysRow : OpenClaim := { program := "ytabeffcdklcdeaadoor", sum := "cf8562c6d0285980a46a9e0b67227794c8726c21393cc73317247b242cba11a4", func := "moothill/moothilllaw08.ClashKeys", spec := "clashKeys", inPlace := ["internal/bytealg.IndexByteString", "internal/bytealg.IndexString", "internal/abi.NoEscape", "internal/bytealg.MakeNoZero"], unfollowed := true, recurses := true, named := ["unicode/utf8.first", "unicode/utf8.acceptRanges", "internal/bytealg.MaxLen"], apart := false, laid := [("unicode/utf8.acceptRanges", laid_unicode_utf8_acceptRanges), ("unicode/utf8.first", laid_unicode_utf8_first)] }
def ClashKeysSaid : Prop := clashKeysRow.holds Tryd.pinned (OpenSpec.ofChange clashKeysSpec)

/-- ITS FALSE NEIGHBOUR: 'it returns false'. Refute it at one input. -/
def clashKeysWrong : ChangeSpec := { name := "clashKeys", fn := fun _ => fun
  | [d1, d2, d3] => { results := [.lit (.bool false)], args := [d1, d2, d3] }
  | _ => none }
def ClashKeysWrongFalsely : Prop := clashKeysRow.holds Tryd.pinned (OpenSpec.ofChange clashKeysWrong)

/-- 'moothilllaw08.ClashSessions': WHATEVER THE INPUT: true; the input reads as it did. -/
def clashSessionsSpec : ChangeSpec := { name := "clashSessions", fn := fun _ => fun
  | [d1, d2] => { results := [.lit (.bool true)], args := [d1, d2] }
  | _ => none }
def clashSessionsRow : OpenClaim := { program := "ytabeffcdklcdeaadoor", sum := "cf8562c6d0285980a46a9e0b67227794c8726c21393cc73317247b242cba11a4", func := "moothill/moothilllaw08.ClashSessions", spec := "clashSessions", inPlace := ["internal/bytealg.IndexByteString", "internal/bytealg.IndexString", "internal/abi.NoEscape", "internal/bytealg.MakeNoZero"], unfollowed := true, recurses := true, named := ["unicode/utf8.first", "unicode/utf8.acceptRanges", "internal/bytealg.MaxLen"], apart := false, laid := [("unicode/utf8.acceptRanges", laid_unicode_utf8_acceptRanges), ("unicode/utf8.first", laid_unicode_utf8_first)] }
def ClashSessionsSaid : Prop := clashSessionsRow.holds Tryd.pinned (OpenSpec.ofChange clashSessionsSpec)

/-- ITS FALSE NEIGHBOUR: 'it returns false'. Refute it at one input. -/
def clashSessionsWrong : ChangeSpec := { name := "clashSessions", fn := fun _ => fun
  | [d1, d2] => { results := [.lit (.bool false)], args := [d1, d2] }
  | _ => none }
def ClashSessionsWrongFalsely : Prop := clashSessionsRow.holds Tryd.pinned (OpenSpec.ofChange clashSessionsWrong)

/-- 'moothilllaw08.ClashLists': WHATEVER THE INPUT: true; the input reads as it did. -/
def clashListsSpec : ChangeSpec := { name := "clashLists", fn := fun _ => fun
  | [d1, d2, d3] => { results := [.lit (.bool true)], args := [d1, d2, d3] }
  | _ => none }
def clashListsRow : OpenClaim := { program := "ytabeffcdklcdeaadoor", sum := "cf8562c6d0285980a46a9e0b67227794c8726c21393cc73317247b242cba11a4", func := "moothill/moothilllaw08.ClashLists", spec := "clashLists", inPlace := ["internal/bytealg.IndexByteString", "internal/bytealg.IndexString", "internal/abi.NoEscape", "internal/bytealg.MakeNoZero"], unfollowed := true, recurses := true, named := ["unicode/utf8.first", "unicode/utf8.acceptRanges", "internal/bytealg.MaxLen"], apart := false, laid := [("unicode/utf8.acceptRanges", laid_unicode_utf8_acceptRanges), ("unicode/utf8.first", laid_unicode_utf8_first)] }
def ClashListsSaid : Prop := clashListsRow.holds Tryd.pinned (OpenSpec.ofChange clashListsSpec)

/-- ITS FALSE NEIGHBOUR: 'it returns false'. Refute it at one input. -/
def clashListsWrong : ChangeSpec := { name := "clashLists", fn := fun _ => fun
  | [d1, d2, d3] => { results := [.lit (.bool false)], args := [d1, d2, d3] }
  | _ => none }
def ClashListsWrongFalsely : Prop := clashListsRow.holds Tryd.pinned (OpenSpec.ofChange clashListsWrong)

/-- 'moothilllaw07.CmdRight': WHATEVER THE INPUT: true; the input reads as it did. -/
def cmdRightSpec : ChangeSpec := { name := "cmdRight", fn := fun _ => fun
  | [d] => { results := [.lit (.bool true)], args := [d] }
  | _ => none }
def cmdRightRow : OpenClaim := { program := "ytabeffcdklcdeaadoor", sum := "cf8562c6d0285980a46a9e0b67227794c8726c21393cc73317247b242cba11a4", func := "moothill/moothilllaw07.CmdRight", spec := "cmdRight", inPlace := ["internal/bytealg.IndexByteString", "internal/bytealg.IndexString", "internal/abi.NoEscape", "internal/bytealg.MakeNoZero"], unfollowed := true, recurses := true, named := ["unicode/utf8.first", "unicode/utf8.acceptRanges", "internal/bytealg.MaxLen"], apart := false, laid := [("unicode/utf8.acceptRanges", laid_unicode_utf8_acceptRanges), ("unicode/utf8.first", laid_unicode_utf8_first)] }
def CmdRightSaid : Prop := cmdRightRow.holds Tryd.pinned (OpenSpec.ofChange cmdRightSpec)

/-- ITS FALSE NEIGHBOUR: 'it returns false'. Refute it at one input. -/
def cmdRightWrong : ChangeSpec := { name := "cmdRight", fn := fun _ => fun
  | [d] => { results := [.lit (.bool false)], args := [d] }
  | _ => none }
def CmdRightWrongFalsely : Prop := cmdRightRow.holds Tryd.pinned (OpenSpec.ofChange cmdRightWrong)

/- THE SECOND FORM. 'bulk': how many values and letters a reading holds, each counted each time it is reached (what is shared counts as often as it is met; a slice's spare places count too). A statement '..UptoSaid' is the law's where the arguments, and the package variables that the reading takes, are together of bulk at most 1048576: NARROWER than '..Said'. Prove '..Said' where nothing that the law and all that it calls make is longer than what came in: it says more and counts as full. Else prove '..UptoSaid'. A law counts once. -/
mutual
def uptoBulk {H : Type} : DataW H → Nat
  | .lit (.string bytes) => bytes.length + 1
  | .lit _ => 1
  | .nil => 1
  | .ptr d => uptoBulk d + 1
  | .slice elems spare => uptoBulkAll elems + uptoBulkAll spare + 1
  | .agg parts => uptoBulkAll parts + 1
  | .iface _ d => uptoBulk d + 1
  | .map entries => uptoBulkEntries entries + 1
  | .held _ => 1
def uptoBulkAll {H : Type} : List (DataW H) → Nat
  | [] => 0
  | d :: r => uptoBulk d + uptoBulkAll r
def uptoBulkEntries {H : Type} : List (Lit × DataW H) → Nat
  | [] => 0
  | x :: r => uptoBulkEntry x + uptoBulkEntries r
def uptoBulkEntry {H : Type} : Lit × DataW H → Nat
  | (.string bytes, d) => bytes.length + uptoBulk d + 1
  | (_, d) => uptoBulk d + 1
 end
def uptoSmall : (H : Type) → List (DataW H) → Bool := fun _ ds => decide (uptoBulkAll ds ≤ 1048576)
def OpenSpec.upto (s : _root_.Go.ChangeSpec) : _root_.Go.OpenSpec := { _root_.Go.OpenSpec.ofChange s with cond := some uptoSmall }

/-- 'moothilllaw04.PathOverlaps', WHERE WHAT IT READS IS OF BULK AT MOST 1048576: true; the input reads as it did. -/
def pathOverlapsUptoRow : OpenClaim := { program := "ytabeffcdklcdeaadoor", sum := "cf8562c6d0285980a46a9e0b67227794c8726c21393cc73317247b242cba11a4", func := "moothill/moothilllaw04.PathOverlaps", spec := "pathOverlaps", inPlace := ["internal/bytealg.IndexByteString", "internal/bytealg.IndexString", "internal/abi.NoEscape", "internal/bytealg.MakeNoZero"], unfollowed := true, recurses := true, named := ["unicode/utf8.first", "unicode/utf8.acceptRanges", "internal/bytealg.MaxLen"], apart := false, laid := [("unicode/utf8.acceptRanges", laid_unicode_utf8_acceptRanges), ("unicode/utf8.first", laid_unicode_utf8_first)], narrowed := true }
def PathOverlapsUptoSaid : Prop := pathOverlapsUptoRow.holds Tryd.pinned (OpenSpec.upto pathOverlapsSpec)

/-- 'moothilllaw04.PathAbove', WHERE WHAT IT READS IS OF BULK AT MOST 1048576: true; the input reads as it did. -/
def pathAboveUptoRow : OpenClaim := { program := "ytabeffcdklcdeaadoor", sum := "cf8562c6d0285980a46a9e0b67227794c8726c21393cc73317247b242cba11a4", func := "moothill/moothilllaw04.PathAbove", spec := "pathAbove", inPlace := ["internal/bytealg.IndexByteString", "internal/bytealg.IndexString", "internal/abi.NoEscape", "internal/bytealg.MakeNoZero"], unfollowed := true, recurses := true, named := ["unicode/utf8.first", "unicode/utf8.acceptRanges", "internal/bytealg.MaxLen"], apart := false, laid := [("unicode/utf8.acceptRanges", laid_unicode_utf8_acceptRanges), ("unicode/utf8.first", laid_unicode_utf8_first)], narrowed := true }
def PathAboveUptoSaid : Prop := pathAboveUptoRow.holds Tryd.pinned (OpenSpec.upto pathAboveSpec)

/-- 'moothilllaw04.PathNormal', WHERE WHAT IT READS IS OF BULK AT MOST 1048576: true; the input reads as it did. -/
def pathNormalUptoRow : OpenClaim := { program := "ytabeffcdklcdeaadoor", sum := "cf8562c6d0285980a46a9e0b67227794c8726c21393cc73317247b242cba11a4", func := "moothill/moothilllaw04.PathNormal", spec := "pathNormal", inPlace := ["internal/bytealg.IndexByteString", "internal/bytealg.IndexString", "internal/abi.NoEscape", "internal/bytealg.MakeNoZero", "internal/bytealg.CountString"], unfollowed := true, recurses := true, named := ["unicode/utf8.first", "unicode/utf8.acceptRanges", "internal/bytealg.MaxLen"], apart := false, laid := [("unicode/utf8.acceptRanges", laid_unicode_utf8_acceptRanges), ("unicode/utf8.first", laid_unicode_utf8_first)], narrowed := true }
def PathNormalUptoSaid : Prop := pathNormalUptoRow.holds Tryd.pinned (OpenSpec.upto pathNormalSpec)

/-- 'moothilllaw04.PathOrder', WHERE WHAT IT READS IS OF BULK AT MOST 1048576: true; the input reads as it did. -/
def pathOrderUptoRow : OpenClaim := { program := "ytabeffcdklcdeaadoor", sum := "cf8562c6d0285980a46a9e0b67227794c8726c21393cc73317247b242cba11a4", func := "moothill/moothilllaw04.PathOrder", spec := "pathOrder", inPlace := ["internal/bytealg.IndexByteString", "internal/bytealg.IndexString", "internal/abi.NoEscape", "internal/bytealg.MakeNoZero", "internal/bytealg.CountString", "internal/bytealg.abigen_runtime_cmpstring"], unfollowed := true, recurses := true, named := ["unicode/utf8.first", "unicode/utf8.acceptRanges", "internal/bytealg.MaxLen"], apart := false, laid := [("unicode/utf8.acceptRanges", laid_unicode_utf8_acceptRanges), ("unicode/utf8.first", laid_unicode_utf8_first)], narrowed := true }
def PathOrderUptoSaid : Prop := pathOrderUptoRow.holds Tryd.pinned (OpenSpec.upto pathOrderSpec)

/-- 'moothilllaw04.PathJoins', WHERE WHAT IT READS IS OF BULK AT MOST 1048576: true; the input reads as it did. -/
def pathJoinsUptoRow : OpenClaim := { program := "ytabeffcdklcdeaadoor", sum := "cf8562c6d0285980a46a9e0b67227794c8726c21393cc73317247b242cba11a4", func := "moothill/moothilllaw04.PathJoins", spec := "pathJoins", inPlace := ["internal/bytealg.IndexByteString", "internal/bytealg.IndexString", "internal/abi.NoEscape", "internal/bytealg.MakeNoZero", "internal/bytealg.CountString"], unfollowed := true, recurses := true, named := ["unicode/utf8.first", "unicode/utf8.acceptRanges", "internal/bytealg.MaxLen"], apart := false, laid := [("unicode/utf8.acceptRanges", laid_unicode_utf8_acceptRanges), ("unicode/utf8.first", laid_unicode_utf8_first)], narrowed := true }
def PathJoinsUptoSaid : Prop := pathJoinsUptoRow.holds Tryd.pinned (OpenSpec.upto pathJoinsSpec)

/-- 'moothilllaw04.PathParents', WHERE WHAT IT READS IS OF BULK AT MOST 1048576: true; the input reads as it did. -/
def pathParentsUptoRow : OpenClaim := { program := "ytabeffcdklcdeaadoor", sum := "cf8562c6d0285980a46a9e0b67227794c8726c21393cc73317247b242cba11a4", func := "moothill/moothilllaw04.PathParents", spec := "pathParents", inPlace := ["internal/bytealg.IndexByteString", "internal/bytealg.IndexString", "internal/abi.NoEscape", "internal/bytealg.MakeNoZero", "internal/bytealg.CountString"], unfollowed := true, recurses := true, named := ["unicode/utf8.first", "unicode/utf8.acceptRanges", "internal/bytealg.MaxLen"], apart := false, laid := [("unicode/utf8.acceptRanges", laid_unicode_utf8_acceptRanges), ("unicode/utf8.first", laid_unicode_utf8_first)], narrowed := true }
def PathParentsUptoSaid : Prop := pathParentsUptoRow.holds Tryd.pinned (OpenSpec.upto pathParentsSpec)

/-- 'moothilllaw04.PathMatches', WHERE WHAT IT READS IS OF BULK AT MOST 1048576: true; the input reads as it did. -/
def pathMatchesUptoRow : OpenClaim := { program := "ytabeffcdklcdeaadoor", sum := "cf8562c6d0285980a46a9e0b67227794c8726c21393cc73317247b242cba11a4", func := "moothill/moothilllaw04.PathMatches", spec := "pathMatches", inPlace := ["internal/bytealg.IndexByteString", "internal/bytealg.IndexString", "internal/abi.NoEscape", "internal/bytealg.MakeNoZero", "internal/bytealg.CountString"], unfollowed := true, recurses := true, named := ["unicode/utf8.first", "unicode/utf8.acceptRanges", "internal/bytealg.MaxLen"], apart := false, laid := [("unicode/utf8.acceptRanges", laid_unicode_utf8_acceptRanges), ("unicode/utf8.first", laid_unicode_utf8_first)], narrowed := true }
def PathMatchesUptoSaid : Prop := pathMatchesUptoRow.holds Tryd.pinned (OpenSpec.upto pathMatchesSpec)

/-- 'moothilllaw08.ClashPairs', WHERE WHAT IT READS IS OF BULK AT MOST 1048576: true; the input reads as it did. -/
def clashPairsUptoRow : OpenClaim := { program := "ytabeffcdklcdeaadoor", sum := "cf8562c6d0285980a46a9e0b67227794c8726c21393cc73317247b242cba11a4", func := "moothill/moothilllaw08.ClashPairs", spec := "clashPairs", inPlace := ["internal/bytealg.IndexByteString", "internal/bytealg.IndexString", "internal/abi.NoEscape", "internal/bytealg.MakeNoZero"], unfollowed := true, recurses := true, named := ["unicode/utf8.first", "unicode/utf8.acceptRanges", "internal/bytealg.MaxLen"], apart := false, laid := [("unicode/utf8.acceptRanges", laid_unicode_utf8_acceptRanges), ("unicode/utf8.first", laid_unicode_utf8_first)], narrowed := true }
def ClashPairsUptoSaid : Prop := clashPairsUptoRow.holds Tryd.pinned (OpenSpec.upto clashPairsSpec)

/-- 'moothilllaw08.ClashKeys', WHERE WHAT IT READS IS OF BULK AT MOST 1048576: true; the input reads as it did. -/
def clashKeysUptoRow : OpenClaim := { program := "ytabeffcdklcdeaadoor", sum := "cf8562c6d0285980a46a9e0b67227794c8726c21393cc73317247b242cba11a4", func := "moothill/moothilllaw08.ClashKeys", spec := "clashKeys", inPlace := ["internal/bytealg.IndexByteString", "internal/bytealg.IndexString", "internal/abi.NoEscape", "internal/bytealg.MakeNoZero"], unfollowed := true, recurses := true, named := ["unicode/utf8.first", "unicode/utf8.acceptRanges", "internal/bytealg.MaxLen"], apart := false, laid := [("unicode/utf8.acceptRanges", laid_unicode_utf8_acceptRanges), ("unicode/utf8.first", laid_unicode_utf8_first)], narrowed := true }
def ClashKeysUptoSaid : Prop := clashKeysUptoRow.holds Tryd.pinned (OpenSpec.upto clashKeysSpec)

/-- 'moothilllaw08.ClashSessions', WHERE WHAT IT READS IS OF BULK AT MOST 1048576: true; the input reads as it did. -/
def clashSessionsUptoRow : OpenClaim := { program := "ytabeffcdklcdeaadoor", sum := "cf8562c6d0285980a46a9e0b67227794c8726c21393cc73317247b242cba11a4", func := "moothill/moothilllaw08.ClashSessions", spec := "clashSessions", inPlace := ["internal/bytealg.IndexByteString", "internal/bytealg.IndexString", "internal/abi.NoEscape", "internal/bytealg.MakeNoZero"], unfollowed := true, recurses := true, named := ["unicode/utf8.first", "unicode/utf8.acceptRanges", "internal/bytealg.MaxLen"], apart := false, laid := [("unicode/utf8.acceptRanges", laid_unicode_utf8_acceptRanges), ("unicode/utf8.first", laid_unicode_utf8_first)], narrowed := true }
def ClashSessionsUptoSaid : Prop := clashSessionsUptoRow.holds Tryd.pinned (OpenSpec.upto clashSessionsSpec)

/-- 'moothilllaw08.ClashLists', WHERE WHAT IT READS IS OF BULK AT MOST 1048576: true; the input reads as it did. -/
def clashListsUptoRow : OpenClaim := { program := "ytabeffcdklcdeaadoor", sum := "cf8562c6d0285980a46a9e0b67227794c8726c21393cc73317247b242cba11a4", func := "moothill/moothilllaw08.ClashLists", spec := "clashLists", inPlace := ["internal/bytealg.IndexByteString", "internal/bytealg.IndexString", "internal/abi.NoEscape", "internal/bytealg.MakeNoZero"], unfollowed := true, recurses := true, named := ["unicode/utf8.first", "unicode/utf8.acceptRanges", "internal/bytealg.MaxLen"], apart := false, laid := [("unicode/utf8.acceptRanges", laid_unicode_utf8_acceptRanges), ("unicode/utf8.first", laid_unicode_utf8_first)], narrowed := true }
def ClashListsUptoSaid : Prop := clashListsUptoRow.holds Tryd.pinned (OpenSpec.upto clashListsSpec)

/-- 'moothilllaw07.CmdRight', WHERE WHAT IT READS IS OF BULK AT MOST 1048576: true; the input reads as it did. -/
def cmdRightUptoRow : OpenClaim := { program := "ytabeffcdklcdeaadoor", sum := "cf8562c6d0285980a46a9e0b67227794c8726c21393cc73317247b242cba11a4", func := "moothill/moothilllaw07.CmdRight", spec := "cmdRight", inPlace := ["internal/bytealg.IndexByteString", "internal/bytealg.IndexString", "internal/abi.NoEscape", "internal/bytealg.MakeNoZero"], unfollowed := true, recurses := true, named := ["unicode/utf8.first", "unicode/utf8.acceptRanges", "internal/bytealg.MaxLen"], apart := false, laid := [("unicode/utf8.acceptRanges", laid_unicode_utf8_acceptRanges), ("unicode/utf8.first", laid_unicode_utf8_first)], narrowed := true }
def CmdRightUptoSaid : Prop := cmdRightUptoRow.holds Tryd.pinned (OpenSpec.upto cmdRightSpec)

end Rows
end Go.Proofs.YtabeffcdklcdeaaDoor
