/-
  NARROWER THAN 'FOR EVERY INPUT', by the rows' own cells (each row's printed sentence says how): PathOverlaps: laid · CmdUnlike: laid · VoteAgain: laid · VoteCovers: laid · InstFollows: laid · PickVoted: laid · PickSwift: laid · CmdBytes: laid · LeadSwift: laid · LeadOnce: laid · LeadMerges: laid · InstBytes: laid.
  DERIVED. THE GIVEN ROWS OF THIS SEAT. 12 by the template 'for every input the law returns true; each argument reads behind the call as it read before'; 0 by the template 'total and deterministic' (their statements: YtcokifdgbfbonaaDoorTotals.lean).
  GIVEN WITH THE SEED: the statements are not yours to turn. If you find one false, say at which input.
  Laid BY PROGRAM, IN A SANDBOX (cutbox-rows.mjs): the forced cells as the released guide's own fill.sh prints them over the translation f53adffd39a022ad… (all of the seat's roots in one cut). By AI agents, Wed Nov 11 2026. No macro, syntax, notation, axiom, sorry.
-/
import Derived.Test.YtcokifdgbfbonaaDoorChecked
import GoSem.PinnedTables
import GoSem.Claim
import GoSem.ClaimJoined
import GoSem.ClaimMapViews
import Derived.JoinedTies
import Derived.KernelRfl
namespace Go.Proofs.YtcokifdgbfbonaaDoor
/- THE CELL 'sum', in the pinned program and in every row, IS THE sha256 OF THE DUMP (.gsa) THAT YtcokifdgbfbonaaDoorProg.lean LOADS. Nothing in Lean hashes anything: it is a label: what it is worth is what the hold of that sum in a sandbox is worth. -/
noncomputable def Tryd.pinned : Pinned := { name := "ytcokifdgbfbonaadoor", sum := "f53adffd39a022ade3a64ab1548077a5ced775e2e65eebc9bf0ed41fb525addb", checked := Tryd.checked }
namespace Rows
def none {H : Type} : Left H := { results := [], args := [] }

/- WHAT THE LISTED PACKAGE-LEVEL VARIABLES READ AS WHEN THE CALL BEGINS. Each datum BY PROGRAM (the guide's laid-datum.mjs) off the statement by which the dump's own 'gosem.cut.vars' lays the variable. In a bare row this is a premise. The card (YtcokifdgbfbonaaDoorCards.lean) ties it to the program's text. -/
def laid_unicode_utf8_acceptRanges {H : Type} : DataW H := .agg [.agg [.lit (.int .u8 128), .lit (.int .u8 191)], .agg [.lit (.int .u8 160), .lit (.int .u8 191)], .agg [.lit (.int .u8 128), .lit (.int .u8 159)], .agg [.lit (.int .u8 144), .lit (.int .u8 191)], .agg [.lit (.int .u8 128), .lit (.int .u8 143)], .agg [.lit (.int .u8 0), .lit (.int .u8 0)], .agg [.lit (.int .u8 0), .lit (.int .u8 0)], .agg [.lit (.int .u8 0), .lit (.int .u8 0)], .agg [.lit (.int .u8 0), .lit (.int .u8 0)], .agg [.lit (.int .u8 0), .lit (.int .u8 0)], .agg [.lit (.int .u8 0), .lit (.int .u8 0)], .agg [.lit (.int .u8 0), .lit (.int .u8 0)], .agg [.lit (.int .u8 0), .lit (.int .u8 0)], .agg [.lit (.int .u8 0), .lit (.int .u8 0)], .agg [.lit (.int .u8 0), .lit (.int .u8 0)], .agg [.lit (.int .u8 0), .lit (.int .u8 0)]]
/-- One of Go's own tables, pinned by name: the form's constant. -/
def laid_unicode_utf8_first : DataW Unit := Go.Pinned.utf8First

/-- 'moothilllaw04.PathOverlaps': WHATEVER THE INPUT: true; the input reads as it did. -/
def pathOverlapsSpec : ChangeSpec := { name := "pathOverlaps", fn := fun _ => fun
  | [d1, d2] => { results := [.lit (.bool true)], args := [d1, d2] }
  | _ => none }
def pathOverlapsRow : OpenClaim := { program := "ytcokifdgbfbonaadoor", sum := "f53adffd39a022ade3a64ab1548077a5ced775e2e65eebc9bf0ed41fb525addb", func := "moothill/moothilllaw04.PathOverlaps", spec := "pathOverlaps", inPlace := ["internal/bytealg.IndexByteString", "internal/bytealg.IndexString", "internal/abi.NoEscape", "internal/bytealg.MakeNoZero"], unfollowed := true, recurses := true, named := ["unicode/utf8.first", "unicode/utf8.acceptRanges", "internal/bytealg.MaxLen"], apart := false, laid := [("unicode/utf8.acceptRanges", laid_unicode_utf8_acceptRanges), ("unicode/utf8.first", laid_unicode_utf8_first)] }
def PathOverlapsSaid : Prop := pathOverlapsRow.holds Tryd.pinned (OpenSpec.ofChange pathOverlapsSpec)

/-- ITS FALSE NEIGHBOUR: 'it returns false'. Refute it at one input. -/
def pathOverlapsWrong : ChangeSpec := { name := "pathOverlaps", fn := fun _ => fun
  | [d1, d2] => { results := [.lit (.bool false)], args := [d1, d2] }
  | _ => none }
def PathOverlapsWrongFalsely : Prop := pathOverlapsRow.holds Tryd.pinned (OpenSpec.ofChange pathOverlapsWrong)

/-- 'moothilllaw07.CmdUnlike': WHATEVER THE INPUT: true; the input reads as it did. -/
def cmdUnlikeSpec : ChangeSpec := { name := "cmdUnlike", fn := fun _ => fun
  | [d1, d2] => { results := [.lit (.bool true)], args := [d1, d2] }
  | _ => none }
def cmdUnlikeRow : OpenClaim := { program := "ytcokifdgbfbonaadoor", sum := "f53adffd39a022ade3a64ab1548077a5ced775e2e65eebc9bf0ed41fb525addb", func := "moothill/moothilllaw07.CmdUnlike", spec := "cmdUnlike", inPlace := ["internal/bytealg.IndexByteString", "internal/bytealg.IndexString", "internal/abi.NoEscape", "internal/bytealg.MakeNoZero"], unfollowed := true, recurses := true, named := ["unicode/utf8.first", "unicode/utf8.acceptRanges", "internal/bytealg.MaxLen"], apart := false, laid := [("unicode/utf8.acceptRanges", laid_unicode_utf8_acceptRanges), ("unicode/utf8.first", laid_unicode_utf8_first)] }
def CmdUnlikeSaid : Prop := cmdUnlikeRow.holds Tryd.pinned (OpenSpec.ofChange cmdUnlikeSpec)

/-- ITS FALSE NEIGHBOUR: 'it returns false'. Refute it at one input. -/
def cmdUnlikeWrong : ChangeSpec := { name := "cmdUnlike", fn := fun _ => fun
  | [d1, d2] => { results := [.lit (.bool false)], args := [d1, d2] }
  | _ => none }
def CmdUnlikeWrongFalsely : Prop := cmdUnlikeRow.holds Tryd.pinned (OpenSpec.ofChange cmdUnlikeWrong)

/-- 'moothilllaw22.VoteAgain': WHATEVER THE INPUT: true; the input reads as it did. -/
def voteAgainSpec : ChangeSpec := { name := "voteAgain", fn := fun _ => fun
  | [d1, d2, d3, d4] => { results := [.lit (.bool true)], args := [d1, d2, d3, d4] }
  | _ => none }
def voteAgainRow : OpenClaim := { program := "ytcokifdgbfbonaadoor", sum := "f53adffd39a022ade3a64ab1548077a5ced775e2e65eebc9bf0ed41fb525addb", func := "moothill/moothilllaw22.VoteAgain", spec := "voteAgain", inPlace := ["internal/bytealg.IndexByteString", "internal/bytealg.IndexString", "internal/abi.NoEscape", "internal/bytealg.MakeNoZero"], unfollowed := true, recurses := true, named := ["unicode/utf8.first", "unicode/utf8.acceptRanges", "internal/bytealg.MaxLen"], apart := false, laid := [("unicode/utf8.acceptRanges", laid_unicode_utf8_acceptRanges), ("unicode/utf8.first", laid_unicode_utf8_first)] }
def VoteAgainSaid : Prop := voteAgainRow.holds Tryd.pinned (OpenSpec.ofChange voteAgainSpec)

/-- ITS FALSE NEIGHBOUR: 'it returns false'. Refute it at one input. -/
def voteAgainWrong : ChangeSpec := { name := "voteAgain", fn := fun _ => fun
  | [d1, d2, d3, d4] => { results := [.lit (.bool false)], args := [d1, d2, d3, d4] }
  | _ => none }
def VoteAgainWrongFalsely : Prop := voteAgainRow.holds Tryd.pinned (OpenSpec.ofChange voteAgainWrong)

/-- 'moothilllaw22.VoteCovers': WHATEVER THE INPUT: true; the input reads as it did. -/
def voteCoversSpec : ChangeSpec := { name := "voteCovers", fn := fun _ => fun
  | [d1, d2, d3] => { results := [.lit (.bool true)], args := [d1, d2, d3] }
  | _ => none }
def voteCoversRow : OpenClaim := { program := "ytcokifdgbfbonaadoor", sum := "f53adffd39a022ade3a64ab1548077a5ced775e2e65eebc9bf0ed41fb525addb", func := "moothill/moothilllaw22.VoteCovers", spec := "voteCovers", inPlace := ["internal/bytealg.IndexByteString", "internal/bytealg.IndexString", "internal/abi.NoEscape", "internal/bytealg.MakeNoZero"], unfollowed := true, recurses := true, named := ["unicode/utf8.first", "unicode/utf8.acceptRanges", "internal/bytealg.MaxLen"], apart := false, laid := [("unicode/utf8.acceptRanges", laid_unicode_utf8_acceptRanges), ("unicode/utf8.first", laid_unicode_utf8_first)] }
def VoteCoversSaid : Prop := voteCoversRow.holds Tryd.pinned (OpenSpec.ofChange voteCoversSpec)

/-- ITS FALSE NEIGHBOUR: 'it returns false'. Refute it at one input. -/
def voteCoversWrong : ChangeSpec := { name := "voteCovers", fn := fun _ => fun
  | [d1, d2, d3] => { results := [.lit (.bool false)], args := [d1, d2, d3] }
  | _ => none }
def VoteCoversWrongFalsely : Prop := voteCoversRow.holds Tryd.pinned (OpenSpec.ofChange voteCoversWrong)

/-- 'moothilllaw10.InstFollows': WHATEVER THE INPUT: true; the input reads as it did. -/
def instFollowsSpec : ChangeSpec := { name := "instFollows", fn := fun _ => fun
  | [d1, d2, d3] => { results := [.lit (.bool true)], args := [d1, d2, d3] }
  | _ => none }
def instFollowsRow : OpenClaim := { program := "ytcokifdgbfbonaadoor", sum := "f53adffd39a022ade3a64ab1548077a5ced775e2e65eebc9bf0ed41fb525addb", func := "moothill/moothilllaw10.InstFollows", spec := "instFollows", inPlace := ["internal/bytealg.IndexByteString", "internal/bytealg.IndexString", "internal/abi.NoEscape", "internal/bytealg.MakeNoZero"], unfollowed := true, recurses := true, named := ["unicode/utf8.first", "unicode/utf8.acceptRanges", "internal/bytealg.MaxLen"], apart := false, laid := [("unicode/utf8.acceptRanges", laid_unicode_utf8_acceptRanges), ("unicode/utf8.first", laid_unicode_utf8_first)] }
def InstFollowsSaid : Prop := instFollowsRow.holds Tryd.pinned (OpenSpec.ofChange instFollowsSpec)

/-- ITS FALSE NEIGHBOUR: 'it returns false'. Refute it at one input. -/
def instFollowsWrong : ChangeSpec := { name := "instFollows", fn := fun _ => fun
  | [d1, d2, d3] => { results := [.lit (.bool false)], args := [d1, d2, d3] }
  | _ => none }
def InstFollowsWrongFalsely : Prop := instFollowsRow.holds Tryd.pinned (OpenSpec.ofChange instFollowsWrong)

/-- 'moothilllaw21.PickVoted': WHATEVER THE INPUT: true; the input reads as it did. -/
def pickVotedSpec : ChangeSpec := { name := "pickVoted", fn := fun _ => fun
  | [d1, d2, d3, d4, d5] => { results := [.lit (.bool true)], args := [d1, d2, d3, d4, d5] }
  | _ => none }
def pickVotedRow : OpenClaim := { program := "ytcokifdgbfbonaadoor", sum := "f53adffd39a022ade3a64ab1548077a5ced775e2e65eebc9bf0ed41fb525addb", func := "moothill/moothilllaw21.PickVoted", spec := "pickVoted", inPlace := ["internal/bytealg.IndexByteString", "internal/bytealg.IndexString", "internal/abi.NoEscape", "internal/bytealg.MakeNoZero"], unfollowed := true, recurses := true, named := ["unicode/utf8.first", "unicode/utf8.acceptRanges", "internal/bytealg.MaxLen"], apart := false, laid := [("unicode/utf8.acceptRanges", laid_unicode_utf8_acceptRanges), ("unicode/utf8.first", laid_unicode_utf8_first)] }
def PickVotedSaid : Prop := pickVotedRow.holds Tryd.pinned (OpenSpec.ofChange pickVotedSpec)

/-- ITS FALSE NEIGHBOUR: 'it returns false'. Refute it at one input. -/
def pickVotedWrong : ChangeSpec := { name := "pickVoted", fn := fun _ => fun
  | [d1, d2, d3, d4, d5] => { results := [.lit (.bool false)], args := [d1, d2, d3, d4, d5] }
  | _ => none }
def PickVotedWrongFalsely : Prop := pickVotedRow.holds Tryd.pinned (OpenSpec.ofChange pickVotedWrong)

/-- 'moothilllaw21.PickSwift': WHATEVER THE INPUT: true; the input reads as it did. -/
def pickSwiftSpec : ChangeSpec := { name := "pickSwift", fn := fun _ => fun
  | [d1, d2, d3, d4, d5] => { results := [.lit (.bool true)], args := [d1, d2, d3, d4, d5] }
  | _ => none }
def pickSwiftRow : OpenClaim := { program := "ytcokifdgbfbonaadoor", sum := "f53adffd39a022ade3a64ab1548077a5ced775e2e65eebc9bf0ed41fb525addb", func := "moothill/moothilllaw21.PickSwift", spec := "pickSwift", inPlace := ["internal/bytealg.IndexByteString", "internal/bytealg.IndexString", "internal/abi.NoEscape", "internal/bytealg.MakeNoZero"], unfollowed := true, recurses := true, named := ["unicode/utf8.first", "unicode/utf8.acceptRanges", "internal/bytealg.MaxLen"], apart := false, laid := [("unicode/utf8.acceptRanges", laid_unicode_utf8_acceptRanges), ("unicode/utf8.first", laid_unicode_utf8_first)] }
def PickSwiftSaid : Prop := pickSwiftRow.holds Tryd.pinned (OpenSpec.ofChange pickSwiftSpec)

/-- ITS FALSE NEIGHBOUR: 'it returns false'. Refute it at one input. -/
def pickSwiftWrong : ChangeSpec := { name := "pickSwift", fn := fun _ => fun
  | [d1, d2, d3, d4, d5] => { results := [.lit (.bool false)], args := [d1, d2, d3, d4, d5] }
  | _ => none }
def PickSwiftWrongFalsely : Prop := pickSwiftRow.holds Tryd.pinned (OpenSpec.ofChange pickSwiftWrong)

/-- 'moothilllaw07.CmdBytes': WHATEVER THE INPUT: true; the input reads as it did. -/
def cmdBytesSpec : ChangeSpec := { name := "cmdBytes", fn := fun _ => fun
  | [d1, d2] => { results := [.lit (.bool true)], args := [d1, d2] }
  | _ => none }
def cmdBytesRow : OpenClaim := { program := "ytcokifdgbfbonaadoor", sum := "f53adffd39a022ade3a64ab1548077a5ced775e2e65eebc9bf0ed41fb525addb", func := "moothill/moothilllaw07.CmdBytes", spec := "cmdBytes", inPlace := ["internal/bytealg.IndexByteString", "internal/bytealg.IndexString", "internal/abi.NoEscape", "internal/bytealg.MakeNoZero"], unfollowed := true, recurses := true, named := ["unicode/utf8.first", "unicode/utf8.acceptRanges", "internal/bytealg.MaxLen"], apart := false, laid := [("unicode/utf8.acceptRanges", laid_unicode_utf8_acceptRanges), ("unicode/utf8.first", laid_unicode_utf8_first)] }
def CmdBytesSaid : Prop := cmdBytesRow.holds Tryd.pinned (OpenSpec.ofChange cmdBytesSpec)

/-- ITS FALSE NEIGHBOUR: 'it returns false'. Refute it at one input. -/
def cmdBytesWrong : ChangeSpec := { name := "cmdBytes", fn := fun _ => fun
  | [d1, d2] => { results := [.lit (.bool false)], args := [d1, d2] }
  | _ => none }
def CmdBytesWrongFalsely : Prop := cmdBytesRow.holds Tryd.pinned (OpenSpec.ofChange cmdBytesWrong)

/-- 'moothilllaw23.LeadSwift': WHATEVER THE INPUT: true; the input reads as it did. -/
def leadSwiftSpec : ChangeSpec := { name := "leadSwift", fn := fun _ => fun
  | [d1, d2, d3, d4] => { results := [.lit (.bool true)], args := [d1, d2, d3, d4] }
  | _ => none }
def leadSwiftRow : OpenClaim := { program := "ytcokifdgbfbonaadoor", sum := "f53adffd39a022ade3a64ab1548077a5ced775e2e65eebc9bf0ed41fb525addb", func := "moothill/moothilllaw23.LeadSwift", spec := "leadSwift", inPlace := ["internal/bytealg.IndexByteString", "internal/bytealg.IndexString", "internal/abi.NoEscape", "internal/bytealg.MakeNoZero"], unfollowed := true, recurses := true, named := ["unicode/utf8.first", "unicode/utf8.acceptRanges", "internal/bytealg.MaxLen"], apart := false, laid := [("unicode/utf8.acceptRanges", laid_unicode_utf8_acceptRanges), ("unicode/utf8.first", laid_unicode_utf8_first)] }
def LeadSwiftSaid : Prop := leadSwiftRow.holds Tryd.pinned (OpenSpec.ofChange leadSwiftSpec)

/-- ITS FALSE NEIGHBOUR: 'it returns false'. Refute it at one input. -/
def leadSwiftWrong : ChangeSpec := { name := "leadSwift", fn := fun _ => fun
  | [d1, d2, d3, d4] => { results := [.lit (.bool false)], args := [d1, d2, d3, d4] }
  | _ => none }
def LeadSwiftWrongFalsely : Prop := leadSwiftRow.holds Tryd.pinned (OpenSpec.ofChange leadSwiftWrong)

/-- 'moothilllaw23.LeadOnce': WHATEVER THE INPUT: true; the input reads as it did. -/
def leadOnceSpec : ChangeSpec := { name := "leadOnce", fn := fun _ => fun
  | [d1, d2, d3, d4, d5] => { results := [.lit (.bool true)], args := [d1, d2, d3, d4, d5] }
  | _ => none }
def leadOnceRow : OpenClaim := { program := "ytcokifdgbfbonaadoor", sum := "f53adffd39a022ade3a64ab1548077a5ced775e2e65eebc9bf0ed41fb525addb", func := "moothill/moothilllaw23.LeadOnce", spec := "leadOnce", inPlace := ["internal/bytealg.IndexByteString", "internal/bytealg.IndexString", "internal/abi.NoEscape", "internal/bytealg.MakeNoZero"], unfollowed := true, recurses := true, named := ["unicode/utf8.first", "unicode/utf8.acceptRanges", "internal/bytealg.MaxLen"], apart := false, laid := [("unicode/utf8.acceptRanges", laid_unicode_utf8_acceptRanges), ("unicode/utf8.first", laid_unicode_utf8_first)] }
def LeadOnceSaid : Prop := leadOnceRow.holds Tryd.pinned (OpenSpec.ofChange leadOnceSpec)

/-- ITS FALSE NEIGHBOUR: 'it returns false'. Refute it at one input. -/
def leadOnceWrong : ChangeSpec := { name := "leadOnce", fn := fun _ => fun
  | [d1, d2, d3, d4, d5] => { results := [.lit (.bool false)], args := [d1, d2, d3, d4, d5] }
  | _ => none }
def LeadOnceWrongFalsely : Prop := leadOnceRow.holds Tryd.pinned (OpenSpec.ofChange leadOnceWrong)

/-- 'moothilllaw23.LeadMerges': WHATEVER THE INPUT: true; the input reads as it did. -/
def leadMergesSpec : ChangeSpec := { name := "leadMerges", fn := fun _ => fun
  | [d1, d2, d3, d4] => { results := [.lit (.bool true)], args := [d1, d2, d3, d4] }
  | _ => none }
def leadMergesRow : OpenClaim := { program := "ytcokifdgbfbonaadoor", sum := "f53adffd39a022ade3a64ab1548077a5ced775e2e65eebc9bf0ed41fb525addb", func := "moothill/moothilllaw23.LeadMerges", spec := "leadMerges", inPlace := ["internal/bytealg.IndexByteString", "internal/bytealg.IndexString", "internal/abi.NoEscape", "internal/bytealg.MakeNoZero"], unfollowed := true, recurses := true, named := ["unicode/utf8.first", "unicode/utf8.acceptRanges", "internal/bytealg.MaxLen"], apart := false, laid := [("unicode/utf8.acceptRanges", laid_unicode_utf8_acceptRanges), ("unicode/utf8.first", laid_unicode_utf8_first)] }
def LeadMergesSaid : Prop := leadMergesRow.holds Tryd.pinned (OpenSpec.ofChange leadMergesSpec)

/-- ITS FALSE NEIGHBOUR: 'it returns false'. Refute it at one input. -/
def leadMergesWrong : ChangeSpec := { name := "leadMerges", fn := fun _ => fun
  | [d1, d2, d3, d4] => { results := [.lit (.bool false)], args := [d1, d2, d3, d4] }
  | _ => none }
def LeadMergesWrongFalsely : Prop := leadMergesRow.holds Tryd.pinned (OpenSpec.ofChange leadMergesWrong)

/-- 'moothilllaw10.InstBytes': WHATEVER THE INPUT: true; the input reads as it did. -/
def instBytesSpec : ChangeSpec := { name := "instBytes", fn := fun _ => fun
  | [d1, d2] => { results := [.lit (.bool true)], args := [d1, d2] }
  | _ => none }
def instBytesRow : OpenClaim := { program := "ytcokifdgbfbonaadoor", sum := "f53adffd39a022ade3a64ab1548077a5ced775e2e65eebc9bf0ed41fb525addb", func := "moothill/moothilllaw10.InstBytes", spec := "instBytes", inPlace := ["internal/bytealg.IndexByteString", "internal/bytealg.IndexString", "internal/abi.NoEscape", "internal/bytealg.MakeNoZero"], unfollowed := true, recurses := true, named := ["unicode/utf8.first", "unicode/utf8.acceptRanges", "internal/bytealg.MaxLen"], apart := false, laid := [("unicode/utf8.acceptRanges", laid_unicode_utf8_acceptRanges), ("unicode/utf8.first", laid_unicode_utf8_first)] }
def InstBytesSaid : Prop := instBytesRow.holds Tryd.pinned (OpenSpec.ofChange instBytesSpec)

/-- ITS FALSE NEIGHBOUR: 'it returns false'. Refute it at one input. -/
def instBytesWrong : ChangeSpec := { name := "instBytes", fn := fun _ => fun
  | [d1, d2] => { results := [.lit (.bool false)], args := [d1, d2] }
  | _ => none }
def InstBytesWrongFalsely : Prop := instBytesRow.holds Tryd.pinned (OpenSpec.ofChange instBytesWrong)

/- THE SECOND FORM. 'bulk': how many values and letters a reading holds, each counted each time it is reached (what is shared counts as often as it is met; a slice's spare places count too). A statement '..UptoSaid' is the law's where the arguments, and the package variables that the reading takes, are together of bulk at most 1048576: NARROWER than '..Said'. Prove '..Said' where nothing that the law and all that it calls make is longer than what came in: it says more and counts as full. Else prove '..UptoSaid'. A law counts once. -/
mutual
def uptoBulk {H : Type} : DataW H → Nat
  | .lit (.string bytes) => bytes.length + 1
  | .lit _ => 1
  | .nil => 1
  | .ptr d => uptoBulk d + 1
  | .slice elems spare => uptoBulkAll elems + uptoBulkAll spare + 1
  | .agg parts => uptoBulkAll parts + 1
  | .iface _ d => uptoBulk d + 1
  | .map entries => uptoBulkEntries entries + 1
  | .held _ => 1
def uptoBulkAll {H : Type} : List (DataW H) → Nat
  | [] => 0
  | d :: r => uptoBulk d + uptoBulkAll r
def uptoBulkEntries {H : Type} : List (Lit × DataW H) → Nat
  | [] => 0
  | x :: r => uptoBulkEntry x + uptoBulkEntries r
def uptoBulkEntry {H : Type} : Lit × DataW H → Nat
  | (.string bytes, d) => bytes.length + uptoBulk d + 1
  | (_, d) => uptoBulk d + 1
 end
def uptoSmall : (H : Type) → List (DataW H) → Bool := fun _ ds => decide (uptoBulkAll ds ≤ 1048576)
def OpenSpec.upto (s : _root_.Go.ChangeSpec) : _root_.Go.OpenSpec := { _root_.Go.OpenSpec.ofChange s with cond := some uptoSmall }

/-- 'moothilllaw04.PathOverlaps', WHERE WHAT IT READS IS OF BULK AT MOST 1048576: true; the input reads as it did. -/
def pathOverlapsUptoRow : OpenClaim := { program := "ytcokifdgbfbonaadoor", sum := "f53adffd39a022ade3a64ab1548077a5ced775e2e65eebc9bf0ed41fb525addb", func := "moothill/moothilllaw04.PathOverlaps", spec := "pathOverlaps", inPlace := ["internal/bytealg.IndexByteString", "internal/bytealg.IndexString", "internal/abi.NoEscape", "internal/bytealg.MakeNoZero"], unfollowed := true, recurses := true, named := ["unicode/utf8.first", "unicode/utf8.acceptRanges", "internal/bytealg.MaxLen"], apart := false, laid := [("unicode/utf8.acceptRanges", laid_unicode_utf8_acceptRanges), ("unicode/utf8.first", laid_unicode_utf8_first)], narrowed := true }
def PathOverlapsUptoSaid : Prop := pathOverlapsUptoRow.holds Tryd.pinned (OpenSpec.upto pathOverlapsSpec)

/-- 'moothilllaw07.CmdUnlike', WHERE WHAT IT READS IS OF BULK AT MOST 1048576: true; the input reads as it did. -/
def cmdUnlikeUptoRow : OpenClaim := { program := "ytcokifdgbfbonaadoor", sum := "f53adffd39a022ade3a64ab1548077a5ced775e2e65eebc9bf0ed41fb525addb", func := "moothill/moothilllaw07.CmdUnlike", spec := "cmdUnlike", inPlace := ["internal/bytealg.IndexByteString", "internal/bytealg.IndexString", "internal/abi.NoEscape", "internal/bytealg.MakeNoZero"], unfollowed := true, recurses := true, named := ["unicode/utf8.first", "unicode/utf8.acceptRanges", "internal/bytealg.MaxLen"], apart := false, laid := [("unicode/utf8.acceptRanges", laid_unicode_utf8_acceptRanges), ("unicode/utf8.first", laid_unicode_utf8_first)], narrowed := true }
def CmdUnlikeUptoSaid : Prop := cmdUnlikeUptoRow.holds Tryd.pinned (OpenSpec.upto cmdUnlikeSpec)

/-- 'moothilllaw22.VoteAgain', WHERE WHAT IT READS IS OF BULK AT MOST 1048576: true; the input reads as it did. -/
def voteAgainUptoRow : OpenClaim := { program := "ytcokifdgbfbonaadoor", sum := "f53adffd39a022ade3a64ab1548077a5ced775e2e65eebc9bf0ed41fb525addb", func := "moothill/moothilllaw22.VoteAgain", spec := "voteAgain", inPlace := ["internal/bytealg.IndexByteString", "internal/bytealg.IndexString", "internal/abi.NoEscape", "internal/bytealg.MakeNoZero"], unfollowed := true, recurses := true, named := ["unicode/utf8.first", "unicode/utf8.acceptRanges", "internal/bytealg.MaxLen"], apart := false, laid := [("unicode/utf8.acceptRanges", laid_unicode_utf8_acceptRanges), ("unicode/utf8.first", laid_unicode_utf8_first)], narrowed := true }
def VoteAgainUptoSaid : Prop := voteAgainUptoRow.holds Tryd.pinned (OpenSpec.upto voteAgainSpec)

/-- 'moothilllaw22.VoteCovers', WHERE WHAT IT READS IS OF BULK AT MOST 1048576: true; the input reads as it did. -/
def voteCoversUptoRow : OpenClaim := { program := "ytcokifdgbfbonaadoor", sum := "f53adffd39a022ade3a64ab1548077a5ced775e2e65eebc9bf0ed41fb525addb", func := "moothill/moothilllaw22.VoteCovers", spec := "voteCovers", inPlace := ["internal/bytealg.IndexByteString", "internal/bytealg.IndexString", "internal/abi.NoEscape", "internal/bytealg.MakeNoZero"], unfollowed := true, recurses := true, named := ["unicode/utf8.first", "unicode/utf8.acceptRanges", "internal/bytealg.MaxLen"], apart := false, laid := [("unicode/utf8.acceptRanges", laid_unicode_utf8_acceptRanges), ("unicode/utf8.first", laid_unicode_utf8_first)], narrowed := true }
def VoteCoversUptoSaid : Prop := voteCoversUptoRow.holds Tryd.pinned (OpenSpec.upto voteCoversSpec)

/-- 'moothilllaw10.InstFollows', WHERE WHAT IT READS IS OF BULK AT MOST 1048576: true; the input reads as it did. -/
def instFollowsUptoRow : OpenClaim := { program := "ytcokifdgbfbonaadoor", sum := "f53adffd39a022ade3a64ab1548077a5ced775e2e65eebc9bf0ed41fb525addb", func := "moothill/moothilllaw10.InstFollows", spec := "instFollows", inPlace := ["internal/bytealg.IndexByteString", "internal/bytealg.IndexString", "internal/abi.NoEscape", "internal/bytealg.MakeNoZero"], unfollowed := true, recurses := true, named := ["unicode/utf8.first", "unicode/utf8.acceptRanges", "internal/bytealg.MaxLen"], apart := false, laid := [("unicode/utf8.acceptRanges", laid_unicode_utf8_acceptRanges), ("unicode/utf8.first", laid_unicode_utf8_first)], narrowed := true }
def InstFollowsUptoSaid : Prop := instFollowsUptoRow.holds Tryd.pinned (OpenSpec.upto instFollowsSpec)

/-- 'moothilllaw21.PickVoted', WHERE WHAT IT READS IS OF BULK AT MOST 1048576: true; the input reads as it did. -/
def pickVotedUptoRow : OpenClaim := { program := "ytcokifdgbfbonaadoor", sum := "f53adffd39a022ade3a64ab1548077a5ced775e2e65eebc9bf0ed41fb525addb", func := "moothill/moothilllaw21.PickVoted", spec := "pickVoted", inPlace := ["internal/bytealg.IndexByteString", "internal/bytealg.IndexString", "internal/abi.NoEscape", "internal/bytealg.MakeNoZero"], unfollowed := true, recurses := true, named := ["unicode/utf8.first", "unicode/utf8.acceptRanges", "internal/bytealg.MaxLen"], apart := false, laid := [("unicode/utf8.acceptRanges", laid_unicode_utf8_acceptRanges), ("unicode/utf8.first", laid_unicode_utf8_first)], narrowed := true }
def PickVotedUptoSaid : Prop := pickVotedUptoRow.holds Tryd.pinned (OpenSpec.upto pickVotedSpec)

/-- 'moothilllaw21.PickSwift', WHERE WHAT IT READS IS OF BULK AT MOST 1048576: true; the input reads as it did. -/
def pickSwiftUptoRow : OpenClaim := { program := "ytcokifdgbfbonaadoor", sum := "f53adffd39a022ade3a64ab1548077a5ced775e2e65eebc9bf0ed41fb525addb", func := "moothill/moothilllaw21.PickSwift", spec := "pickSwift", inPlace := ["internal/bytealg.IndexByteString", "internal/bytealg.IndexString", "internal/abi.NoEscape", "internal/bytealg.MakeNoZero"], unfollowed := true, recurses := true, named := ["unicode/utf8.first", "unicode/utf8.acceptRanges", "internal/bytealg.MaxLen"], apart := false, laid := [("unicode/utf8.acceptRanges", laid_unicode_utf8_acceptRanges), ("unicode/utf8.first", laid_unicode_utf8_first)], narrowed := true }
def PickSwiftUptoSaid : Prop := pickSwiftUptoRow.holds Tryd.pinned (OpenSpec.upto pickSwiftSpec)

/-- 'moothilllaw07.CmdBytes', WHERE WHAT IT READS IS OF BULK AT MOST 1048576: true; the input reads as it did. -/
def cmdBytesUptoRow : OpenClaim := { program := "ytcokifdgbfbonaadoor", sum := "f53adffd39a022ade3a64ab1548077a5ced775e2e65eebc9bf0ed41fb525addb", func := "moothill/moothilllaw07.CmdBytes", spec := "cmdBytes", inPlace := ["internal/bytealg.IndexByteString", "internal/bytealg.IndexString", "internal/abi.NoEscape", "internal/bytealg.MakeNoZero"], unfollowed := true, recurses := true, named := ["unicode/utf8.first", "unicode/utf8.acceptRanges", "internal/bytealg.MaxLen"], apart := false, laid := [("unicode/utf8.acceptRanges", laid_unicode_utf8_acceptRanges), ("unicode/utf8.first", laid_unicode_utf8_first)], narrowed := true }
def CmdBytesUptoSaid : Prop := cmdBytesUptoRow.holds Tryd.pinned (OpenSpec.upto cmdBytesSpec)

/-- 'moothilllaw23.LeadSwift', WHERE WHAT IT READS IS OF BULK AT MOST 1048576: true; the input reads as it did. -/
def leadSwiftUptoRow : OpenClaim := { program := "ytcokifdgbfbonaadoor", sum := "f53adffd39a022ade3a64ab1548077a5ced775e2e65eebc9bf0ed41fb525addb", func := "moothill/moothilllaw23.LeadSwift", spec := "leadSwift", inPlace := ["internal/bytealg.IndexByteString", "internal/bytealg.IndexString", "internal/abi.NoEscape", "internal/bytealg.MakeNoZero"], unfollowed := true, recurses := true, named := ["unicode/utf8.first", "unicode/utf8.acceptRanges", "internal/bytealg.MaxLen"], apart := false, laid := [("unicode/utf8.acceptRanges", laid_unicode_utf8_acceptRanges), ("unicode/utf8.first", laid_unicode_utf8_first)], narrowed := true }
def LeadSwiftUptoSaid : Prop := leadSwiftUptoRow.holds Tryd.pinned (OpenSpec.upto leadSwiftSpec)

/-- 'moothilllaw23.LeadOnce', WHERE WHAT IT READS IS OF BULK AT MOST 1048576: true; the input reads as it did. -/
def leadOnceUptoRow : OpenClaim := { program := "ytcokifdgbfbonaadoor", sum := "f53adffd39a022ade3a64ab1548077a5ced775e2e65eebc9bf0ed41fb525addb", func := "moothill/moothilllaw23.LeadOnce", spec := "leadOnce", inPlace := ["internal/bytealg.IndexByteString", "internal/bytealg.IndexString", "internal/abi.NoEscape", "internal/bytealg.MakeNoZero"], unfollowed := true, recurses := true, named := ["unicode/utf8.first", "unicode/utf8.acceptRanges", "internal/bytealg.MaxLen"], apart := false, laid := [("unicode/utf8.acceptRanges", laid_unicode_utf8_acceptRanges), ("unicode/utf8.first", laid_unicode_utf8_first)], narrowed := true }
def LeadOnceUptoSaid : Prop := leadOnceUptoRow.holds Tryd.pinned (OpenSpec.upto leadOnceSpec)

/-- 'moothilllaw23.LeadMerges', WHERE WHAT IT READS IS OF BULK AT MOST 1048576: true; the input reads as it did. -/
def leadMergesUptoRow : OpenClaim := { program := "ytcokifdgbfbonaadoor", sum := "f53adffd39a022ade3a64ab1548077a5ced775e2e65eebc9bf0ed41fb525addb", func := "moothill/moothilllaw23.LeadMerges", spec := "leadMerges", inPlace := ["internal/bytealg.IndexByteString", "internal/bytealg.IndexString", "internal/abi.NoEscape", "internal/bytealg.MakeNoZero"], unfollowed := true, recurses := true, named := ["unicode/utf8.first", "unicode/utf8.acceptRanges", "internal/bytealg.MaxLen"], apart := false, laid := [("unicode/utf8.acceptRanges", laid_unicode_utf8_acceptRanges), ("unicode/utf8.first", laid_unicode_utf8_first)], narrowed := true }
def LeadMergesUptoSaid : Prop := leadMergesUptoRow.holds Tryd.pinned (OpenSpec.upto leadMergesSpec)

/-- 'moothilllaw10.InstBytes', WHERE WHAT IT READS IS OF BULK AT MOST 1048576: true; the input reads as it did. -/
def instBytesUptoRow : OpenClaim := { program := "ytcokifdgbfbonaadoor", sum := "f53adffd39a022ade3a64ab1548077a5ced775e2e65eebc9bf0ed41fb525addb", func := "moothill/moothilllaw10.InstBytes", spec := "instBytes", inPlace := ["internal/bytealg.IndexByteString", "internal/bytealg.IndexString", "internal/abi.NoEscape", "internal/bytealg.MakeNoZero"], unfollowed := true, recurses := true, named := ["unicode/utf8.first", "unicode/utf8.acceptRanges", "internal/bytealg.MaxLen"], apart := false, laid := [("unicode/utf8.acceptRanges", laid_unicode_utf8_acceptRanges), ("unicode/utf8.first", laid_unicode_utf8_first)], narrowed := true }
def InstBytesUptoSaid : Prop := instBytesUptoRow.holds Tryd.pinned (OpenSpec.upto instBytesSpec)

end Rows
end Go.Proofs.YtcokifdgbfbonaaDoor
