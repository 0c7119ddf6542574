/-
  No cell of these rows narrows 'for every input' (looked for: loops, veiled, ifaces, maps, wideKeys, modest, calm, conditions, laid).
  DERIVED. THE GIVEN ROWS OF THIS SEAT. 12 by the template 'for every input the law returns true; each argument reads behind the call as it read before'; 0 by the template 'total and deterministic' (their statements: YtnhfjdbnkpbbkaaTotals.lean).
  GIVEN WITH THE SEED: the statements are not yours to turn. If you find one false, say at which input.
  Laid BY PROGRAM, IN A SANDBOX (cutbox-rows.mjs): the forced cells as the released guide's own fill.sh prints them over the translation 9d16dc572fbf6184… (all of the seat's roots in one cut). By AI agents, Wed Nov 11 2026. No macro, syntax, notation, axiom, sorry.
-/
import Derived.Test.YtnhfjdbnkpbbkaaChecked
import GoSem.Claim
import GoSem.ClaimJoined
import GoSem.ClaimMapViews
import Derived.JoinedTies
import Derived.KernelRfl
namespace Go.Proofs.Ytnhfjdbnkpbbkaa
/- THE CELL 'sum', in the pinned program and in every row, IS THE sha256 OF THE DUMP (.gsa) THAT YtnhfjdbnkpbbkaaProg.lean LOADS. Nothing in Lean hashes anything: it is a label: what it is worth is what the hold of that sum in a sandbox is worth. -/
noncomputable def Try.pinned : Pinned := { name := "ytnhfjdbnkpbbkaa", sum := "9d16dc572fbf618472d81e305466e5aca1b3feef5a4ca051d086b2484a6d296d", checked := Try.checked }
namespace Rows
def none {H : Type} : Left H := { results := [], args := [] }

/-- 'moothilllaw01.NumZigs': WHATEVER THE INPUT: true; the input reads as it did. -/
def numZigsSpec : ChangeSpec := { name := "numZigs", fn := fun _ => fun
  | [d1, d2] => { results := [.lit (.bool true)], args := [d1, d2] }
  | _ => none }
def numZigsRow : OpenClaim := { program := "ytnhfjdbnkpbbkaa", sum := "9d16dc572fbf618472d81e305466e5aca1b3feef5a4ca051d086b2484a6d296d", func := "moothill/moothilllaw01.NumZigs", spec := "numZigs", apart := false }
def NumZigsSaid : Prop := numZigsRow.holds Try.pinned (OpenSpec.ofChange numZigsSpec)

/-- ITS FALSE NEIGHBOUR: 'it returns false'. Refute it at one input. -/
def numZigsWrong : ChangeSpec := { name := "numZigs", fn := fun _ => fun
  | [d1, d2] => { results := [.lit (.bool false)], args := [d1, d2] }
  | _ => none }
def NumZigsWrongFalsely : Prop := numZigsRow.holds Try.pinned (OpenSpec.ofChange numZigsWrong)

/-- 'moothilllaw06.MarkBallots': WHATEVER THE INPUT: true; the input reads as it did. -/
def markBallotsSpec : ChangeSpec := { name := "markBallots", fn := fun _ => fun
  | [d1, d2, d3] => { results := [.lit (.bool true)], args := [d1, d2, d3] }
  | _ => none }
def markBallotsRow : OpenClaim := { program := "ytnhfjdbnkpbbkaa", sum := "9d16dc572fbf618472d81e305466e5aca1b3feef5a4ca051d086b2484a6d296d", func := "moothill/moothilllaw06.MarkBallots", spec := "markBallots", apart := false }
def MarkBallotsSaid : Prop := markBallotsRow.holds Try.pinned (OpenSpec.ofChange markBallotsSpec)

/-- ITS FALSE NEIGHBOUR: 'it returns false'. Refute it at one input. -/
def markBallotsWrong : ChangeSpec := { name := "markBallots", fn := fun _ => fun
  | [d1, d2, d3] => { results := [.lit (.bool false)], args := [d1, d2, d3] }
  | _ => none }
def MarkBallotsWrongFalsely : Prop := markBallotsRow.holds Try.pinned (OpenSpec.ofChange markBallotsWrong)

/-- 'moothilllaw01.NumLows': WHATEVER THE INPUT: true; the input reads as it did. -/
def numLowsSpec : ChangeSpec := { name := "numLows", fn := fun _ => fun
  | [d1, d2] => { results := [.lit (.bool true)], args := [d1, d2] }
  | _ => none }
def numLowsRow : OpenClaim := { program := "ytnhfjdbnkpbbkaa", sum := "9d16dc572fbf618472d81e305466e5aca1b3feef5a4ca051d086b2484a6d296d", func := "moothill/moothilllaw01.NumLows", spec := "numLows", apart := false }
def NumLowsSaid : Prop := numLowsRow.holds Try.pinned (OpenSpec.ofChange numLowsSpec)

/-- ITS FALSE NEIGHBOUR: 'it returns false'. Refute it at one input. -/
def numLowsWrong : ChangeSpec := { name := "numLows", fn := fun _ => fun
  | [d1, d2] => { results := [.lit (.bool false)], args := [d1, d2] }
  | _ => none }
def NumLowsWrongFalsely : Prop := numLowsRow.holds Try.pinned (OpenSpec.ofChange numLowsWrong)

/-- 'moothilllaw01.NumOrder': WHATEVER THE INPUT: true; the input reads as it did. -/
def numOrderSpec : ChangeSpec := { name := "numOrder", fn := fun _ => fun
  | [d1, d2] => { results := [.lit (.bool true)], args := [d1, d2] }
  | _ => none }
def numOrderRow : OpenClaim := { program := "ytnhfjdbnkpbbkaa", sum := "9d16dc572fbf618472d81e305466e5aca1b3feef5a4ca051d086b2484a6d296d", func := "moothill/moothilllaw01.NumOrder", spec := "numOrder", apart := false }
def NumOrderSaid : Prop := numOrderRow.holds Try.pinned (OpenSpec.ofChange numOrderSpec)

/-- ITS FALSE NEIGHBOUR: 'it returns false'. Refute it at one input. -/
def numOrderWrong : ChangeSpec := { name := "numOrder", fn := fun _ => fun
  | [d1, d2] => { results := [.lit (.bool false)], args := [d1, d2] }
  | _ => none }
def NumOrderWrongFalsely : Prop := numOrderRow.holds Try.pinned (OpenSpec.ofChange numOrderWrong)

/-- 'moothilllaw09.AttrCovers': WHATEVER THE INPUT: true; the input reads as it did. -/
def attrCoversSpec : ChangeSpec := { name := "attrCovers", fn := fun _ => fun
  | [d1, d2] => { results := [.lit (.bool true)], args := [d1, d2] }
  | _ => none }
def attrCoversRow : OpenClaim := { program := "ytnhfjdbnkpbbkaa", sum := "9d16dc572fbf618472d81e305466e5aca1b3feef5a4ca051d086b2484a6d296d", func := "moothill/moothilllaw09.AttrCovers", spec := "attrCovers", apart := false }
def AttrCoversSaid : Prop := attrCoversRow.holds Try.pinned (OpenSpec.ofChange attrCoversSpec)

/-- ITS FALSE NEIGHBOUR: 'it returns false'. Refute it at one input. -/
def attrCoversWrong : ChangeSpec := { name := "attrCovers", fn := fun _ => fun
  | [d1, d2] => { results := [.lit (.bool false)], args := [d1, d2] }
  | _ => none }
def AttrCoversWrongFalsely : Prop := attrCoversRow.holds Try.pinned (OpenSpec.ofChange attrCoversWrong)

/-- 'moothilllaw02.SumOf': WHATEVER THE INPUT: true; the input reads as it did. -/
def sumOfSpec : ChangeSpec := { name := "sumOf", fn := fun _ => fun
  | [d1, d2] => { results := [.lit (.bool true)], args := [d1, d2] }
  | _ => none }
def sumOfRow : OpenClaim := { program := "ytnhfjdbnkpbbkaa", sum := "9d16dc572fbf618472d81e305466e5aca1b3feef5a4ca051d086b2484a6d296d", func := "moothill/moothilllaw02.SumOf", spec := "sumOf", apart := false }
def SumOfSaid : Prop := sumOfRow.holds Try.pinned (OpenSpec.ofChange sumOfSpec)

/-- ITS FALSE NEIGHBOUR: 'it returns false'. Refute it at one input. -/
def sumOfWrong : ChangeSpec := { name := "sumOf", fn := fun _ => fun
  | [d1, d2] => { results := [.lit (.bool false)], args := [d1, d2] }
  | _ => none }
def SumOfWrongFalsely : Prop := sumOfRow.holds Try.pinned (OpenSpec.ofChange sumOfWrong)

/-- 'moothilllaw02.SumXors': WHATEVER THE INPUT: true; the input reads as it did. -/
def sumXorsSpec : ChangeSpec := { name := "sumXors", fn := fun _ => fun
  | [d1, d2, d3] => { results := [.lit (.bool true)], args := [d1, d2, d3] }
  | _ => none }
def sumXorsRow : OpenClaim := { program := "ytnhfjdbnkpbbkaa", sum := "9d16dc572fbf618472d81e305466e5aca1b3feef5a4ca051d086b2484a6d296d", func := "moothill/moothilllaw02.SumXors", spec := "sumXors", apart := false }
def SumXorsSaid : Prop := sumXorsRow.holds Try.pinned (OpenSpec.ofChange sumXorsSpec)

/-- ITS FALSE NEIGHBOUR: 'it returns false'. Refute it at one input. -/
def sumXorsWrong : ChangeSpec := { name := "sumXors", fn := fun _ => fun
  | [d1, d2, d3] => { results := [.lit (.bool false)], args := [d1, d2, d3] }
  | _ => none }
def SumXorsWrongFalsely : Prop := sumXorsRow.holds Try.pinned (OpenSpec.ofChange sumXorsWrong)

/-- 'moothilllaw02.SumParts': WHATEVER THE INPUT: true; the input reads as it did. -/
def sumPartsSpec : ChangeSpec := { name := "sumParts", fn := fun _ => fun
  | [d] => { results := [.lit (.bool true)], args := [d] }
  | _ => none }
def sumPartsRow : OpenClaim := { program := "ytnhfjdbnkpbbkaa", sum := "9d16dc572fbf618472d81e305466e5aca1b3feef5a4ca051d086b2484a6d296d", func := "moothill/moothilllaw02.SumParts", spec := "sumParts", apart := false }
def SumPartsSaid : Prop := sumPartsRow.holds Try.pinned (OpenSpec.ofChange sumPartsSpec)

/-- ITS FALSE NEIGHBOUR: 'it returns false'. Refute it at one input. -/
def sumPartsWrong : ChangeSpec := { name := "sumParts", fn := fun _ => fun
  | [d] => { results := [.lit (.bool false)], args := [d] }
  | _ => none }
def SumPartsWrongFalsely : Prop := sumPartsRow.holds Try.pinned (OpenSpec.ofChange sumPartsWrong)

/-- 'moothilllaw09.AttrPast': WHATEVER THE INPUT: true; the input reads as it did. -/
def attrPastSpec : ChangeSpec := { name := "attrPast", fn := fun _ => fun
  | [d1, d2] => { results := [.lit (.bool true)], args := [d1, d2] }
  | _ => none }
def attrPastRow : OpenClaim := { program := "ytnhfjdbnkpbbkaa", sum := "9d16dc572fbf618472d81e305466e5aca1b3feef5a4ca051d086b2484a6d296d", func := "moothill/moothilllaw09.AttrPast", spec := "attrPast", apart := false }
def AttrPastSaid : Prop := attrPastRow.holds Try.pinned (OpenSpec.ofChange attrPastSpec)

/-- ITS FALSE NEIGHBOUR: 'it returns false'. Refute it at one input. -/
def attrPastWrong : ChangeSpec := { name := "attrPast", fn := fun _ => fun
  | [d1, d2] => { results := [.lit (.bool false)], args := [d1, d2] }
  | _ => none }
def AttrPastWrongFalsely : Prop := attrPastRow.holds Try.pinned (OpenSpec.ofChange attrPastWrong)

/-- 'moothilllaw01.NumShorts': WHATEVER THE INPUT: true; the input reads as it did. -/
def numShortsSpec : ChangeSpec := { name := "numShorts", fn := fun _ => fun
  | [d1, d2] => { results := [.lit (.bool true)], args := [d1, d2] }
  | _ => none }
def numShortsRow : OpenClaim := { program := "ytnhfjdbnkpbbkaa", sum := "9d16dc572fbf618472d81e305466e5aca1b3feef5a4ca051d086b2484a6d296d", func := "moothill/moothilllaw01.NumShorts", spec := "numShorts", apart := false }
def NumShortsSaid : Prop := numShortsRow.holds Try.pinned (OpenSpec.ofChange numShortsSpec)

/-- ITS FALSE NEIGHBOUR: 'it returns false'. Refute it at one input. -/
def numShortsWrong : ChangeSpec := { name := "numShorts", fn := fun _ => fun
  | [d1, d2] => { results := [.lit (.bool false)], args := [d1, d2] }
  | _ => none }
def NumShortsWrongFalsely : Prop := numShortsRow.holds Try.pinned (OpenSpec.ofChange numShortsWrong)

/-- 'moothilllaw01.NumReads': WHATEVER THE INPUT: true; the input reads as it did. -/
def numReadsSpec : ChangeSpec := { name := "numReads", fn := fun _ => fun
  | [d] => { results := [.lit (.bool true)], args := [d] }
  | _ => none }
def numReadsRow : OpenClaim := { program := "ytnhfjdbnkpbbkaa", sum := "9d16dc572fbf618472d81e305466e5aca1b3feef5a4ca051d086b2484a6d296d", func := "moothill/moothilllaw01.NumReads", spec := "numReads", apart := false }
def NumReadsSaid : Prop := numReadsRow.holds Try.pinned (OpenSpec.ofChange numReadsSpec)

/-- ITS FALSE NEIGHBOUR: 'it returns false'. Refute it at one input. -/
def numReadsWrong : ChangeSpec := { name := "numReads", fn := fun _ => fun
  | [d] => { results := [.lit (.bool false)], args := [d] }
  | _ => none }
def NumReadsWrongFalsely : Prop := numReadsRow.holds Try.pinned (OpenSpec.ofChange numReadsWrong)

/-- 'moothilllaw01.NumChains': WHATEVER THE INPUT: true; the input reads as it did. -/
def numChainsSpec : ChangeSpec := { name := "numChains", fn := fun _ => fun
  | [d] => { results := [.lit (.bool true)], args := [d] }
  | _ => none }
def numChainsRow : OpenClaim := { program := "ytnhfjdbnkpbbkaa", sum := "9d16dc572fbf618472d81e305466e5aca1b3feef5a4ca051d086b2484a6d296d", func := "moothill/moothilllaw01.NumChains", spec := "numChains", apart := false }
def NumChainsSaid : Prop := numChainsRow.holds Try.pinned (OpenSpec.ofChange numChainsSpec)

/-- ITS FALSE NEIGHBOUR: 'it returns false'. Refute it at one input. -/
def numChainsWrong : ChangeSpec := { name := "numChains", fn := fun _ => fun
  | [d] => { results := [.lit (.bool false)], args := [d] }
  | _ => none }
def NumChainsWrongFalsely : Prop := numChainsRow.holds Try.pinned (OpenSpec.ofChange numChainsWrong)

/- THE SECOND FORM. 'bulk': how many values and letters a reading holds, each counted each time it is reached (what is shared counts as often as it is met; a slice's spare places count too). A statement '..UptoSaid' is the law's where the arguments, and the package variables that the reading takes, are together of bulk at most 1048576: NARROWER than '..Said'. Prove '..Said' where nothing that the law and all that it calls make is longer than what came in: it says more and counts as full. Else prove '..UptoSaid'. A law counts once. -/
mutual
def uptoBulk {H : Type} : DataW H → Nat
  | .lit (.string bytes) => bytes.length + 1
  | .lit _ => 1
  | .nil => 1
  | .ptr d => uptoBulk d + 1
  | .slice elems spare => uptoBulkAll elems + uptoBulkAll spare + 1
  | .agg parts => uptoBulkAll parts + 1
  | .iface _ d => uptoBulk d + 1
  | .map entries => uptoBulkEntries entries + 1
  | .held _ => 1
def uptoBulkAll {H : Type} : List (DataW H) → Nat
  | [] => 0
  | d :: r => uptoBulk d + uptoBulkAll r
def uptoBulkEntries {H : Type} : List (Lit × DataW H) → Nat
  | [] => 0
  | x :: r => uptoBulkEntry x + uptoBulkEntries r
def uptoBulkEntry {H : Type} : Lit × DataW H → Nat
  | (.string bytes, d) => bytes.length + uptoBulk d + 1
  | (_, d) => uptoBulk d + 1
 end
def uptoSmall : (H : Type) → List (DataW H) → Bool := fun _ ds => decide (uptoBulkAll ds ≤ 1048576)
def OpenSpec.upto (s : _root_.Go.ChangeSpec) : _root_.Go.OpenSpec := { _root_.Go.OpenSpec.ofChange s with cond := some uptoSmall }

/-- 'moothilllaw01.NumZigs', WHERE WHAT IT READS IS OF BULK AT MOST 1048576: true; the input reads as it did. -/
def numZigsUptoRow : OpenClaim := { program := "ytnhfjdbnkpbbkaa", sum := "9d16dc572fbf618472d81e305466e5aca1b3feef5a4ca051d086b2484a6d296d", func := "moothill/moothilllaw01.NumZigs", spec := "numZigs", apart := false, narrowed := true }
def NumZigsUptoSaid : Prop := numZigsUptoRow.holds Try.pinned (OpenSpec.upto numZigsSpec)

/-- 'moothilllaw06.MarkBallots', WHERE WHAT IT READS IS OF BULK AT MOST 1048576: true; the input reads as it did. -/
def markBallotsUptoRow : OpenClaim := { program := "ytnhfjdbnkpbbkaa", sum := "9d16dc572fbf618472d81e305466e5aca1b3feef5a4ca051d086b2484a6d296d", func := "moothill/moothilllaw06.MarkBallots", spec := "markBallots", apart := false, narrowed := true }
def MarkBallotsUptoSaid : Prop := markBallotsUptoRow.holds Try.pinned (OpenSpec.upto markBallotsSpec)

/-- 'moothilllaw01.NumLows', WHERE WHAT IT READS IS OF BULK AT MOST 1048576: true; the input reads as it did. -/
def numLowsUptoRow : OpenClaim := { program := "ytnhfjdbnkpbbkaa", sum := "9d16dc572fbf618472d81e305466e5aca1b3feef5a4ca051d086b2484a6d296d", func := "moothill/moothilllaw01.NumLows", spec := "numLows", apart := false, narrowed := true }
def NumLowsUptoSaid : Prop := numLowsUptoRow.holds Try.pinned (OpenSpec.upto numLowsSpec)

/-- 'moothilllaw01.NumOrder', WHERE WHAT IT READS IS OF BULK AT MOST 1048576: true; the input reads as it did. -/
def numOrderUptoRow : OpenClaim := { program := "ytnhfjdbnkpbbkaa", sum := "9d16dc572fbf618472d81e305466e5aca1b3feef5a4ca051d086b2484a6d296d", func := "moothill/moothilllaw01.NumOrder", spec := "numOrder", apart := false, narrowed := true }
def NumOrderUptoSaid : Prop := numOrderUptoRow.holds Try.pinned (OpenSpec.upto numOrderSpec)

/-- 'moothilllaw09.AttrCovers', WHERE WHAT IT READS IS OF BULK AT MOST 1048576: true; the input reads as it did. -/
def attrCoversUptoRow : OpenClaim := { program := "ytnhfjdbnkpbbkaa", sum := "9d16dc572fbf618472d81e305466e5aca1b3feef5a4ca051d086b2484a6d296d", func := "moothill/moothilllaw09.AttrCovers", spec := "attrCovers", apart := false, narrowed := true }
def AttrCoversUptoSaid : Prop := attrCoversUptoRow.holds Try.pinned (OpenSpec.upto attrCoversSpec)

/-- 'moothilllaw02.SumOf', WHERE WHAT IT READS IS OF BULK AT MOST 1048576: true; the input reads as it did. -/
def sumOfUptoRow : OpenClaim := { program := "ytnhfjdbnkpbbkaa", sum := "9d16dc572fbf618472d81e305466e5aca1b3feef5a4ca051d086b2484a6d296d", func := "moothill/moothilllaw02.SumOf", spec := "sumOf", apart := false, narrowed := true }
def SumOfUptoSaid : Prop := sumOfUptoRow.holds Try.pinned (OpenSpec.upto sumOfSpec)

/-- 'moothilllaw02.SumXors', WHERE WHAT IT READS IS OF BULK AT MOST 1048576: true; the input reads as it did. -/
def sumXorsUptoRow : OpenClaim := { program := "ytnhfjdbnkpbbkaa", sum := "9d16dc572fbf618472d81e305466e5aca1b3feef5a4ca051d086b2484a6d296d", func := "moothill/moothilllaw02.SumXors", spec := "sumXors", apart := false, narrowed := true }
def SumXorsUptoSaid : Prop := sumXorsUptoRow.holds Try.pinned (OpenSpec.upto sumXorsSpec)

/-- 'moothilllaw02.SumParts', WHERE WHAT IT READS IS OF BULK AT MOST 1048576: true; the input reads as it did. -/
def sumPartsUptoRow : OpenClaim := { program := "ytnhfjdbnkpbbkaa", sum := "9d16dc572fbf618472d81e305466e5aca1b3feef5a4ca051d086b2484a6d296d", func := "moothill/moothilllaw02.SumParts", spec := "sumParts", apart := false, narrowed := true }
def SumPartsUptoSaid : Prop := sumPartsUptoRow.holds Try.pinned (OpenSpec.upto sumPartsSpec)

/-- 'moothilllaw09.AttrPast', WHERE WHAT IT READS IS OF BULK AT MOST 1048576: true; the input reads as it did. -/
def attrPastUptoRow : OpenClaim := { program := "ytnhfjdbnkpbbkaa", sum := "9d16dc572fbf618472d81e305466e5aca1b3feef5a4ca051d086b2484a6d296d", func := "moothill/moothilllaw09.AttrPast", spec := "attrPast", apart := false, narrowed := true }
def AttrPastUptoSaid : Prop := attrPastUptoRow.holds Try.pinned (OpenSpec.upto attrPastSpec)

/-- 'moothilllaw01.NumShorts', WHERE WHAT IT READS IS OF BULK AT MOST 1048576: true; the input reads as it did. -/
def numShortsUptoRow : OpenClaim := { program := "ytnhfjdbnkpbbkaa", sum := "9d16dc572fbf618472d81e305466e5aca1b3feef5a4ca051d086b2484a6d296d", func := "moothill/moothilllaw01.NumShorts", spec := "numShorts", apart := false, narrowed := true }
def NumShortsUptoSaid : Prop := numShortsUptoRow.holds Try.pinned (OpenSpec.upto numShortsSpec)

/-- 'moothilllaw01.NumReads', WHERE WHAT IT READS IS OF BULK AT MOST 1048576: true; the input reads as it did. -/
def numReadsUptoRow : OpenClaim := { program := "ytnhfjdbnkpbbkaa", sum := "9d16dc572fbf618472d81e305466e5aca1b3feef5a4ca051d086b2484a6d296d", func := "moothill/moothilllaw01.NumReads", spec := "numReads", apart := false, narrowed := true }
def NumReadsUptoSaid : Prop := numReadsUptoRow.holds Try.pinned (OpenSpec.upto numReadsSpec)

/-- 'moothilllaw01.NumChains', WHERE WHAT IT READS IS OF BULK AT MOST 1048576: true; the input reads as it did. -/
def numChainsUptoRow : OpenClaim := { program := "ytnhfjdbnkpbbkaa", sum := "9d16dc572fbf618472d81e305466e5aca1b3feef5a4ca051d086b2484a6d296d", func := "moothill/moothilllaw01.NumChains", spec := "numChains", apart := false, narrowed := true }
def NumChainsUptoSaid : Prop := numChainsUptoRow.holds Try.pinned (OpenSpec.upto numChainsSpec)

end Rows
end Go.Proofs.Ytnhfjdbnkpbbkaa
