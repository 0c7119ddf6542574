/-
  No cell of these rows narrows 'for every input' (looked for: loops, veiled, ifaces, maps, wideKeys, modest, calm, conditions, laid).
  DERIVED. THE GIVEN ROWS OF THIS SEAT. 6 by the template 'for every input the law returns true; each argument reads behind the call as it read before'; 0 by the template 'total and deterministic' (their statements: YtnhfjdbnkpbbkabTotals.lean).
  GIVEN WITH THE SEED: the statements are not yours to turn. If you find one false, say at which input.
  Laid BY PROGRAM, IN A SANDBOX (cutbox-rows.mjs): the forced cells as the released guide's own fill.sh prints them over the translation 84ab04d2f4efcdac… (all of the seat's roots in one cut). By AI agents, Wed Nov 11 2026. No macro, syntax, notation, axiom, sorry.
-/
import Derived.Test.YtnhfjdbnkpbbkabChecked
import GoSem.Claim
import GoSem.ClaimJoined
import GoSem.ClaimMapViews
import Derived.JoinedTies
import Derived.KernelRfl
namespace Go.Proofs.Ytnhfjdbnkpbbkab
/- THE CELL 'sum', in the pinned program and in every row, IS THE sha256 OF THE DUMP (.gsa) THAT YtnhfjdbnkpbbkabProg.lean LOADS. Nothing in Lean hashes anything: it is a label: what it is worth is what the hold of that sum in a sandbox is worth. -/
noncomputable def Try.pinned : Pinned := { name := "ytnhfjdbnkpbbkab", sum := "84ab04d2f4efcdac64fa1cf50abe2d3fc16de4db216e4a623ade660d45e80d45", checked := Try.checked }
namespace Rows
def none {H : Type} : Left H := { results := [], args := [] }

/-- 'moothilllaw09.AttrMerge': WHATEVER THE INPUT: true; the input reads as it did. -/
def attrMergeSpec : ChangeSpec := { name := "attrMerge", fn := fun _ => fun
  | [d1, d2, d3] => { results := [.lit (.bool true)], args := [d1, d2, d3] }
  | _ => none }
def attrMergeRow : OpenClaim := { program := "ytnhfjdbnkpbbkab", sum := "84ab04d2f4efcdac64fa1cf50abe2d3fc16de4db216e4a623ade660d45e80d45", func := "moothill/moothilllaw09.AttrMerge", spec := "attrMerge", apart := false }
def AttrMergeSaid : Prop := attrMergeRow.holds Try.pinned (OpenSpec.ofChange attrMergeSpec)

/-- ITS FALSE NEIGHBOUR: 'it returns false'. Refute it at one input. -/
def attrMergeWrong : ChangeSpec := { name := "attrMerge", fn := fun _ => fun
  | [d1, d2, d3] => { results := [.lit (.bool false)], args := [d1, d2, d3] }
  | _ => none }
def AttrMergeWrongFalsely : Prop := attrMergeRow.holds Try.pinned (OpenSpec.ofChange attrMergeWrong)

/-- 'moothilllaw09.AttrOrder': WHATEVER THE INPUT: true; the input reads as it did. -/
def attrOrderSpec : ChangeSpec := { name := "attrOrder", fn := fun _ => fun
  | [d1, d2, d3, d4] => { results := [.lit (.bool true)], args := [d1, d2, d3, d4] }
  | _ => none }
def attrOrderRow : OpenClaim := { program := "ytnhfjdbnkpbbkab", sum := "84ab04d2f4efcdac64fa1cf50abe2d3fc16de4db216e4a623ade660d45e80d45", func := "moothill/moothilllaw09.AttrOrder", spec := "attrOrder", apart := false }
def AttrOrderSaid : Prop := attrOrderRow.holds Try.pinned (OpenSpec.ofChange attrOrderSpec)

/-- ITS FALSE NEIGHBOUR: 'it returns false'. Refute it at one input. -/
def attrOrderWrong : ChangeSpec := { name := "attrOrder", fn := fun _ => fun
  | [d1, d2, d3, d4] => { results := [.lit (.bool false)], args := [d1, d2, d3, d4] }
  | _ => none }
def AttrOrderWrongFalsely : Prop := attrOrderRow.holds Try.pinned (OpenSpec.ofChange attrOrderWrong)

/-- 'moothilllaw01.NumBytes': WHATEVER THE INPUT: true; the input reads as it did. -/
def numBytesSpec : ChangeSpec := { name := "numBytes", fn := fun _ => fun
  | [d1, d2, d3] => { results := [.lit (.bool true)], args := [d1, d2, d3] }
  | _ => none }
def numBytesRow : OpenClaim := { program := "ytnhfjdbnkpbbkab", sum := "84ab04d2f4efcdac64fa1cf50abe2d3fc16de4db216e4a623ade660d45e80d45", func := "moothill/moothilllaw01.NumBytes", spec := "numBytes", apart := false }
def NumBytesSaid : Prop := numBytesRow.holds Try.pinned (OpenSpec.ofChange numBytesSpec)

/-- ITS FALSE NEIGHBOUR: 'it returns false'. Refute it at one input. -/
def numBytesWrong : ChangeSpec := { name := "numBytes", fn := fun _ => fun
  | [d1, d2, d3] => { results := [.lit (.bool false)], args := [d1, d2, d3] }
  | _ => none }
def NumBytesWrongFalsely : Prop := numBytesRow.holds Try.pinned (OpenSpec.ofChange numBytesWrong)

/-- 'moothilllaw02.SumSeals': WHATEVER THE INPUT: true; the input reads as it did. -/
def sumSealsSpec : ChangeSpec := { name := "sumSeals", fn := fun _ => fun
  | [d] => { results := [.lit (.bool true)], args := [d] }
  | _ => none }
def sumSealsRow : OpenClaim := { program := "ytnhfjdbnkpbbkab", sum := "84ab04d2f4efcdac64fa1cf50abe2d3fc16de4db216e4a623ade660d45e80d45", func := "moothill/moothilllaw02.SumSeals", spec := "sumSeals", apart := false }
def SumSealsSaid : Prop := sumSealsRow.holds Try.pinned (OpenSpec.ofChange sumSealsSpec)

/-- ITS FALSE NEIGHBOUR: 'it returns false'. Refute it at one input. -/
def sumSealsWrong : ChangeSpec := { name := "sumSeals", fn := fun _ => fun
  | [d] => { results := [.lit (.bool false)], args := [d] }
  | _ => none }
def SumSealsWrongFalsely : Prop := sumSealsRow.holds Try.pinned (OpenSpec.ofChange sumSealsWrong)

/-- 'moothilllaw02.SumTurns': WHATEVER THE INPUT: true; the input reads as it did. -/
def sumTurnsSpec : ChangeSpec := { name := "sumTurns", fn := fun _ => fun
  | [d1, d2, d3] => { results := [.lit (.bool true)], args := [d1, d2, d3] }
  | _ => none }
def sumTurnsRow : OpenClaim := { program := "ytnhfjdbnkpbbkab", sum := "84ab04d2f4efcdac64fa1cf50abe2d3fc16de4db216e4a623ade660d45e80d45", func := "moothill/moothilllaw02.SumTurns", spec := "sumTurns", apart := false }
def SumTurnsSaid : Prop := sumTurnsRow.holds Try.pinned (OpenSpec.ofChange sumTurnsSpec)

/-- ITS FALSE NEIGHBOUR: 'it returns false'. Refute it at one input. -/
def sumTurnsWrong : ChangeSpec := { name := "sumTurns", fn := fun _ => fun
  | [d1, d2, d3] => { results := [.lit (.bool false)], args := [d1, d2, d3] }
  | _ => none }
def SumTurnsWrongFalsely : Prop := sumTurnsRow.holds Try.pinned (OpenSpec.ofChange sumTurnsWrong)

/-- 'moothilllaw06.MarkWords': WHATEVER THE INPUT: true; the input reads as it did. -/
def markWordsSpec : ChangeSpec := { name := "markWords", fn := fun _ => fun
  | [d1, d2, d3] => { results := [.lit (.bool true)], args := [d1, d2, d3] }
  | _ => none }
def markWordsRow : OpenClaim := { program := "ytnhfjdbnkpbbkab", sum := "84ab04d2f4efcdac64fa1cf50abe2d3fc16de4db216e4a623ade660d45e80d45", func := "moothill/moothilllaw06.MarkWords", spec := "markWords", apart := false }
def MarkWordsSaid : Prop := markWordsRow.holds Try.pinned (OpenSpec.ofChange markWordsSpec)

/-- ITS FALSE NEIGHBOUR: 'it returns false'. Refute it at one input. -/
def markWordsWrong : ChangeSpec := { name := "markWords", fn := fun _ => fun
  | [d1, d2, d3] => { results := [.lit (.bool false)], args := [d1, d2, d3] }
  | _ => none }
def MarkWordsWrongFalsely : Prop := markWordsRow.holds Try.pinned (OpenSpec.ofChange markWordsWrong)

/- THE SECOND FORM. 'bulk': how many values and letters a reading holds, each counted each time it is reached (what is shared counts as often as it is met; a slice's spare places count too). A statement '..UptoSaid' is the law's where the arguments, and the package variables that the reading takes, are together of bulk at most 1048576: NARROWER than '..Said'. Prove '..Said' where nothing that the law and all that it calls make is longer than what came in: it says more and counts as full. Else prove '..UptoSaid'. A law counts once. -/
mutual
def uptoBulk {H : Type} : DataW H → Nat
  | .lit (.string bytes) => bytes.length + 1
  | .lit _ => 1
  | .nil => 1
  | .ptr d => uptoBulk d + 1
  | .slice elems spare => uptoBulkAll elems + uptoBulkAll spare + 1
  | .agg parts => uptoBulkAll parts + 1
  | .iface _ d => uptoBulk d + 1
  | .map entries => uptoBulkEntries entries + 1
  | .held _ => 1
def uptoBulkAll {H : Type} : List (DataW H) → Nat
  | [] => 0
  | d :: r => uptoBulk d + uptoBulkAll r
def uptoBulkEntries {H : Type} : List (Lit × DataW H) → Nat
  | [] => 0
  | x :: r => uptoBulkEntry x + uptoBulkEntries r
def uptoBulkEntry {H : Type} : Lit × DataW H → Nat
  | (.string bytes, d) => bytes.length + uptoBulk d + 1
  | (_, d) => uptoBulk d + 1
 end
def uptoSmall : (H : Type) → List (DataW H) → Bool := fun _ ds => decide (uptoBulkAll ds ≤ 1048576)
def OpenSpec.upto (s : _root_.Go.ChangeSpec) : _root_.Go.OpenSpec := { _root_.Go.OpenSpec.ofChange s with cond := some uptoSmall }

/-- 'moothilllaw09.AttrMerge', WHERE WHAT IT READS IS OF BULK AT MOST 1048576: true; the input reads as it did. -/
def attrMergeUptoRow : OpenClaim := { program := "ytnhfjdbnkpbbkab", sum := "84ab04d2f4efcdac64fa1cf50abe2d3fc16de4db216e4a623ade660d45e80d45", func := "moothill/moothilllaw09.AttrMerge", spec := "attrMerge", apart := false, narrowed := true }
def AttrMergeUptoSaid : Prop := attrMergeUptoRow.holds Try.pinned (OpenSpec.upto attrMergeSpec)

/-- 'moothilllaw09.AttrOrder', WHERE WHAT IT READS IS OF BULK AT MOST 1048576: true; the input reads as it did. -/
def attrOrderUptoRow : OpenClaim := { program := "ytnhfjdbnkpbbkab", sum := "84ab04d2f4efcdac64fa1cf50abe2d3fc16de4db216e4a623ade660d45e80d45", func := "moothill/moothilllaw09.AttrOrder", spec := "attrOrder", apart := false, narrowed := true }
def AttrOrderUptoSaid : Prop := attrOrderUptoRow.holds Try.pinned (OpenSpec.upto attrOrderSpec)

/-- 'moothilllaw01.NumBytes', WHERE WHAT IT READS IS OF BULK AT MOST 1048576: true; the input reads as it did. -/
def numBytesUptoRow : OpenClaim := { program := "ytnhfjdbnkpbbkab", sum := "84ab04d2f4efcdac64fa1cf50abe2d3fc16de4db216e4a623ade660d45e80d45", func := "moothill/moothilllaw01.NumBytes", spec := "numBytes", apart := false, narrowed := true }
def NumBytesUptoSaid : Prop := numBytesUptoRow.holds Try.pinned (OpenSpec.upto numBytesSpec)

/-- 'moothilllaw02.SumSeals', WHERE WHAT IT READS IS OF BULK AT MOST 1048576: true; the input reads as it did. -/
def sumSealsUptoRow : OpenClaim := { program := "ytnhfjdbnkpbbkab", sum := "84ab04d2f4efcdac64fa1cf50abe2d3fc16de4db216e4a623ade660d45e80d45", func := "moothill/moothilllaw02.SumSeals", spec := "sumSeals", apart := false, narrowed := true }
def SumSealsUptoSaid : Prop := sumSealsUptoRow.holds Try.pinned (OpenSpec.upto sumSealsSpec)

/-- 'moothilllaw02.SumTurns', WHERE WHAT IT READS IS OF BULK AT MOST 1048576: true; the input reads as it did. -/
def sumTurnsUptoRow : OpenClaim := { program := "ytnhfjdbnkpbbkab", sum := "84ab04d2f4efcdac64fa1cf50abe2d3fc16de4db216e4a623ade660d45e80d45", func := "moothill/moothilllaw02.SumTurns", spec := "sumTurns", apart := false, narrowed := true }
def SumTurnsUptoSaid : Prop := sumTurnsUptoRow.holds Try.pinned (OpenSpec.upto sumTurnsSpec)

/-- 'moothilllaw06.MarkWords', WHERE WHAT IT READS IS OF BULK AT MOST 1048576: true; the input reads as it did. -/
def markWordsUptoRow : OpenClaim := { program := "ytnhfjdbnkpbbkab", sum := "84ab04d2f4efcdac64fa1cf50abe2d3fc16de4db216e4a623ade660d45e80d45", func := "moothill/moothilllaw06.MarkWords", spec := "markWords", apart := false, narrowed := true }
def MarkWordsUptoSaid : Prop := markWordsUptoRow.holds Try.pinned (OpenSpec.upto markWordsSpec)

end Rows
end Go.Proofs.Ytnhfjdbnkpbbkab
