/-
  No cell of these rows narrows 'for every input' (looked for: loops, veiled, ifaces, maps, wideKeys, modest, calm, conditions, laid).
  DERIVED. THE GIVEN ROWS OF THIS SEAT. 4 by the template 'for every input the law returns true; each argument reads behind the call as it read before'; 0 by the template 'total and deterministic' (their statements: YtledoikeaidlfaaTotals.lean).
  GIVEN WITH THE SEED: the statements are not yours to turn. If you find one false, say at which input.
  Laid BY PROGRAM, IN A SANDBOX (cutbox-rows.mjs): the forced cells as the released guide's own fill.sh prints them over the translation 68314d20f4a541c5… (all of the seat's roots in one cut). By AI agents, Wed Nov 11 2026. No macro, syntax, notation, axiom, sorry.
-/
import Derived.Test.YtledoikeaidlfaaChecked
import GoSem.Claim
import GoSem.ClaimJoined
import GoSem.ClaimMapViews
import Derived.JoinedTies
import Derived.KernelRfl
namespace Go.Proofs.Ytledoikeaidlfaa
/- THE CELL 'sum', in the pinned program and in every row, IS THE sha256 OF THE DUMP (.gsa) THAT YtledoikeaidlfaaProg.lean LOADS. Nothing in Lean hashes anything: it is a label: what it is worth is what the hold of that sum in a sandbox is worth. -/
noncomputable def Try.pinned : Pinned := { name := "ytledoikeaidlfaa", sum := "68314d20f4a541c5db98f6fba3cc51f0370a6b5566ff742eac030e2939409756", checked := Try.checked }
namespace Rows
def none {H : Type} : Left H := { results := [], args := [] }

/-- 'moothilllaw09.AttrTakes': WHATEVER THE INPUT: true; the input reads as it did. -/
def attrTakesSpec : ChangeSpec := { name := "attrTakes", fn := fun _ => fun
  | [d1, d2] => { results := [.lit (.bool true)], args := [d1, d2] }
  | _ => none }
def attrTakesRow : OpenClaim := { program := "ytledoikeaidlfaa", sum := "68314d20f4a541c5db98f6fba3cc51f0370a6b5566ff742eac030e2939409756", func := "moothill/moothilllaw09.AttrTakes", spec := "attrTakes", apart := false }
def AttrTakesSaid : Prop := attrTakesRow.holds Try.pinned (OpenSpec.ofChange attrTakesSpec)

/-- ITS FALSE NEIGHBOUR: 'it returns false'. Refute it at one input. -/
def attrTakesWrong : ChangeSpec := { name := "attrTakes", fn := fun _ => fun
  | [d1, d2] => { results := [.lit (.bool false)], args := [d1, d2] }
  | _ => none }
def AttrTakesWrongFalsely : Prop := attrTakesRow.holds Try.pinned (OpenSpec.ofChange attrTakesWrong)

/-- 'moothilllaw06.MarkTakes': WHATEVER THE INPUT: true; the input reads as it did. -/
def markTakesSpec : ChangeSpec := { name := "markTakes", fn := fun _ => fun
  | [d1, d2, d3] => { results := [.lit (.bool true)], args := [d1, d2, d3] }
  | _ => none }
def markTakesRow : OpenClaim := { program := "ytledoikeaidlfaa", sum := "68314d20f4a541c5db98f6fba3cc51f0370a6b5566ff742eac030e2939409756", func := "moothill/moothilllaw06.MarkTakes", spec := "markTakes", apart := false }
def MarkTakesSaid : Prop := markTakesRow.holds Try.pinned (OpenSpec.ofChange markTakesSpec)

/-- ITS FALSE NEIGHBOUR: 'it returns false'. Refute it at one input. -/
def markTakesWrong : ChangeSpec := { name := "markTakes", fn := fun _ => fun
  | [d1, d2, d3] => { results := [.lit (.bool false)], args := [d1, d2, d3] }
  | _ => none }
def MarkTakesWrongFalsely : Prop := markTakesRow.holds Try.pinned (OpenSpec.ofChange markTakesWrong)

/-- 'moothilllaw03.WireTakes': WHATEVER THE INPUT: true; the input reads as it did. -/
def wireTakesSpec : ChangeSpec := { name := "wireTakes", fn := fun _ => fun
  | [d1, d2] => { results := [.lit (.bool true)], args := [d1, d2] }
  | _ => none }
def wireTakesRow : OpenClaim := { program := "ytledoikeaidlfaa", sum := "68314d20f4a541c5db98f6fba3cc51f0370a6b5566ff742eac030e2939409756", func := "moothill/moothilllaw03.WireTakes", spec := "wireTakes", apart := false }
def WireTakesSaid : Prop := wireTakesRow.holds Try.pinned (OpenSpec.ofChange wireTakesSpec)

/-- ITS FALSE NEIGHBOUR: 'it returns false'. Refute it at one input. -/
def wireTakesWrong : ChangeSpec := { name := "wireTakes", fn := fun _ => fun
  | [d1, d2] => { results := [.lit (.bool false)], args := [d1, d2] }
  | _ => none }
def WireTakesWrongFalsely : Prop := wireTakesRow.holds Try.pinned (OpenSpec.ofChange wireTakesWrong)

/-- 'moothilllaw03.WirePuts': WHATEVER THE INPUT: true; the input reads as it did. -/
def wirePutsSpec : ChangeSpec := { name := "wirePuts", fn := fun _ => fun
  | [d] => { results := [.lit (.bool true)], args := [d] }
  | _ => none }
def wirePutsRow : OpenClaim := { program := "ytledoikeaidlfaa", sum := "68314d20f4a541c5db98f6fba3cc51f0370a6b5566ff742eac030e2939409756", func := "moothill/moothilllaw03.WirePuts", spec := "wirePuts", apart := false }
def WirePutsSaid : Prop := wirePutsRow.holds Try.pinned (OpenSpec.ofChange wirePutsSpec)

/-- ITS FALSE NEIGHBOUR: 'it returns false'. Refute it at one input. -/
def wirePutsWrong : ChangeSpec := { name := "wirePuts", fn := fun _ => fun
  | [d] => { results := [.lit (.bool false)], args := [d] }
  | _ => none }
def WirePutsWrongFalsely : Prop := wirePutsRow.holds Try.pinned (OpenSpec.ofChange wirePutsWrong)

/- THE SECOND FORM. 'bulk': how many values and letters a reading holds, each counted each time it is reached (what is shared counts as often as it is met; a slice's spare places count too). A statement '..UptoSaid' is the law's where the arguments, and the package variables that the reading takes, are together of bulk at most 1048576: NARROWER than '..Said'. Prove '..Said' where nothing that the law and all that it calls make is longer than what came in: it says more and counts as full. Else prove '..UptoSaid'. A law counts once. -/
mutual
def uptoBulk {H : Type} : DataW H → Nat
  | .lit (.string bytes) => bytes.length + 1
  | .lit _ => 1
  | .nil => 1
  | .ptr d => uptoBulk d + 1
  | .slice elems spare => uptoBulkAll elems + uptoBulkAll spare + 1
  | .agg parts => uptoBulkAll parts + 1
  | .iface _ d => uptoBulk d + 1
  | .map entries => uptoBulkEntries entries + 1
  | .held _ => 1
def uptoBulkAll {H : Type} : List (DataW H) → Nat
  | [] => 0
  | d :: r => uptoBulk d + uptoBulkAll r
def uptoBulkEntries {H : Type} : List (Lit × DataW H) → Nat
  | [] => 0
  | x :: r => uptoBulkEntry x + uptoBulkEntries r
def uptoBulkEntry {H : Type} : Lit × DataW H → Nat
  | (.string bytes, d) => bytes.length + uptoBulk d + 1
  | (_, d) => uptoBulk d + 1
 end
def uptoSmall : (H : Type) → List (DataW H) → Bool := fun _ ds => decide (uptoBulkAll ds ≤ 1048576)
def OpenSpec.upto (s : _root_.Go.ChangeSpec) : _root_.Go.OpenSpec := { _root_.Go.OpenSpec.ofChange s with cond := some uptoSmall }

/-- 'moothilllaw09.AttrTakes', WHERE WHAT IT READS IS OF BULK AT MOST 1048576: true; the input reads as it did. -/
def attrTakesUptoRow : OpenClaim := { program := "ytledoikeaidlfaa", sum := "68314d20f4a541c5db98f6fba3cc51f0370a6b5566ff742eac030e2939409756", func := "moothill/moothilllaw09.AttrTakes", spec := "attrTakes", apart := false, narrowed := true }
def AttrTakesUptoSaid : Prop := attrTakesUptoRow.holds Try.pinned (OpenSpec.upto attrTakesSpec)

/-- 'moothilllaw06.MarkTakes', WHERE WHAT IT READS IS OF BULK AT MOST 1048576: true; the input reads as it did. -/
def markTakesUptoRow : OpenClaim := { program := "ytledoikeaidlfaa", sum := "68314d20f4a541c5db98f6fba3cc51f0370a6b5566ff742eac030e2939409756", func := "moothill/moothilllaw06.MarkTakes", spec := "markTakes", apart := false, narrowed := true }
def MarkTakesUptoSaid : Prop := markTakesUptoRow.holds Try.pinned (OpenSpec.upto markTakesSpec)

/-- 'moothilllaw03.WireTakes', WHERE WHAT IT READS IS OF BULK AT MOST 1048576: true; the input reads as it did. -/
def wireTakesUptoRow : OpenClaim := { program := "ytledoikeaidlfaa", sum := "68314d20f4a541c5db98f6fba3cc51f0370a6b5566ff742eac030e2939409756", func := "moothill/moothilllaw03.WireTakes", spec := "wireTakes", apart := false, narrowed := true }
def WireTakesUptoSaid : Prop := wireTakesUptoRow.holds Try.pinned (OpenSpec.upto wireTakesSpec)

/-- 'moothilllaw03.WirePuts', WHERE WHAT IT READS IS OF BULK AT MOST 1048576: true; the input reads as it did. -/
def wirePutsUptoRow : OpenClaim := { program := "ytledoikeaidlfaa", sum := "68314d20f4a541c5db98f6fba3cc51f0370a6b5566ff742eac030e2939409756", func := "moothill/moothilllaw03.WirePuts", spec := "wirePuts", apart := false, narrowed := true }
def WirePutsUptoSaid : Prop := wirePutsUptoRow.holds Try.pinned (OpenSpec.upto wirePutsSpec)

end Rows
end Go.Proofs.Ytledoikeaidlfaa
