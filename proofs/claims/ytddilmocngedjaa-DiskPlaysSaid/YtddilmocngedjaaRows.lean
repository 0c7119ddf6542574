/-
  No cell of these rows narrows 'for every input' (looked for: loops, veiled, ifaces, maps, wideKeys, modest, calm, conditions, laid).
  DERIVED. THE GIVEN ROWS OF THIS SEAT. 6 by the template 'for every input the law returns true; each argument reads behind the call as it read before'; 0 by the template 'total and deterministic' (their statements: YtddilmocngedjaaTotals.lean).
  GIVEN WITH THE SEED: the statements are not yours to turn. If you find one false, say at which input.
  Laid BY PROGRAM, IN A SANDBOX (cutbox-rows.mjs): the forced cells as the released guide's own fill.sh prints them over the translation 1bc01058a9f88a81… (all of the seat's roots in one cut). By AI agents, Wed Nov 11 2026. No macro, syntax, notation, axiom, sorry.
-/
import Derived.Test.YtddilmocngedjaaChecked
import GoSem.Claim
import GoSem.ClaimJoined
import GoSem.ClaimMapViews
import Derived.JoinedTies
import Derived.KernelRfl
namespace Go.Proofs.Ytddilmocngedjaa
/- THE CELL 'sum', in the pinned program and in every row, IS THE sha256 OF THE DUMP (.gsa) THAT YtddilmocngedjaaProg.lean LOADS. Nothing in Lean hashes anything: it is a label: what it is worth is what the hold of that sum in a sandbox is worth. -/
noncomputable def Try.pinned : Pinned := { name := "ytddilmocngedjaa", sum := "1bc01058a9f88a8135eb14d14b6c438527dc8cab2b01c20708f2c4c11a19d685", checked := Try.checked }
namespace Rows
def none {H : Type} : Left H := { results := [], args := [] }

/-- 'moothilllaw02.SumTurns': WHATEVER THE INPUT: true; the input reads as it did. -/
def sumTurnsSpec : ChangeSpec := { name := "sumTurns", fn := fun _ => fun
  | [d1, d2, d3] => { results := [.lit (.bool true)], args := [d1, d2, d3] }
  | _ => none }
def sumTurnsRow : OpenClaim := { program := "ytddilmocngedjaa", sum := "1bc01058a9f88a8135eb14d14b6c438527dc8cab2b01c20708f2c4c11a19d685", func := "moothill/moothilllaw02.SumTurns", spec := "sumTurns", apart := false }
def SumTurnsSaid : Prop := sumTurnsRow.holds Try.pinned (OpenSpec.ofChange sumTurnsSpec)

/-- ITS FALSE NEIGHBOUR: 'it returns false'. Refute it at one input. -/
def sumTurnsWrong : ChangeSpec := { name := "sumTurns", fn := fun _ => fun
  | [d1, d2, d3] => { results := [.lit (.bool false)], args := [d1, d2, d3] }
  | _ => none }
def SumTurnsWrongFalsely : Prop := sumTurnsRow.holds Try.pinned (OpenSpec.ofChange sumTurnsWrong)

/-- 'moothilllaw13.DiskCrashes': WHATEVER THE INPUT: true; the input reads as it did. -/
def diskCrashesSpec : ChangeSpec := { name := "diskCrashes", fn := fun _ => fun
  | [d1, d2] => { results := [.lit (.bool true)], args := [d1, d2] }
  | _ => none }
def diskCrashesRow : OpenClaim := { program := "ytddilmocngedjaa", sum := "1bc01058a9f88a8135eb14d14b6c438527dc8cab2b01c20708f2c4c11a19d685", func := "moothill/moothilllaw13.DiskCrashes", spec := "diskCrashes", apart := false }
def DiskCrashesSaid : Prop := diskCrashesRow.holds Try.pinned (OpenSpec.ofChange diskCrashesSpec)

/-- ITS FALSE NEIGHBOUR: 'it returns false'. Refute it at one input. -/
def diskCrashesWrong : ChangeSpec := { name := "diskCrashes", fn := fun _ => fun
  | [d1, d2] => { results := [.lit (.bool false)], args := [d1, d2] }
  | _ => none }
def DiskCrashesWrongFalsely : Prop := diskCrashesRow.holds Try.pinned (OpenSpec.ofChange diskCrashesWrong)

/-- 'moothilllaw13.DiskPlays': WHATEVER THE INPUT: true; the input reads as it did. -/
def diskPlaysSpec : ChangeSpec := { name := "diskPlays", fn := fun _ => fun
  | [d1, d2] => { results := [.lit (.bool true)], args := [d1, d2] }
  | _ => none }
def diskPlaysRow : OpenClaim := { program := "ytddilmocngedjaa", sum := "1bc01058a9f88a8135eb14d14b6c438527dc8cab2b01c20708f2c4c11a19d685", func := "moothill/moothilllaw13.DiskPlays", spec := "diskPlays", apart := false }
def DiskPlaysSaid : Prop := diskPlaysRow.holds Try.pinned (OpenSpec.ofChange diskPlaysSpec)

/-- ITS FALSE NEIGHBOUR: 'it returns false'. Refute it at one input. -/
def diskPlaysWrong : ChangeSpec := { name := "diskPlays", fn := fun _ => fun
  | [d1, d2] => { results := [.lit (.bool false)], args := [d1, d2] }
  | _ => none }
def DiskPlaysWrongFalsely : Prop := diskPlaysRow.holds Try.pinned (OpenSpec.ofChange diskPlaysWrong)

/-- 'moothilllaw14.LogScans': WHATEVER THE INPUT: true; the input reads as it did. -/
def logScansSpec : ChangeSpec := { name := "logScans", fn := fun _ => fun
  | [d] => { results := [.lit (.bool true)], args := [d] }
  | _ => none }
def logScansRow : OpenClaim := { program := "ytddilmocngedjaa", sum := "1bc01058a9f88a8135eb14d14b6c438527dc8cab2b01c20708f2c4c11a19d685", func := "moothill/moothilllaw14.LogScans", spec := "logScans", apart := false }
def LogScansSaid : Prop := logScansRow.holds Try.pinned (OpenSpec.ofChange logScansSpec)

/-- ITS FALSE NEIGHBOUR: 'it returns false'. Refute it at one input. -/
def logScansWrong : ChangeSpec := { name := "logScans", fn := fun _ => fun
  | [d] => { results := [.lit (.bool false)], args := [d] }
  | _ => none }
def LogScansWrongFalsely : Prop := logScansRow.holds Try.pinned (OpenSpec.ofChange logScansWrong)

/-- 'moothilllaw14.LogTurns': WHATEVER THE INPUT: true; the input reads as it did. -/
def logTurnsSpec : ChangeSpec := { name := "logTurns", fn := fun _ => fun
  | [d1, d2, d3, d4] => { results := [.lit (.bool true)], args := [d1, d2, d3, d4] }
  | _ => none }
def logTurnsRow : OpenClaim := { program := "ytddilmocngedjaa", sum := "1bc01058a9f88a8135eb14d14b6c438527dc8cab2b01c20708f2c4c11a19d685", func := "moothill/moothilllaw14.LogTurns", spec := "logTurns", apart := false }
def LogTurnsSaid : Prop := logTurnsRow.holds Try.pinned (OpenSpec.ofChange logTurnsSpec)

/-- ITS FALSE NEIGHBOUR: 'it returns false'. Refute it at one input. -/
def logTurnsWrong : ChangeSpec := { name := "logTurns", fn := fun _ => fun
  | [d1, d2, d3, d4] => { results := [.lit (.bool false)], args := [d1, d2, d3, d4] }
  | _ => none }
def LogTurnsWrongFalsely : Prop := logTurnsRow.holds Try.pinned (OpenSpec.ofChange logTurnsWrong)

/-- 'moothilllaw14.LogTears': WHATEVER THE INPUT: true; the input reads as it did. -/
def logTearsSpec : ChangeSpec := { name := "logTears", fn := fun _ => fun
  | [d1, d2] => { results := [.lit (.bool true)], args := [d1, d2] }
  | _ => none }
def logTearsRow : OpenClaim := { program := "ytddilmocngedjaa", sum := "1bc01058a9f88a8135eb14d14b6c438527dc8cab2b01c20708f2c4c11a19d685", func := "moothill/moothilllaw14.LogTears", spec := "logTears", apart := false }
def LogTearsSaid : Prop := logTearsRow.holds Try.pinned (OpenSpec.ofChange logTearsSpec)

/-- ITS FALSE NEIGHBOUR: 'it returns false'. Refute it at one input. -/
def logTearsWrong : ChangeSpec := { name := "logTears", fn := fun _ => fun
  | [d1, d2] => { results := [.lit (.bool false)], args := [d1, d2] }
  | _ => none }
def LogTearsWrongFalsely : Prop := logTearsRow.holds Try.pinned (OpenSpec.ofChange logTearsWrong)

/- THE SECOND FORM. 'bulk': how many values and letters a reading holds, each counted each time it is reached (what is shared counts as often as it is met; a slice's spare places count too). A statement '..UptoSaid' is the law's where the arguments, and the package variables that the reading takes, are together of bulk at most 1048576: NARROWER than '..Said'. Prove '..Said' where nothing that the law and all that it calls make is longer than what came in: it says more and counts as full. Else prove '..UptoSaid'. A law counts once. -/
mutual
def uptoBulk {H : Type} : DataW H → Nat
  | .lit (.string bytes) => bytes.length + 1
  | .lit _ => 1
  | .nil => 1
  | .ptr d => uptoBulk d + 1
  | .slice elems spare => uptoBulkAll elems + uptoBulkAll spare + 1
  | .agg parts => uptoBulkAll parts + 1
  | .iface _ d => uptoBulk d + 1
  | .map entries => uptoBulkEntries entries + 1
  | .held _ => 1
def uptoBulkAll {H : Type} : List (DataW H) → Nat
  | [] => 0
  | d :: r => uptoBulk d + uptoBulkAll r
def uptoBulkEntries {H : Type} : List (Lit × DataW H) → Nat
  | [] => 0
  | x :: r => uptoBulkEntry x + uptoBulkEntries r
def uptoBulkEntry {H : Type} : Lit × DataW H → Nat
  | (.string bytes, d) => bytes.length + uptoBulk d + 1
  | (_, d) => uptoBulk d + 1
 end
def uptoSmall : (H : Type) → List (DataW H) → Bool := fun _ ds => decide (uptoBulkAll ds ≤ 1048576)
def OpenSpec.upto (s : _root_.Go.ChangeSpec) : _root_.Go.OpenSpec := { _root_.Go.OpenSpec.ofChange s with cond := some uptoSmall }

/-- 'moothilllaw02.SumTurns', WHERE WHAT IT READS IS OF BULK AT MOST 1048576: true; the input reads as it did. -/
def sumTurnsUptoRow : OpenClaim := { program := "ytddilmocngedjaa", sum := "1bc01058a9f88a8135eb14d14b6c438527dc8cab2b01c20708f2c4c11a19d685", func := "moothill/moothilllaw02.SumTurns", spec := "sumTurns", apart := false, narrowed := true }
def SumTurnsUptoSaid : Prop := sumTurnsUptoRow.holds Try.pinned (OpenSpec.upto sumTurnsSpec)

/-- 'moothilllaw13.DiskCrashes', WHERE WHAT IT READS IS OF BULK AT MOST 1048576: true; the input reads as it did. -/
def diskCrashesUptoRow : OpenClaim := { program := "ytddilmocngedjaa", sum := "1bc01058a9f88a8135eb14d14b6c438527dc8cab2b01c20708f2c4c11a19d685", func := "moothill/moothilllaw13.DiskCrashes", spec := "diskCrashes", apart := false, narrowed := true }
def DiskCrashesUptoSaid : Prop := diskCrashesUptoRow.holds Try.pinned (OpenSpec.upto diskCrashesSpec)

/-- 'moothilllaw13.DiskPlays', WHERE WHAT IT READS IS OF BULK AT MOST 1048576: true; the input reads as it did. -/
def diskPlaysUptoRow : OpenClaim := { program := "ytddilmocngedjaa", sum := "1bc01058a9f88a8135eb14d14b6c438527dc8cab2b01c20708f2c4c11a19d685", func := "moothill/moothilllaw13.DiskPlays", spec := "diskPlays", apart := false, narrowed := true }
def DiskPlaysUptoSaid : Prop := diskPlaysUptoRow.holds Try.pinned (OpenSpec.upto diskPlaysSpec)

/-- 'moothilllaw14.LogScans', WHERE WHAT IT READS IS OF BULK AT MOST 1048576: true; the input reads as it did. -/
def logScansUptoRow : OpenClaim := { program := "ytddilmocngedjaa", sum := "1bc01058a9f88a8135eb14d14b6c438527dc8cab2b01c20708f2c4c11a19d685", func := "moothill/moothilllaw14.LogScans", spec := "logScans", apart := false, narrowed := true }
def LogScansUptoSaid : Prop := logScansUptoRow.holds Try.pinned (OpenSpec.upto logScansSpec)

/-- 'moothilllaw14.LogTurns', WHERE WHAT IT READS IS OF BULK AT MOST 1048576: true; the input reads as it did. -/
def logTurnsUptoRow : OpenClaim := { program := "ytddilmocngedjaa", sum := "1bc01058a9f88a8135eb14d14b6c438527dc8cab2b01c20708f2c4c11a19d685", func := "moothill/moothilllaw14.LogTurns", spec := "logTurns", apart := false, narrowed := true }
def LogTurnsUptoSaid : Prop := logTurnsUptoRow.holds Try.pinned (OpenSpec.upto logTurnsSpec)

/-- 'moothilllaw14.LogTears', WHERE WHAT IT READS IS OF BULK AT MOST 1048576: true; the input reads as it did. -/
def logTearsUptoRow : OpenClaim := { program := "ytddilmocngedjaa", sum := "1bc01058a9f88a8135eb14d14b6c438527dc8cab2b01c20708f2c4c11a19d685", func := "moothill/moothilllaw14.LogTears", spec := "logTears", apart := false, narrowed := true }
def LogTearsUptoSaid : Prop := logTearsUptoRow.holds Try.pinned (OpenSpec.upto logTearsSpec)

end Rows
end Go.Proofs.Ytddilmocngedjaa
