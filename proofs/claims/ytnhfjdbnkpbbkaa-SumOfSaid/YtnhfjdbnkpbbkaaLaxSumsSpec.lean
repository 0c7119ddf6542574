/- Contracts by content, and the conditions that their code must meet. -/
import Derived.Test.YtnhfjdbnkpbbkaaLaxSum
import Derived.Test.YtnhfjdbnkpbbkaaLaxOpen
namespace Go.Proofs.Ytnhfjdbnkpbbkaa
set_option linter.unusedVariables false
set_option linter.unusedSimpArgs false
open Go.RowKit
def PartsTy (xs : List AV) : Prop := HasTy 9223372036854775807 (.sl [.sl [.int .u8]]) (.sl xs .no)
def firstN (xs : List AV) : Nat → List UInt8
  | 0 => []
  | i + 1 => catL (firstN xs i) (bytesL (rdList (elemAt xs i) 0))
def loopParts (ps : List AV) : LoopInv :=
  { V := Nat
    T := fun i => [(0, .sl ps .no), (3, .sl (bytesAV (firstN ps i)) (.row 24 0 5)), (8, .sl ps .no), (9, .int .i64 (ps.length : Int)), (10, .int .i64 (i : Int))]
    B := fun i => []
    R := fun i => [((24, 0), (firstN ps i).length)]
    inv := fun i => i ≤ ps.length ∧ (firstN ps i).length ≤ 500
    mu := fun i => ps.length - i }
def lawSumOfF : Con
  | [.val (.sl xs .no), .val (.int .i64 k)] => some (isBytes xs, ⟨.bool true, none, none⟩)
  | _ => none
def gamLawSumOf : List (Nat × Con) := [(35, anchor2F), (36, refOfF), (37, sumOfF)]
def lpLawSumOf0 (xs : List AV) (k : Int) : Nat → Option LoopPlan := fun _ => none
def inLawSumOf0 (xs : List AV) (k : Int) : Prop := awp [] (lpLawSumOf0 xs k) (lookΓ gamLawSumOf) Try.prog Try.f8.ntmps 0 (Try.f8.body.getD .skip) (entrySt [.val (.sl xs .no), .val (.int .i64 k)]) (exitQ Try.prog Try.f8.results.toList [] ⟨.bool true, none, none⟩)
def OkLawSumOf0 : Prop := ∀ (xs : List AV) (k : Int), isBytes xs → (xs.length ≤ 9223372036854775807) → inLawSumOf0 xs k
def lawSumPartsF : Con
  | [.val (.sl ps .no)] => some (PartsTy ps, ⟨.bool true, none, none⟩)
  | _ => none
def gamLawSumParts : List (Nat × Con) := [(35, anchor2F), (36, refOfF), (37, sumOfF)]
def lpLawSumParts0 (ps : List AV) : Nat → Option LoopPlan := fun b => bif Nat.beq b 0 then some (.inv [.nilT 3 24 0 5] (loopParts ps)) else none
def inLawSumParts0 (ps : List AV) : Prop := awp [] (lpLawSumParts0 ps) (lookΓ gamLawSumParts) Try.prog Try.f10.ntmps 0 (Try.f10.body.getD .skip) (entrySt [.val (.sl ps .no)]) (exitQ Try.prog Try.f10.results.toList [] ⟨.bool true, none, none⟩)
def OkLawSumParts0 : Prop := ∀ (ps : List AV), PartsTy ps → inLawSumParts0 ps
end Go.Proofs.Ytnhfjdbnkpbbkaa
