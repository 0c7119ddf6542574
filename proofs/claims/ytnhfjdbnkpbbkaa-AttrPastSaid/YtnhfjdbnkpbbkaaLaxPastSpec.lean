/- Attributes with a greater number: what is answered, by content. -/
import Derived.Test.YtnhfjdbnkpbbkaaLaxAttrMeets
namespace Go.Proofs.Ytnhfjdbnkpbbkaa
set_option linter.unusedVariables false
set_option linter.unusedSimpArgs false
open Go.RowKit

def past (s k : Int) : Int := if 0 ≤ k then (if s ≤ (if k ≤ 1073741823 then k + 1 else 1073741824) then (if k ≤ 1073741823 then k + 1 else 1073741824) else s) else s
def pastF : Con
  | [.val (.agg [.int .i64 s, .int .i64 d0, .int .i64 d1, .int .i64 d2, .int .i64 d3, .int .i64 d4, .int .i64 d5, .int .i64 d6]), .val (.int .i64 k)] => some (True, ⟨att (past s k) d0 d1 d2 d3 d4 d5 d6, none, none⟩)
  | _ => none
def lawPastF : Con
  | [.val (.agg [.int .i64 s, .int .i64 d0, .int .i64 d1, .int .i64 d2, .int .i64 d3, .int .i64 d4, .int .i64 d5, .int .i64 d6]), .val (.int .i64 k)] => some (True, ⟨.bool true, none, none⟩)
  | _ => none
def pastL : List (Nat × Con) := (38, pastF) :: attrL4
def inPast (s d0 d1 d2 d3 d4 d5 d6 k : Int) : Prop := awp [] (fun _ => none) (lookΓ []) Try.prog Try.f38.ntmps 0 (Try.f38.body.getD .skip) (entrySt [.val (att s d0 d1 d2 d3 d4 d5 d6), .val (.int .i64 k)]) (exitQ Try.prog Try.f38.results.toList [] ⟨att (past s k) d0 d1 d2 d3 d4 d5 d6, none, none⟩)
def inLawPast (s d0 d1 d2 d3 d4 d5 d6 k : Int) : Prop := awp [] (fun _ => none) (lookΓ pastL) Try.prog Try.f11.ntmps 0 (Try.f11.body.getD .skip) (entrySt [.val (att s d0 d1 d2 d3 d4 d5 d6), .val (.int .i64 k)]) (exitQ Try.prog Try.f11.results.toList [] ⟨.bool true, none, none⟩)
end Go.Proofs.Ytnhfjdbnkpbbkaa
