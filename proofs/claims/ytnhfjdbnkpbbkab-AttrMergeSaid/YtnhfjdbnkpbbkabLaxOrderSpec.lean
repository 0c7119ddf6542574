/- Merging, and lying within: what is answered, by content. -/
import Derived.Test.YtnhfjdbnkpbbkabLaxAttrBase
namespace Go.Proofs.Ytnhfjdbnkpbbkab
set_option linter.unusedVariables false
set_option linter.unusedSimpArgs false
open Go.RowKit

def mx (a b : Int) : Int := if b > a then b else a
def mj (j i : Nat) (d e : Int) : Int := if j < i then mx d e else d
def withinB (s d0 d1 d2 d3 d4 d5 d6 s' e0 e1 e2 e3 e4 e5 e6 : Int) : Bool := decide (s ≤ s') && decide (d0 ≤ e0) && decide (d1 ≤ e1) && decide (d2 ≤ e2) && decide (d3 ≤ e3) && decide (d4 ≤ e4) && decide (d5 ≤ e5) && decide (d6 ≤ e6)
def mergeAV (s d0 d1 d2 d3 d4 d5 d6 s' e0 e1 e2 e3 e4 e5 e6 : Int) : AV := att (mx s s') (mx d0 e0) (mx d1 e1) (mx d2 e2) (mx d3 e3) (mx d4 e4) (mx d5 e5) (mx d6 e6)
def mergeF : Con
  | [.val (.agg [.int .i64 s, .int .i64 d0, .int .i64 d1, .int .i64 d2, .int .i64 d3, .int .i64 d4, .int .i64 d5, .int .i64 d6]), .val (.agg [.int .i64 s', .int .i64 e0, .int .i64 e1, .int .i64 e2, .int .i64 e3, .int .i64 e4, .int .i64 e5, .int .i64 e6])] =>
    some (True, ⟨mergeAV s d0 d1 d2 d3 d4 d5 d6 s' e0 e1 e2 e3 e4 e5 e6, none, none⟩)
  | _ => none
def withinF : Con
  | [.val (.agg [.int .i64 s, .int .i64 d0, .int .i64 d1, .int .i64 d2, .int .i64 d3, .int .i64 d4, .int .i64 d5, .int .i64 d6]), .val (.agg [.int .i64 s', .int .i64 e0, .int .i64 e1, .int .i64 e2, .int .i64 e3, .int .i64 e4, .int .i64 e5, .int .i64 e6])] =>
    some (True, ⟨.bool (withinB s d0 d1 d2 d3 d4 d5 d6 s' e0 e1 e2 e3 e4 e5 e6), none, none⟩)
  | _ => none
def mergeL : List (Nat × Con) := (10, mergeF) :: attrL4
def withinL : List (Nat × Con) := (12, withinF) :: mergeL
def loopMerge (s d0 d1 d2 d3 d4 d5 d6 s' e0 e1 e2 e3 e4 e5 e6 : Int) : LoopInv :=
  { V := Nat
    T := fun i => [(2, .ptr 2 0), (3, .ptr 3 0), (4, .ptr 4 0), (12, .int .i64 (i : Int))]
    B := fun i => [(2, [.int .i64 (mx s s'), .int .i64 (mj 0 i d0 e0), .int .i64 (mj 1 i d1 e1), .int .i64 (mj 2 i d2 e2), .int .i64 (mj 3 i d3 e3), .int .i64 (mj 4 i d4 e4), .int .i64 (mj 5 i d5 e5), .int .i64 (mj 6 i d6 e6)]),
      (3, [.int .i64 s', .int .i64 e0, .int .i64 e1, .int .i64 e2, .int .i64 e3, .int .i64 e4, .int .i64 e5, .int .i64 e6]),
      (4, [.int .i64 0, .int .i64 0, .int .i64 0, .int .i64 0, .int .i64 0, .int .i64 0, .int .i64 0, .int .i64 0])]
    R := fun i => []
    inv := fun i => i ≤ 7
    mu := fun i => 7 - i }
def inMerge (s d0 d1 d2 d3 d4 d5 d6 s' e0 e1 e2 e3 e4 e5 e6 : Int) : Prop := awp [] (fun b => bif Nat.beq b 0 then some (loopMerge s d0 d1 d2 d3 d4 d5 d6 s' e0 e1 e2 e3 e4 e5 e6) else none) (lookΓ []) Try.prog Try.f10.ntmps 0 (Try.f10.body.getD .skip) (entrySt [.val (att s d0 d1 d2 d3 d4 d5 d6), .val (att s' e0 e1 e2 e3 e4 e5 e6)])
  (exitQ Try.prog Try.f10.results.toList [] ⟨mergeAV s d0 d1 d2 d3 d4 d5 d6 s' e0 e1 e2 e3 e4 e5 e6, none, none⟩)
def inWithin (s d0 d1 d2 d3 d4 d5 d6 s' e0 e1 e2 e3 e4 e5 e6 : Int) : Prop := awp [] (fun _ => none) (lookΓ mergeL) Try.prog Try.f12.ntmps 0 (Try.f12.body.getD .skip) (entrySt [.val (att s d0 d1 d2 d3 d4 d5 d6), .val (att s' e0 e1 e2 e3 e4 e5 e6)])
  (exitQ Try.prog Try.f12.results.toList [] ⟨.bool (withinB s d0 d1 d2 d3 d4 d5 d6 s' e0 e1 e2 e3 e4 e5 e6), none, none⟩)
def lawOrderF : Con
  | [.val (.agg [.int .i64 s, .int .i64 d0, .int .i64 d1, .int .i64 d2, .int .i64 d3, .int .i64 d4, .int .i64 d5, .int .i64 d6]), .val (.agg [.int .i64 s', .int .i64 e0, .int .i64 e1, .int .i64 e2, .int .i64 e3, .int .i64 e4, .int .i64 e5, .int .i64 e6]),
      .val (.agg [.int .i64 s'', .int .i64 g0, .int .i64 g1, .int .i64 g2, .int .i64 g3, .int .i64 g4, .int .i64 g5, .int .i64 g6]), .val (.agg [.int .i64 r, .int .i64 n])] => some (True, ⟨.bool true, none, none⟩)
  | _ => none
def inLawOrder (s d0 d1 d2 d3 d4 d5 d6 s' e0 e1 e2 e3 e4 e5 e6 s'' g0 g1 g2 g3 g4 g5 g6 r n : Int) : Prop := awp [] (fun _ => none) (lookΓ withinL) Try.prog Try.f4.ntmps 0 (Try.f4.body.getD .skip) (entrySt [.val (att s d0 d1 d2 d3 d4 d5 d6), .val (att s' e0 e1 e2 e3 e4 e5 e6), .val (att s'' g0 g1 g2 g3 g4 g5 g6), .val (idAV r n)])
  (exitQ Try.prog Try.f4.results.toList [] ⟨.bool true, none, none⟩)
end Go.Proofs.Ytnhfjdbnkpbbkab
