/- AttrMerge: the document's functions, and the law, by content. -/
import Derived.Test.YtnhfjdbnkpbbkabLaxOrder
namespace Go.Proofs.Ytnhfjdbnkpbbkab
set_option linter.unusedVariables false
set_option linter.unusedSimpArgs false
open Go.RowKit

def refL : List (Nat × Con) := (11, mergeF) :: (13, withinF) :: (15, rightAF) :: withinL
def loopRefMerge (s d0 d1 d2 d3 d4 d5 d6 s' e0 e1 e2 e3 e4 e5 e6 : Int) : LoopInv :=
  { V := Nat
    T := fun i => [(2, .ptr 2 0), (3, .ptr 3 0), (4, .ptr 4 0), (5, .int .i64 (i : Int))]
    B := fun i => [(2, [.int .i64 (mx s s'), .int .i64 (mj 0 i d0 e0), .int .i64 (mj 1 i d1 e1), .int .i64 (mj 2 i d2 e2), .int .i64 (mj 3 i d3 e3), .int .i64 (mj 4 i d4 e4), .int .i64 (mj 5 i d5 e5), .int .i64 (mj 6 i d6 e6)]),
      (3, [.int .i64 s', .int .i64 e0, .int .i64 e1, .int .i64 e2, .int .i64 e3, .int .i64 e4, .int .i64 e5, .int .i64 e6]),
      (4, [.int .i64 0, .int .i64 0, .int .i64 0, .int .i64 0, .int .i64 0, .int .i64 0, .int .i64 0, .int .i64 0])]
    R := fun i => []
    inv := fun i => i ≤ 7
    mu := fun i => 7 - i }
def inRefMerge (s d0 d1 d2 d3 d4 d5 d6 s' e0 e1 e2 e3 e4 e5 e6 : Int) : Prop := awp [] (fun b => bif Nat.beq b 0 then some (loopRefMerge s d0 d1 d2 d3 d4 d5 d6 s' e0 e1 e2 e3 e4 e5 e6) else none) (lookΓ []) Try.prog Try.f11.ntmps 0 (Try.f11.body.getD .skip) (entrySt [.val (att s d0 d1 d2 d3 d4 d5 d6), .val (att s' e0 e1 e2 e3 e4 e5 e6)])
  (exitQ Try.prog Try.f11.results.toList [] ⟨mergeAV s d0 d1 d2 d3 d4 d5 d6 s' e0 e1 e2 e3 e4 e5 e6, none, none⟩)
def loopRefWithin (s d0 d1 d2 d3 d4 d5 d6 s' e0 e1 e2 e3 e4 e5 e6 : Int) : LoopInv :=
  { V := Nat
    T := fun i => [(2, .ptr 2 0), (3, .ptr 3 0), (4, .bool false), (5, .int .i64 (i : Int))]
    B := fun i => [(2, [.int .i64 s, .int .i64 d0, .int .i64 d1, .int .i64 d2, .int .i64 d3, .int .i64 d4, .int .i64 d5, .int .i64 d6]),
      (3, [.int .i64 s', .int .i64 e0, .int .i64 e1, .int .i64 e2, .int .i64 e3, .int .i64 e4, .int .i64 e5, .int .i64 e6])]
    R := fun i => []
    inv := fun i => i ≤ 7 ∧ ∀ j : Nat, j < i → sel (j : Int) d0 d1 d2 d3 d4 d5 d6 ≤ sel (j : Int) e0 e1 e2 e3 e4 e5 e6
    mu := fun i => 7 - i }
def inRefWithin (s d0 d1 d2 d3 d4 d5 d6 s' e0 e1 e2 e3 e4 e5 e6 : Int) : Prop := awp [] (fun b => bif Nat.beq b 0 then some (loopRefWithin s d0 d1 d2 d3 d4 d5 d6 s' e0 e1 e2 e3 e4 e5 e6) else none) (lookΓ []) Try.prog Try.f13.ntmps 0 (Try.f13.body.getD .skip) (entrySt [.val (att s d0 d1 d2 d3 d4 d5 d6), .val (att s' e0 e1 e2 e3 e4 e5 e6)])
  (exitQ Try.prog Try.f13.results.toList [] ⟨.bool (withinB s d0 d1 d2 d3 d4 d5 d6 s' e0 e1 e2 e3 e4 e5 e6), none, none⟩)
def loopRefRight (s d0 d1 d2 d3 d4 d5 d6 : Int) : LoopInv :=
  { V := Nat
    T := fun i => [(1, .ptr 1 0), (2, .bool false), (3, .int .i64 (i : Int))]
    B := fun i => [(1, [.int .i64 s, .int .i64 d0, .int .i64 d1, .int .i64 d2, .int .i64 d3, .int .i64 d4, .int .i64 d5, .int .i64 d6])]
    R := fun i => []
    inv := fun i => i ≤ 7 ∧ ∀ j : Nat, j < i → inLen (sel (j : Int) d0 d1 d2 d3 d4 d5 d6) = true
    mu := fun i => 7 - i }
def inRefRight (s d0 d1 d2 d3 d4 d5 d6 : Int) : Prop := awp [] (fun b => bif Nat.beq b 0 then some (loopRefRight s d0 d1 d2 d3 d4 d5 d6) else none) (lookΓ []) Try.prog Try.f15.ntmps 0 (Try.f15.body.getD .skip) (entrySt [.val (att s d0 d1 d2 d3 d4 d5 d6)])
  (exitQ Try.prog Try.f15.results.toList [] ⟨.bool (rightA s d0 d1 d2 d3 d4 d5 d6), none, none⟩)
def lawMergeF : Con
  | [.val (.agg [.int .i64 s, .int .i64 d0, .int .i64 d1, .int .i64 d2, .int .i64 d3, .int .i64 d4, .int .i64 d5, .int .i64 d6]), .val (.agg [.int .i64 s', .int .i64 e0, .int .i64 e1, .int .i64 e2, .int .i64 e3, .int .i64 e4, .int .i64 e5, .int .i64 e6]),
      .val (.agg [.int .i64 s'', .int .i64 g0, .int .i64 g1, .int .i64 g2, .int .i64 g3, .int .i64 g4, .int .i64 g5, .int .i64 g6])] => some (True, ⟨.bool true, none, none⟩)
  | _ => none
def inLawMerge (s d0 d1 d2 d3 d4 d5 d6 s' e0 e1 e2 e3 e4 e5 e6 s'' g0 g1 g2 g3 g4 g5 g6 : Int) : Prop := awp [] (fun _ => none) (lookΓ refL) Try.prog Try.f3.ntmps 0 (Try.f3.body.getD .skip) (entrySt [.val (att s d0 d1 d2 d3 d4 d5 d6), .val (att s' e0 e1 e2 e3 e4 e5 e6), .val (att s'' g0 g1 g2 g3 g4 g5 g6)])
  (exitQ Try.prog Try.f3.results.toList [] ⟨.bool true, none, none⟩)
end Go.Proofs.Ytnhfjdbnkpbbkab
