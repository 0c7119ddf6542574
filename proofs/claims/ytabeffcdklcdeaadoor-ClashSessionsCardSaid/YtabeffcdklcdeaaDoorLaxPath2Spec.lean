/- Contracts by content, and the conditions that their code must meet. -/
import Derived.Test.YtabeffcdklcdeaaDoorLaxPathMeets
import Derived.Test.YtabeffcdklcdeaaDoorPathR
namespace Go.Proofs.YtabeffcdklcdeaaDoor
set_option linter.unusedVariables false
set_option linter.unusedSimpArgs false
open Go.RowKit
def compareP (p q : List UInt8) : Int := if (partsV p).length = 0 ∨ (partsV q).length = 0 then Lib.compareBytes p q else cmpL (partsV p) (partsV q)
def parentOK (p : List UInt8) : Bool := decide (0 ≤ lastSlash p) && rightP p
def parentV (p : List UInt8) : List UInt8 := if parentOK p then p.take (lastSlash p).toNat else []
def loopCmp (xs ys : List AV) : LoopInv :=
  { V := Nat
    T := fun i => [(0, .sl xs .no), (1, .sl ys .no), (9, .sl xs .no), (10, .int .i64 (xs.length : Int)), (11, .int .i64 (i : Int))]
    B := fun i => []
    R := fun i => []
    inv := fun i => i ≤ xs.length ∧ i ≤ ys.length ∧ ((strsL xs).take i) = ((strsL ys).take i)
    mu := fun i => xs.length - i }
def loopCom (p q : List UInt8) (xs ys : List AV) : LoopInv :=
  { V := Nat
    T := fun i => [(6, .sl xs .no), (7, .sl ys .no), (8, .int .i64 (i : Int))]
    B := fun i => []
    R := fun i => []
    inv := fun i => i ≤ commonN (strsL xs) (strsL ys)
    mu := fun i => xs.length - i }
def loopParents (p q : List UInt8) (xs ys : List AV) : LoopInv :=
  { V := Nat
    T := fun i => [(0, .str p), (1, .str q), (7, .sl xs .no), (8, .str (joinP ((strsL xs).take (commonN (strsL xs) (strsL ys))))), (9, .bool (decide (0 < commonN (strsL xs) (strsL ys)))), (10, .sl ys .no), (11, .int .i64 (i : Int))]
    B := fun i => []
    R := fun i => []
    inv := fun i => i ≤ commonN (strsL xs) (strsL ys)
    mu := fun i => xs.length - i }
def isNaNF : Con
  | [.val (.str x)] => some (True, ⟨.bool false, none, none⟩)
  | _ => none
def gamIsNaN : List (Nat × Con) := []
def lpIsNaN0 (x : List UInt8) : Nat → Option LoopPlan := fun _ => none
def inIsNaN0 (x : List UInt8) : Prop := awp [] (lpIsNaN0 x) (lookΓ gamIsNaN) Tryd.prog Tryd.f101.ntmps 0 (Tryd.f101.body.getD .skip) (entrySt [.val (.str x)]) (exitQ Tryd.prog Tryd.f101.results.toList [] ⟨.bool false, none, none⟩)
def OkIsNaN0 : Prop := ∀ (x : List UInt8), True → inIsNaN0 x
def cmpStrF : Con
  | [.val (.str x), .val (.str y)] => some (True, ⟨.int .i64 (cmpS x y), none, none⟩)
  | _ => none
def gamCmpStr : List (Nat × Con) := [(101, isNaNF.orNil)]
def lpCmpStr0 (x y : List UInt8) : Nat → Option LoopPlan := fun _ => none
def inCmpStr0 (x y : List UInt8) : Prop := awp [] (lpCmpStr0 x y) (lookΓ gamCmpStr) Tryd.prog Tryd.f82.ntmps 0 (Tryd.f82.body.getD .skip) (entrySt [.val (.str x), .val (.str y)]) (exitQ Tryd.prog Tryd.f82.results.toList [] ⟨.int .i64 (cmpS x y), none, none⟩)
def OkCmpStr0 : Prop := ∀ (x y : List UInt8), True → inCmpStr0 x y
def cmpSlF : Con
  | [.val (.sl xs .no), .val (.sl ys .no)] => some (isStrs xs ∧ isStrs ys ∧ xs.length ≤ 1000000 ∧ ys.length ≤ 1000000, ⟨.int .i64 (cmpL (strsL xs) (strsL ys)), none, none⟩)
  | _ => none
def gamCmpSl : List (Nat × Con) := [(82, cmpStrF.orNil)]
def lpCmpSl0 (xs ys : List AV) : Nat → Option LoopPlan := fun b => bif Nat.beq b 0 then some (.inv [] (loopCmp xs ys)) else none
def inCmpSl0 (xs ys : List AV) : Prop := awp [] (lpCmpSl0 xs ys) (lookΓ gamCmpSl) Tryd.prog Tryd.f58.ntmps 0 (Tryd.f58.body.getD .skip) (entrySt [.val (.sl xs .no), .val (.sl ys .no)]) (exitQ Tryd.prog Tryd.f58.results.toList [] ⟨.int .i64 (cmpL (strsL xs) (strsL ys)), none, none⟩)
def OkCmpSl0 : Prop := ∀ (xs ys : List AV), isStrs xs ∧ isStrs ys ∧ xs.length ≤ 1000000 ∧ ys.length ≤ 1000000 → inCmpSl0 xs ys
def comparepF : Con
  | [.val (.str p), .val (.str q)] => some (p.length ≤ 900000 ∧ q.length ≤ 900000, ⟨.int .i64 (compareP p q), none, none⟩)
  | _ => none
def gamComparep : List (Nat × Con) := [(23, partsF.orNil), (57, compareF.orNil), (58, cmpSlF.orNil)]
def lpComparep0 (p q : List UInt8) : Nat → Option LoopPlan := fun _ => none
def inComparep0 (p q : List UInt8) : Prop := awp [] (lpComparep0 p q) (lookΓ gamComparep) Tryd.prog Tryd.f24.ntmps 0 (Tryd.f24.body.getD .skip) (entrySt [.val (.str p), .val (.str q)]) (exitQ Tryd.prog Tryd.f24.results.toList [] ⟨.int .i64 (compareP p q), none, none⟩)
def OkComparep0 : Prop := ∀ (p q : List UInt8), p.length ≤ 900000 ∧ q.length ≤ 900000 → inComparep0 p q
def parentF : Con
  | [.val (.str p)] => some (p.length ≤ 900000, ⟨.tup [.str (parentV p), .bool (parentOK p)], none, none⟩)
  | _ => none
def gamParent : List (Nat × Con) := [(59, lastIndexF.orNil), (21, rightF.orNil)]
def lpParent0 (p : List UInt8) : Nat → Option LoopPlan := fun _ => none
def inParent0 (p : List UInt8) : Prop := awp [] (lpParent0 p) (lookΓ gamParent) Tryd.prog Tryd.f25.ntmps 0 (Tryd.f25.body.getD .skip) (entrySt [.val (.str p)]) (exitQ Tryd.prog Tryd.f25.results.toList [] ⟨.tup [.str (parentV p), .bool (parentOK p)], none, none⟩)
def OkParent0 : Prop := ∀ (p : List UInt8), p.length ≤ 900000 → inParent0 p
def commonF : Con
  | [.val (.str p), .val (.str q)] => some (p.length ≤ 900000 ∧ q.length ≤ 900000, ⟨.tup [.str (joinP ((partsV p).take (commonN (partsV p) (partsV q)))), .bool (decide (0 < commonN (partsV p) (partsV q)))], none, none⟩)
  | _ => none
def gamCommon : List (Nat × Con) := [(23, partsF.orNil), (55, joinF.orNil)]
def lpCommon0 (p q : List UInt8) : Nat → Option LoopPlan := fun b => bif Nat.beq b 0 then some (.inv [] (loopCom p q (strsAV (partsV p)) (strsAV (partsV q)))) else none
def inCommon0 (p q : List UInt8) : Prop := awp [] (lpCommon0 p q) (lookΓ gamCommon) Tryd.prog Tryd.f28.ntmps 0 (Tryd.f28.body.getD .skip) (entrySt [.val (.str p), .val (.str q)]) (exitQ Tryd.prog Tryd.f28.results.toList [] ⟨.tup [.str (joinP ((partsV p).take (commonN (partsV p) (partsV q)))), .bool (decide (0 < commonN (partsV p) (partsV q)))], none, none⟩)
def OkCommon0 : Prop := ∀ (p q : List UInt8), p.length ≤ 900000 ∧ q.length ≤ 900000 → inCommon0 p q
def depthF : Con
  | [.val (.str p)] => some (p.length ≤ 900000, ⟨.int .i64 (partsV p).length, none, none⟩)
  | _ => none
def gamDepth : List (Nat × Con) := [(23, partsF.orNil)]
def lpDepth0 (p : List UInt8) : Nat → Option LoopPlan := fun _ => none
def inDepth0 (p : List UInt8) : Prop := awp [] (lpDepth0 p) (lookΓ gamDepth) Tryd.prog Tryd.f26.ntmps 0 (Tryd.f26.body.getD .skip) (entrySt [.val (.str p)]) (exitQ Tryd.prog Tryd.f26.results.toList [] ⟨.int .i64 (partsV p).length, none, none⟩)
def OkDepth0 : Prop := ∀ (p : List UInt8), p.length ≤ 900000 → inDepth0 p
def lawParentsF : Con
  | [.val (.str p), .val (.str q)] => some (p.length ≤ 9223372036854775807 ∧ q.length ≤ 9223372036854775807, ⟨.bool true, none, none⟩)
  | _ => none
def gamLawParents : List (Nat × Con) := [(15, anchor04F.orNil), (25, parentF.orNil), (23, partsF.orNil), (27, refJoinF.orNil), (17, aboveF.orNil), (28, commonF.orNil)]
def lpLawParents0 (p q : List UInt8) : Nat → Option LoopPlan := fun b => bif Nat.beq b 0 then some (.inv [] (loopParents p q (strsAV (partsV p)) (strsAV (partsV q)))) else none
def inLawParents0 (p q : List UInt8) : Prop := awp [] (lpLawParents0 p q) (lookΓ gamLawParents) Tryd.prog Tryd.f8.ntmps 0 (Tryd.f8.body.getD .skip) (entrySt [.val (.str p), .val (.str q)]) (exitQ Tryd.prog Tryd.f8.results.toList [] ⟨.bool true, none, none⟩)
def OkLawParents0 : Prop := ∀ (p q : List UInt8), p.length ≤ 9223372036854775807 ∧ q.length ≤ 9223372036854775807 → inLawParents0 p q
def lawOrderF : Con
  | [.val (.str p), .val (.str q), .val (.str r)] => some (p.length ≤ 9223372036854775807 ∧ q.length ≤ 9223372036854775807 ∧ r.length ≤ 9223372036854775807, ⟨.bool true, none, none⟩)
  | _ => none
def gamLawOrder : List (Nat × Con) := [(15, anchor04F.orNil), (24, comparepF.orNil), (17, aboveF.orNil), (21, rightF.orNil)]
def lpLawOrder0 (p q r : List UInt8) : Nat → Option LoopPlan := fun _ => none
def inLawOrder0 (p q r : List UInt8) : Prop := awp [] (lpLawOrder0 p q r) (lookΓ gamLawOrder) Tryd.prog Tryd.f6.ntmps 0 (Tryd.f6.body.getD .skip) (entrySt [.val (.str p), .val (.str q), .val (.str r)]) (exitQ Tryd.prog Tryd.f6.results.toList [] ⟨.bool true, none, none⟩)
def OkLawOrder0 : Prop := ∀ (p q r : List UInt8), p.length ≤ 9223372036854775807 ∧ q.length ≤ 9223372036854775807 ∧ r.length ≤ 9223372036854775807 → inLawOrder0 p q r
def lawJoinsF : Con
  | [.val (.str p), .val (.str q)] => some (p.length ≤ 9223372036854775807 ∧ q.length ≤ 9223372036854775807, ⟨.bool true, none, none⟩)
  | _ => none
def gamLawJoins : List (Nat × Con) := [(15, anchor04F.orNil), (22, refRightF.orNil), (19, normalF.orNil), (25, parentF.orNil), (17, aboveF.orNil), (26, depthF.orNil)]
def lpLawJoins0 (p q : List UInt8) : Nat → Option LoopPlan := fun _ => none
def inLawJoins0 (p q : List UInt8) : Prop := awp [] (lpLawJoins0 p q) (lookΓ gamLawJoins) Tryd.prog Tryd.f7.ntmps 0 (Tryd.f7.body.getD .skip) (entrySt [.val (.str p), .val (.str q)]) (exitQ Tryd.prog Tryd.f7.results.toList [] ⟨.bool true, none, none⟩)
def OkLawJoins0 : Prop := ∀ (p q : List UInt8), p.length ≤ 9223372036854775807 ∧ q.length ≤ 9223372036854775807 → inLawJoins0 p q
end Go.Proofs.YtabeffcdklcdeaaDoor
