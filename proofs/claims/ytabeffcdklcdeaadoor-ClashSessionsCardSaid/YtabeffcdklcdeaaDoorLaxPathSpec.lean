/- Contracts by content, and the conditions that their code must meet. -/
import Derived.Test.YtabeffcdklcdeaaDoorPathM
import Derived.Test.YtabeffcdklcdeaaDoorPathQ
import Derived.Test.YtabeffcdklcdeaaDoorLaxWrap
namespace Go.Proofs.YtabeffcdklcdeaaDoor
set_option linter.unusedVariables false
set_option linter.unusedSimpArgs false
open Go.RowKit
def partsV (s : List UInt8) : List (List UInt8) := if rightP s then segs s else []
def aboveP (p q : List UInt8) : Bool := rightP p && rightP q && (decide (p = q) || (p ++ [47]).isPrefixOf q)
def refAboveP (p q : List UInt8) : Bool := rightP p && rightP q && (partsO p).isPrefixOf (partsO q)
def takeO (o : List (List UInt8)) (p : List UInt8) : List (List UInt8) := (stepP o p).getD []
def takeE (o : List (List UInt8)) (p : List UInt8) : Int := if stepP o p = none then 30 else 0
def loopLetters (xs : List AV) (p : List UInt8) : LoopInv :=
  { V := Nat
    T := fun i => [(0, .sl xs .no), (1, .str p), (6, .int .i64 (i : Int))]
    B := fun i => []
    R := fun i => []
    inv := fun i => i ≤ p.length ∧ (p.take i).all okLetter = true
    mu := fun i => p.length - i }
/-- behind i letters: the parts taken, what is begun -/
def midP (s : List UInt8) (i : Nat) (l : List (List UInt8)) (p : List UInt8) : Prop :=
  (i ≤ s.length ∧ ∃ init, segs (s.take i) = init ++ [p] ∧ walkP [] init = some l) ∨ (i = s.length + 1 ∧ partsP s = some l ∧ p = [])
def loopParts (s : List UInt8) : LoopInv :=
  { V := Nat × List (List UInt8) × List UInt8
    T := fun v => [(0, .str s), (4, .sl (strsAV v.2.1) .no), (5, .str v.2.2), (7, .int .i64 (v.1 : Int))]
    B := fun v => []
    R := fun v => []
    inv := fun v => midP s v.1 v.2.1 v.2.2
    mu := fun v => s.length + 1 - v.1 }
def loopJoin (xs : List AV) : LoopInv :=
  { V := Nat
    T := fun i => [(0, .sl xs .no), (3, .str (joinP ((strsL xs).take i))), (4, .int .i64 (i : Int))]
    B := fun i => []
    R := fun i => []
    inv := fun i => i ≤ xs.length
    mu := fun i => xs.length - i }
def loopAbove (a b : List AV) : LoopInv :=
  { V := Nat
    T := fun i => [(5, .sl a .no), (7, .sl b .no), (9, .int .i64 (i : Int))]
    B := fun i => []
    R := fun i => []
    inv := fun i => i ≤ a.length ∧ a.length ≤ b.length ∧ ((strsL a).take i) = ((strsL b).take i)
    mu := fun i => a.length - i }
def normalF : Con
  | [.val (.str s)] => some (s.length ≤ 1000000, ⟨.tup [.str (normV s), .int .i64 (normE s)], none, none⟩)
  | _ => none
def gamNormal : List (Nat × Con) := [(54, walkF.orNil), (55, joinF.orNil)]
def lpNormal0 (s : List UInt8) : Nat → Option LoopPlan := fun _ => none
def inNormal0 (s : List UInt8) : Prop := awp [] (lpNormal0 s) (lookΓ gamNormal) Tryd.prog Tryd.f19.ntmps 0 (Tryd.f19.body.getD .skip) (entrySt [.val (.str s)]) (exitQ Tryd.prog Tryd.f19.results.toList [] ⟨.tup [.str (normV s), .int .i64 (normE s)], none, none⟩)
def OkNormal0 : Prop := ∀ (s : List UInt8), s.length ≤ 1000000 → inNormal0 s
def rightF : Con
  | [.val (.str s)] => some (s.length ≤ 1000000, ⟨.bool (rightP s), none, none⟩)
  | _ => none
def gamRight : List (Nat × Con) := [(19, normalF.orNil)]
def lpRight0 (s : List UInt8) : Nat → Option LoopPlan := fun _ => none
def inRight0 (s : List UInt8) : Prop := awp [] (lpRight0 s) (lookΓ gamRight) Tryd.prog Tryd.f21.ntmps 0 (Tryd.f21.body.getD .skip) (entrySt [.val (.str s)]) (exitQ Tryd.prog Tryd.f21.results.toList [] ⟨.bool (rightP s), none, none⟩)
def OkRight0 : Prop := ∀ (s : List UInt8), s.length ≤ 1000000 → inRight0 s
def partsF : Con
  | [.val (.str s)] => some (s.length ≤ 1000000, ⟨.sl (strsAV (partsV s)) .no, none, none⟩)
  | _ => none
def gamParts : List (Nat × Con) := [(21, rightF.orNil), (56, splitF.orNil)]
def lpParts0 (s : List UInt8) : Nat → Option LoopPlan := fun _ => none
def inParts0 (s : List UInt8) : Prop := awp [] (lpParts0 s) (lookΓ gamParts) Tryd.prog Tryd.f23.ntmps 0 (Tryd.f23.body.getD .skip) (entrySt [.val (.str s)]) (exitQ Tryd.prog Tryd.f23.results.toList [] ⟨.sl (strsAV (partsV s)) .no, none, none⟩)
def OkParts0 : Prop := ∀ (s : List UInt8), s.length ≤ 1000000 → inParts0 s
def aboveF : Con
  | [.val (.str p), .val (.str q)] => some (p.length ≤ 1000000 ∧ q.length ≤ 1000000, ⟨.bool (aboveP p q), none, none⟩)
  | _ => none
def gamAbove : List (Nat × Con) := [(21, rightF.orNil), (53, hasPrefixF.orNil)]
def lpAbove0 (p q : List UInt8) : Nat → Option LoopPlan := fun _ => none
def inAbove0 (p q : List UInt8) : Prop := awp [] (lpAbove0 p q) (lookΓ gamAbove) Tryd.prog Tryd.f17.ntmps 0 (Tryd.f17.body.getD .skip) (entrySt [.val (.str p), .val (.str q)]) (exitQ Tryd.prog Tryd.f17.results.toList [] ⟨.bool (aboveP p q), none, none⟩)
def OkAbove0 : Prop := ∀ (p q : List UInt8), p.length ≤ 1000000 ∧ q.length ≤ 1000000 → inAbove0 p q
def overlapF : Con
  | [.val (.str p), .val (.str q)] => some (p.length ≤ 1000000 ∧ q.length ≤ 1000000, ⟨.bool (aboveP p q || aboveP q p), none, none⟩)
  | _ => none
def gamOverlap : List (Nat × Con) := [(17, aboveF.orNil)]
def lpOverlap0 (p q : List UInt8) : Nat → Option LoopPlan := fun _ => none
def inOverlap0 (p q : List UInt8) : Prop := awp [] (lpOverlap0 p q) (lookΓ gamOverlap) Tryd.prog Tryd.f18.ntmps 0 (Tryd.f18.body.getD .skip) (entrySt [.val (.str p), .val (.str q)]) (exitQ Tryd.prog Tryd.f18.results.toList [] ⟨.bool (aboveP p q || aboveP q p), none, none⟩)
def OkOverlap0 : Prop := ∀ (p q : List UInt8), p.length ≤ 1000000 ∧ q.length ≤ 1000000 → inOverlap0 p q
def refLetterF : Con
  | [.val (.int .u8 b)] => some (True, ⟨.bool (okRune b), none, none⟩)
  | _ => none
def gamRefLetter : List (Nat × Con) := []
def lpRefLetter0 (b : Int) : Nat → Option LoopPlan := fun _ => none
def inRefLetter0 (b : Int) : Prop := awp [] (lpRefLetter0 b) (lookΓ gamRefLetter) Tryd.prog Tryd.f92.ntmps 0 (Tryd.f92.body.getD .skip) (entrySt [.val (.int .u8 b)]) (exitQ Tryd.prog Tryd.f92.results.toList [] ⟨.bool (okRune b), none, none⟩)
def OkRefLetter0 : Prop := ∀ (b : Int), True → inRefLetter0 b
def refTakeF : Con
  | [.val (.sl xs .no), .val (.str p)] => some (isStrs xs ∧ xs.length ≤ 1000000 ∧ p.length ≤ 1000000, ⟨.tup [.sl (strsAV (takeO (strsL xs) p)) .no, .int .i64 (takeE (strsL xs) p)], none, none⟩)
  | _ => none
def gamRefTake : List (Nat × Con) := [(92, refLetterF.orNil)]
def lpRefTake0 (xs : List AV) (p : List UInt8) : Nat → Option LoopPlan := fun b => bif Nat.beq b 0 then some (.inv [] (loopLetters xs p)) else none
def inRefTake0 (xs : List AV) (p : List UInt8) : Prop := awp [] (lpRefTake0 xs p) (lookΓ gamRefTake) Tryd.prog Tryd.f73.ntmps 0 (Tryd.f73.body.getD .skip) (entrySt [.val (.sl xs .no), .val (.str p)]) (exitQ Tryd.prog Tryd.f73.results.toList [] ⟨.tup [.sl (strsAV (takeO (strsL xs) p)) .no, .int .i64 (takeE (strsL xs) p)], none, none⟩)
def OkRefTake0 : Prop := ∀ (xs : List AV) (p : List UInt8), isStrs xs ∧ xs.length ≤ 1000000 ∧ p.length ≤ 1000000 → inRefTake0 xs p
def refPartsF : Con
  | [.val (.str s)] => some (s.length ≤ 900000, ⟨.tup [.sl (strsAV (partsO s)) .no, .int .i64 (walkE s)], none, none⟩)
  | _ => none
def gamRefParts : List (Nat × Con) := [(73, refTakeF.orNil)]
def lpRefParts0 (s : List UInt8) : Nat → Option LoopPlan := fun b => bif Nat.beq b 0 then some (.inv [.noT 4] (loopParts s)) else none
def inRefParts0 (s : List UInt8) : Prop := awp [] (lpRefParts0 s) (lookΓ gamRefParts) Tryd.prog Tryd.f52.ntmps 0 (Tryd.f52.body.getD .skip) (entrySt [.val (.str s)]) (exitQ Tryd.prog Tryd.f52.results.toList [] ⟨.tup [.sl (strsAV (partsO s)) .no, .int .i64 (walkE s)], none, none⟩)
def OkRefParts0 : Prop := ∀ (s : List UInt8), s.length ≤ 900000 → inRefParts0 s
def refJoinF : Con
  | [.val (.sl xs .no)] => some (isStrs xs ∧ (joinP (strsL xs)).length ≤ 9223372036854775807 ∧ xs.length ≤ 9223372036854775807, ⟨.str (joinP (strsL xs)), none, none⟩)
  | _ => none
def gamRefJoin : List (Nat × Con) := []
def lpRefJoin0 (xs : List AV) : Nat → Option LoopPlan := fun b => bif Nat.beq b 0 then some (.inv [] (loopJoin xs)) else none
def inRefJoin0 (xs : List AV) : Prop := awp [] (lpRefJoin0 xs) (lookΓ gamRefJoin) Tryd.prog Tryd.f27.ntmps 0 (Tryd.f27.body.getD .skip) (entrySt [.val (.sl xs .no)]) (exitQ Tryd.prog Tryd.f27.results.toList [] ⟨.str (joinP (strsL xs)), none, none⟩)
def OkRefJoin0 : Prop := ∀ (xs : List AV), isStrs xs ∧ (joinP (strsL xs)).length ≤ 9223372036854775807 ∧ xs.length ≤ 9223372036854775807 → inRefJoin0 xs
def refNormalF : Con
  | [.val (.str s)] => some (s.length ≤ 900000, ⟨.tup [.str (normV s), .int .i64 (normE s)], none, none⟩)
  | _ => none
def gamRefNormal : List (Nat × Con) := [(52, refPartsF.orNil), (27, refJoinF.orNil)]
def lpRefNormal0 (s : List UInt8) : Nat → Option LoopPlan := fun _ => none
def inRefNormal0 (s : List UInt8) : Prop := awp [] (lpRefNormal0 s) (lookΓ gamRefNormal) Tryd.prog Tryd.f20.ntmps 0 (Tryd.f20.body.getD .skip) (entrySt [.val (.str s)]) (exitQ Tryd.prog Tryd.f20.results.toList [] ⟨.tup [.str (normV s), .int .i64 (normE s)], none, none⟩)
def OkRefNormal0 : Prop := ∀ (s : List UInt8), s.length ≤ 900000 → inRefNormal0 s
def refRightF : Con
  | [.val (.str s)] => some (s.length ≤ 900000, ⟨.bool (rightP s), none, none⟩)
  | _ => none
def gamRefRight : List (Nat × Con) := [(20, refNormalF.orNil)]
def lpRefRight0 (s : List UInt8) : Nat → Option LoopPlan := fun _ => none
def inRefRight0 (s : List UInt8) : Prop := awp [] (lpRefRight0 s) (lookΓ gamRefRight) Tryd.prog Tryd.f22.ntmps 0 (Tryd.f22.body.getD .skip) (entrySt [.val (.str s)]) (exitQ Tryd.prog Tryd.f22.results.toList [] ⟨.bool (rightP s), none, none⟩)
def OkRefRight0 : Prop := ∀ (s : List UInt8), s.length ≤ 900000 → inRefRight0 s
def refAboveF : Con
  | [.val (.str p), .val (.str q)] => some (p.length ≤ 900000 ∧ q.length ≤ 900000, ⟨.bool (refAboveP p q), none, none⟩)
  | _ => none
def gamRefAbove : List (Nat × Con) := [(22, refRightF.orNil), (52, refPartsF.orNil)]
def lpRefAbove0 (p q : List UInt8) : Nat → Option LoopPlan := fun b => bif Nat.beq b 0 then some (.inv [] (loopAbove (strsAV (partsO p)) (strsAV (partsO q)))) else none
def inRefAbove0 (p q : List UInt8) : Prop := awp [] (lpRefAbove0 p q) (lookΓ gamRefAbove) Tryd.prog Tryd.f16.ntmps 0 (Tryd.f16.body.getD .skip) (entrySt [.val (.str p), .val (.str q)]) (exitQ Tryd.prog Tryd.f16.results.toList [] ⟨.bool (refAboveP p q), none, none⟩)
def OkRefAbove0 : Prop := ∀ (p q : List UInt8), p.length ≤ 900000 ∧ q.length ≤ 900000 → inRefAbove0 p q
def refOverlapF : Con
  | [.val (.str p), .val (.str q)] => some (p.length ≤ 900000 ∧ q.length ≤ 900000, ⟨.bool (refAboveP p q || refAboveP q p), none, none⟩)
  | _ => none
def gamRefOverlap : List (Nat × Con) := [(16, refAboveF.orNil)]
def lpRefOverlap0 (p q : List UInt8) : Nat → Option LoopPlan := fun _ => none
def inRefOverlap0 (p q : List UInt8) : Prop := awp [] (lpRefOverlap0 p q) (lookΓ gamRefOverlap) Tryd.prog Tryd.f43.ntmps 0 (Tryd.f43.body.getD .skip) (entrySt [.val (.str p), .val (.str q)]) (exitQ Tryd.prog Tryd.f43.results.toList [] ⟨.bool (refAboveP p q || refAboveP q p), none, none⟩)
def OkRefOverlap0 : Prop := ∀ (p q : List UInt8), p.length ≤ 900000 ∧ q.length ≤ 900000 → inRefOverlap0 p q
def anchor04F : Con
  | [] => some (True, ⟨.bool true, none, none⟩)
  | _ => none
def gamAnchor04 : List (Nat × Con) := [(19, normalF.orNil), (18, overlapF.orNil)]
def lpAnchor040  : Nat → Option LoopPlan := fun _ => none
def inAnchor040  : Prop := awp [] (lpAnchor040) (lookΓ gamAnchor04) Tryd.prog Tryd.f15.ntmps 0 (Tryd.f15.body.getD .skip) (entrySt []) (exitQ Tryd.prog Tryd.f15.results.toList [] ⟨.bool true, none, none⟩)
def OkAnchor040 : Prop := True → inAnchor040
def lawNormalF : Con
  | [.val (.str s)] => some (s.length ≤ 9223372036854775807, ⟨.bool true, none, none⟩)
  | _ => none
def gamLawNormal : List (Nat × Con) := [(15, anchor04F.orNil), (19, normalF.orNil), (20, refNormalF.orNil), (21, rightF.orNil), (22, refRightF.orNil), (23, partsF.orNil)]
def lpLawNormal0 (s : List UInt8) : Nat → Option LoopPlan := fun _ => none
def inLawNormal0 (s : List UInt8) : Prop := awp [] (lpLawNormal0 s) (lookΓ gamLawNormal) Tryd.prog Tryd.f5.ntmps 0 (Tryd.f5.body.getD .skip) (entrySt [.val (.str s)]) (exitQ Tryd.prog Tryd.f5.results.toList [] ⟨.bool true, none, none⟩)
def OkLawNormal0 : Prop := ∀ (s : List UInt8), s.length ≤ 9223372036854775807 → inLawNormal0 s
def lawOverlapsF : Con
  | [.val (.str p), .val (.str q)] => some (p.length ≤ 9223372036854775807 ∧ q.length ≤ 9223372036854775807, ⟨.bool true, none, none⟩)
  | _ => none
def gamLawOverlaps : List (Nat × Con) := [(15, anchor04F.orNil), (16, refAboveF.orNil), (17, aboveF.orNil), (18, overlapF.orNil)]
def lpLawOverlaps0 (p q : List UInt8) : Nat → Option LoopPlan := fun _ => none
def inLawOverlaps0 (p q : List UInt8) : Prop := awp [] (lpLawOverlaps0 p q) (lookΓ gamLawOverlaps) Tryd.prog Tryd.f3.ntmps 0 (Tryd.f3.body.getD .skip) (entrySt [.val (.str p), .val (.str q)]) (exitQ Tryd.prog Tryd.f3.results.toList [] ⟨.bool true, none, none⟩)
def OkLawOverlaps0 : Prop := ∀ (p q : List UInt8), p.length ≤ 9223372036854775807 ∧ q.length ≤ 9223372036854775807 → inLawOverlaps0 p q
def lawAboveF : Con
  | [.val (.str p), .val (.str q), .val (.str r)] => some (p.length ≤ 9223372036854775807 ∧ q.length ≤ 9223372036854775807 ∧ r.length ≤ 9223372036854775807, ⟨.bool true, none, none⟩)
  | _ => none
def gamLawAbove : List (Nat × Con) := [(15, anchor04F.orNil), (17, aboveF.orNil), (18, overlapF.orNil)]
def lpLawAbove0 (p q r : List UInt8) : Nat → Option LoopPlan := fun _ => none
def inLawAbove0 (p q r : List UInt8) : Prop := awp [] (lpLawAbove0 p q r) (lookΓ gamLawAbove) Tryd.prog Tryd.f4.ntmps 0 (Tryd.f4.body.getD .skip) (entrySt [.val (.str p), .val (.str q), .val (.str r)]) (exitQ Tryd.prog Tryd.f4.results.toList [] ⟨.bool true, none, none⟩)
def OkLawAbove0 : Prop := ∀ (p q r : List UInt8), p.length ≤ 9223372036854775807 ∧ q.length ≤ 9223372036854775807 ∧ r.length ≤ 9223372036854775807 → inLawAbove0 p q r
end Go.Proofs.YtabeffcdklcdeaaDoor
