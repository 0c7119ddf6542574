/- Contracts by content, and the conditions that their code must meet. -/
import Derived.Test.YtcokifdgbfbonaaDoorPthM
import Derived.Test.YtcokifdgbfbonaaDoorPathQ
import Derived.Test.YtcokifdgbfbonaaDoorLaxWrap
namespace Go.Proofs.YtcokifdgbfbonaaDoor
set_option linter.unusedVariables false
set_option linter.unusedSimpArgs false
open Go.RowKit
def partsV (s : List UInt8) : List (List UInt8) := if rightP s then segs s else []
def aboveP (p q : List UInt8) : Bool := rightP p && rightP q && (decide (p = q) || (p ++ [47]).isPrefixOf q)
def refAboveP (p q : List UInt8) : Bool := rightP p && rightP q && (partsO p).isPrefixOf (partsO q)
def takeO (o : List (List UInt8)) (p : List UInt8) : List (List UInt8) := (stepP o p).getD []
def takeE (o : List (List UInt8)) (p : List UInt8) : Int := if stepP o p = none then 30 else 0
def loopLetters (xs : List AV) (p : List UInt8) : LoopInv :=
  { V := Nat
    T := fun i => [(0, .sl xs .no), (1, .str p), (6, .int .i64 (i : Int))]
    B := fun i => []
    R := fun i => []
    inv := fun i => i ≤ p.length ∧ (p.take i).all okLetter = true
    mu := fun i => p.length - i }
/-- behind i letters: the parts taken, what is begun -/
def midP (s : List UInt8) (i : Nat) (l : List (List UInt8)) (p : List UInt8) : Prop :=
  (i ≤ s.length ∧ ∃ init, segs (s.take i) = init ++ [p] ∧ walkP [] init = some l) ∨ (i = s.length + 1 ∧ partsP s = some l ∧ p = [])
def loopParts (s : List UInt8) : LoopInv :=
  { V := Nat × List (List UInt8) × List UInt8
    T := fun v => [(0, .str s), (4, .sl (strsAV v.2.1) .no), (5, .str v.2.2), (7, .int .i64 (v.1 : Int))]
    B := fun v => []
    R := fun v => []
    inv := fun v => midP s v.1 v.2.1 v.2.2
    mu := fun v => s.length + 1 - v.1 }
def loopJoin (xs : List AV) : LoopInv :=
  { V := Nat
    T := fun i => [(0, .sl xs .no), (3, .str (joinP ((strsL xs).take i))), (4, .int .i64 (i : Int))]
    B := fun i => []
    R := fun i => []
    inv := fun i => i ≤ xs.length
    mu := fun i => xs.length - i }
def loopAbove (a b : List AV) : LoopInv :=
  { V := Nat
    T := fun i => [(5, .sl a .no), (7, .sl b .no), (9, .int .i64 (i : Int))]
    B := fun i => []
    R := fun i => []
    inv := fun i => i ≤ a.length ∧ a.length ≤ b.length ∧ ((strsL a).take i) = ((strsL b).take i)
    mu := fun i => a.length - i }
def normalF : Con
  | [.val (.str s)] => some (s.length ≤ 1000000, ⟨.tup [.str (normV s), .int .i64 (normE s)], none, none⟩)
  | _ => none
def gamNormal : List (Nat × Con) := [(113, walkF.orNil), (114, joinF.orNil)]
def lpNormal0 (s : List UInt8) : Nat → Option LoopPlan := fun _ => none
def inNormal0 (s : List UInt8) : Prop := awp [] (lpNormal0 s) (lookΓ gamNormal) Tryd.prog Tryd.f64.ntmps 0 (Tryd.f64.body.getD .skip) (entrySt [.val (.str s)]) (exitQ Tryd.prog Tryd.f64.results.toList [] ⟨.tup [.str (normV s), .int .i64 (normE s)], none, none⟩)
def OkNormal0 : Prop := ∀ (s : List UInt8), s.length ≤ 1000000 → inNormal0 s
def rightF : Con
  | [.val (.str s)] => some (s.length ≤ 1000000, ⟨.bool (rightP s), none, none⟩)
  | _ => none
def gamRight : List (Nat × Con) := [(64, normalF.orNil)]
def lpRight0 (s : List UInt8) : Nat → Option LoopPlan := fun _ => none
def inRight0 (s : List UInt8) : Prop := awp [] (lpRight0 s) (lookΓ gamRight) Tryd.prog Tryd.f67.ntmps 0 (Tryd.f67.body.getD .skip) (entrySt [.val (.str s)]) (exitQ Tryd.prog Tryd.f67.results.toList [] ⟨.bool (rightP s), none, none⟩)
def OkRight0 : Prop := ∀ (s : List UInt8), s.length ≤ 1000000 → inRight0 s
def refLetterF : Con
  | [.val (.int .u8 b)] => some (True, ⟨.bool (okRune b), none, none⟩)
  | _ => none
def gamRefLetter : List (Nat × Con) := []
def lpRefLetter0 (b : Int) : Nat → Option LoopPlan := fun _ => none
def inRefLetter0 (b : Int) : Prop := awp [] (lpRefLetter0 b) (lookΓ gamRefLetter) Tryd.prog Tryd.f151.ntmps 0 (Tryd.f151.body.getD .skip) (entrySt [.val (.int .u8 b)]) (exitQ Tryd.prog Tryd.f151.results.toList [] ⟨.bool (okRune b), none, none⟩)
def OkRefLetter0 : Prop := ∀ (b : Int), True → inRefLetter0 b
def refTakeF : Con
  | [.val (.sl xs .no), .val (.str p)] => some (isStrs xs ∧ xs.length ≤ 1000000 ∧ p.length ≤ 1000000, ⟨.tup [.sl (strsAV (takeO (strsL xs) p)) .no, .int .i64 (takeE (strsL xs) p)], none, none⟩)
  | _ => none
def gamRefTake : List (Nat × Con) := [(151, refLetterF.orNil)]
def lpRefTake0 (xs : List AV) (p : List UInt8) : Nat → Option LoopPlan := fun b => bif Nat.beq b 0 then some (.inv [] (loopLetters xs p)) else none
def inRefTake0 (xs : List AV) (p : List UInt8) : Prop := awp [] (lpRefTake0 xs p) (lookΓ gamRefTake) Tryd.prog Tryd.f116.ntmps 0 (Tryd.f116.body.getD .skip) (entrySt [.val (.sl xs .no), .val (.str p)]) (exitQ Tryd.prog Tryd.f116.results.toList [] ⟨.tup [.sl (strsAV (takeO (strsL xs) p)) .no, .int .i64 (takeE (strsL xs) p)], none, none⟩)
def OkRefTake0 : Prop := ∀ (xs : List AV) (p : List UInt8), isStrs xs ∧ xs.length ≤ 1000000 ∧ p.length ≤ 1000000 → inRefTake0 xs p
def refPartsF : Con
  | [.val (.str s)] => some (s.length ≤ 900000, ⟨.tup [.sl (strsAV (partsO s)) .no, .int .i64 (walkE s)], none, none⟩)
  | _ => none
def gamRefParts : List (Nat × Con) := [(116, refTakeF.orNil)]
def lpRefParts0 (s : List UInt8) : Nat → Option LoopPlan := fun b => bif Nat.beq b 0 then some (.inv [.noT 4] (loopParts s)) else none
def inRefParts0 (s : List UInt8) : Prop := awp [] (lpRefParts0 s) (lookΓ gamRefParts) Tryd.prog Tryd.f66.ntmps 0 (Tryd.f66.body.getD .skip) (entrySt [.val (.str s)]) (exitQ Tryd.prog Tryd.f66.results.toList [] ⟨.tup [.sl (strsAV (partsO s)) .no, .int .i64 (walkE s)], none, none⟩)
def OkRefParts0 : Prop := ∀ (s : List UInt8), s.length ≤ 900000 → inRefParts0 s
def refJoinF : Con
  | [.val (.sl xs .no)] => some (isStrs xs ∧ (joinP (strsL xs)).length ≤ 9223372036854775807 ∧ xs.length ≤ 9223372036854775807, ⟨.str (joinP (strsL xs)), none, none⟩)
  | _ => none
def gamRefJoin : List (Nat × Con) := []
def lpRefJoin0 (xs : List AV) : Nat → Option LoopPlan := fun b => bif Nat.beq b 0 then some (.inv [] (loopJoin xs)) else none
def inRefJoin0 (xs : List AV) : Prop := awp [] (lpRefJoin0 xs) (lookΓ gamRefJoin) Tryd.prog Tryd.f150.ntmps 0 (Tryd.f150.body.getD .skip) (entrySt [.val (.sl xs .no)]) (exitQ Tryd.prog Tryd.f150.results.toList [] ⟨.str (joinP (strsL xs)), none, none⟩)
def OkRefJoin0 : Prop := ∀ (xs : List AV), isStrs xs ∧ (joinP (strsL xs)).length ≤ 9223372036854775807 ∧ xs.length ≤ 9223372036854775807 → inRefJoin0 xs
def refNormalF : Con
  | [.val (.str s)] => some (s.length ≤ 900000, ⟨.tup [.str (normV s), .int .i64 (normE s)], none, none⟩)
  | _ => none
def gamRefNormal : List (Nat × Con) := [(66, refPartsF.orNil), (150, refJoinF.orNil)]
def lpRefNormal0 (s : List UInt8) : Nat → Option LoopPlan := fun _ => none
def inRefNormal0 (s : List UInt8) : Prop := awp [] (lpRefNormal0 s) (lookΓ gamRefNormal) Tryd.prog Tryd.f115.ntmps 0 (Tryd.f115.body.getD .skip) (entrySt [.val (.str s)]) (exitQ Tryd.prog Tryd.f115.results.toList [] ⟨.tup [.str (normV s), .int .i64 (normE s)], none, none⟩)
def OkRefNormal0 : Prop := ∀ (s : List UInt8), s.length ≤ 900000 → inRefNormal0 s
def refRightF : Con
  | [.val (.str s)] => some (s.length ≤ 900000, ⟨.bool (rightP s), none, none⟩)
  | _ => none
def gamRefRight : List (Nat × Con) := [(115, refNormalF.orNil)]
def lpRefRight0 (s : List UInt8) : Nat → Option LoopPlan := fun _ => none
def inRefRight0 (s : List UInt8) : Prop := awp [] (lpRefRight0 s) (lookΓ gamRefRight) Tryd.prog Tryd.f65.ntmps 0 (Tryd.f65.body.getD .skip) (entrySt [.val (.str s)]) (exitQ Tryd.prog Tryd.f65.results.toList [] ⟨.bool (rightP s), none, none⟩)
def OkRefRight0 : Prop := ∀ (s : List UInt8), s.length ≤ 900000 → inRefRight0 s
end Go.Proofs.YtcokifdgbfbonaaDoor
