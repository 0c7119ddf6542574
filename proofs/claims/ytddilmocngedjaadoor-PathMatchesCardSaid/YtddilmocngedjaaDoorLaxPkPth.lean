/- Contracts by content, their conditions, and that they are met: Pth. -/
import Derived.Test.YtddilmocngedjaaDoorPthM
import Derived.Test.YtddilmocngedjaaDoorPathQ
import Derived.Test.YtddilmocngedjaaDoorLaxWrap
/- Contracts by content, and the conditions that their code must meet. -/
namespace Go.Proofs.YtddilmocngedjaaDoor
set_option linter.unusedVariables false
set_option linter.unusedSimpArgs false
open Go.RowKit
def partsV (s : List UInt8) : List (List UInt8) := if rightP s then segs s else []
def aboveP (p q : List UInt8) : Bool := rightP p && rightP q && (decide (p = q) || (p ++ [47]).isPrefixOf q)
def refAboveP (p q : List UInt8) : Bool := rightP p && rightP q && (partsO p).isPrefixOf (partsO q)
def takeO (o : List (List UInt8)) (p : List UInt8) : List (List UInt8) := (stepP o p).getD []
def takeE (o : List (List UInt8)) (p : List UInt8) : Int := if stepP o p = none then 30 else 0
def loopLetters (xs : List AV) (p : List UInt8) : LoopInv :=
  { V := Nat
    T := fun i => [(0, .sl xs .no), (1, .str p), (6, .int .i64 (i : Int))]
    B := fun i => []
    R := fun i => []
    inv := fun i => i ≤ p.length ∧ (p.take i).all okLetter = true
    mu := fun i => p.length - i }
def midP (s : List UInt8) (i : Nat) (l : List (List UInt8)) (p : List UInt8) : Prop :=
  (i ≤ s.length ∧ ∃ init, segs (s.take i) = init ++ [p] ∧ walkP [] init = some l) ∨ (i = s.length + 1 ∧ partsP s = some l ∧ p = [])
def loopParts (s : List UInt8) : LoopInv :=
  { V := Nat × List (List UInt8) × List UInt8
    T := fun v => [(0, .str s), (4, .sl (strsAV v.2.1) .no), (5, .str v.2.2), (7, .int .i64 (v.1 : Int))]
    B := fun v => []
    R := fun v => []
    inv := fun v => midP s v.1 v.2.1 v.2.2
    mu := fun v => s.length + 1 - v.1 }
def loopJoin (xs : List AV) : LoopInv :=
  { V := Nat
    T := fun i => [(0, .sl xs .no), (3, .str (joinP ((strsL xs).take i))), (4, .int .i64 (i : Int))]
    B := fun i => []
    R := fun i => []
    inv := fun i => i ≤ xs.length
    mu := fun i => xs.length - i }
def loopAbove (a b : List AV) : LoopInv :=
  { V := Nat
    T := fun i => [(5, .sl a .no), (7, .sl b .no), (9, .int .i64 (i : Int))]
    B := fun i => []
    R := fun i => []
    inv := fun i => i ≤ a.length ∧ a.length ≤ b.length ∧ ((strsL a).take i) = ((strsL b).take i)
    mu := fun i => a.length - i }
def normalF : Con
  | [.val (.str s)] => (some (s.length ≤ 1000000, ⟨.tup [.str (normV s), .int .i64 (normE s)], none, none⟩))
  | _ => none
def gamNormal : List (Nat × Con) := [(62, walkF.orNil), (63, joinF.orNil)]
def lpNormal0 (s : List UInt8) : Nat → Option LoopPlan := fun _ => none
def inNormal0 (s : List UInt8) : Prop := awp [] (lpNormal0 s) (lookΓ gamNormal) Tryd.prog Tryd.f31.ntmps 0 (Tryd.f31.body.getD .skip) (entrySt [.val (.str s)]) (exitQ Tryd.prog Tryd.f31.results.toList [] ⟨.tup [.str (normV s), .int .i64 (normE s)], none, none⟩)
def OkNormal0 : Prop := ∀ (s : List UInt8), s.length ≤ 1000000 → inNormal0 s
def rightF : Con
  | [.val (.str s)] => (some (s.length ≤ 1000000, ⟨.bool (rightP s), none, none⟩))
  | _ => none
def gamRight : List (Nat × Con) := [(31, normalF.orNil)]
def lpRight0 (s : List UInt8) : Nat → Option LoopPlan := fun _ => none
def inRight0 (s : List UInt8) : Prop := awp [] (lpRight0 s) (lookΓ gamRight) Tryd.prog Tryd.f69.ntmps 0 (Tryd.f69.body.getD .skip) (entrySt [.val (.str s)]) (exitQ Tryd.prog Tryd.f69.results.toList [] ⟨.bool (rightP s), none, none⟩)
def OkRight0 : Prop := ∀ (s : List UInt8), s.length ≤ 1000000 → inRight0 s
def refLetterF : Con
  | [.val (.int .u8 b)] => (some (True, ⟨.bool (okRune b), none, none⟩))
  | _ => none
def gamRefLetter : List (Nat × Con) := []
def lpRefLetter0 (b : Int) : Nat → Option LoopPlan := fun _ => none
def inRefLetter0 (b : Int) : Prop := awp [] (lpRefLetter0 b) (lookΓ gamRefLetter) Tryd.prog Tryd.f111.ntmps 0 (Tryd.f111.body.getD .skip) (entrySt [.val (.int .u8 b)]) (exitQ Tryd.prog Tryd.f111.results.toList [] ⟨.bool (okRune b), none, none⟩)
def OkRefLetter0 : Prop := ∀ (b : Int), True → inRefLetter0 b
def refTakeF : Con
  | [.val (.sl xs .no), .val (.str p)] => (some (isStrs xs ∧ xs.length ≤ 1000000 ∧ p.length ≤ 1000000, ⟨.tup [.sl (strsAV (takeO (strsL xs) p)) .no, .int .i64 (takeE (strsL xs) p)], none, none⟩))
  | _ => none
def gamRefTake : List (Nat × Con) := [(111, refLetterF.orNil)]
def lpRefTake0 (xs : List AV) (p : List UInt8) : Nat → Option LoopPlan := fun b => bif Nat.beq b 0 then some (.inv [] (loopLetters xs p)) else none
def inRefTake0 (xs : List AV) (p : List UInt8) : Prop := awp [] (lpRefTake0 xs p) (lookΓ gamRefTake) Tryd.prog Tryd.f91.ntmps 0 (Tryd.f91.body.getD .skip) (entrySt [.val (.sl xs .no), .val (.str p)]) (exitQ Tryd.prog Tryd.f91.results.toList [] ⟨.tup [.sl (strsAV (takeO (strsL xs) p)) .no, .int .i64 (takeE (strsL xs) p)], none, none⟩)
def OkRefTake0 : Prop := ∀ (xs : List AV) (p : List UInt8), isStrs xs ∧ xs.length ≤ 1000000 ∧ p.length ≤ 1000000 → inRefTake0 xs p
def refPartsF : Con
  | [.val (.str s)] => (some (s.length ≤ 900000, ⟨.tup [.sl (strsAV (partsO s)) .no, .int .i64 (walkE s)], none, none⟩))
  | _ => none
def gamRefParts : List (Nat × Con) := [(91, refTakeF.orNil)]
def lpRefParts0 (s : List UInt8) : Nat → Option LoopPlan := fun b => bif Nat.beq b 0 then some (.inv [.noT 4] (loopParts s)) else none
def inRefParts0 (s : List UInt8) : Prop := awp [] (lpRefParts0 s) (lookΓ gamRefParts) Tryd.prog Tryd.f67.ntmps 0 (Tryd.f67.body.getD .skip) (entrySt [.val (.str s)]) (exitQ Tryd.prog Tryd.f67.results.toList [] ⟨.tup [.sl (strsAV (partsO s)) .no, .int .i64 (walkE s)], none, none⟩)
def OkRefParts0 : Prop := ∀ (s : List UInt8), s.length ≤ 900000 → inRefParts0 s
def refJoinF : Con
  | [.val (.sl xs .no)] => (some (isStrs xs ∧ (joinP (strsL xs)).length ≤ 9223372036854775807 ∧ xs.length ≤ 9223372036854775807, ⟨.str (joinP (strsL xs)), none, none⟩))
  | _ => none
def gamRefJoin : List (Nat × Con) := []
def lpRefJoin0 (xs : List AV) : Nat → Option LoopPlan := fun b => bif Nat.beq b 0 then some (.inv [] (loopJoin xs)) else none
def inRefJoin0 (xs : List AV) : Prop := awp [] (lpRefJoin0 xs) (lookΓ gamRefJoin) Tryd.prog Tryd.f68.ntmps 0 (Tryd.f68.body.getD .skip) (entrySt [.val (.sl xs .no)]) (exitQ Tryd.prog Tryd.f68.results.toList [] ⟨.str (joinP (strsL xs)), none, none⟩)
def OkRefJoin0 : Prop := ∀ (xs : List AV), isStrs xs ∧ (joinP (strsL xs)).length ≤ 9223372036854775807 ∧ xs.length ≤ 9223372036854775807 → inRefJoin0 xs
def refNormalF : Con
  | [.val (.str s)] => (some (s.length ≤ 900000, ⟨.tup [.str (normV s), .int .i64 (normE s)], none, none⟩))
  | _ => none
def gamRefNormal : List (Nat × Con) := [(67, refPartsF.orNil), (68, refJoinF.orNil)]
def lpRefNormal0 (s : List UInt8) : Nat → Option LoopPlan := fun _ => none
def inRefNormal0 (s : List UInt8) : Prop := awp [] (lpRefNormal0 s) (lookΓ gamRefNormal) Tryd.prog Tryd.f34.ntmps 0 (Tryd.f34.body.getD .skip) (entrySt [.val (.str s)]) (exitQ Tryd.prog Tryd.f34.results.toList [] ⟨.tup [.str (normV s), .int .i64 (normE s)], none, none⟩)
def OkRefNormal0 : Prop := ∀ (s : List UInt8), s.length ≤ 900000 → inRefNormal0 s
def refRightF : Con
  | [.val (.str s)] => (some (s.length ≤ 900000, ⟨.bool (rightP s), none, none⟩))
  | _ => none
def gamRefRight : List (Nat × Con) := [(34, refNormalF.orNil)]
def lpRefRight0 (s : List UInt8) : Nat → Option LoopPlan := fun _ => none
def inRefRight0 (s : List UInt8) : Prop := awp [] (lpRefRight0 s) (lookΓ gamRefRight) Tryd.prog Tryd.f15.ntmps 0 (Tryd.f15.body.getD .skip) (entrySt [.val (.str s)]) (exitQ Tryd.prog Tryd.f15.results.toList [] ⟨.bool (rightP s), none, none⟩)
def OkRefRight0 : Prop := ∀ (s : List UInt8), s.length ≤ 900000 → inRefRight0 s
end Go.Proofs.YtddilmocngedjaaDoor
/- What the verification conditions come to: printed by a program of ours (wip/lax/ex/Norm.lean). -/
namespace Go.Proofs.YtddilmocngedjaaDoor
set_option linter.unusedVariables false
open Go.RowKit
set_option maxRecDepth 100000
theorem vcNormal0 (s : (List UInt8)) (h : (tt ∧ T1 ∧ T1 ∧ tt ∧ T1 ∧ (T1 ∧ (List.length s) ≤ 1000000) ∧ ∀ v0 : (List AV), (v0 = (strsAV (partsO s))) → ∀ v2 : Int, (v2 = (walkE s)) → T1 ∧ T1 ∧ T1 ∧ T1 ∧ T1 ∧ tt ∧ T1 ∧ T1 ∧ T1 ∧ (bif (v2 != 0) then (tt ∧ T1 ∧ T1 ∧ T1 ∧ tt ∧ tt ∧ ((normV s) = [] ∧ (normE s) = v2 ∧ True) ∧ tt) else (tt ∧ T1 ∧ T1 ∧ T1 ∧ T1 ∧ (bif (((List.length v0) : Int) == 0) then (tt ∧ T1 ∧ T1 ∧ tt ∧ tt ∧ ((normV s) = [] ∧ (normE s) = 13 ∧ True) ∧ tt) else (tt ∧ T1 ∧ T1 ∧ T1 ∧ T1 ∧ (bif (decide ((8 : Int) < ((List.length v0) : Int))) then (tt ∧ T1 ∧ T1 ∧ tt ∧ tt ∧ ((normV s) = [] ∧ (normE s) = 31 ∧ True) ∧ tt) else (tt ∧ T1 ∧ (T1 ∧ (isStrs v0) ∧ [(47 : UInt8)] = [(47 : UInt8)] ∧ (List.length (joinP (strsL v0))) ≤ 140737488355328 ∧ (List.length v0) ≤ 140737488355328) ∧ ∀ v4 : (List UInt8), (v4 = (joinP (strsL v0))) → T1 ∧ tt ∧ T1 ∧ T1 ∧ T1 ∧ (bif (decide ((64 : Int) < ((List.length v4) : Int))) then (tt ∧ T1 ∧ T1 ∧ tt ∧ tt ∧ ((normV s) = [] ∧ (normE s) = 11 ∧ True) ∧ tt) else (tt ∧ T1 ∧ T1 ∧ T1 ∧ tt ∧ tt ∧ ((normV s) = v4 ∧ (normE s) = 0 ∧ True) ∧ tt)))))))))) : inNormal0 s :=
  Eq.mp (show _ = _ by kernel_rfl) h
theorem vcRight0 (s : (List UInt8)) (h : (tt ∧ T1 ∧ tt ∧ T1 ∧ (T1 ∧ (List.length s) ≤ 1000000) ∧ ∀ v0 : (List UInt8), (v0 = (normV s)) → ∀ v2 : Int, (v2 = (normE s)) → T1 ∧ T1 ∧ T1 ∧ T1 ∧ T1 ∧ tt ∧ T1 ∧ T1 ∧ T1 ∧ (bif (v2 == 0) then (T1 ∧ T1 ∧ T1 ∧ T1 ∧ T1 ∧ tt ∧ tt ∧ ((rightP s) = (@BEq.beq.{0} (List UInt8) (@List.instBEq.{0} UInt8 (@instBEqOfDecidableEq.{0} UInt8 instDecidableEqUInt8)) s v0) ∧ True) ∧ tt) else (false = false ∧ T1 ∧ tt ∧ tt ∧ ((rightP s) = false ∧ True) ∧ tt)))) : inRight0 s :=
  Eq.mp (show _ = _ by kernel_rfl) h
theorem vcRefLetter0 (b : Int) (h : let q0 := (okRune b); let w1_x := (bif (b == 45) then (tt ∧ T1 ∧ tt ∧ tt ∧ (q0 = true ∧ True) ∧ tt) else (T1 ∧ T1 ∧ T1 ∧ T1 ∧ tt ∧ tt ∧ (q0 = (b == 95) ∧ True) ∧ tt)); let w0_x := (bif (decide ((48 : Int) ≤ b)) then (T1 ∧ T1 ∧ T1 ∧ T1 ∧ T1 ∧ (bif (decide (b ≤ 57)) then (tt ∧ T1 ∧ tt ∧ T1 ∧ tt ∧ tt ∧ (q0 = true ∧ True) ∧ tt) else (T1 ∧ T1 ∧ T1 ∧ T1 ∧ w1_x))) else (false = false ∧ T1 ∧ T1 ∧ T1 ∧ T1 ∧ T1 ∧ T1 ∧ w1_x)); (tt ∧ T1 ∧ tt ∧ T1 ∧ T1 ∧ T1 ∧ (bif (decide ((97 : Int) ≤ b)) then (T1 ∧ T1 ∧ T1 ∧ T1 ∧ (bif (decide (b ≤ 122)) then (tt ∧ T1 ∧ tt ∧ T1 ∧ tt ∧ T1 ∧ tt ∧ tt ∧ (q0 = true ∧ True) ∧ tt) else (T1 ∧ T1 ∧ T1 ∧ w0_x))) else (false = false ∧ T1 ∧ T1 ∧ T1 ∧ T1 ∧ w0_x)))) : inRefLetter0 b :=
  Eq.mp (show _ = _ by kernel_rfl) h
theorem vcRefTake0 (xs : (List AV)) (p : (List UInt8)) (h : let q0 := (List.length xs); let q1 := (strsAV (takeO (strsL xs) p)); let q2 := (takeE (strsL xs) p); let q3 := (List.length p); let w0_x := (tt ∧ T1 ∧ T1 ∧ tt ∧ tt ∧ (q1 = [] ∧ q2 = 30 ∧ True) ∧ tt); (tt ∧ T1 ∧ T1 ∧ tt ∧ T1 ∧ T1 ∧ T1 ∧ (bif (@BEq.beq.{0} (List UInt8) (@List.instBEq.{0} UInt8 (@instBEqOfDecidableEq.{0} UInt8 instDecidableEqUInt8)) p (@List.nil.{0} UInt8)) then (tt ∧ tt ∧ T1 ∧ T1 ∧ T1 ∧ tt ∧ tt ∧ (q1 = xs ∧ q2 = 0 ∧ True) ∧ tt) else (T1 ∧ T1 ∧ T1 ∧ (bif (@BEq.beq.{0} (List UInt8) (@List.instBEq.{0} UInt8 (@instBEqOfDecidableEq.{0} UInt8 instDecidableEqUInt8)) p [(46 : UInt8)]) then (tt ∧ T1 ∧ T1 ∧ T1 ∧ tt ∧ tt ∧ (q1 = xs ∧ q2 = 0 ∧ True) ∧ tt) else (tt ∧ T1 ∧ T1 ∧ (bif (@BEq.beq.{0} (List UInt8) (@List.instBEq.{0} UInt8 (@instBEqOfDecidableEq.{0} UInt8 instDecidableEqUInt8)) p [(46 : UInt8), 46]) then (tt ∧ T1 ∧ T1 ∧ T1 ∧ (bif ((q0 : Int) == 0) then w0_x else (tt ∧ T1 ∧ T1 ∧ T1 ∧ T1 ∧ (((0 : Int) ≤ (IntKind.wrap IntKind.i64 ((q0 : Int) - (1 : Int))) ∧ (IntKind.wrap IntKind.i64 ((q0 : Int) - (1 : Int))) ≤ (q0 : Int)) ∧ (okWidth 1 xs)) ∧ T1 ∧ T1 ∧ tt ∧ tt ∧ (q1 = (@cutL AV xs 0 (Int.toNat (IntKind.wrap IntKind.i64 ((q0 : Int) - (1 : Int))))) ∧ q2 = 0 ∧ True) ∧ tt))) else (tt ∧ T1 ∧ (@Exists.{1} (loopLetters xs p).V (fun (v0 : Nat) => ((((AV.sl xs Own.no) = (AV.sl xs Own.no) ∧ (AV.str p) = (AV.str p) ∧ (AV.int IntKind.i64 0) = (AV.int IntKind.i64 (v0 : Int)) ∧ True) ∧ T1 ∧ T1 ∧ tt ∧ tt) ∧ v0 ≤ q3 ∧ (@List.all.{0} UInt8 (@List.take.{0} UInt8 v0 p) okLetter) = true))) ∧ ∀ v0 : Nat, (v0 ≤ q3 ∧ (@List.all.{0} UInt8 (@List.take.{0} UInt8 v0 p) okLetter) = true) → tt ∧ T1 ∧ T1 ∧ T1 ∧ T1 ∧ (bif (decide ((v0 : Int) < (q3 : Int))) then (tt ∧ T1 ∧ T1 ∧ ((0 : Int) ≤ (v0 : Int) ∧ (v0 : Int) < (q3 : Int)) ∧ (T1 ∧ True) ∧ T1 ∧ (bif (Bool.not (okRune ((UInt8.toNat (@List.getD.{0} UInt8 p (Int.toNat (v0 : Int)) (0 : UInt8))) : Int))) then w0_x else (tt ∧ T1 ∧ T1 ∧ T1 ∧ (@Exists.{1} (loopLetters xs p).V (fun (v2 : Nat) => ((((AV.sl xs Own.no) = (AV.sl xs Own.no) ∧ (AV.str p) = (AV.str p) ∧ (AV.int IntKind.i64 (IntKind.wrap IntKind.i64 ((v0 : Int) + (1 : Int)))) = (AV.int IntKind.i64 (v2 : Int)) ∧ True) ∧ T1 ∧ T1 ∧ tt ∧ tt) ∧ (v2 ≤ q3 ∧ (@List.all.{0} UInt8 (@List.take.{0} UInt8 v2 p) okLetter) = true) ∧ (q3 - v2) < (q3 - v0))))))) else (tt ∧ T1 ∧ tt ∧ T1 ∧ T1 ∧ ((q0 * 16) ≤ 140737488355328 ∧ q0 ≤ 9223372036854775807 ∧ (okWidth 1 xs)) ∧ T1 ∧ tt ∧ T1 ∧ T1 ∧ T1 ∧ (q0 = q0 ∧ ((q0 + 1) * 16) ≤ 140737488355328 ∧ (q0 + 1) ≤ 9223372036854775807 ∧ (okWidth 1 xs) ∧ (okWidth 1 [(AV.str p)])) ∧ T1 ∧ T1 ∧ tt ∧ tt ∧ (q1 = (@catL AV xs [(AV.str p)]) ∧ q2 = 0 ∧ True) ∧ tt)))))))))) : inRefTake0 xs p :=
  Eq.mp (show _ = _ by kernel_rfl) h
theorem vcRefParts0 (s : (List UInt8)) (h : let q0 := (List.length s); (tt ∧ T1 ∧ T1 ∧ tt ∧ T1 ∧ tt ∧ T1 ∧ tt ∧ T1 ∧ tt ∧ T1 ∧ (@Exists.{1} (loopParts s).V (fun (v0 : (@Prod.{0, 0} Nat (@Prod.{0, 0} (List (List UInt8)) (List UInt8)))) => ((((AV.str s) = (AV.str s) ∧ (AV.sl [] Own.no) = (AV.sl (strsAV v0.2.1) Own.no) ∧ (AV.str []) = (AV.str v0.2.2) ∧ (AV.int IntKind.i64 0) = (AV.int IntKind.i64 (v0.1 : Int)) ∧ True) ∧ T1 ∧ T1 ∧ tt ∧ tt) ∧ (midP s v0.1 v0.2.1 v0.2.2)))) ∧ ∀ v0 : (@Prod.{0, 0} Nat (@Prod.{0, 0} (List (List UInt8)) (List UInt8))), ∀ v1 : (midP s v0.1 v0.2.1 v0.2.2), tt ∧ T1 ∧ T1 ∧ T1 ∧ T1 ∧ (bif (decide ((v0.1 : Int) ≤ (q0 : Int))) then (tt ∧ T1 ∧ T1 ∧ T1 ∧ T1 ∧ T1 ∧ (bif (decide ((v0.1 : Int) < (q0 : Int))) then (T1 ∧ T1 ∧ ((0 : Int) ≤ (v0.1 : Int) ∧ (v0.1 : Int) < (q0 : Int)) ∧ T1 ∧ T1 ∧ (bif (((UInt8.toNat (@List.getD.{0} UInt8 s (Int.toNat (v0.1 : Int)) (0 : UInt8))) : Int) != 47) then (tt ∧ T1 ∧ T1 ∧ T1 ∧ T1 ∧ T1 ∧ ((0 : Int) ≤ (v0.1 : Int) ∧ (v0.1 : Int) ≤ (IntKind.wrap IntKind.i64 ((v0.1 : Int) + (1 : Int))) ∧ (IntKind.wrap IntKind.i64 ((v0.1 : Int) + (1 : Int))) ≤ (q0 : Int)) ∧ ((List.length v0.2.2) + (List.length (@cutL UInt8 s (Int.toNat (v0.1 : Int)) (Int.toNat (IntKind.wrap IntKind.i64 ((v0.1 : Int) + (1 : Int))))))) ≤ 9223372036854775807 ∧ T1 ∧ tt ∧ T1 ∧ T1 ∧ T1 ∧ (@Exists.{1} (loopParts s).V (fun (v2 : (@Prod.{0, 0} Nat (@Prod.{0, 0} (List (List UInt8)) (List UInt8)))) => ((((AV.str s) = (AV.str s) ∧ (AV.sl (strsAV v0.2.1) Own.no) = (AV.sl (strsAV v2.2.1) Own.no) ∧ (AV.str (@catL UInt8 v0.2.2 (@cutL UInt8 s (Int.toNat (v0.1 : Int)) (Int.toNat (IntKind.wrap IntKind.i64 ((v0.1 : Int) + (1 : Int))))))) = (AV.str v2.2.2) ∧ (AV.int IntKind.i64 (IntKind.wrap IntKind.i64 ((v0.1 : Int) + (1 : Int)))) = (AV.int IntKind.i64 (v2.1 : Int)) ∧ True) ∧ T1 ∧ T1 ∧ tt ∧ tt) ∧ (midP s v2.1 v2.2.1 v2.2.2) ∧ ((q0 + 1) - v2.1) < ((q0 + 1) - v0.1))))) else (tt ∧ T1 ∧ T1 ∧ (T1 ∧ (isStrs (strsAV v0.2.1)) ∧ (List.length (strsAV v0.2.1)) ≤ 1000000 ∧ (List.length v0.2.2) ≤ 1000000) ∧ ∀ v2 : (List AV), (v2 = (strsAV (takeO (strsL (strsAV v0.2.1)) v0.2.2))) → ∀ v4 : Int, (v4 = (takeE (strsL (strsAV v0.2.1)) v0.2.2)) → T1 ∧ T1 ∧ T1 ∧ T1 ∧ T1 ∧ tt ∧ T1 ∧ T1 ∧ (bif (v4 != 0) then (tt ∧ T1 ∧ T1 ∧ T1 ∧ tt ∧ tt ∧ ((strsAV (partsO s)) = [] ∧ (walkE s) = v4 ∧ True) ∧ tt) else (tt ∧ T1 ∧ tt ∧ T1 ∧ T1 ∧ T1 ∧ (@Exists.{1} (loopParts s).V (fun (v6 : (@Prod.{0, 0} Nat (@Prod.{0, 0} (List (List UInt8)) (List UInt8)))) => ((((AV.str s) = (AV.str s) ∧ (AV.sl v2 Own.no) = (AV.sl (strsAV v6.2.1) Own.no) ∧ (AV.str []) = (AV.str v6.2.2) ∧ (AV.int IntKind.i64 (IntKind.wrap IntKind.i64 ((v0.1 : Int) + (1 : Int)))) = (AV.int IntKind.i64 (v6.1 : Int)) ∧ True) ∧ T1 ∧ T1 ∧ tt ∧ tt) ∧ (midP s v6.1 v6.2.1 v6.2.2) ∧ ((q0 + 1) - v6.1) < ((q0 + 1) - v0.1))))))))) else (false = false ∧ tt ∧ T1 ∧ T1 ∧ (T1 ∧ (isStrs (strsAV v0.2.1)) ∧ (List.length (strsAV v0.2.1)) ≤ 1000000 ∧ (List.length v0.2.2) ≤ 1000000) ∧ ∀ v2 : (List AV), (v2 = (strsAV (takeO (strsL (strsAV v0.2.1)) v0.2.2))) → ∀ v4 : Int, (v4 = (takeE (strsL (strsAV v0.2.1)) v0.2.2)) → T1 ∧ T1 ∧ T1 ∧ T1 ∧ T1 ∧ tt ∧ T1 ∧ T1 ∧ (bif (v4 != 0) then (tt ∧ T1 ∧ T1 ∧ T1 ∧ tt ∧ tt ∧ ((strsAV (partsO s)) = [] ∧ (walkE s) = v4 ∧ True) ∧ tt) else (tt ∧ T1 ∧ tt ∧ T1 ∧ T1 ∧ T1 ∧ (@Exists.{1} (loopParts s).V (fun (v6 : (@Prod.{0, 0} Nat (@Prod.{0, 0} (List (List UInt8)) (List UInt8)))) => ((((AV.str s) = (AV.str s) ∧ (AV.sl v2 Own.no) = (AV.sl (strsAV v6.2.1) Own.no) ∧ (AV.str []) = (AV.str v6.2.2) ∧ (AV.int IntKind.i64 (IntKind.wrap IntKind.i64 ((v0.1 : Int) + (1 : Int)))) = (AV.int IntKind.i64 (v6.1 : Int)) ∧ True) ∧ T1 ∧ T1 ∧ tt ∧ tt) ∧ (midP s v6.1 v6.2.1 v6.2.2) ∧ ((q0 + 1) - v6.1) < ((q0 + 1) - v0.1))))))))) else (tt ∧ T1 ∧ T1 ∧ T1 ∧ tt ∧ tt ∧ ((strsAV (partsO s)) = (strsAV v0.2.1) ∧ (walkE s) = 0 ∧ True) ∧ tt)))) : inRefParts0 s :=
  Eq.mp (show _ = _ by kernel_rfl) h
theorem vcRefJoin0 (xs : (List AV)) (h : let q0 := (List.length xs); let q1 := (strsL xs); (tt ∧ T1 ∧ tt ∧ T1 ∧ tt ∧ T1 ∧ (@Exists.{1} (loopJoin xs).V (fun (v0 : Nat) => ((((AV.sl xs Own.no) = (AV.sl xs Own.no) ∧ (AV.str []) = (AV.str (joinP (@List.take.{0} (List UInt8) v0 q1))) ∧ (AV.int IntKind.i64 0) = (AV.int IntKind.i64 (v0 : Int)) ∧ True) ∧ T1 ∧ T1 ∧ tt ∧ tt) ∧ v0 ≤ q0))) ∧ ∀ v0 : Nat, (v0 ≤ q0) → tt ∧ T1 ∧ T1 ∧ T1 ∧ T1 ∧ (bif (decide ((v0 : Int) < (q0 : Int))) then (tt ∧ T1 ∧ T1 ∧ (bif (decide ((0 : Int) < (v0 : Int))) then (tt ∧ T1 ∧ ((List.length (joinP (@List.take.{0} (List UInt8) v0 q1))) + 1) ≤ 9223372036854775807 ∧ T1 ∧ tt ∧ T1 ∧ T1 ∧ T1 ∧ ((0 : Int) ≤ (v0 : Int) ∧ (v0 : Int) < (q0 : Int) ∧ (okElem 1 xs (Int.toNat (v0 : Int)))) ∧ (okRead [Kd.str] (elemAt xs (Int.toNat (v0 : Int))) 0) ∧ ((List.length (@catL UInt8 (joinP (@List.take.{0} (List UInt8) v0 q1)) [(47 : UInt8)])) + (List.length (rdStr (elemAt xs (Int.toNat (v0 : Int))) 0))) ≤ 9223372036854775807 ∧ T1 ∧ tt ∧ T1 ∧ T1 ∧ T1 ∧ (@Exists.{1} (loopJoin xs).V (fun (v2 : Nat) => ((((AV.sl xs Own.no) = (AV.sl xs Own.no) ∧ (AV.str (@catL UInt8 (@catL UInt8 (joinP (@List.take.{0} (List UInt8) v0 q1)) [(47 : UInt8)]) (rdStr (elemAt xs (Int.toNat (v0 : Int))) 0))) = (AV.str (joinP (@List.take.{0} (List UInt8) v2 q1))) ∧ (AV.int IntKind.i64 (IntKind.wrap IntKind.i64 ((v0 : Int) + (1 : Int)))) = (AV.int IntKind.i64 (v2 : Int)) ∧ True) ∧ T1 ∧ T1 ∧ tt ∧ tt) ∧ v2 ≤ q0 ∧ (q0 - v2) < (q0 - v0))))) else (tt ∧ T1 ∧ T1 ∧ T1 ∧ ((0 : Int) ≤ (v0 : Int) ∧ (v0 : Int) < (q0 : Int) ∧ (okElem 1 xs (Int.toNat (v0 : Int)))) ∧ (okRead [Kd.str] (elemAt xs (Int.toNat (v0 : Int))) 0) ∧ ((List.length (joinP (@List.take.{0} (List UInt8) v0 q1))) + (List.length (rdStr (elemAt xs (Int.toNat (v0 : Int))) 0))) ≤ 9223372036854775807 ∧ T1 ∧ tt ∧ T1 ∧ T1 ∧ T1 ∧ (@Exists.{1} (loopJoin xs).V (fun (v2 : Nat) => ((((AV.sl xs Own.no) = (AV.sl xs Own.no) ∧ (AV.str (@catL UInt8 (joinP (@List.take.{0} (List UInt8) v0 q1)) (rdStr (elemAt xs (Int.toNat (v0 : Int))) 0))) = (AV.str (joinP (@List.take.{0} (List UInt8) v2 q1))) ∧ (AV.int IntKind.i64 (IntKind.wrap IntKind.i64 ((v0 : Int) + (1 : Int)))) = (AV.int IntKind.i64 (v2 : Int)) ∧ True) ∧ T1 ∧ T1 ∧ tt ∧ tt) ∧ v2 ≤ q0 ∧ (q0 - v2) < (q0 - v0))))))) else (tt ∧ T1 ∧ T1 ∧ tt ∧ tt ∧ ((joinP q1) = (joinP (@List.take.{0} (List UInt8) v0 q1)) ∧ True) ∧ tt)))) : inRefJoin0 xs :=
  Eq.mp (show _ = _ by kernel_rfl) h
theorem vcRefNormal0 (s : (List UInt8)) (h : (tt ∧ T1 ∧ T1 ∧ tt ∧ T1 ∧ (T1 ∧ (List.length s) ≤ 900000) ∧ ∀ v0 : (List AV), let w0_0 := (T1 ∧ (isStrs v0) ∧ (List.length (joinP (strsL v0))) ≤ 9223372036854775807 ∧ (List.length v0) ≤ 9223372036854775807); (v0 = (strsAV (partsO s))) → ∀ v2 : Int, (v2 = (walkE s)) → T1 ∧ T1 ∧ T1 ∧ T1 ∧ T1 ∧ tt ∧ T1 ∧ T1 ∧ (bif (v2 != 0) then (tt ∧ T1 ∧ T1 ∧ T1 ∧ tt ∧ tt ∧ ((normV s) = [] ∧ (normE s) = v2 ∧ True) ∧ tt) else (tt ∧ T1 ∧ T1 ∧ T1 ∧ (bif (((List.length v0) : Int) == 0) then (tt ∧ T1 ∧ T1 ∧ tt ∧ tt ∧ ((normV s) = [] ∧ (normE s) = 13 ∧ True) ∧ tt) else (tt ∧ T1 ∧ T1 ∧ T1 ∧ (bif (decide ((8 : Int) < ((List.length v0) : Int))) then (tt ∧ T1 ∧ T1 ∧ tt ∧ tt ∧ ((normV s) = [] ∧ (normE s) = 31 ∧ True) ∧ tt) else (tt ∧ T1 ∧ w0_0 ∧ ∀ v4 : (List UInt8), (v4 = (joinP (strsL v0))) → T1 ∧ T1 ∧ (bif (decide ((64 : Int) < ((List.length v4) : Int))) then (tt ∧ T1 ∧ T1 ∧ tt ∧ tt ∧ ((normV s) = [] ∧ (normE s) = 11 ∧ True) ∧ tt) else (tt ∧ T1 ∧ w0_0 ∧ ∀ v6 : (List UInt8), (v6 = (joinP (strsL v0))) → T1 ∧ T1 ∧ tt ∧ tt ∧ ((normV s) = v6 ∧ (normE s) = 0 ∧ True) ∧ tt)))))))))) : inRefNormal0 s :=
  Eq.mp (show _ = _ by kernel_rfl) h
theorem vcRefRight0 (s : (List UInt8)) (h : (tt ∧ T1 ∧ tt ∧ T1 ∧ (T1 ∧ (List.length s) ≤ 900000) ∧ ∀ v0 : (List UInt8), (v0 = (normV s)) → ∀ v2 : Int, (v2 = (normE s)) → T1 ∧ T1 ∧ T1 ∧ T1 ∧ T1 ∧ tt ∧ T1 ∧ T1 ∧ T1 ∧ (bif (v2 == 0) then (T1 ∧ T1 ∧ T1 ∧ T1 ∧ T1 ∧ tt ∧ tt ∧ ((rightP s) = (@BEq.beq.{0} (List UInt8) (@List.instBEq.{0} UInt8 (@instBEqOfDecidableEq.{0} UInt8 instDecidableEqUInt8)) v0 s) ∧ True) ∧ tt) else (false = false ∧ T1 ∧ tt ∧ tt ∧ ((rightP s) = false ∧ True) ∧ tt)))) : inRefRight0 s :=
  Eq.mp (show _ = _ by kernel_rfl) h
end Go.Proofs.YtddilmocngedjaaDoor
/- The conditions of paths hold. -/
namespace Go.Proofs.YtddilmocngedjaaDoor
set_option linter.unusedVariables false
set_option linter.unusedSimpArgs false
open Go.RowKit
set_option maxRecDepth 100000

theorem okWidth_strs (l : List (List UInt8)) : okWidth 1 (strsAV l) := by
  intro x hx
  obtain ⟨y, _, rfl⟩ := List.mem_map.1 hx
  rfl
theorem elemAt_strs {l : List (List UInt8)} {i : Nat} (h : i < l.length) : elemAt (strsAV l) i = .str (l.getD i []) := by
  simp [elemAt, cellAt, strsAV, List.getD_eq_getElem?_getD, List.getElem?_eq_getElem h]
theorem okElem_strs {l : List (List UInt8)} {i : Nat} (h : i < l.length) : okElem 1 (strsAV l) i := by
  unfold okElem; rw [elemAt_strs h]; rfl
theorem okRead_strs {l : List (List UInt8)} {i : Nat} (h : i < l.length) : okRead [.str] (elemAt (strsAV l) i) 0 := by
  rw [elemAt_strs h]
  intro j kd hj
  match j, hj with
  | 0, hj => simp at hj; subst hj; rfl
  | j + 1, hj => simp at hj
theorem rdStr_strs {l : List (List UInt8)} {i : Nat} (h : i < l.length) : rdStr (elemAt (strsAV l) i) 0 = l.getD i [] := by
  rw [elemAt_strs h]; rfl
theorem cutL_strs (l : List (List UInt8)) (a b : Nat) : cutL (strsAV l) a b = strsAV (cutL l a b) := by simp [cutL, strsAV, List.map_take, List.map_drop]
theorem catL_strs (l m : List (List UInt8)) : catL (strsAV l) (strsAV m) = strsAV (l ++ m) := by simp [catL, strsAV]
theorem partsO_len (s : List UInt8) : (partsO s).length ≤ s.length + 1 := by
  unfold partsO
  cases h : partsP s with
  | none => simp
  | some l =>
    have h1 := walkP_len h
    have h2 := segs_len s
    simp at h1 ⊢
    omega
theorem joinP_len {l : List (List UInt8)} {n : Nat} (h : ∀ x ∈ l, x.length ≤ n) : (joinP l).length ≤ l.length * (n + 1) := by
  induction l with
  | nil => simp [joinP_nil]
  | cons x r ih =>
    have h1 := h x (by simp)
    have h2 := ih fun y hy => h y (by simp [hy])
    cases r with
    | nil => rw [joinP_one]; simp; omega
    | cons y t =>
      rw [joinP_cons]
      simp only [List.length_append, List.length_cons] at h2 ⊢
      rw [Nat.add_mul, Nat.one_mul]
      omega
theorem joinO_len {s : List UInt8} (h : s.length ≤ 1000000) : (joinP (partsO s)).length ≤ 140737488355328 := by
  have h1 := partsO_len s
  have h2 : (joinP (partsO s)).length ≤ (partsO s).length * (s.length + 1) := joinP_len fun x hx => by
    unfold partsO at hx
    cases hp : partsP s with
    | none => rw [hp] at hx; simp at hx
    | some l => rw [hp] at hx; exact partsP_mem hp x hx
  have h3 : (partsO s).length * (s.length + 1) ≤ 1000001 * 1000001 := Nat.mul_le_mul (by omega) (by omega)
  omega
theorem norm_cases (s : List UInt8) : (walkE s ≠ 0 → normE s = walkE s ∧ normV s = []) ∧ (walkE s = 0 → ((partsO s).length = 0 → normE s = 13 ∧ normV s = []) ∧
    ((partsO s).length ≠ 0 → (8 < (partsO s).length → normE s = 31 ∧ normV s = []) ∧ (¬ 8 < (partsO s).length → (64 < (joinP (partsO s)).length → normE s = 11 ∧ normV s = []) ∧ (¬ 64 < (joinP (partsO s)).length → normE s = 0 ∧ normV s = joinP (partsO s))))) := by
  have hv : normE s ≠ 0 → normV s = [] := fun h => by unfold normV; rw [if_neg h]
  cases hp : partsP s with
  | none =>
    have e1 : walkE s = 30 := by simp [walkE, hp]
    have e2 : normE s = 30 := by simp [normE, hp]
    refine ⟨fun _ => ⟨by rw [e1, e2], hv (by rw [e2]; decide)⟩, fun h => by rw [e1] at h; cases h⟩
  | some l =>
    have e1 : walkE s = 0 := by simp [walkE, hp]
    have e2 : partsO s = l := by simp [partsO, hp]
    rw [e2]
    refine ⟨fun h => absurd e1 h, fun _ => ⟨fun h => ?_, fun h => ⟨fun h8 => ?_, fun h8 => ⟨fun h64 => ?_, fun h64 => ?_⟩⟩⟩⟩
    · have : normE s = 13 := by
        have hl : l = [] := List.length_eq_zero_iff.1 h
        simp [normE, hp, hl]
      exact ⟨this, hv (by rw [this]; decide)⟩
    all_goals have hl : l ≠ [] := fun e => h (by rw [e]; rfl)
    · have : normE s = 31 := by unfold normE; rw [hp]; simp only; rw [if_neg hl, if_pos h8]
      exact ⟨this, hv (by rw [this]; decide)⟩
    · have : normE s = 11 := by unfold normE; rw [hp]; simp only; rw [if_neg hl, if_neg h8, if_pos h64]
      exact ⟨this, hv (by rw [this]; decide)⟩
    · have : normE s = 0 := by unfold normE; rw [hp]; simp only; rw [if_neg hl, if_neg h8, if_neg h64]
      exact ⟨this, by unfold normV; rw [if_pos this, hp]; rfl⟩
theorem okNormal0 : OkNormal0 := by
  intro s hq
  refine vcNormal0 s ?_
  obtain ⟨h1, h2⟩ := norm_cases s
  have h3 := partsO_len s
  have h4 := joinO_len hq
  simp only [true_and, and_true, forall_eq, eq_self, length_strsAV, strsL_strsAV, isStrs_strsAV]
  refine ⟨hq, cond_prop (fun h => ?_) fun h => ?_⟩
  · have h' : walkE s ≠ 0 := by simpa using h
    exact ⟨(h1 h').2, (h1 h').1⟩
  have h' : walkE s = 0 := by simpa using h
  obtain ⟨h5, h6⟩ := h2 h'
  refine cond_prop (fun h => ?_) fun h => ?_
  · have := h5 (by simpa using h); exact ⟨this.2, this.1⟩
  obtain ⟨h7, h8⟩ := h6 (by simpa using h)
  refine cond_prop (fun h => ?_) fun h => ?_
  · have := h7 (by simp at h; omega); exact ⟨this.2, this.1⟩
  obtain ⟨h9, h10⟩ := h8 (by simp at h; omega)
  refine ⟨⟨h4, by omega⟩, cond_prop (fun h => ?_) fun h => ?_⟩
  · have := h9 (by simp at h; omega); exact ⟨this.2, this.1⟩
  · have := h10 (by simp at h; omega); exact ⟨this.2, this.1⟩
theorem okRefNormal0 : OkRefNormal0 := by
  intro s hq
  refine vcRefNormal0 s ?_
  obtain ⟨h1, h2⟩ := norm_cases s
  have h3 := partsO_len s
  have h4 := joinO_len (s := s) (by omega)
  simp only [true_and, and_true, forall_eq, eq_self, length_strsAV, strsL_strsAV, isStrs_strsAV]
  refine ⟨hq, cond_prop (fun h => ?_) fun h => ?_⟩
  · have h' : walkE s ≠ 0 := by simpa using h
    exact ⟨(h1 h').2, (h1 h').1⟩
  have h' : walkE s = 0 := by simpa using h
  obtain ⟨h5, h6⟩ := h2 h'
  refine cond_prop (fun h => ?_) fun h => ?_
  · have := h5 (by simpa using h); exact ⟨this.2, this.1⟩
  obtain ⟨h7, h8⟩ := h6 (by simpa using h)
  refine cond_prop (fun h => ?_) fun h => ?_
  · have := h7 (by simp at h; omega); exact ⟨this.2, this.1⟩
  obtain ⟨h9, h10⟩ := h8 (by simp at h; omega)
  refine ⟨⟨by omega, by omega⟩, cond_prop (fun h => ?_) fun h => ?_⟩
  · have := h9 (by simp at h; omega); exact ⟨this.2, this.1⟩
  · have := h10 (by simp at h; omega); exact ⟨⟨by omega, by omega⟩, this.2, this.1⟩
theorem rightP_eq (s : List UInt8) : (normE s = 0 → rightP s = decide (s = normV s)) ∧ (normE s ≠ 0 → rightP s = false) := by
  unfold rightP
  refine ⟨fun h => by simp [h], fun h => by simp [h]⟩
theorem okRight0 : OkRight0 := by
  intro s hq
  refine vcRight0 s ?_
  simp only [true_and, and_true, forall_eq, eq_self]
  refine ⟨hq, cond_prop (fun h => ?_) fun h => ?_⟩
  · rw [(rightP_eq s).1 (by simpa using h)]
    by_cases h2 : s = normV s
    · rw [← h2]; simp
    · rw [decide_eq_false h2, beq_eq_false_iff_ne.2 h2]
  · exact (rightP_eq s).2 (by simpa using h)
theorem okRefRight0 : OkRefRight0 := by
  intro s hq
  refine vcRefRight0 s ?_
  simp only [true_and, and_true, forall_eq, eq_self]
  refine ⟨hq, cond_prop (fun h => ?_) fun h => ?_⟩
  · rw [(rightP_eq s).1 (by simpa using h)]
    by_cases h2 : s = normV s
    · rw [← h2]; simp
    · rw [decide_eq_false h2, beq_eq_false_iff_ne.2 fun e => h2 e.symm]
  · exact (rightP_eq s).2 (by simpa using h)
theorem okRefLetter0 : OkRefLetter0 := by
  intro b hq
  refine vcRefLetter0 b ?_
  simp only [true_and, and_true, forall_eq, eq_self]
  have e : ∀ x : Bool, okRune b = x ↔ (((decide (97 ≤ b) && decide (b ≤ 122)) || (decide (48 ≤ b) && decide (b ≤ 57)) || decide (b = 45) || decide (b = 95)) = x) := fun x => Iff.rfl
  refine cond_prop (fun h1 => cond_prop (fun h2 => ?_) fun h2 => cond_prop (fun h3 => cond_prop (fun h4 => ?_) fun h4 => cond_prop (fun h5 => ?_) fun h5 => ?_) fun h3 => cond_prop (fun h5 => ?_) fun h5 => ?_) fun h1 => cond_prop (fun h3 => cond_prop (fun h4 => ?_) fun h4 => cond_prop (fun h5 => ?_) fun h5 => ?_) fun h3 => cond_prop (fun h5 => ?_) fun h5 => ?_
  all_goals rw [e, Bool.eq_iff_iff]
  all_goals simp at *
  all_goals omega
theorem takeO_eq {o : List (List UInt8)} {p : List UInt8} {r : Option (List (List UInt8))} (h : stepP o p = r) : takeO o p = r.getD [] ∧ takeE o p = if r = none then 30 else 0 := by
  unfold takeO takeE
  rw [h]; exact ⟨rfl, rfl⟩
theorem okRefTake0 : OkRefTake0 := by
  intro xs p hq
  refine vcRefTake0 xs p ?_
  obtain ⟨hs, hx, hp⟩ := hq
  obtain ⟨o, rfl⟩ := hs.get
  simp only [length_strsAV] at hx
  simp only [true_and, and_true, forall_eq, eq_self, length_strsAV, strsL_strsAV, isStrs_strsAV, okWidth_strs, cutL_strs]
  refine cond_prop (fun h => ?_) fun h0 => cond_prop (fun h => ?_) fun h1 => cond_prop (fun h2 => cond_prop (fun h3 => ?_) fun h3 => ?_) fun h2 => ?_
  · obtain ⟨a, b⟩ := takeO_eq (show stepP o p = some o by simp [stepP, eq_of_beq h])
    exact ⟨by rw [a]; rfl, by rw [b]; rfl⟩
  · obtain ⟨a, b⟩ := takeO_eq (show stepP o p = some o by simp [stepP, eq_of_beq h])
    exact ⟨by rw [a]; rfl, by rw [b]; rfl⟩
  · have ho : o = [] := by
      have : o.length = 0 := by simpa using h3
      exact List.length_eq_zero_iff.1 this
    obtain ⟨a, b⟩ := takeO_eq (show stepP o p = none by simp [stepP, eq_of_beq h2, ho])
    exact ⟨by rw [a]; rfl, by rw [b]; rfl⟩
  · have ho : o.length ≠ 0 := by simpa using h3
    have ho' : o ≠ [] := fun e => ho (by rw [e]; rfl)
    obtain ⟨a, b⟩ := takeO_eq (show stepP o p = some o.dropLast by simp [stepP, eq_of_beq h2, ho'])
    rw [wrap_i64 (by omega) (by omega)]
    refine ⟨⟨by omega, by omega⟩, ?_, by rw [b]; rfl⟩
    rw [a]
    congr 1
    rw [List.dropLast_eq_take]
    simp only [cutL, Option.getD_some, List.drop_zero]
    congr 1
    omega
  · have n0 : p ≠ [] := by simpa using h0
    have n1 : p ≠ [46] := by simpa using h1
    have n2 : p ≠ [46, 46] := by simpa using h2
    refine ⟨⟨(0 : Nat), rfl, by omega, by simp⟩, fun i hi => cond_prop (fun h => ?_) fun h => ?_⟩
    · have hlt : i < p.length := by simpa using h
      have hg : p.getD i 0 = p[i] := by simp [List.getD_eq_getElem?_getD, List.getElem?_eq_getElem hlt]
      rw [show ((i : Int)).toNat = i from by omega, okRune_byte, hg]
      refine ⟨⟨by omega, by omega⟩, cond_prop (fun h => ?_) fun h => ⟨(i + 1 : Nat), ?_, ⟨by omega, ?_⟩, by omega⟩⟩
      · have hf : okLetter p[i] = false := by simpa using h
        have hpf : okPart p = false := by
          unfold okPart
          rw [Bool.and_eq_false_iff]; right
          rw [List.all_eq_false]
          exact ⟨p[i], List.getElem_mem hlt, by simp [hf]⟩
        obtain ⟨a, b⟩ := takeO_eq (show stepP o p = none by simp [stepP, n0, n1, n2, hpf])
        exact ⟨by rw [a]; rfl, by rw [b]; rfl⟩
      · rw [wrap_i64 (by omega) (by omega)]; rfl
      · have hf : okLetter p[i] = true := by simpa using h
        rw [List.take_succ_eq_append_getElem hlt, List.all_append, hi.2]
        simp [hf]
    · have hge : ¬ i < p.length := by simpa using h
      have hpt : okPart p = true := by
        have := hi.2
        rw [List.take_of_length_le (by omega)] at this
        unfold okPart
        rw [this]
        cases p with
        | nil => exact absurd rfl n0
        | cons x r => rfl
      obtain ⟨a, b⟩ := takeO_eq (show stepP o p = some (o ++ [p]) by simp [stepP, n0, n1, n2, hpt])
      refine ⟨⟨by omega, by omega⟩, ⟨by omega, by omega, okWidth_strs [p]⟩, ?_, by rw [b]; rfl⟩
      rw [a]
      exact (catL_strs o [p]).symm
theorem mid_start (s : List UInt8) : midP s 0 [] [] := .inl ⟨by omega, [], rfl, rfl⟩
theorem take_snoc {s : List UInt8} {i : Nat} (h : i < s.length) : s.take (i + 1) = s.take i ++ [s.getD i 0] := by
  rw [List.take_succ_eq_append_getElem h]
  simp [List.getD_eq_getElem?_getD, List.getElem?_eq_getElem h]
theorem mid_letter {s : List UInt8} {i : Nat} {l : List (List UInt8)} {p : List UInt8} (h : midP s i l p) (hi : i < s.length) (hc : s.getD i 0 ≠ 47) : midP s (i + 1) l (p ++ [s.getD i 0]) := by
  rcases h with ⟨_, init, h1, h2⟩ | ⟨h1, _⟩
  · exact .inl ⟨by omega, init, by rw [take_snoc hi]; exact segs_snoc hc h1, h2⟩
  · omega
theorem mid_slash {s : List UInt8} {i : Nat} {l : List (List UInt8)} {p : List UInt8} (h : midP s i l p) (hi : i < s.length) (hc : s.getD i 0 = 47) :
    (stepP l p = none → partsP s = none) ∧ ∀ o, stepP l p = some o → midP s (i + 1) o [] := by
  rcases h with ⟨_, init, h1, h2⟩ | ⟨h1, _⟩
  · have e : segs (s.take (i + 1)) = segs (s.take i) ++ [[]] := by rw [take_snoc hi, hc, segs_snoc_slash]
    have e2 : s = s.take i ++ 47 :: s.drop (i + 1) := by
      rw [← hc]
      have : s.drop i = s.getD i 0 :: s.drop (i + 1) := by
        rw [List.drop_eq_getElem_cons hi]
        simp [List.getD_eq_getElem?_getD, List.getElem?_eq_getElem hi]
      rw [← this, List.take_append_drop]
    refine ⟨fun hn => ?_, fun o ho => .inl ⟨by omega, init ++ [p], by rw [e, h1], ?_⟩⟩
    · unfold partsP
      conv => lhs; rw [e2]
      rw [segs_app, h1, walkP_append, walkP_snoc, h2]
      simp [hn]
    · rw [walkP_snoc, h2]; exact ho
  · omega
theorem mid_end {s : List UInt8} {l : List (List UInt8)} {p : List UInt8} (h : midP s s.length l p) : partsP s = stepP l p := by
  rcases h with ⟨_, init, h1, h2⟩ | ⟨h1, _⟩
  · rw [List.take_length] at h1
    unfold partsP
    rw [h1, walkP_snoc, h2]; rfl
  · omega
theorem mid_len {s : List UInt8} {i : Nat} {l : List (List UInt8)} {p : List UInt8} (h : midP s i l p) : l.length ≤ s.length + 1 ∧ p.length ≤ s.length := by
  rcases h with ⟨h0, init, h1, h2⟩ | ⟨h1, h2, h3⟩
  · have a1 := walkP_len h2
    have a2 := segs_len (s.take i)
    rw [h1] at a2
    have a3 : p ∈ segs (s.take i) := by rw [h1]; simp
    have a4 := segs_elem_len a3
    simp at a1 a2 a4
    omega
  · have a1 := walkP_len h2
    have a2 := segs_len s
    subst h3
    simp at a1 ⊢
    omega
theorem okRefParts0 : OkRefParts0 := by
  intro s hq
  refine vcRefParts0 s ?_
  simp only [true_and, and_true, forall_eq, eq_self, length_strsAV, strsL_strsAV, isStrs_strsAV]
  refine ⟨⟨(0, [], []), ⟨rfl, rfl, rfl⟩, mid_start s⟩, ?_⟩
  rintro ⟨i, l, p⟩ hm
  have hlen := mid_len hm
  simp only at hm hlen ⊢
  rw [show ((i : Int)).toNat = i from by omega]
  refine cond_prop (fun h => cond_prop (fun h2 => ⟨⟨by omega, by simpa using h2⟩, cond_prop (fun h3 => ?_) fun h3 => ?_⟩) fun h2 => ?_) fun h => ?_
  · have hlt : i < s.length := by simpa using h2
    have hc : s.getD i 0 ≠ 47 := by
      intro e
      rw [e] at h3; revert h3; decide
    have w1 : IntKind.i64.wrap ((i : Int) + 1) = (i : Int) + 1 := wrap_i64 (by omega) (by omega)
    rw [w1]
    have ec : cutL s i ((i : Int) + 1).toNat = [s.getD i 0] := by
      rw [show ((i : Int) + 1).toNat = i + 1 from by omega]
      unfold cutL
      rw [take_snoc hlt, List.drop_append_of_le_length (by simp; omega)]
      have : (s.take i).drop i = [] := List.drop_eq_nil_of_le (by rw [List.length_take]; omega)
      rw [this]; rfl
    rw [ec]
    refine ⟨⟨by omega, by omega, by omega⟩, by simp; omega, (i + 1, l, p ++ [s.getD i 0]), ⟨rfl, rfl, rfl⟩, mid_letter hm hlt hc, by simp only; omega⟩
  · have hlt : i < s.length := by simpa using h2
    have hc : s.getD i 0 = 47 := by
      apply UInt8.toNat_inj.1
      have : ((s.getD i 0).toNat : Int) = 47 := by simpa using h3
      have h47 : (47 : UInt8).toNat = 47 := rfl
      omega
    have w1 : IntKind.i64.wrap ((i : Int) + 1) = (i : Int) + 1 := wrap_i64 (by omega) (by omega)
    rw [w1]
    obtain ⟨m1, m2⟩ := mid_slash hm hlt hc
    refine ⟨⟨by omega, by omega⟩, cond_prop (fun h4 => ?_) fun h4 => ?_⟩
    · have h5 : takeE l p ≠ 0 := by simpa using h4
      have h6 : stepP l p = none := by
        cases hs : stepP l p with
        | none => rfl
        | some o => exact absurd (by simp [takeE, hs]) h5
      have h7 := m1 h6
      exact ⟨by simp [partsO, h7, strsAV], by simp [walkE, h7, takeE, h6]⟩
    · have h5 : takeE l p = 0 := by simpa using h4
      cases hs : stepP l p with
      | none => simp [takeE, hs] at h5
      | some o =>
        refine ⟨(i + 1, o, []), ⟨by simp [takeO, hs], rfl, rfl⟩, m2 o hs, by simp only; omega⟩
  · have hi : i = s.length := by simp at h h2; omega
    subst hi
    have w1 : IntKind.i64.wrap ((s.length : Int) + 1) = (s.length : Int) + 1 := wrap_i64 (by omega) (by omega)
    rw [w1]
    have m1 := mid_end hm
    refine ⟨⟨by omega, by omega⟩, cond_prop (fun h4 => ?_) fun h4 => ?_⟩
    · have h5 : takeE l p ≠ 0 := by simpa using h4
      have h6 : stepP l p = none := by
        cases hs : stepP l p with
        | none => rfl
        | some o => exact absurd (by simp [takeE, hs]) h5
      rw [h6] at m1
      exact ⟨by simp [partsO, m1, strsAV], by simp [walkE, m1, takeE, h6]⟩
    · have h5 : takeE l p = 0 := by simpa using h4
      cases hs : stepP l p with
      | none => simp [takeE, hs] at h5
      | some o =>
        refine ⟨(s.length + 1, o, []), ⟨by simp [takeO, hs], rfl, rfl⟩, .inr ⟨rfl, by rw [m1, hs], rfl⟩, by simp only; omega⟩
  · have hi : s.length < i := by simp at h; omega
    rcases hm with ⟨h0, _⟩ | ⟨h1, h2, h3⟩
    · omega
    · exact ⟨by simp [partsO, h2], by simp [walkE, h2]⟩
theorem joinP_snoc {l : List (List UInt8)} {i : Nat} (h : i < l.length) : joinP (l.take (i + 1)) = (if i = 0 then [] else joinP (l.take i) ++ [47]) ++ l.getD i [] := by
  have e : l.take (i + 1) = l.take i ++ [l.getD i []] := by
    rw [List.take_succ_eq_append_getElem h]
    simp [List.getD_eq_getElem?_getD, List.getElem?_eq_getElem h]
  rw [e]
  by_cases hi : i = 0
  · subst hi; simp [joinP_one]
  · rw [if_neg hi, joinP_append (fun e => by have : (l.take i).length = 0 := by rw [e]; rfl
                                             rw [List.length_take] at this; omega) (by simp), joinP_one]
    simp
theorem joinP_take_le {l : List (List UInt8)} {i : Nat} : (joinP (l.take i)).length ≤ (joinP l).length := by
  by_cases h1 : l.drop i = []
  · have : l.take i = l := by
      have := List.take_append_drop i l
      rw [h1, List.append_nil] at this; exact this
    rw [this]; omega
  · by_cases h2 : l.take i = []
    · rw [h2, joinP_nil]; simp
    · conv => rhs; rw [← List.take_append_drop i l, joinP_append h2 h1]
      simp
theorem okRefJoin0 : OkRefJoin0 := by
  intro xs hq
  refine vcRefJoin0 xs ?_
  obtain ⟨hb, hl, hn⟩ := hq
  obtain ⟨l, rfl⟩ := hb.get
  simp only [strsL_strsAV, length_strsAV] at hl hn
  simp only [true_and, and_true, forall_eq, eq_self, length_strsAV, strsL_strsAV, isStrs_strsAV]
  refine ⟨⟨(0 : Nat), ⟨rfl, rfl⟩, by omega⟩, fun i hi => cond_prop (fun h => ?_) fun h => ?_⟩
  · have hlt : i < l.length := by simpa using h
    rw [show ((i : Int)).toNat = i from by omega, rdStr_strs hlt]
    have js := joinP_snoc hlt
    have jl := joinP_take_le (l := l) (i := i + 1)
    rw [js] at jl
    have w1 : IntKind.i64.wrap ((i : Int) + 1) = (i : Int) + 1 := wrap_i64 (by omega) (by omega)
    rw [w1]
    refine cond_prop (fun h2 => ?_) fun h2 => ?_
    · have h0 : ¬ i = 0 := by simp at h2; omega
      rw [if_neg h0] at js jl
      simp only [List.length_append, List.length_cons, List.length_nil] at jl
      refine ⟨by omega, ⟨by omega, by omega, okElem_strs hlt⟩, okRead_strs hlt, by rw [catL_length]; simp only [List.length_cons, List.length_nil]; omega, (i + 1 : Nat), ⟨?_, rfl⟩, by omega, by omega⟩
      rw [js]; rfl
    · have h0 : i = 0 := by simp at h2; omega
      rw [if_pos h0] at js jl
      simp only [List.length_append, List.length_nil] at jl
      refine ⟨⟨by omega, by omega, okElem_strs hlt⟩, okRead_strs hlt, by subst h0; rw [List.take_zero, joinP_nil]; simp only [List.length_nil]; omega, (i + 1 : Nat), ⟨?_, rfl⟩, by omega, by omega⟩
      rw [js]; subst h0; rfl
  · have hge : ¬ i < l.length := by simpa using h
    rw [List.take_of_length_le (by omega)]
theorem prefix_iff_take {a b : List (List UInt8)} (h : a.length ≤ b.length) : a.isPrefixOf b = decide (a = b.take a.length) := by
  rw [Bool.eq_iff_iff]
  simp only [List.isPrefixOf_iff_prefix, decide_eq_true_eq]
  exact List.prefix_iff_eq_take
end Go.Proofs.YtddilmocngedjaaDoor
/- The contracts are met. -/
namespace Go.Proofs.YtddilmocngedjaaDoor
set_option linter.unusedVariables false
set_option linter.unusedSimpArgs false
open Go.RowKit
theorem sndNormal : Sound Tryd.prog (lookΓ gamNormal) := sound_of _ fun p hp => by
  simp only [gamNormal, List.mem_cons, List.not_mem_nil, or_false] at hp
  rcases hp with rfl | rfl
  · exact meetsWalk.orNil
  · exact meetsJoin.orNil
set_option maxHeartbeats 4000000 in
theorem meetsNormal : Meets Tryd.prog 31 normalF := by
  refine meets_of_awp (Γ := lookΓ gamNormal) (L := fun _ _ => none) sndNormal mixedOrders Tryd.func31 rfl Tryd.call31 ?_
  intro args q r hF hq ho
  unfold normalF at hF
  split at hF
  · cases hF
    exact ⟨by simp only [List.length_cons, List.length_nil]; decide, okNormal0 _ hq⟩
  · cases hF
theorem sndRight : Sound Tryd.prog (lookΓ gamRight) := sound_of _ fun p hp => by
  simp only [gamRight, List.mem_cons, List.not_mem_nil, or_false] at hp
  subst hp
  exact meetsNormal.orNil
set_option maxHeartbeats 4000000 in
theorem meetsRight : Meets Tryd.prog 69 rightF := by
  refine meets_of_awp (Γ := lookΓ gamRight) (L := fun _ _ => none) sndRight mixedOrders Tryd.func69 rfl Tryd.call69 ?_
  intro args q r hF hq ho
  unfold rightF at hF
  split at hF
  · cases hF
    exact ⟨by simp only [List.length_cons, List.length_nil]; decide, okRight0 _ hq⟩
  · cases hF
theorem sndRefLetter : Sound Tryd.prog (lookΓ gamRefLetter) := sound_of _ fun p hp => by
  simp [gamRefLetter] at hp
set_option maxHeartbeats 4000000 in
theorem meetsRefLetter : Meets Tryd.prog 111 refLetterF := by
  refine meets_of_awp (Γ := lookΓ gamRefLetter) (L := fun _ _ => none) sndRefLetter mixedOrders Tryd.func111 rfl Tryd.call111 ?_
  intro args q r hF hq ho
  unfold refLetterF at hF
  split at hF
  · cases hF
    exact ⟨by simp only [List.length_cons, List.length_nil]; decide, okRefLetter0 _ hq⟩
  · cases hF
theorem sndRefTake : Sound Tryd.prog (lookΓ gamRefTake) := sound_of _ fun p hp => by
  simp only [gamRefTake, List.mem_cons, List.not_mem_nil, or_false] at hp
  subst hp
  exact meetsRefLetter.orNil
set_option maxHeartbeats 4000000 in
theorem meetsRefTake : Meets Tryd.prog 91 refTakeF := by
  refine meets_of_awp (Γ := lookΓ gamRefTake) (L := fun args => match args with | [.val (.sl xs .no), .val (.str p)] => lpRefTake0 xs p | _ => fun _ => none) sndRefTake mixedOrders Tryd.func91 rfl Tryd.call91 ?_
  intro args q r hF hq ho
  unfold refTakeF at hF
  split at hF
  · cases hF
    exact ⟨by simp only [List.length_cons, List.length_nil]; decide, okRefTake0 _ _ hq⟩
  · cases hF
theorem sndRefParts : Sound Tryd.prog (lookΓ gamRefParts) := sound_of _ fun p hp => by
  simp only [gamRefParts, List.mem_cons, List.not_mem_nil, or_false] at hp
  subst hp
  exact meetsRefTake.orNil
set_option maxHeartbeats 4000000 in
theorem meetsRefParts : Meets Tryd.prog 67 refPartsF := by
  refine meets_of_awp (Γ := lookΓ gamRefParts) (L := fun args => match args with | [.val (.str s)] => lpRefParts0 s | _ => fun _ => none) sndRefParts mixedOrders Tryd.func67 rfl Tryd.call67 ?_
  intro args q r hF hq ho
  unfold refPartsF at hF
  split at hF
  · cases hF
    exact ⟨by simp only [List.length_cons, List.length_nil]; decide, okRefParts0 _ hq⟩
  · cases hF
theorem sndRefJoin : Sound Tryd.prog (lookΓ gamRefJoin) := sound_of _ fun p hp => by
  simp [gamRefJoin] at hp
set_option maxHeartbeats 4000000 in
theorem meetsRefJoin : Meets Tryd.prog 68 refJoinF := by
  refine meets_of_awp (Γ := lookΓ gamRefJoin) (L := fun args => match args with | [.val (.sl xs .no)] => lpRefJoin0 xs | _ => fun _ => none) sndRefJoin mixedOrders Tryd.func68 rfl Tryd.call68 ?_
  intro args q r hF hq ho
  unfold refJoinF at hF
  split at hF
  · cases hF
    exact ⟨by simp only [List.length_cons, List.length_nil]; decide, okRefJoin0 _ hq⟩
  · cases hF
theorem sndRefNormal : Sound Tryd.prog (lookΓ gamRefNormal) := sound_of _ fun p hp => by
  simp only [gamRefNormal, List.mem_cons, List.not_mem_nil, or_false] at hp
  rcases hp with rfl | rfl
  · exact meetsRefParts.orNil
  · exact meetsRefJoin.orNil
set_option maxHeartbeats 4000000 in
theorem meetsRefNormal : Meets Tryd.prog 34 refNormalF := by
  refine meets_of_awp (Γ := lookΓ gamRefNormal) (L := fun _ _ => none) sndRefNormal mixedOrders Tryd.func34 rfl Tryd.call34 ?_
  intro args q r hF hq ho
  unfold refNormalF at hF
  split at hF
  · cases hF
    exact ⟨by simp only [List.length_cons, List.length_nil]; decide, okRefNormal0 _ hq⟩
  · cases hF
theorem sndRefRight : Sound Tryd.prog (lookΓ gamRefRight) := sound_of _ fun p hp => by
  simp only [gamRefRight, List.mem_cons, List.not_mem_nil, or_false] at hp
  subst hp
  exact meetsRefNormal.orNil
set_option maxHeartbeats 4000000 in
theorem meetsRefRight : Meets Tryd.prog 15 refRightF := by
  refine meets_of_awp (Γ := lookΓ gamRefRight) (L := fun _ _ => none) sndRefRight mixedOrders Tryd.func15 rfl Tryd.call15 ?_
  intro args q r hF hq ho
  unfold refRightF at hF
  split at hF
  · cases hF
    exact ⟨by simp only [List.length_cons, List.length_nil]; decide, okRefRight0 _ hq⟩
  · cases hF
end Go.Proofs.YtddilmocngedjaaDoor
