/- Contracts by content, their conditions, and that they are met: Mt. -/
import Derived.Test.YtddilmocngedjaaDoorMtM
import Derived.Test.YtddilmocngedjaaDoorLaxPkPth
import Derived.Test.YtddilmocngedjaaDoorLaxPkMr
import Derived.Test.YtddilmocngedjaaDoorLaxWrap
/- Contracts by content, and the conditions that their code must meet. -/
namespace Go.Proofs.YtddilmocngedjaaDoor
set_option linter.unusedVariables false
set_option linter.unusedSimpArgs false
open Go.RowKit
def okLp (p : List UInt8) : Bool := decide (p = [42]) || decide (p = [42, 42]) || rightP p
def lpatOk (s : List UInt8) : Bool := (segs s).all okLp && decide ((segs s).length ≤ 8) && decide (s.length ≤ 64)
def loopPat (s : List UInt8) : LoopInv :=
  { V := Nat
    T := fun i => [(0, .str s), (3, .sl (strsAV (segs s)) .no), (8, .sl (strsAV (segs s)) .no), (9, .int .i64 ((segs s).length : Int)), (10, .int .i64 (i : Int))]
    B := fun i => []
    R := fun i => []
    inv := fun i => i ≤ (segs s).length ∧ ((segs s).take i).all okLp = true
    mu := fun i => (segs s).length - i }
def aboveF : Con
  | [.val (.str p), .val (.str q)] => (some (p.length ≤ 1000000 ∧ q.length ≤ 1000000, ⟨.bool (aboveP p q), none, none⟩))
  | _ => none
def gamAbove : List (Nat × Con) := [(69, rightF.orNil), (88, hasPrefixF.orNil)]
def lpAbove0 (p q : List UInt8) : Nat → Option LoopPlan := fun _ => none
def inAbove0 (p q : List UInt8) : Prop := awp [] (lpAbove0 p q) (lookΓ gamAbove) Tryd.prog Tryd.f64.ntmps 0 (Tryd.f64.body.getD .skip) (entrySt [.val (.str p), .val (.str q)]) (exitQ Tryd.prog Tryd.f64.results.toList [] ⟨.bool (aboveP p q), none, none⟩)
def OkAbove0 : Prop := ∀ (p q : List UInt8), p.length ≤ 1000000 ∧ q.length ≤ 1000000 → inAbove0 p q
def overlapF : Con
  | [.val (.str p), .val (.str q)] => (some (p.length ≤ 1000000 ∧ q.length ≤ 1000000, ⟨.bool (aboveP p q || aboveP q p), none, none⟩))
  | _ => none
def gamOverlap : List (Nat × Con) := [(64, aboveF.orNil)]
def lpOverlap0 (p q : List UInt8) : Nat → Option LoopPlan := fun _ => none
def inOverlap0 (p q : List UInt8) : Prop := awp [] (lpOverlap0 p q) (lookΓ gamOverlap) Tryd.prog Tryd.f32.ntmps 0 (Tryd.f32.body.getD .skip) (entrySt [.val (.str p), .val (.str q)]) (exitQ Tryd.prog Tryd.f32.results.toList [] ⟨.bool (aboveP p q || aboveP q p), none, none⟩)
def OkOverlap0 : Prop := ∀ (p q : List UInt8), p.length ≤ 1000000 ∧ q.length ≤ 1000000 → inOverlap0 p q
def anchor04F : Con
  | [] => (some (True, ⟨.bool true, none, none⟩))
  | _ => none
def gamAnchor04 : List (Nat × Con) := [(31, normalF.orNil), (32, overlapF.orNil)]
def lpAnchor040  : Nat → Option LoopPlan := fun _ => none
def inAnchor040  : Prop := awp [] (lpAnchor040) (lookΓ gamAnchor04) Tryd.prog Tryd.f12.ntmps 0 (Tryd.f12.body.getD .skip) (entrySt []) (exitQ Tryd.prog Tryd.f12.results.toList [] ⟨.bool true, none, none⟩)
def OkAnchor040 : Prop := True → inAnchor040
def lpatternF : Con
  | [.val (.str s)] => (some (s.length ≤ 1000, ⟨.bool (lpatOk s), none, none⟩))
  | _ => none
def gamLpattern : List (Nat × Con) := [(19, lpartsF.orNil), (15, refRightF.orNil)]
def lpLpattern0 (s : List UInt8) : Nat → Option LoopPlan := fun b => bif Nat.beq b 0 then some (.inv [] (loopPat s)) else none
def inLpattern0 (s : List UInt8) : Prop := awp [] (lpLpattern0 s) (lookΓ gamLpattern) Tryd.prog Tryd.f13.ntmps 0 (Tryd.f13.body.getD .skip) (entrySt [.val (.str s)]) (exitQ Tryd.prog Tryd.f13.results.toList [] ⟨.bool (lpatOk s), none, none⟩)
def OkLpattern0 : Prop := ∀ (s : List UInt8), s.length ≤ 1000 → inLpattern0 s
def patternBF : Con
  | [.val (.str s)] => (some (s.length ≤ 1000000, ⟨.bool (patOk s), none, none⟩))
  | _ => none
def gamPatternB : List (Nat × Con) := [(33, patternF.orNil)]
def lpPatternB0 (s : List UInt8) : Nat → Option LoopPlan := fun _ => none
def inPatternB0 (s : List UInt8) : Prop := awp [] (lpPatternB0 s) (lookΓ gamPatternB) Tryd.prog Tryd.f14.ntmps 0 (Tryd.f14.body.getD .skip) (entrySt [.val (.str s)]) (exitQ Tryd.prog Tryd.f14.results.toList [] ⟨.bool (patOk s), none, none⟩)
def OkPatternB0 : Prop := ∀ (s : List UInt8), s.length ≤ 1000000 → inPatternB0 s
def depthF : Con
  | [.val (.str s)] => (some (s.length ≤ 1000000, ⟨.int .i64 ((partsV s).length : Int), none, none⟩))
  | _ => none
def gamDepth : List (Nat × Con) := [(35, pathPartsF.orNil)]
def lpDepth0 (s : List UInt8) : Nat → Option LoopPlan := fun _ => none
def inDepth0 (s : List UInt8) : Prop := awp [] (lpDepth0 s) (lookΓ gamDepth) Tryd.prog Tryd.f17.ntmps 0 (Tryd.f17.body.getD .skip) (entrySt [.val (.str s)]) (exitQ Tryd.prog Tryd.f17.results.toList [] ⟨.int .i64 ((partsV s).length : Int), none, none⟩)
def OkDepth0 : Prop := ∀ (s : List UInt8), s.length ≤ 1000000 → inDepth0 s
def lawMatchesF : Con
  | [.val (.str s), .val (.str p)] => (some (s.length ≤ 9223372036854775807 ∧ p.length ≤ 9223372036854775807, ⟨.bool true, none, none⟩))
  | _ => none
def gamLawMatches : List (Nat × Con) := [(12, anchor04F.orNil), (13, lpatternF.orNil), (14, patternBF.orNil), (15, refRightF.orNil), (16, matchF.orNil), (17, depthF.orNil), (19, lpartsF.orNil), (18, meansF.orNil)]
def lpLawMatches0 (s p : List UInt8) : Nat → Option LoopPlan := fun _ => none
def inLawMatches0 (s p : List UInt8) : Prop := awp [] (lpLawMatches0 s p) (lookΓ gamLawMatches) Tryd.prog Tryd.f4.ntmps 0 (Tryd.f4.body.getD .skip) (entrySt [.val (.str s), .val (.str p)]) (exitQ Tryd.prog Tryd.f4.results.toList [] ⟨.bool true, none, none⟩)
def OkLawMatches0 : Prop := ∀ (s p : List UInt8), s.length ≤ 9223372036854775807 ∧ p.length ≤ 9223372036854775807 → inLawMatches0 s p
end Go.Proofs.YtddilmocngedjaaDoor
/- What the verification conditions come to: printed by a program of ours (wip/lax/ex/Norm.lean). -/
namespace Go.Proofs.YtddilmocngedjaaDoor
set_option linter.unusedVariables false
open Go.RowKit
set_option maxRecDepth 100000
theorem vcAbove0 (p : (List UInt8)) (q : (List UInt8)) (h : (tt ∧ T1 ∧ tt ∧ T1 ∧ (T1 ∧ (List.length p) ≤ 1000000) ∧ T1 ∧ (bif (rightP p) then (T1 ∧ (T1 ∧ (List.length q) ≤ 1000000) ∧ T1 ∧ T1 ∧ (bif (rightP q) then (T1 ∧ T1 ∧ T1 ∧ T1 ∧ (bif (@BEq.beq.{0} (List UInt8) (@List.instBEq.{0} UInt8 (@instBEqOfDecidableEq.{0} UInt8 instDecidableEqUInt8)) p q) then (tt ∧ T1 ∧ T1 ∧ tt ∧ tt ∧ ((aboveP p q) = true ∧ True) ∧ tt) else (T1 ∧ T1 ∧ ((List.length p) + 1) ≤ 9223372036854775807 ∧ (T1 ∧ True) ∧ T1 ∧ T1 ∧ T1 ∧ tt ∧ tt ∧ ((aboveP p q) = (@List.isPrefixOf.{0} UInt8 (@instBEqOfDecidableEq.{0} UInt8 instDecidableEqUInt8) (@catL UInt8 p [(47 : UInt8)]) q) ∧ True) ∧ tt))) else (false = false ∧ T1 ∧ tt ∧ tt ∧ ((aboveP p q) = false ∧ True) ∧ tt))) else (false = false ∧ T1 ∧ false = false ∧ T1 ∧ tt ∧ tt ∧ ((aboveP p q) = false ∧ True) ∧ tt)))) : inAbove0 p q :=
  Eq.mp (show _ = _ by kernel_rfl) h
theorem vcOverlap0 (p : (List UInt8)) (q : (List UInt8)) (h : (tt ∧ T1 ∧ tt ∧ T1 ∧ T1 ∧ (T1 ∧ (List.length p) ≤ 1000000 ∧ (List.length q) ≤ 1000000) ∧ T1 ∧ (bif (aboveP p q) then (tt ∧ T1 ∧ tt ∧ tt ∧ ((Bool.or (aboveP p q) (aboveP q p)) = true ∧ True) ∧ tt) else (T1 ∧ T1 ∧ (T1 ∧ (List.length q) ≤ 1000000 ∧ (List.length p) ≤ 1000000) ∧ T1 ∧ T1 ∧ tt ∧ tt ∧ ((Bool.or (aboveP p q) (aboveP q p)) = (aboveP q p) ∧ True) ∧ tt)))) : inOverlap0 p q :=
  Eq.mp (show _ = _ by kernel_rfl) h
theorem vcAnchor040 (h : (tt ∧ T1 ∧ tt ∧ (T1 ∧ 10 ≤ 1000000) ∧ ∀ v0 : (List UInt8), (v0 = (normV [(47 : UInt8), 97, 47, 47, 98, 47, 46, 46, 47, 99])) → ∀ v2 : Int, (v2 = 0) → T1 ∧ T1 ∧ T1 ∧ T1 ∧ T1 ∧ tt ∧ T1 ∧ T1 ∧ T1 ∧ (bif (@BEq.beq.{0} (List UInt8) (@List.instBEq.{0} UInt8 (@instBEqOfDecidableEq.{0} UInt8 instDecidableEqUInt8)) v0 [(97 : UInt8), 47, 99]) then (T1 ∧ T1 ∧ T1 ∧ T1 ∧ (bif (v2 == 0) then ((T1 ∧ 1 ≤ 1000000 ∧ 3 ≤ 1000000) ∧ T1 ∧ T1 ∧ (T1 ∧ 3 ≤ 1000000 ∧ 3 ≤ 1000000) ∧ T1 ∧ T1 ∧ T1 ∧ (T1 ∧ 1 ≤ 1000000 ∧ 2 ≤ 1000000) ∧ T1 ∧ T1 ∧ T1 ∧ tt ∧ tt ∧ (tt ∧ True) ∧ tt) else (false = false ∧ T1 ∧ false = false ∧ T1 ∧ false = false ∧ T1 ∧ tt ∧ tt ∧ (true = false ∧ True) ∧ tt))) else (false = false ∧ T1 ∧ false = false ∧ T1 ∧ false = false ∧ T1 ∧ false = false ∧ T1 ∧ tt ∧ tt ∧ (true = false ∧ True) ∧ tt)))) : inAnchor040 :=
  Eq.mp (show _ = _ by kernel_rfl) h
theorem vcLpattern0 (s : (List UInt8)) (h : let q0 := (List.length (segs s)); let q1 := (strsAV (segs s)); (tt ∧ T1 ∧ tt ∧ T1 ∧ (T1 ∧ (List.length s) ≤ 1000) ∧ ∀ v0 : (List AV), (v0 = q1) → T1 ∧ tt ∧ T1 ∧ T1 ∧ T1 ∧ (@Exists.{1} (loopPat s).V (fun (v2 : Nat) => ((((AV.str s) = (AV.str s) ∧ (AV.sl v0 Own.no) = (AV.sl q1 Own.no) ∧ (AV.sl v0 Own.no) = (AV.sl q1 Own.no) ∧ (AV.int IntKind.i64 ((List.length v0) : Int)) = (AV.int IntKind.i64 (q0 : Int)) ∧ (AV.int IntKind.i64 0) = (AV.int IntKind.i64 (v2 : Int)) ∧ True) ∧ T1 ∧ T1 ∧ tt ∧ tt) ∧ v2 ≤ q0 ∧ (@List.all.{0} (List UInt8) (@List.take.{0} (List UInt8) v2 (segs s)) okLp) = true))) ∧ ∀ v2 : Nat, (v2 ≤ q0 ∧ (@List.all.{0} (List UInt8) (@List.take.{0} (List UInt8) v2 (segs s)) okLp) = true) → tt ∧ T1 ∧ (bif (decide ((v2 : Int) < (q0 : Int))) then (tt ∧ ((0 : Int) ≤ (v2 : Int) ∧ (v2 : Int) < ((List.length q1) : Int) ∧ (okElem 1 q1 (Int.toNat (v2 : Int)))) ∧ (okRead [Kd.str] (elemAt q1 (Int.toNat (v2 : Int))) 0) ∧ T1 ∧ tt ∧ T1 ∧ T1 ∧ T1 ∧ (bif (Bool.not (@BEq.beq.{0} (List UInt8) (@List.instBEq.{0} UInt8 (@instBEqOfDecidableEq.{0} UInt8 instDecidableEqUInt8)) (rdStr (elemAt q1 (Int.toNat (v2 : Int))) 0) [(42 : UInt8)])) then (T1 ∧ T1 ∧ T1 ∧ T1 ∧ (bif (Bool.not (@BEq.beq.{0} (List UInt8) (@List.instBEq.{0} UInt8 (@instBEqOfDecidableEq.{0} UInt8 instDecidableEqUInt8)) (rdStr (elemAt q1 (Int.toNat (v2 : Int))) 0) [(42 : UInt8), 42])) then (T1 ∧ (T1 ∧ (List.length (rdStr (elemAt q1 (Int.toNat (v2 : Int))) 0)) ≤ 900000) ∧ T1 ∧ T1 ∧ (bif (Bool.not (rightP (rdStr (elemAt q1 (Int.toNat (v2 : Int))) 0))) then (tt ∧ T1 ∧ tt ∧ tt ∧ ((lpatOk s) = false ∧ True) ∧ tt) else (tt ∧ T1 ∧ T1 ∧ (@Exists.{1} (loopPat s).V (fun (v4 : Nat) => ((((AV.str s) = (AV.str s) ∧ (AV.sl q1 Own.no) = (AV.sl q1 Own.no) ∧ (AV.sl q1 Own.no) = (AV.sl q1 Own.no) ∧ (AV.int IntKind.i64 (q0 : Int)) = (AV.int IntKind.i64 (q0 : Int)) ∧ (AV.int IntKind.i64 (IntKind.wrap IntKind.i64 ((v2 : Int) + (1 : Int)))) = (AV.int IntKind.i64 (v4 : Int)) ∧ True) ∧ T1 ∧ T1 ∧ tt ∧ tt) ∧ (v4 ≤ q0 ∧ (@List.all.{0} (List UInt8) (@List.take.{0} (List UInt8) v4 (segs s)) okLp) = true) ∧ (q0 - v4) < (q0 - v2))))))) else (false = false ∧ tt ∧ T1 ∧ T1 ∧ (@Exists.{1} (loopPat s).V (fun (v4 : Nat) => ((((AV.str s) = (AV.str s) ∧ (AV.sl q1 Own.no) = (AV.sl q1 Own.no) ∧ (AV.sl q1 Own.no) = (AV.sl q1 Own.no) ∧ (AV.int IntKind.i64 (q0 : Int)) = (AV.int IntKind.i64 (q0 : Int)) ∧ (AV.int IntKind.i64 (IntKind.wrap IntKind.i64 ((v2 : Int) + (1 : Int)))) = (AV.int IntKind.i64 (v4 : Int)) ∧ True) ∧ T1 ∧ T1 ∧ tt ∧ tt) ∧ (v4 ≤ q0 ∧ (@List.all.{0} (List UInt8) (@List.take.{0} (List UInt8) v4 (segs s)) okLp) = true) ∧ (q0 - v4) < (q0 - v2))))))) else (false = false ∧ T1 ∧ false = false ∧ tt ∧ T1 ∧ T1 ∧ (@Exists.{1} (loopPat s).V (fun (v4 : Nat) => ((((AV.str s) = (AV.str s) ∧ (AV.sl q1 Own.no) = (AV.sl q1 Own.no) ∧ (AV.sl q1 Own.no) = (AV.sl q1 Own.no) ∧ (AV.int IntKind.i64 (q0 : Int)) = (AV.int IntKind.i64 (q0 : Int)) ∧ (AV.int IntKind.i64 (IntKind.wrap IntKind.i64 ((v2 : Int) + (1 : Int)))) = (AV.int IntKind.i64 (v4 : Int)) ∧ True) ∧ T1 ∧ T1 ∧ tt ∧ tt) ∧ (v4 ≤ q0 ∧ (@List.all.{0} (List UInt8) (@List.take.{0} (List UInt8) v4 (segs s)) okLp) = true) ∧ (q0 - v4) < (q0 - v2))))))) else (tt ∧ T1 ∧ T1 ∧ T1 ∧ T1 ∧ (bif (decide (((List.length q1) : Int) ≤ 8)) then (T1 ∧ T1 ∧ T1 ∧ T1 ∧ T1 ∧ tt ∧ tt ∧ ((lpatOk s) = (decide (((List.length s) : Int) ≤ 64)) ∧ True) ∧ tt) else (false = false ∧ T1 ∧ tt ∧ tt ∧ ((lpatOk s) = false ∧ True) ∧ tt)))))) : inLpattern0 s :=
  Eq.mp (show _ = _ by kernel_rfl) h
theorem vcPatternB0 (s : (List UInt8)) (h : (tt ∧ T1 ∧ tt ∧ T1 ∧ (T1 ∧ (List.length s) ≤ 1000000) ∧ ∀ v0 : (List AV), (v0 = (strsAV (patV s))) → T1 ∧ T1 ∧ T1 ∧ T1 ∧ T1 ∧ tt ∧ T1 ∧ T1 ∧ tt ∧ tt ∧ ((patOk s) = (patOk s) ∧ True) ∧ tt)) : inPatternB0 s :=
  Eq.mp (show _ = _ by kernel_rfl) h
theorem vcDepth0 (s : (List UInt8)) (h : (tt ∧ T1 ∧ tt ∧ T1 ∧ (T1 ∧ (List.length s) ≤ 1000000) ∧ ∀ v0 : (List AV), (v0 = (strsAV (partsV s))) → T1 ∧ T1 ∧ tt ∧ tt ∧ (((List.length (partsV s)) : Int) = ((List.length v0) : Int) ∧ True) ∧ tt)) : inDepth0 s :=
  Eq.mp (show _ = _ by kernel_rfl) h
theorem vcLawMatches0 (s : (List UInt8)) (p : (List UInt8)) (h : let q0 := (List.length p); let q1 := (List.length s); let w1_x := (T1 ∧ q1 ≤ 1000000 ∧ q0 ≤ 1000000); let w2_x := (true = false ∧ True); let w0_x := (false = false ∧ T1 ∧ tt ∧ tt ∧ w2_x ∧ tt); let w3_x := ((List.length (partsV p)) : Int); (tt ∧ T1 ∧ tt ∧ (T1 ∧ True) ∧ T1 ∧ tt ∧ T1 ∧ T1 ∧ T1 ∧ T1 ∧ (bif (decide ((100 : Int) < (q1 : Int))) then (tt ∧ tt ∧ T1 ∧ tt ∧ tt ∧ (tt ∧ True) ∧ tt) else (T1 ∧ T1 ∧ T1 ∧ T1 ∧ (bif (decide ((100 : Int) < (q0 : Int))) then (tt ∧ T1 ∧ tt ∧ tt ∧ (tt ∧ True) ∧ tt) else (tt ∧ T1 ∧ (T1 ∧ q1 ≤ 1000) ∧ T1 ∧ tt ∧ T1 ∧ (T1 ∧ q1 ≤ 1000000) ∧ T1 ∧ T1 ∧ (bif (Bool.not (@BEq.beq.{0} Bool (@instBEqOfDecidableEq.{0} Bool instDecidableEqBool) (patOk s) (lpatOk s))) then (tt ∧ T1 ∧ tt ∧ tt ∧ w2_x ∧ tt) else (tt ∧ T1 ∧ T1 ∧ T1 ∧ (bif (Bool.not (lpatOk s)) then (tt ∧ tt ∧ T1 ∧ T1 ∧ w1_x ∧ T1 ∧ T1 ∧ (bif (Bool.not (matchP s p)) then (T1 ∧ (T1 ∧ q0 ≤ 1000000) ∧ ∀ v0 : Int, (v0 = w3_x) → T1 ∧ T1 ∧ (T1 ∧ q0 ≤ 900000) ∧ T1 ∧ T1 ∧ T1 ∧ tt ∧ tt ∧ (true = (@BEq.beq.{0} Bool (@instBEqOfDecidableEq.{0} Bool instDecidableEqBool) (decide ((0 : Int) < v0)) (rightP p)) ∧ True) ∧ tt) else w0_x)) else (T1 ∧ (T1 ∧ q0 ≤ 900000) ∧ T1 ∧ T1 ∧ (bif (Bool.not (rightP p)) then (tt ∧ T1 ∧ T1 ∧ w1_x ∧ T1 ∧ T1 ∧ (bif (Bool.not (matchP s p)) then (T1 ∧ (T1 ∧ q0 ≤ 1000000) ∧ ∀ v0 : Int, (v0 = w3_x) → T1 ∧ T1 ∧ (T1 ∧ q0 ≤ 900000) ∧ T1 ∧ T1 ∧ T1 ∧ tt ∧ tt ∧ (true = (@BEq.beq.{0} Bool (@instBEqOfDecidableEq.{0} Bool instDecidableEqBool) (decide ((0 : Int) < v0)) (rightP p)) ∧ True) ∧ tt) else w0_x)) else (tt ∧ T1 ∧ T1 ∧ w1_x ∧ T1 ∧ (T1 ∧ q1 ≤ 1000) ∧ ∀ v0 : (List AV), (v0 = (strsAV (segs s))) → T1 ∧ (T1 ∧ q0 ≤ 1000) ∧ ∀ v2 : (List AV), (v2 = (strsAV (segs p))) → (T1 ∧ (isStrs v0) ∧ (isStrs v2)) ∧ T1 ∧ T1 ∧ (bif (@BEq.beq.{0} Bool (@instBEqOfDecidableEq.{0} Bool instDecidableEqBool) (matchP s p) (meansP (strsL v0) (strsL v2))) then (T1 ∧ (T1 ∧ 2 ≤ 1000000 ∧ q0 ≤ 1000000) ∧ T1 ∧ T1 ∧ (bif (matchP [(42 : UInt8), 42] p) then (T1 ∧ T1 ∧ (T1 ∧ q0 ≤ 1000000 ∧ q0 ≤ 1000000) ∧ T1 ∧ T1 ∧ (bif (matchP p p) then (T1 ∧ (T1 ∧ q0 ≤ 1000000) ∧ ∀ v4 : Int, (v4 = w3_x) → T1 ∧ (T1 ∧ q0 ≤ 1000) ∧ ∀ v6 : (List AV), (v6 = (strsAV (segs p))) → T1 ∧ T1 ∧ T1 ∧ T1 ∧ tt ∧ tt ∧ (true = (v4 == ((List.length v6) : Int)) ∧ True) ∧ tt) else w0_x)) else (false = false ∧ T1 ∧ false = false ∧ T1 ∧ tt ∧ tt ∧ w2_x ∧ tt))) else (false = false ∧ T1 ∧ false = false ∧ T1 ∧ false = false ∧ T1 ∧ tt ∧ tt ∧ w2_x ∧ tt)))))))))))))) : inLawMatches0 s p :=
  Eq.mp (show _ = _ by kernel_rfl) h
end Go.Proofs.YtddilmocngedjaaDoor
/- The conditions of paths' patterns hold. -/
namespace Go.Proofs.YtddilmocngedjaaDoor
set_option linter.unusedVariables false
set_option linter.unusedSimpArgs false
open Go.RowKit
set_option maxRecDepth 100000
theorem means_nil : ∀ r : List (List UInt8), meansP r [] = r.all starB
  | [] => by rw [meansP]; rfl
  | p :: r => by rw [meansP, means_nil r, List.all_cons]; rfl
theorem means_next (l : List (List UInt8)) (x : List UInt8) (ps : List (List UInt8)) : ∀ (r : List (List UInt8)) (k : Nat), l.drop k = r → meansP r (x :: ps) = (nextQ r k x).any fun k' => meansP (l.drop k') ps
  | [], k, h => by rw [meansP]; rfl
  | p :: r, k, h => by
    have h1 : l.drop (k + 1) = r := by rw [← List.drop_drop, h]; rfl
    rw [meansP]
    unfold nextQ
    by_cases hp : p = [42, 42]
    · rw [if_pos hp, if_pos hp, List.any_append, ← means_next l x ps r (k + 1) h1]
      simp [h]
    · rw [if_neg hp, if_neg hp]
      by_cases hq : p = [42] ∨ p = x
      · rw [if_pos hq]; simp [hq, h1]
      · rw [if_neg hq]; simp [hq]
theorem any_flat (f : Nat → List Nat) (g : Nat → Bool) : ∀ zs : List Nat, (zs.flatMap f).any g = zs.any fun k => (f k).any g
  | [] => rfl
  | z :: r => by rw [List.flatMap_cons, List.any_append, any_flat f g r]; rfl
theorem reach_means (l : List (List UInt8)) : ∀ (ps : List (List UInt8)) (zs : List Nat), (ps.foldl (stepL l) zs).any (endsP l) = zs.any fun k => meansP (l.drop k) ps
  | [], zs => by
    simp only [List.foldl_nil]
    congr 1
    funext k
    rw [means_nil]; rfl
  | x :: ps, zs => by
    rw [List.foldl_cons, reach_means l ps]
    unfold stepL
    rw [any_flat]
    congr 1
    funext k
    unfold nextP
    rw [← means_next l x ps (l.drop k) k rfl]
theorem matchB_means (l ps : List (List UInt8)) : matchB l ps = meansP l ps := by
  unfold matchB reachL
  rw [reach_means]
  simp
theorem means_all : ∀ ps : List (List UInt8), meansP [[42, 42]] ps = true
  | [] => by rw [means_nil]; rfl
  | x :: ps => by rw [meansP, if_pos rfl, means_all ps, Bool.or_true]
theorem means_self : ∀ l : List (List UInt8), (∀ x ∈ l, okPart x = true) → meansP l l = true
  | [], _ => by rw [meansP]; rfl
  | a :: l, h => by
    have ha : a ≠ [42, 42] := by
      rintro rfl
      have := h [42, 42] (by simp)
      revert this; decide
    rw [meansP, if_neg ha, means_self l fun x hx => h x (by simp [hx])]
    simp
theorem segs_no : ∀ (s : List UInt8), ∀ x ∈ segs s, (47 : UInt8) ∉ x
  | [], x, hx => by
    simp [segs] at hx; subst hx; simp
  | c :: r, x, hx => by
    by_cases hc : c = 47
    · subst hc
      rw [segs_slash] at hx
      rcases List.mem_cons.1 hx with rfl | h
      · simp
      · exact segs_no r x h
    · rw [segs_other hc] at hx
      obtain ⟨y, t, ht⟩ : ∃ y t, segs r = y :: t := by
        cases h : segs r with
        | nil => exact absurd h (segs_ne r)
        | cons y t => exact ⟨y, t, rfl⟩
      rw [ht] at hx
      rcases List.mem_cons.1 hx with rfl | h
      · have := segs_no r y (by rw [ht]; simp)
        intro h'
        rcases List.mem_cons.1 h' with h2 | h2
        · exact hc h2.symm
        · exact this h2
      · exact segs_no r x (by rw [ht]; simp at h ⊢; exact .inr h)
theorem right_plain {p : List UInt8} (h : (47 : UInt8) ∉ p) (hl : p.length ≤ 64) : rightP p = okPart p := by
  rw [Bool.eq_iff_iff]
  constructor
  · intro hr
    obtain ⟨l, hl⟩ := (rightP_iff p).1 hr
    have e := hl.segs
    rw [segs_plain h] at e
    exact hl.ok p (by rw [← e]; simp)
  · intro hk
    exact (rightP_iff p).2 ⟨[p], ⟨by simp, by simpa using hk, by simp, hl, by rw [joinP_one]⟩⟩
theorem lpatOk_eq (s : List UInt8) : lpatOk s = patOk s := by
  unfold lpatOk patOk
  by_cases h : s.length ≤ 64
  · have e : (segs s).all okLp = (segs s).all okPat := by
      rw [Bool.eq_iff_iff, List.all_eq_true, List.all_eq_true]
      have hx : ∀ x ∈ segs s, okLp x = okPat x := fun x hx => by
        unfold okLp okPat
        rw [right_plain (segs_no s x hx) (by have := segs_elem_len hx; omega)]
      exact ⟨fun h x hm => by rw [← hx x hm]; exact h x hm, fun h x hm => by rw [hx x hm]; exact h x hm⟩
    rw [e]
    simp only [h, decide_true, Bool.and_true, Bool.true_and]
    exact Bool.and_comm _ _
  · simp [h]
theorem match_eq {s p : List UInt8} (hs : patOk s = true) (hp : rightP p = true) : matchP s p = meansP (segs s) (segs p) := by
  unfold matchP
  have e : partsV p = segs p := by unfold partsV; rw [if_pos hp]
  rw [e, hs, matchB_means]
  have : (segs p).isEmpty = false := by
    cases h : segs p with
    | nil => exact absurd h (segs_ne p)
    | cons _ _ => rfl
  rw [this]; rfl
theorem match_none {s p : List UInt8} (h : patOk s = false ∨ rightP p = false) : matchP s p = false := by
  unfold matchP
  rcases h with h | h
  · rw [h]; rfl
  · have e : partsV p = [] := by unfold partsV; rw [h]; rfl
    rw [e]; simp
theorem match_all {p : List UInt8} (hp : rightP p = true) : matchP [42, 42] p = true := by
  have h1 : segs [42, 42] = [[42, 42]] := segs_plain (by decide)
  rw [match_eq (by unfold patOk; rw [h1]; decide) hp, h1, means_all]
theorem match_self {p : List UInt8} (hp : rightP p = true) : matchP p p = true := by
  obtain ⟨l, hl⟩ := (rightP_iff p).1 hp
  have e := hl.segs
  have hok : patOk p = true := by
    unfold patOk
    have ha : (segs p).all okPat = true := by
      rw [List.all_eq_true, e]
      intro x hx
      unfold okPat
      rw [hl.ok x hx, Bool.or_true]
    have h1 := hl.short
    have h2 := hl.few
    rw [ha, e]; simp [h1, h2]
  rw [match_eq hok hp, e]
  exact means_self l hl.ok
theorem depth_right (p : List UInt8) : decide ((0 : Int) < ((partsV p).length : Int)) = rightP p := by
  unfold partsV
  cases h : rightP p with
  | false => simp
  | true =>
    have := List.length_pos_iff.2 (segs_ne p)
    simp; omega
theorem okAbove0 : OkAbove0 := by
  intro p q hq
  refine vcAbove0 p q ?_
  simp only [true_and, and_true, forall_eq, eq_self]
  refine ⟨hq.1, cond_prop (fun h => ⟨hq.2, cond_prop (fun h2 => cond_prop (fun h3 => ?_) fun h3 => ?_) fun h2 => ?_⟩) fun h => ?_⟩
  · simp [aboveP, h, h2, eq_of_beq h3]
  · refine ⟨by omega, ?_⟩
    have : p ≠ q := by simpa using h3
    simp [aboveP, h, h2, this, catL]
  · simp [aboveP, h2]
  · simp [aboveP, h]
theorem okOverlap0 : OkOverlap0 := by
  intro p q hq
  refine vcOverlap0 p q ?_
  simp only [true_and, and_true, forall_eq, eq_self]
  exact ⟨hq, cond_prop (fun h => by rw [h]; rfl) fun h => ⟨⟨hq.2, hq.1⟩, by rw [h]; rfl⟩⟩
theorem okAnchor040 : OkAnchor040 := by
  intro hq
  refine vcAnchor040 ?_
  have e : normV [47, 97, 47, 47, 98, 47, 46, 46, 47, 99] = [97, 47, 99] := by decide +kernel
  simp only [true_and, and_true, forall_eq, eq_self, e, beq_self_eq_true, cond_true]
  refine ⟨by omega, ⟨by omega, by omega⟩, ⟨by omega, by omega⟩, by omega, by omega⟩
theorem okPatternB0 : OkPatternB0 := by
  intro s hq
  refine vcPatternB0 s ?_
  simp only [true_and, and_true, forall_eq, eq_self]
  exact hq
theorem okDepth0 : OkDepth0 := by
  intro s hq
  refine vcDepth0 s ?_
  simp only [true_and, and_true, forall_eq, eq_self, length_strsAV]
  exact hq
theorem okLpattern0 : OkLpattern0 := by
  intro s hq
  refine vcLpattern0 s ?_
  have hsl := segs_len s
  simp only [true_and, and_true, forall_eq, eq_self, length_strsAV]
  refine ⟨hq, ⟨(0 : Nat), by simp⟩, fun i hi => cond_prop (fun h => ?_) fun h => ?_⟩
  · obtain ⟨hi1, hi2⟩ := hi
    have hlt : i < (segs s).length := by simpa using h
    rw [Int.toNat_natCast, rdStr_strs hlt]
    have hx : (segs s)[i]? = some ((segs s).getD i []) := by simp [List.getD, List.getElem?_eq_getElem hlt]
    have hxl := segs_elem_len (List.mem_of_getElem? hx)
    generalize hxx : (segs s).getD i [] = x at *
    have next : okLp x = true → i + 1 ≤ (segs s).length ∧ ((segs s).take (i + 1)).all okLp = true := fun hk => ⟨by omega, by rw [List.take_add_one, hx, List.all_append, hi2]; simp [hk]⟩
    have bad : okLp x = false → lpatOk s = false := fun hk => by
      have : (segs s).all okLp = false := by
        rw [List.all_eq_false]
        exact ⟨x, List.mem_of_getElem? hx, by rw [hk]; simp⟩
      unfold lpatOk; rw [this]; rfl
    rw [wrap_i64 (by omega) (by omega)]
    have fin : okLp x = true → ∃ v : Nat, AV.int IntKind.i64 ((i : Int) + 1) = AV.int IntKind.i64 (v : Int) ∧ (v ≤ (segs s).length ∧ ((segs s).take v).all okLp = true) ∧ (segs s).length - v < (segs s).length - i := fun hk => ⟨i + 1, by simp, next hk, by omega⟩
    refine ⟨⟨by omega, by omega, okElem_strs hlt⟩, okRead_strs hlt, cond_prop (fun h1 => cond_prop (fun h2 => ⟨by omega, cond_prop (fun h3 => ?_) fun h3 => ?_⟩) fun h2 => ?_) fun h1 => ?_⟩
    · have a1 : x ≠ [42] := by simpa using h1
      have a2 : x ≠ [42, 42] := by simpa using h2
      have a3 : rightP x = false := by simpa using h3
      exact bad (by unfold okLp; simp [a1, a2, a3])
    · have a3 : rightP x = true := by simpa using h3
      exact fin (by unfold okLp; simp [a3])
    · have a2 : x = [42, 42] := by simpa using h2
      exact fin (by unfold okLp; simp [a2])
    · have a1 : x = [42] := by simpa using h1
      exact fin (by unfold okLp; simp [a1])
  · obtain ⟨hi1, hi2⟩ := hi
    have e : i = (segs s).length := by
      have : ¬ i < (segs s).length := by simpa using h
      omega
    subst e
    rw [List.take_length] at hi2
    refine cond_prop (fun h1 => ?_) fun h1 => ?_
    · have : (segs s).length ≤ 8 := by simp at h1; omega
      unfold lpatOk
      rw [hi2]
      simp only [this, decide_true, Bool.true_and]
      rw [Bool.eq_iff_iff]; simp; omega
    · have : ¬ (segs s).length ≤ 8 := by simp at h1; omega
      unfold lpatOk
      simp [this]
theorem okLawMatches0 : OkLawMatches0 := by
  intro s p hq
  refine vcLawMatches0 s p ?_
  simp only [true_and, and_true, forall_eq, eq_self, length_strsAV, isStrs_strsAV, strsL_strsAV, lpatOk_eq, beq_self_eq_true, Bool.not_true, cond_false, depth_right]
  refine cond_prop (fun _ => trivial) fun h1 => cond_prop (fun _ => trivial) fun h2 => ?_
  have h1' : s.length ≤ 100 := by simp at h1; omega
  have h2' : p.length ≤ 100 := by simp at h2; omega
  refine ⟨by omega, by omega, cond_prop (fun h3 => ?_) fun h3 => ⟨by omega, cond_prop (fun h4 => ?_) fun h4 => ?_⟩⟩
  · have h3' : patOk s = false := by simpa using h3
    rw [match_none (.inl h3')]
    exact ⟨⟨by omega, by omega⟩, by omega, by omega⟩
  · have h4' : rightP p = false := by simpa using h4
    rw [match_none (.inr h4')]
    exact ⟨⟨by omega, by omega⟩, by omega, by omega⟩
  · have h3' : patOk s = true := by simpa using h3
    have h4' : rightP p = true := by simpa using h4
    rw [match_eq h3' h4', match_all h4', match_self h4']
    simp only [beq_self_eq_true, cond_true]
    refine ⟨⟨by omega, by omega⟩, by omega, by omega, ⟨by omega, by omega⟩, ⟨by omega, by omega⟩, by omega, by omega, ?_⟩
    have e : partsV p = segs p := by unfold partsV; rw [if_pos h4']
    rw [e]; simp
end Go.Proofs.YtddilmocngedjaaDoor
/- The contracts are met. -/
namespace Go.Proofs.YtddilmocngedjaaDoor
set_option linter.unusedVariables false
set_option linter.unusedSimpArgs false
open Go.RowKit
theorem sndAbove : Sound Tryd.prog (lookΓ gamAbove) := sound_of _ fun p hp => by
  simp only [gamAbove, List.mem_cons, List.not_mem_nil, or_false] at hp
  rcases hp with rfl | rfl
  · exact meetsRight.orNil
  · exact meetsHasPrefix.orNil
set_option maxHeartbeats 4000000 in
theorem meetsAbove : Meets Tryd.prog 64 aboveF := by
  refine meets_of_awp (Γ := lookΓ gamAbove) (L := fun _ _ => none) sndAbove mixedOrders Tryd.func64 rfl Tryd.call64 ?_
  intro args q r hF hq ho
  unfold aboveF at hF
  split at hF
  · cases hF
    exact ⟨by simp only [List.length_cons, List.length_nil]; decide, okAbove0 _ _ hq⟩
  · cases hF
theorem sndOverlap : Sound Tryd.prog (lookΓ gamOverlap) := sound_of _ fun p hp => by
  simp only [gamOverlap, List.mem_cons, List.not_mem_nil, or_false] at hp
  subst hp
  exact meetsAbove.orNil
set_option maxHeartbeats 4000000 in
theorem meetsOverlap : Meets Tryd.prog 32 overlapF := by
  refine meets_of_awp (Γ := lookΓ gamOverlap) (L := fun _ _ => none) sndOverlap mixedOrders Tryd.func32 rfl Tryd.call32 ?_
  intro args q r hF hq ho
  unfold overlapF at hF
  split at hF
  · cases hF
    exact ⟨by simp only [List.length_cons, List.length_nil]; decide, okOverlap0 _ _ hq⟩
  · cases hF
theorem sndAnchor04 : Sound Tryd.prog (lookΓ gamAnchor04) := sound_of _ fun p hp => by
  simp only [gamAnchor04, List.mem_cons, List.not_mem_nil, or_false] at hp
  rcases hp with rfl | rfl
  · exact meetsNormal.orNil
  · exact meetsOverlap.orNil
set_option maxHeartbeats 4000000 in
theorem meetsAnchor04 : Meets Tryd.prog 12 anchor04F := by
  refine meets_of_awp (Γ := lookΓ gamAnchor04) (L := fun _ _ => none) sndAnchor04 mixedOrders Tryd.func12 rfl Tryd.call12 ?_
  intro args q r hF hq ho
  unfold anchor04F at hF
  split at hF
  · cases hF
    exact ⟨by simp only [List.length_cons, List.length_nil]; decide, okAnchor040 hq⟩
  · cases hF
theorem sndLpattern : Sound Tryd.prog (lookΓ gamLpattern) := sound_of _ fun p hp => by
  simp only [gamLpattern, List.mem_cons, List.not_mem_nil, or_false] at hp
  rcases hp with rfl | rfl
  · exact meetsLparts.orNil
  · exact meetsRefRight.orNil
set_option maxHeartbeats 4000000 in
theorem meetsLpattern : Meets Tryd.prog 13 lpatternF := by
  refine meets_of_awp (Γ := lookΓ gamLpattern) (L := fun args => match args with | [.val (.str s)] => lpLpattern0 s | _ => fun _ => none) sndLpattern mixedOrders Tryd.func13 rfl Tryd.call13 ?_
  intro args q r hF hq ho
  unfold lpatternF at hF
  split at hF
  · cases hF
    exact ⟨by simp only [List.length_cons, List.length_nil]; decide, okLpattern0 _ hq⟩
  · cases hF
theorem sndPatternB : Sound Tryd.prog (lookΓ gamPatternB) := sound_of _ fun p hp => by
  simp only [gamPatternB, List.mem_cons, List.not_mem_nil, or_false] at hp
  subst hp
  exact meetsPattern.orNil
set_option maxHeartbeats 4000000 in
theorem meetsPatternB : Meets Tryd.prog 14 patternBF := by
  refine meets_of_awp (Γ := lookΓ gamPatternB) (L := fun _ _ => none) sndPatternB mixedOrders Tryd.func14 rfl Tryd.call14 ?_
  intro args q r hF hq ho
  unfold patternBF at hF
  split at hF
  · cases hF
    exact ⟨by simp only [List.length_cons, List.length_nil]; decide, okPatternB0 _ hq⟩
  · cases hF
theorem sndDepth : Sound Tryd.prog (lookΓ gamDepth) := sound_of _ fun p hp => by
  simp only [gamDepth, List.mem_cons, List.not_mem_nil, or_false] at hp
  subst hp
  exact meetsPathParts.orNil
set_option maxHeartbeats 4000000 in
theorem meetsDepth : Meets Tryd.prog 17 depthF := by
  refine meets_of_awp (Γ := lookΓ gamDepth) (L := fun _ _ => none) sndDepth mixedOrders Tryd.func17 rfl Tryd.call17 ?_
  intro args q r hF hq ho
  unfold depthF at hF
  split at hF
  · cases hF
    exact ⟨by simp only [List.length_cons, List.length_nil]; decide, okDepth0 _ hq⟩
  · cases hF
theorem sndLawMatches : Sound Tryd.prog (lookΓ gamLawMatches) := sound_of _ fun p hp => by
  simp only [gamLawMatches, List.mem_cons, List.not_mem_nil, or_false] at hp
  rcases hp with rfl | rfl | rfl | rfl | rfl | rfl | rfl | rfl
  · exact meetsAnchor04.orNil
  · exact meetsLpattern.orNil
  · exact meetsPatternB.orNil
  · exact meetsRefRight.orNil
  · exact meetsMatch.orNil
  · exact meetsDepth.orNil
  · exact meetsLparts.orNil
  · exact meetsMeans.orNil
set_option maxHeartbeats 4000000 in
theorem meetsLawMatches : Meets Tryd.prog 4 lawMatchesF := by
  refine meets_of_awp (Γ := lookΓ gamLawMatches) (L := fun _ _ => none) sndLawMatches mixedOrders Tryd.func4 rfl Tryd.call4 ?_
  intro args q r hF hq ho
  unfold lawMatchesF at hF
  split at hF
  · cases hF
    exact ⟨by simp only [List.length_cons, List.length_nil]; decide, okLawMatches0 _ _ hq⟩
  · cases hF
end Go.Proofs.YtddilmocngedjaaDoor
