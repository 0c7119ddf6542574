/- Contracts by content, their conditions, and that they are met: VoteL. -/
import Derived.Test.YtcokifdgbfbonaaDoorLaxPkVoteA
/- Contracts by content, and the conditions that their code must meet. -/
namespace Go.Proofs.YtcokifdgbfbonaaDoor
set_option linter.unusedVariables false
set_option linter.unusedSimpArgs false
open Go.RowKit
def anchor22F : Con
  | [] => (some (True, ⟨.bool true, none, none⟩))
  | _ => none
def gamAnchor22 : List (Nat × Con) := [(43, inewF.orNil), (73, askF.orNil), (28, voteF.orNil)]
def lpAnchor220  : Nat → Option LoopPlan := fun _ => none
def inAnchor220  : Prop := awp [] (lpAnchor220) (lookΓ gamAnchor22) Tryd.prog Tryd.f24.ntmps 0 (Tryd.f24.body.getD .skip) (entrySt []) (exitQ Tryd.prog Tryd.f24.results.toList [] ⟨.bool true, none, none⟩)
def OkAnchor220 : Prop := True → inAnchor220
def small22F : Con
  | [.val (.agg zcx)] => (match instOf zcx with | some x => some (maxX x, ⟨.bool (smallB x 100), none, none⟩) | _ => none)
  | _ => none
def gamSmall22 : List (Nat × Con) := []
def lpSmall220 (x : InstP) : Nat → Option LoopPlan := fun _ => none
def inSmall220 (x : InstP) : Prop := awp [] (lpSmall220 x) (lookΓ gamSmall22) Tryd.prog Tryd.f25.ntmps 0 (Tryd.f25.body.getD .skip) (entrySt [.val (.agg (instL x))]) (exitQ Tryd.prog Tryd.f25.results.toList [] ⟨.bool (smallB x 100), none, none⟩)
def OkSmall220 : Prop := ∀ (x : InstP), maxX x → inSmall220 x
def lawCoversF : Con
  | [.val (.agg zcx), .val (.agg zcm), .val (.agg zcah)] => (match instOf zcx, msgOf zcm, attOf zcah with | some x, some m, some ah => some (maxX x ∧ maxX m.x, ⟨.bool true, none, none⟩) | _, _, _ => none)
  | _ => none
def gamLawCovers : List (Nat × Con) := [(24, anchor22F.orNil), (25, small22F.orNil), (26, irightF.orNil), (27, refARightF.orNil), (28, voteF.orNil), (29, attWithinF.orNil), (30, attOwnF.orNil)]
def lpLawCovers0 (x : InstP) (m : MsgP) (ah : AttP) : Nat → Option LoopPlan := fun _ => none
def inLawCovers0 (x : InstP) (m : MsgP) (ah : AttP) : Prop := awp [] (lpLawCovers0 x m ah) (lookΓ gamLawCovers) Tryd.prog Tryd.f6.ntmps 0 (Tryd.f6.body.getD .skip) (entrySt [.val (.agg (instL x)), .val (.agg (msgL m)), .val (.agg (attL ah))]) (exitQ Tryd.prog Tryd.f6.results.toList [] ⟨.bool true, none, none⟩)
def OkLawCovers0 : Prop := ∀ (x : InstP) (m : MsgP) (ah : AttP), maxX x ∧ maxX m.x → inLawCovers0 x m ah
def lawAgainF : Con
  | [.val (.agg zcx), .val (.agg zcm), .val (.agg zcah), .val (.agg zcal)] => (match instOf zcx, msgOf zcm, attOf zcah, attOf zcal with | some x, some m, some ah, some al => some (maxX x ∧ maxX m.x, ⟨.bool true, none, none⟩) | _, _, _, _ => none)
  | _ => none
def gamLawAgain : List (Nat × Con) := [(24, anchor22F.orNil), (25, small22F.orNil), (26, irightF.orNil), (27, refARightF.orNil), (28, voteF.orNil)]
def lpLawAgain0 (x : InstP) (m : MsgP) (ah al : AttP) : Nat → Option LoopPlan := fun _ => none
def inLawAgain0 (x : InstP) (m : MsgP) (ah al : AttP) : Prop := awp [] (lpLawAgain0 x m ah al) (lookΓ gamLawAgain) Tryd.prog Tryd.f5.ntmps 0 (Tryd.f5.body.getD .skip) (entrySt [.val (.agg (instL x)), .val (.agg (msgL m)), .val (.agg (attL ah)), .val (.agg (attL al))]) (exitQ Tryd.prog Tryd.f5.results.toList [] ⟨.bool true, none, none⟩)
def OkLawAgain0 : Prop := ∀ (x : InstP) (m : MsgP) (ah al : AttP), maxX x ∧ maxX m.x → inLawAgain0 x m ah al
end Go.Proofs.YtcokifdgbfbonaaDoor
/- What the verification conditions come to: printed by a program of ours (wip/lax/ex/Norm.lean). -/
namespace Go.Proofs.YtcokifdgbfbonaaDoor
set_option linter.unusedVariables false
open Go.RowKit
set_option maxRecDepth 100000
theorem vcAnchor220 (h : ((true = true) ∧ True ∧ (true = true) ∧ True ∧ (True ∧ True) ∧ True ∧ (true = true) ∧ (true = true) ∧ (true = true) ∧ (true = true) ∧ (True ∧ True) ∧ True ∧ (True ∧ (smallX (InstP.mk (0 : Int) (0 : Int) (0 : Int) (0 : Int) (0 : Int) false (CmdP.mk (0 : Int) (0 : Int) (@List.nil.{0} UInt8) (0 : Int) (@List.nil.{0} UInt8) (0 : Int) (0 : Int) (0 : Int)) (AttP.mk (0 : Int) (0 : Int) (0 : Int) (0 : Int) (0 : Int) (0 : Int) (0 : Int) (0 : Int))))) ∧ True ∧ True ∧ True ∧ True ∧ True ∧ True ∧ (true = true) ∧ (true = true) ∧ True ∧ (true = true) ∧ (true = true) ∧ (true = true) ∧ True ∧ (True ∧ True) ∧ True ∧ (True ∧ (smallX (InstP.mk (0 : Int) (0 : Int) (2 : Int) (9 : Int) (9 : Int) false (CmdP.mk (0 : Int) (0 : Int) (@List.nil.{0} UInt8) (0 : Int) (@List.nil.{0} UInt8) (0 : Int) (0 : Int) (0 : Int)) (AttP.mk (0 : Int) (0 : Int) (0 : Int) (0 : Int) (0 : Int) (0 : Int) (0 : Int) (0 : Int))))) ∧ True ∧ True ∧ True ∧ True ∧ True ∧ True ∧ (true = true) ∧ (true = true) ∧ True ∧ (true = true) ∧ (true = true) ∧ True ∧ (true = true) ∧ True ∧ True ∧ True ∧ True ∧ True ∧ True ∧ (true = true) ∧ True ∧ True ∧ True ∧ True ∧ True ∧ True ∧ (true = true) ∧ True ∧ True ∧ True ∧ True ∧ (true = true) ∧ True ∧ True ∧ True ∧ (true = true) ∧ (true = true) ∧ ((true = true) ∧ True) ∧ (true = true))) : inAnchor220 :=
  Eq.mp (show _ = _ by kernel_rfl) h
theorem vcSmall220 (x : InstP) (h : ((true = true) ∧ True ∧ True ∧ (true = true) ∧ True ∧ True ∧ (true = true) ∧ True ∧ True ∧ True ∧ (bif (decide ((@Nat.cast Int _ (List.length (CmdP.path (InstP.c x)))) < (100 : Int))) then (True ∧ True ∧ True ∧ (true = true) ∧ True ∧ True ∧ True ∧ True ∧ (true = true) ∧ (true = true) ∧ (((smallB x 100) = (decide ((@Nat.cast Int _ (List.length (CmdP.foot (InstP.c x)))) < (100 : Int)))) ∧ True) ∧ (true = true)) else ((false = false) ∧ True ∧ (true = true) ∧ (true = true) ∧ (((smallB x 100) = false) ∧ True) ∧ (true = true))))) : inSmall220 x :=
  Eq.mp (show _ = _ by kernel_rfl) h
theorem vcLawCovers0 (x : InstP) (m : MsgP) (ah : AttP) (h : ((true = true) ∧ True ∧ True ∧ True ∧ True ∧ (true = true) ∧ (True ∧ True) ∧ True ∧ (true = true) ∧ (true = true) ∧ (True ∧ (maxX x)) ∧ True ∧ True ∧ (bif (Bool.not (smallB x 100)) then ((true = true) ∧ True ∧ (true = true) ∧ True ∧ (true = true) ∧ True ∧ (true = true) ∧ (true = true) ∧ True ∧ (true = true) ∧ (true = true) ∧ ((true = true) ∧ True) ∧ (true = true)) else (True ∧ (true = true) ∧ (True ∧ (maxX (MsgP.x m))) ∧ True ∧ True ∧ True ∧ (bif (Bool.not (smallB (MsgP.x m) 100)) then ((true = true) ∧ True ∧ (true = true) ∧ True ∧ (true = true) ∧ (true = true) ∧ True ∧ (true = true) ∧ (true = true) ∧ ((true = true) ∧ True) ∧ (true = true)) else ((true = true) ∧ (True ∧ (smallX x)) ∧ True ∧ True ∧ True ∧ (bif (Bool.not (rightI x)) then ((true = true) ∧ True ∧ (true = true) ∧ (true = true) ∧ True ∧ (true = true) ∧ (true = true) ∧ ((true = true) ∧ True) ∧ (true = true)) else ((true = true) ∧ (True ∧ True) ∧ True ∧ True ∧ True ∧ (bif (Bool.not (rightA (AttP.s ah) (AttP.d0 ah) (AttP.d1 ah) (AttP.d2 ah) (AttP.d3 ah) (AttP.d4 ah) (AttP.d5 ah) (AttP.d6 ah))) then ((true = true) ∧ (true = true) ∧ True ∧ (true = true) ∧ (true = true) ∧ ((true = true) ∧ True) ∧ (true = true)) else (True ∧ (true = true) ∧ True ∧ True ∧ (bif ((MsgP.k m) != (1 : Int)) then ((true = true) ∧ True ∧ (true = true) ∧ (true = true) ∧ ((true = true) ∧ True) ∧ (true = true)) else ((true = true) ∧ (true = true) ∧ (true = true) ∧ (true = true) ∧ (True ∧ (smallX (MsgP.x m))) ∧ True ∧ True ∧ True ∧ True ∧ True ∧ True ∧ (true = true) ∧ (true = true) ∧ True ∧ (true = true) ∧ True ∧ True ∧ True ∧ (bif (Bool.not (voteT x m)) then ((true = true) ∧ True ∧ (true = true) ∧ True ∧ (true = true) ∧ (true = true) ∧ True ∧ (true = true) ∧ (true = true) ∧ ((true = true) ∧ True) ∧ (true = true)) else (True ∧ (true = true) ∧ True ∧ True ∧ True ∧ (bif (Bool.not (MsgP.ok (voteR x m ah))) then ((true = true) ∧ True ∧ (true = true) ∧ (true = true) ∧ True ∧ (true = true) ∧ (true = true) ∧ ((true = true) ∧ True) ∧ (true = true)) else (True ∧ (true = true) ∧ True ∧ True ∧ True ∧ (bif ((MsgP.k (voteR x m ah)) != (2 : Int)) then ((true = true) ∧ (true = true) ∧ True ∧ (true = true) ∧ (true = true) ∧ ((true = true) ∧ True) ∧ (true = true)) else ((true = true) ∧ (true = true) ∧ True ∧ True ∧ (bif (Bool.and ((InstP.r (voteX x m ah)) == (InstP.r x)) (Bool.and ((InstP.sl (voteX x m ah)) == (InstP.sl x)) (Bool.and ((InstP.st (voteX x m ah)) == (InstP.st x)) (Bool.and ((InstP.bal (voteX x m ah)) == (InstP.bal x)) (Bool.and ((InstP.vote (voteX x m ah)) == (InstP.vote x)) (Bool.and (@BEq.beq.{0} Bool (@instBEqOfDecidableEq.{0} Bool instDecidableEqBool) (InstP.same (voteX x m ah)) (InstP.same x)) (Bool.and ((CmdP.k (InstP.c (voteX x m ah))) == (CmdP.k (InstP.c x))) (Bool.and ((CmdP.num (InstP.c (voteX x m ah))) == (CmdP.num (InstP.c x))) (Bool.and (@BEq.beq.{0} (@List.{0} UInt8) (@List.instBEq.{0} UInt8 (@instBEqOfDecidableEq.{0} UInt8 instDecidableEqUInt8)) (CmdP.foot (InstP.c (voteX x m ah))) (CmdP.foot (InstP.c x))) (Bool.and ((CmdP.rq (InstP.c (voteX x m ah))) == (CmdP.rq (InstP.c x))) (Bool.and (@BEq.beq.{0} (@List.{0} UInt8) (@List.instBEq.{0} UInt8 (@instBEqOfDecidableEq.{0} UInt8 instDecidableEqUInt8)) (CmdP.path (InstP.c (voteX x m ah))) (CmdP.path (InstP.c x))) (Bool.and ((CmdP.mode (InstP.c (voteX x m ah))) == (CmdP.mode (InstP.c x))) (Bool.and ((CmdP.n (InstP.c (voteX x m ah))) == (CmdP.n (InstP.c x))) (Bool.and ((CmdP.time (InstP.c (voteX x m ah))) == (CmdP.time (InstP.c x))) (Bool.and ((AttP.s (InstP.a (voteX x m ah))) == (AttP.s (InstP.a x))) (Bool.and ((AttP.d0 (InstP.a (voteX x m ah))) == (AttP.d0 (InstP.a x))) (Bool.and ((AttP.d1 (InstP.a (voteX x m ah))) == (AttP.d1 (InstP.a x))) (Bool.and ((AttP.d2 (InstP.a (voteX x m ah))) == (AttP.d2 (InstP.a x))) (Bool.and ((AttP.d3 (InstP.a (voteX x m ah))) == (AttP.d3 (InstP.a x))) (Bool.and ((AttP.d4 (InstP.a (voteX x m ah))) == (AttP.d4 (InstP.a x))) (Bool.and ((AttP.d5 (InstP.a (voteX x m ah))) == (AttP.d5 (InstP.a x))) (Bool.and ((AttP.d6 (InstP.a (voteX x m ah))) == (AttP.d6 (InstP.a x))) true)))))))))))))))))))))) then ((true = true) ∧ True ∧ (true = true) ∧ (true = true) ∧ ((true = true) ∧ True) ∧ (true = true)) else ((true = true) ∧ True ∧ True ∧ (true = true) ∧ True ∧ True ∧ (true = true) ∧ (True ∧ True) ∧ True ∧ (bif (withinB (AttP.s (InstP.a (MsgP.x m))) (AttP.d0 (InstP.a (MsgP.x m))) (AttP.d1 (InstP.a (MsgP.x m))) (AttP.d2 (InstP.a (MsgP.x m))) (AttP.d3 (InstP.a (MsgP.x m))) (AttP.d4 (InstP.a (MsgP.x m))) (AttP.d5 (InstP.a (MsgP.x m))) (AttP.d6 (InstP.a (MsgP.x m))) (AttP.s (InstP.a (MsgP.x (voteR x m ah)))) (AttP.d0 (InstP.a (MsgP.x (voteR x m ah)))) (AttP.d1 (InstP.a (MsgP.x (voteR x m ah)))) (AttP.d2 (InstP.a (MsgP.x (voteR x m ah)))) (AttP.d3 (InstP.a (MsgP.x (voteR x m ah)))) (AttP.d4 (InstP.a (MsgP.x (voteR x m ah)))) (AttP.d5 (InstP.a (MsgP.x (voteR x m ah)))) (AttP.d6 (InstP.a (MsgP.x (voteR x m ah))))) then ((true = true) ∧ True ∧ (true = true) ∧ (True ∧ True) ∧ True ∧ True ∧ (true = true) ∧ (True ∧ True) ∧ True ∧ True ∧ (bif (withinB (AttP.s ah) (ow (0 : Int) (InstP.r x) (InstP.sl x) (AttP.d0 ah)) (ow (1 : Int) (InstP.r x) (InstP.sl x) (AttP.d1 ah)) (ow (2 : Int) (InstP.r x) (InstP.sl x) (AttP.d2 ah)) (ow (3 : Int) (InstP.r x) (InstP.sl x) (AttP.d3 ah)) (ow (4 : Int) (InstP.r x) (InstP.sl x) (AttP.d4 ah)) (ow (5 : Int) (InstP.r x) (InstP.sl x) (AttP.d5 ah)) (ow (6 : Int) (InstP.r x) (InstP.sl x) (AttP.d6 ah)) (AttP.s (InstP.a (MsgP.x (voteR x m ah)))) (AttP.d0 (InstP.a (MsgP.x (voteR x m ah)))) (AttP.d1 (InstP.a (MsgP.x (voteR x m ah)))) (AttP.d2 (InstP.a (MsgP.x (voteR x m ah)))) (AttP.d3 (InstP.a (MsgP.x (voteR x m ah)))) (AttP.d4 (InstP.a (MsgP.x (voteR x m ah)))) (AttP.d5 (InstP.a (MsgP.x (voteR x m ah)))) (AttP.d6 (InstP.a (MsgP.x (voteR x m ah))))) then (True ∧ (true = true) ∧ (true = true) ∧ True ∧ True ∧ True ∧ (bif (Bool.and ((InstP.r (MsgP.x (voteR x m ah))) == (InstP.r (voteX x m ah))) (Bool.and ((InstP.sl (MsgP.x (voteR x m ah))) == (InstP.sl (voteX x m ah))) (Bool.and ((InstP.st (MsgP.x (voteR x m ah))) == (InstP.st (voteX x m ah))) (Bool.and ((InstP.bal (MsgP.x (voteR x m ah))) == (InstP.bal (voteX x m ah))) (Bool.and ((InstP.vote (MsgP.x (voteR x m ah))) == (InstP.vote (voteX x m ah))) (Bool.and (@BEq.beq.{0} Bool (@instBEqOfDecidableEq.{0} Bool instDecidableEqBool) (InstP.same (MsgP.x (voteR x m ah))) (InstP.same (voteX x m ah))) (Bool.and ((CmdP.k (InstP.c (MsgP.x (voteR x m ah)))) == (CmdP.k (InstP.c (voteX x m ah)))) (Bool.and ((CmdP.num (InstP.c (MsgP.x (voteR x m ah)))) == (CmdP.num (InstP.c (voteX x m ah)))) (Bool.and (@BEq.beq.{0} (@List.{0} UInt8) (@List.instBEq.{0} UInt8 (@instBEqOfDecidableEq.{0} UInt8 instDecidableEqUInt8)) (CmdP.foot (InstP.c (MsgP.x (voteR x m ah)))) (CmdP.foot (InstP.c (voteX x m ah)))) (Bool.and ((CmdP.rq (InstP.c (MsgP.x (voteR x m ah)))) == (CmdP.rq (InstP.c (voteX x m ah)))) (Bool.and (@BEq.beq.{0} (@List.{0} UInt8) (@List.instBEq.{0} UInt8 (@instBEqOfDecidableEq.{0} UInt8 instDecidableEqUInt8)) (CmdP.path (InstP.c (MsgP.x (voteR x m ah)))) (CmdP.path (InstP.c (voteX x m ah)))) (Bool.and ((CmdP.mode (InstP.c (MsgP.x (voteR x m ah)))) == (CmdP.mode (InstP.c (voteX x m ah)))) (Bool.and ((CmdP.n (InstP.c (MsgP.x (voteR x m ah)))) == (CmdP.n (InstP.c (voteX x m ah)))) (Bool.and ((CmdP.time (InstP.c (MsgP.x (voteR x m ah)))) == (CmdP.time (InstP.c (voteX x m ah)))) (Bool.and ((AttP.s (InstP.a (MsgP.x (voteR x m ah)))) == (AttP.s (InstP.a (voteX x m ah)))) (Bool.and ((AttP.d0 (InstP.a (MsgP.x (voteR x m ah)))) == (AttP.d0 (InstP.a (voteX x m ah)))) (Bool.and ((AttP.d1 (InstP.a (MsgP.x (voteR x m ah)))) == (AttP.d1 (InstP.a (voteX x m ah)))) (Bool.and ((AttP.d2 (InstP.a (MsgP.x (voteR x m ah)))) == (AttP.d2 (InstP.a (voteX x m ah)))) (Bool.and ((AttP.d3 (InstP.a (MsgP.x (voteR x m ah)))) == (AttP.d3 (InstP.a (voteX x m ah)))) (Bool.and ((AttP.d4 (InstP.a (MsgP.x (voteR x m ah)))) == (AttP.d4 (InstP.a (voteX x m ah)))) (Bool.and ((AttP.d5 (InstP.a (MsgP.x (voteR x m ah)))) == (AttP.d5 (InstP.a (voteX x m ah)))) (Bool.and ((AttP.d6 (InstP.a (MsgP.x (voteR x m ah)))) == (AttP.d6 (InstP.a (voteX x m ah)))) true)))))))))))))))))))))) then (True ∧ (true = true) ∧ True ∧ True ∧ (true = true) ∧ True ∧ True ∧ True ∧ (bif (Bool.and ((CmdP.k (InstP.c (voteX x m ah))) == (CmdP.k (InstP.c (MsgP.x m)))) (Bool.and ((CmdP.num (InstP.c (voteX x m ah))) == (CmdP.num (InstP.c (MsgP.x m)))) (Bool.and (@BEq.beq.{0} (@List.{0} UInt8) (@List.instBEq.{0} UInt8 (@instBEqOfDecidableEq.{0} UInt8 instDecidableEqUInt8)) (CmdP.foot (InstP.c (voteX x m ah))) (CmdP.foot (InstP.c (MsgP.x m)))) (Bool.and ((CmdP.rq (InstP.c (voteX x m ah))) == (CmdP.rq (InstP.c (MsgP.x m)))) (Bool.and (@BEq.beq.{0} (@List.{0} UInt8) (@List.instBEq.{0} UInt8 (@instBEqOfDecidableEq.{0} UInt8 instDecidableEqUInt8)) (CmdP.path (InstP.c (voteX x m ah))) (CmdP.path (InstP.c (MsgP.x m)))) (Bool.and ((CmdP.mode (InstP.c (voteX x m ah))) == (CmdP.mode (InstP.c (MsgP.x m)))) (Bool.and ((CmdP.n (InstP.c (voteX x m ah))) == (CmdP.n (InstP.c (MsgP.x m)))) (Bool.and ((CmdP.time (InstP.c (voteX x m ah))) == (CmdP.time (InstP.c (MsgP.x m)))) true)))))))) then (True ∧ (true = true) ∧ True ∧ (true = true) ∧ True ∧ True ∧ (bif ((MsgP.b m) == (0 : Int)) then (True ∧ (true = true) ∧ True ∧ True ∧ (true = true) ∧ True ∧ True ∧ True ∧ True ∧ True ∧ (true = true) ∧ (true = true) ∧ (true = true) ∧ ((true = (@BEq.beq.{0} Bool (@instBEqOfDecidableEq.{0} Bool instDecidableEqBool) (InstP.same (voteX x m ah)) (Bool.and ((AttP.s (InstP.a (voteX x m ah))) == (AttP.s (InstP.a (MsgP.x m)))) (Bool.and ((AttP.d0 (InstP.a (voteX x m ah))) == (AttP.d0 (InstP.a (MsgP.x m)))) (Bool.and ((AttP.d1 (InstP.a (voteX x m ah))) == (AttP.d1 (InstP.a (MsgP.x m)))) (Bool.and ((AttP.d2 (InstP.a (voteX x m ah))) == (AttP.d2 (InstP.a (MsgP.x m)))) (Bool.and ((AttP.d3 (InstP.a (voteX x m ah))) == (AttP.d3 (InstP.a (MsgP.x m)))) (Bool.and ((AttP.d4 (InstP.a (voteX x m ah))) == (AttP.d4 (InstP.a (MsgP.x m)))) (Bool.and ((AttP.d5 (InstP.a (voteX x m ah))) == (AttP.d5 (InstP.a (MsgP.x m)))) (Bool.and ((AttP.d6 (InstP.a (voteX x m ah))) == (AttP.d6 (InstP.a (MsgP.x m)))) true)))))))))) ∧ True) ∧ (true = true)) else ((false = false) ∧ True ∧ True ∧ True ∧ (true = true) ∧ (true = true) ∧ (true = true) ∧ ((true = (@BEq.beq.{0} Bool (@instBEqOfDecidableEq.{0} Bool instDecidableEqBool) (InstP.same (voteX x m ah)) false)) ∧ True) ∧ (true = true)))) else ((false = false) ∧ True ∧ (true = true) ∧ (true = true) ∧ (true = true) ∧ ((true = false) ∧ True) ∧ (true = true)))) else ((false = false) ∧ True ∧ (false = false) ∧ True ∧ (true = true) ∧ (true = true) ∧ (true = true) ∧ ((true = false) ∧ True) ∧ (true = true)))) else ((false = false) ∧ True ∧ (false = false) ∧ True ∧ (false = false) ∧ True ∧ (true = true) ∧ (true = true) ∧ (true = true) ∧ ((true = false) ∧ True) ∧ (true = true)))) else ((false = false) ∧ True ∧ (false = false) ∧ True ∧ (false = false) ∧ True ∧ (false = false) ∧ True ∧ (true = true) ∧ (true = true) ∧ (true = true) ∧ ((true = false) ∧ True) ∧ (true = true))))))))))))))))))))))) : inLawCovers0 x m ah :=
  Eq.mp (show _ = _ by kernel_rfl) h
theorem vcLawAgain0 (x : InstP) (m : MsgP) (ah : AttP) (al : AttP) (h : ((true = true) ∧ True ∧ True ∧ True ∧ True ∧ True ∧ (true = true) ∧ (True ∧ True) ∧ True ∧ (true = true) ∧ (true = true) ∧ (True ∧ (maxX x)) ∧ True ∧ True ∧ (bif (Bool.not (smallB x 100)) then ((true = true) ∧ True ∧ (true = true) ∧ True ∧ (true = true) ∧ True ∧ (true = true) ∧ (true = true) ∧ True ∧ (true = true) ∧ (true = true) ∧ ((true = true) ∧ True) ∧ (true = true)) else (True ∧ (true = true) ∧ (True ∧ (maxX (MsgP.x m))) ∧ True ∧ True ∧ True ∧ (bif (Bool.not (smallB (MsgP.x m) 100)) then ((true = true) ∧ True ∧ (true = true) ∧ True ∧ (true = true) ∧ (true = true) ∧ True ∧ (true = true) ∧ (true = true) ∧ ((true = true) ∧ True) ∧ (true = true)) else ((true = true) ∧ (True ∧ (smallX x)) ∧ True ∧ True ∧ True ∧ (bif (Bool.not (rightI x)) then ((true = true) ∧ True ∧ (true = true) ∧ (true = true) ∧ True ∧ (true = true) ∧ (true = true) ∧ ((true = true) ∧ True) ∧ (true = true)) else ((true = true) ∧ (True ∧ True) ∧ True ∧ True ∧ True ∧ (bif (Bool.not (rightA (AttP.s ah) (AttP.d0 ah) (AttP.d1 ah) (AttP.d2 ah) (AttP.d3 ah) (AttP.d4 ah) (AttP.d5 ah) (AttP.d6 ah))) then ((true = true) ∧ (true = true) ∧ True ∧ (true = true) ∧ (true = true) ∧ ((true = true) ∧ True) ∧ (true = true)) else ((true = true) ∧ (True ∧ True) ∧ True ∧ True ∧ (bif (Bool.not (rightA (AttP.s al) (AttP.d0 al) (AttP.d1 al) (AttP.d2 al) (AttP.d3 al) (AttP.d4 al) (AttP.d5 al) (AttP.d6 al))) then ((true = true) ∧ True ∧ (true = true) ∧ (true = true) ∧ ((true = true) ∧ True) ∧ (true = true)) else ((true = true) ∧ (true = true) ∧ (true = true) ∧ (true = true) ∧ (True ∧ (smallX (MsgP.x m))) ∧ True ∧ True ∧ True ∧ True ∧ True ∧ True ∧ (true = true) ∧ (true = true) ∧ True ∧ (true = true) ∧ (true = true) ∧ (true = true) ∧ (true = true) ∧ (True ∧ (smallX (MsgP.x m))) ∧ True ∧ True ∧ True ∧ True ∧ True ∧ True ∧ (true = true) ∧ (true = true) ∧ True ∧ (true = true) ∧ (true = true) ∧ (true = true) ∧ True ∧ (bif (Bool.not (Bool.and ((InstP.r (voteX (voteX x m ah) m al)) == (InstP.r (voteX x m ah))) (Bool.and ((InstP.sl (voteX (voteX x m ah) m al)) == (InstP.sl (voteX x m ah))) (Bool.and ((InstP.st (voteX (voteX x m ah) m al)) == (InstP.st (voteX x m ah))) (Bool.and ((InstP.bal (voteX (voteX x m ah) m al)) == (InstP.bal (voteX x m ah))) (Bool.and ((InstP.vote (voteX (voteX x m ah) m al)) == (InstP.vote (voteX x m ah))) (Bool.and (@BEq.beq.{0} Bool (@instBEqOfDecidableEq.{0} Bool instDecidableEqBool) (InstP.same (voteX (voteX x m ah) m al)) (InstP.same (voteX x m ah))) (Bool.and ((CmdP.k (InstP.c (voteX (voteX x m ah) m al))) == (CmdP.k (InstP.c (voteX x m ah)))) (Bool.and ((CmdP.num (InstP.c (voteX (voteX x m ah) m al))) == (CmdP.num (InstP.c (voteX x m ah)))) (Bool.and (@BEq.beq.{0} (@List.{0} UInt8) (@List.instBEq.{0} UInt8 (@instBEqOfDecidableEq.{0} UInt8 instDecidableEqUInt8)) (CmdP.foot (InstP.c (voteX (voteX x m ah) m al))) (CmdP.foot (InstP.c (voteX x m ah)))) (Bool.and ((CmdP.rq (InstP.c (voteX (voteX x m ah) m al))) == (CmdP.rq (InstP.c (voteX x m ah)))) (Bool.and (@BEq.beq.{0} (@List.{0} UInt8) (@List.instBEq.{0} UInt8 (@instBEqOfDecidableEq.{0} UInt8 instDecidableEqUInt8)) (CmdP.path (InstP.c (voteX (voteX x m ah) m al))) (CmdP.path (InstP.c (voteX x m ah)))) (Bool.and ((CmdP.mode (InstP.c (voteX (voteX x m ah) m al))) == (CmdP.mode (InstP.c (voteX x m ah)))) (Bool.and ((CmdP.n (InstP.c (voteX (voteX x m ah) m al))) == (CmdP.n (InstP.c (voteX x m ah)))) (Bool.and ((CmdP.time (InstP.c (voteX (voteX x m ah) m al))) == (CmdP.time (InstP.c (voteX x m ah)))) (Bool.and ((AttP.s (InstP.a (voteX (voteX x m ah) m al))) == (AttP.s (InstP.a (voteX x m ah)))) (Bool.and ((AttP.d0 (InstP.a (voteX (voteX x m ah) m al))) == (AttP.d0 (InstP.a (voteX x m ah)))) (Bool.and ((AttP.d1 (InstP.a (voteX (voteX x m ah) m al))) == (AttP.d1 (InstP.a (voteX x m ah)))) (Bool.and ((AttP.d2 (InstP.a (voteX (voteX x m ah) m al))) == (AttP.d2 (InstP.a (voteX x m ah)))) (Bool.and ((AttP.d3 (InstP.a (voteX (voteX x m ah) m al))) == (AttP.d3 (InstP.a (voteX x m ah)))) (Bool.and ((AttP.d4 (InstP.a (voteX (voteX x m ah) m al))) == (AttP.d4 (InstP.a (voteX x m ah)))) (Bool.and ((AttP.d5 (InstP.a (voteX (voteX x m ah) m al))) == (AttP.d5 (InstP.a (voteX x m ah)))) (Bool.and ((AttP.d6 (InstP.a (voteX (voteX x m ah) m al))) == (AttP.d6 (InstP.a (voteX x m ah)))) true))))))))))))))))))))))) then ((true = true) ∧ True ∧ (true = true) ∧ (true = true) ∧ ((true = false) ∧ True) ∧ (true = true)) else ((true = true) ∧ True ∧ True ∧ True ∧ True ∧ (bif (@BEq.beq.{0} Bool (@instBEqOfDecidableEq.{0} Bool instDecidableEqBool) (voteT x m) (voteT (voteX x m ah) m)) then ((true = true) ∧ (true = true) ∧ True ∧ True ∧ True ∧ (true = true) ∧ (true = true) ∧ ((true = (Bool.and ((MsgP.k (voteR x m ah)) == (MsgP.k (voteR (voteX x m ah) m al))) (Bool.and ((MsgP.src (voteR x m ah)) == (MsgP.src (voteR (voteX x m ah) m al))) (Bool.and ((MsgP.dst (voteR x m ah)) == (MsgP.dst (voteR (voteX x m ah) m al))) (Bool.and ((MsgP.r (voteR x m ah)) == (MsgP.r (voteR (voteX x m ah) m al))) (Bool.and ((MsgP.s (voteR x m ah)) == (MsgP.s (voteR (voteX x m ah) m al))) (Bool.and ((MsgP.b (voteR x m ah)) == (MsgP.b (voteR (voteX x m ah) m al))) (Bool.and (@BEq.beq.{0} Bool (@instBEqOfDecidableEq.{0} Bool instDecidableEqBool) (MsgP.ok (voteR x m ah)) (MsgP.ok (voteR (voteX x m ah) m al))) (Bool.and ((InstP.r (MsgP.x (voteR x m ah))) == (InstP.r (MsgP.x (voteR (voteX x m ah) m al)))) (Bool.and ((InstP.sl (MsgP.x (voteR x m ah))) == (InstP.sl (MsgP.x (voteR (voteX x m ah) m al)))) (Bool.and ((InstP.st (MsgP.x (voteR x m ah))) == (InstP.st (MsgP.x (voteR (voteX x m ah) m al)))) (Bool.and ((InstP.bal (MsgP.x (voteR x m ah))) == (InstP.bal (MsgP.x (voteR (voteX x m ah) m al)))) (Bool.and ((InstP.vote (MsgP.x (voteR x m ah))) == (InstP.vote (MsgP.x (voteR (voteX x m ah) m al)))) (Bool.and (@BEq.beq.{0} Bool (@instBEqOfDecidableEq.{0} Bool instDecidableEqBool) (InstP.same (MsgP.x (voteR x m ah))) (InstP.same (MsgP.x (voteR (voteX x m ah) m al)))) (Bool.and ((CmdP.k (InstP.c (MsgP.x (voteR x m ah)))) == (CmdP.k (InstP.c (MsgP.x (voteR (voteX x m ah) m al))))) (Bool.and ((CmdP.num (InstP.c (MsgP.x (voteR x m ah)))) == (CmdP.num (InstP.c (MsgP.x (voteR (voteX x m ah) m al))))) (Bool.and (@BEq.beq.{0} (@List.{0} UInt8) (@List.instBEq.{0} UInt8 (@instBEqOfDecidableEq.{0} UInt8 instDecidableEqUInt8)) (CmdP.foot (InstP.c (MsgP.x (voteR x m ah)))) (CmdP.foot (InstP.c (MsgP.x (voteR (voteX x m ah) m al))))) (Bool.and ((CmdP.rq (InstP.c (MsgP.x (voteR x m ah)))) == (CmdP.rq (InstP.c (MsgP.x (voteR (voteX x m ah) m al))))) (Bool.and (@BEq.beq.{0} (@List.{0} UInt8) (@List.instBEq.{0} UInt8 (@instBEqOfDecidableEq.{0} UInt8 instDecidableEqUInt8)) (CmdP.path (InstP.c (MsgP.x (voteR x m ah)))) (CmdP.path (InstP.c (MsgP.x (voteR (voteX x m ah) m al))))) (Bool.and ((CmdP.mode (InstP.c (MsgP.x (voteR x m ah)))) == (CmdP.mode (InstP.c (MsgP.x (voteR (voteX x m ah) m al))))) (Bool.and ((CmdP.n (InstP.c (MsgP.x (voteR x m ah)))) == (CmdP.n (InstP.c (MsgP.x (voteR (voteX x m ah) m al))))) (Bool.and ((CmdP.time (InstP.c (MsgP.x (voteR x m ah)))) == (CmdP.time (InstP.c (MsgP.x (voteR (voteX x m ah) m al))))) (Bool.and ((AttP.s (InstP.a (MsgP.x (voteR x m ah)))) == (AttP.s (InstP.a (MsgP.x (voteR (voteX x m ah) m al))))) (Bool.and ((AttP.d0 (InstP.a (MsgP.x (voteR x m ah)))) == (AttP.d0 (InstP.a (MsgP.x (voteR (voteX x m ah) m al))))) (Bool.and ((AttP.d1 (InstP.a (MsgP.x (voteR x m ah)))) == (AttP.d1 (InstP.a (MsgP.x (voteR (voteX x m ah) m al))))) (Bool.and ((AttP.d2 (InstP.a (MsgP.x (voteR x m ah)))) == (AttP.d2 (InstP.a (MsgP.x (voteR (voteX x m ah) m al))))) (Bool.and ((AttP.d3 (InstP.a (MsgP.x (voteR x m ah)))) == (AttP.d3 (InstP.a (MsgP.x (voteR (voteX x m ah) m al))))) (Bool.and ((AttP.d4 (InstP.a (MsgP.x (voteR x m ah)))) == (AttP.d4 (InstP.a (MsgP.x (voteR (voteX x m ah) m al))))) (Bool.and ((AttP.d5 (InstP.a (MsgP.x (voteR x m ah)))) == (AttP.d5 (InstP.a (MsgP.x (voteR (voteX x m ah) m al))))) (Bool.and ((AttP.d6 (InstP.a (MsgP.x (voteR x m ah)))) == (AttP.d6 (InstP.a (MsgP.x (voteR (voteX x m ah) m al))))) true)))))))))))))))))))))))))))))) ∧ True) ∧ (true = true)) else ((false = false) ∧ True ∧ (true = true) ∧ (true = true) ∧ ((true = false) ∧ True) ∧ (true = true))))))))))))))))) : inLawAgain0 x m ah al :=
  Eq.mp (show _ = _ by kernel_rfl) h
end Go.Proofs.YtcokifdgbfbonaaDoor
/- The conditions hold: a vote covers what was proposed, and is told again alike. -/
namespace Go.Proofs.YtcokifdgbfbonaaDoor
set_option linter.unusedVariables false
set_option linter.unusedSimpArgs false
open Go.RowKit
set_option maxRecDepth 100000

theorem eqI_iff {x y : InstP} : eqI x y = true ↔ x = y := by
  obtain ⟨a1, a2, a3, a4, a5, a6, ⟨b1, b2, b3, b4, b5, b6, b7, b8⟩, ⟨c1, c2, c3, c4, c5, c6, c7, c8⟩⟩ := x
  obtain ⟨a1', a2', a3', a4', a5', a6', ⟨b1', b2', b3', b4', b5', b6', b7', b8'⟩, ⟨c1', c2', c3', c4', c5', c6', c7', c8'⟩⟩ := y
  simp [eqI, instL, sameCells, AV.same, and_assoc]
theorem rightI_some {x : InstP} (h : rightI x = true) (h0 : x.st ≠ 0) : ownsI x = true ∧ rightC x.c = true := by
  unfold rightI at h
  rw [if_neg h0] at h
  split at h
  · split at h
    · simp at h
    · simp at h; exact ⟨h.2, h.1⟩
  · simp at h
theorem rightM_ask {m : MsgP} (h : rightM m = true) (ha : asksK m.k = true) : m.ok = false ∧ m.x = valueI m.k m.b m.x ∧ rightI m.x = true ∧ m.x.r = m.r ∧ m.x.sl = m.s ∧ rightId m.r m.s = true := by
  have h6 : ¬ m.k = 6 := by intro h6; rw [h6] at ha; simp [asksK] at ha
  unfold rightM at h
  rw [if_neg h6] at h
  split at h
  · rename_i hc
    split at h
    · rename_i hd
      simp [ha] at h
      exact ⟨h.1, eqI_iff.1 h.2, hd.1, hd.2.1, hd.2.2, hc.2.2.2.2.2.1⟩
    · simp at h
  · simp at h
theorem votes_iff {x : InstP} {m : MsgP} : votes x m = true ↔ rightM m = true ∧ askedK m.k = true ∧ (m.r = x.r ∧ m.s = x.sl) ∧ speaksM m = true := by
  simp [votes, and_assoc]
theorem le_mx1 (a b : Int) : a ≤ mx a b := by unfold mx; split <;> omega
theorem le_mx2 (a b : Int) : b ≤ mx a b := by unfold mx; split <;> omega
theorem le_ow {j r n d h s : Int} (hs : r = j → s = d) (hn : s = n) : d ≤ ow j r n (mx d h) := by
  unfold ow
  split
  · rename_i hc; have := hs hc.2; omega
  · exact le_mx1 _ _
theorem ow_le {j r n d h : Int} : ow j r n h ≤ ow j r n (mx d h) := by
  unfold ow
  split
  · omega
  · exact le_mx2 _ _
theorem within_own {a h : AttP} {r n : Int} (hs : sel r a.d0 a.d1 a.d2 a.d3 a.d4 a.d5 a.d6 = n) :
    withinP a (ownP (mergeP a h) r n) = true ∧ withinP (ownP h r n) (ownP (mergeP a h) r n) = true := by
  unfold withinP withinB ownP mergeP
  simp only [Bool.and_eq_true, decide_eq_true_eq]
  refine ⟨⟨⟨⟨⟨⟨⟨⟨le_mx1 _ _, le_ow ?_ hs⟩, le_ow ?_ hs⟩, le_ow ?_ hs⟩, le_ow ?_ hs⟩, le_ow ?_ hs⟩, le_ow ?_ hs⟩, le_ow ?_ hs⟩, ⟨⟨⟨⟨⟨⟨⟨le_mx2 _ _, ow_le⟩, ow_le⟩, ow_le⟩, ow_le⟩, ow_le⟩, ow_le⟩, ow_le⟩⟩
  all_goals (rintro rfl; rfl)
/-- what a vote that pre-accepts anew is -/
theorem vote_new {x : InstP} {m : MsgP} {ah : AttP} (hr : rightM m = true) (hk : m.k = 1) (ht : voteT x m = true) (ho : (voteR x m ah).ok = true) (hx : voteX x m ah ≠ x) :
    voteR x m ah = replyM m true (voteX x m ah) ∧ voteX x m ah = ⟨x.r, x.sl, 1, m.b, m.b, decide (m.b = 0) && eqA (preA x m ah) m.x.a, m.x.c, preA x m ah⟩ ∧
      withinP m.x.a (preA x m ah) = true ∧ withinP (ownP ah x.r x.sl) (preA x m ah) = true := by
  have hv : ¬ votes x m = false := by intro h; unfold voteT at ht; rw [if_pos h] at ht; simp at ht
  have h5 : ¬ m.k = 5 := by omega
  have h3 : ¬ x.st = 3 := by intro h; unfold voteR at ho; rw [if_neg hv, if_neg h5, if_pos h] at ho; simp [askM] at ho
  have hb : ¬ m.b < x.bal := by intro h; unfold voteR at ho; rw [if_neg hv, if_neg h5, if_neg h3, if_pos h] at ho; simp [replyM] at ho
  have e1 : voteX x m ah = preX x m ah := by unfold voteX; rw [if_neg hv, if_neg h5, if_neg h3, if_neg hb, if_pos hk]
  have e2 : voteR x m ah = replyM m true (voteX x m ah) := by unfold voteR; rw [if_neg hv, if_neg h5, if_neg h3, if_neg hb, if_pos ht]
  have hc : ¬ (x.st ≠ 0 ∧ x.vote = m.b) := by intro h; exact hx (e1.trans (if_pos h))
  have e3 : preX x m ah = ⟨x.r, x.sl, 1, m.b, m.b, decide (m.b = 0) && eqA (preA x m ah) m.x.a, m.x.c, preA x m ah⟩ := if_neg hc
  have hv' := votes_iff.1 (by simpa using hv : votes x m = true)
  obtain ⟨a1, a2, a3, a4, a5, a6⟩ := rightM_ask hr (by simp [asksK, hk])
  have hst : m.x.st = 1 := by rw [a2, hk]; rfl
  have ho := (rightI_some a3 (by omega)).1
  have hsel : sel x.r m.x.a.d0 m.x.a.d1 m.x.a.d2 m.x.a.d3 m.x.a.d4 m.x.a.d5 m.x.a.d6 = x.sl := by
    unfold ownsI ownsB at ho
    simp only [Bool.and_eq_true, decide_eq_true_eq] at ho
    have := ho.2
    rw [a4, a5, hv'.2.2.1.1, hv'.2.2.1.2] at this
    exact this
  exact ⟨e2, e1.trans e3, within_own hsel⟩
theorem okSmall220 : OkSmall220 := by
  intro x hq
  refine vcSmall220 x ?_
  simp only [true_and, and_true, forall_eq, eq_self]
  refine cond_prop (fun h => ?_) fun h => ?_
  all_goals (unfold smallB; rw [Bool.eq_iff_iff]; simp at h ⊢; omega)
theorem okAnchor220 : OkAnchor220 := by
  intro hq
  refine vcAnchor220 ?_
  simp [smallX]
theorem small_of {x : InstP} {m : Nat} (h : (!smallB x m) = false) (hm : m ≤ 200) : smallX x := by
  simp [smallB] at h; unfold smallX; omega
theorem okLawCovers0 : OkLawCovers0 := by
  intro x m ah hq
  refine vcLawCovers0 x m ah ?_
  simp only [true_and, and_true, forall_eq, eq_self]
  refine ⟨hq.1, cond_prop (fun _ => trivial) fun h1 => ⟨hq.2, cond_prop (fun _ => trivial) fun h2 => ⟨small_of h1 (by omega), cond_prop (fun _ => trivial) fun h3 => cond_prop (fun _ => trivial) fun h4 => cond_prop (fun _ => trivial) fun h5 => ⟨small_of h2 (by omega), cond_prop (fun _ => trivial) fun h6 => cond_prop (fun _ => trivial) fun h7 => cond_prop (fun _ => trivial) fun h8 => cond_prop (fun _ => trivial) fun h9 => ?_⟩⟩⟩⟩
  have hx : voteX x m ah ≠ x := by
    intro h
    have : eqI (voteX x m ah) x = false := h9
    rw [eqI_iff.2 h] at this
    simp at this
  have ht : voteT x m = true := by simpa using h6
  have hk : m.k = 1 := by simpa using h5
  have hr : rightM m = true := by
    cases hr : rightM m
    · have : votes x m = false := by simp [votes, hr]
      unfold voteT at ht; rw [if_pos this] at ht; simp at ht
    · rfl
  obtain ⟨e1, e2, w1, w2⟩ := vote_new hr hk ht (by simpa using h7) hx
  have w1' : withinB m.x.a.s m.x.a.d0 m.x.a.d1 m.x.a.d2 m.x.a.d3 m.x.a.d4 m.x.a.d5 m.x.a.d6 (preA x m ah).s (preA x m ah).d0 (preA x m ah).d1 (preA x m ah).d2 (preA x m ah).d3 (preA x m ah).d4 (preA x m ah).d5 (preA x m ah).d6 = true := w1
  have w2' : withinB ah.s (ow 0 x.r x.sl ah.d0) (ow 1 x.r x.sl ah.d1) (ow 2 x.r x.sl ah.d2) (ow 3 x.r x.sl ah.d3) (ow 4 x.r x.sl ah.d4) (ow 5 x.r x.sl ah.d5) (ow 6 x.r x.sl ah.d6) (preA x m ah).s (preA x m ah).d0 (preA x m ah).d1 (preA x m ah).d2 (preA x m ah).d3 (preA x m ah).d4 (preA x m ah).d5 (preA x m ah).d6 = true := w2
  have er : (voteR x m ah).x = voteX x m ah := by rw [e1]; rfl
  have ea : (voteX x m ah).a = preA x m ah := by rw [e2]
  have ec : (voteX x m ah).c = m.x.c := by rw [e2]
  have es : (voteX x m ah).same = (decide (m.b = 0) && eqA (preA x m ah) m.x.a) := by rw [e2]
  rw [er]
  rw [ea, ec, es]
  rw [w1', w2']
  simp only [cond_true, beq_self_eq_true, Bool.and_self]
  refine cond_prop (fun h => ?_) fun h => ?_
  · have hb : m.b = 0 := by simpa using h
    rw [decide_eq_true hb, Bool.true_and]
    have : eqA (preA x m ah) m.x.a = sameCells (attL (preA x m ah)) (attL m.x.a) := rfl
    have key : ∀ b : Bool, true = (b == b) := by decide
    exact key (eqA (preA x m ah) m.x.a)
  · have hb : m.b ≠ 0 := by simpa using h
    rw [decide_eq_false hb]; rfl
/-- a message that comes again behind what it did -/
theorem vote_again {x : InstP} {m : MsgP} {ah al : AttP} : voteX (voteX x m ah) m al = voteX x m ah ∧ voteT (voteX x m ah) m = voteT x m ∧ voteR (voteX x m ah) m al = voteR x m ah := by
  by_cases hv : votes x m = false
  · have e : voteX x m ah = x := if_pos hv
    rw [e]
    refine ⟨if_pos hv, rfl, ?_⟩
    unfold voteR; rw [if_pos hv, if_pos hv]
  have hv' := votes_iff.1 (by simpa using hv : votes x m = true)
  have same : ∀ y : InstP, y.r = x.r → y.sl = x.sl → ¬ votes y m = false := by
    intro y h1 h2
    have : votes y m = votes x m := by unfold votes; rw [h1, h2]
    rw [this]; exact hv
  by_cases h5 : m.k = 5
  · have e : voteX x m ah = commitX x m := by unfold voteX; rw [if_neg hv, if_pos h5]
    have t : voteT x m = false := by unfold voteT; rw [if_neg hv, if_pos h5]
    have r : voteR x m ah = zM := by unfold voteR; rw [if_neg hv, if_pos h5]
    obtain ⟨a1, a2, a3, a4, a5, a6⟩ := rightM_ask hv'.1 (by simp [asksK, h5])
    have hst : (commitX x m).st = 3 ∧ (commitX x m).r = x.r ∧ (commitX x m).sl = x.sl := by
      unfold commitX
      split
      · rename_i h; exact ⟨h, rfl, rfl⟩
      · refine ⟨?_, a4.trans hv'.2.2.1.1, a5.trans hv'.2.2.1.2⟩
        show m.x.st = 3
        rw [a2, h5]; rfl
    have hn := same (commitX x m) hst.2.1 hst.2.2
    rw [e, t, r]
    refine ⟨?_, ?_, ?_⟩
    · unfold voteX; rw [if_neg hn, if_pos h5]
      exact if_pos hst.1
    · unfold voteT; rw [if_neg hn, if_pos h5]
    · unfold voteR; rw [if_neg hn, if_pos h5]
  by_cases h3 : x.st = 3
  · have e : voteX x m ah = x := by unfold voteX; rw [if_neg hv, if_neg h5, if_pos h3]
    rw [e]
    refine ⟨by unfold voteX; rw [if_neg hv, if_neg h5, if_pos h3], rfl, ?_⟩
    unfold voteR; rw [if_neg hv, if_neg h5, if_pos h3, if_neg hv, if_neg h5, if_pos h3]
  by_cases hb : m.b < x.bal
  · have e : voteX x m ah = x := by unfold voteX; rw [if_neg hv, if_neg h5, if_neg h3, if_pos hb]
    rw [e]
    refine ⟨by unfold voteX; rw [if_neg hv, if_neg h5, if_neg h3, if_pos hb], rfl, ?_⟩
    unfold voteR; rw [if_neg hv, if_neg h5, if_neg h3, if_pos hb, if_neg hv, if_neg h5, if_neg h3, if_pos hb]
  have go : ∀ (y : InstP) (a : AttP), ¬ votes y m = false → ¬ y.st = 3 → ¬ m.b < y.bal → voteX y m a = (if m.k = 1 then preX y m a else if m.k = 3 then acceptX y m else { y with bal := m.b }) ∧ voteT y m = (if m.k = 1 then preOK y m else true) ∧ voteR y m a = (if voteT y m then replyM m true (voteX y m a) else zM) := by
    intro y a g1 g2 g3
    refine ⟨?_, ?_, ?_⟩
    · unfold voteX; rw [if_neg g1, if_neg h5, if_neg g2, if_neg g3]
    · unfold voteT; rw [if_neg g1, if_neg h5, if_neg g2, if_neg g3]
    · unfold voteR; rw [if_neg g1, if_neg h5, if_neg g2, if_neg g3]
  obtain ⟨x1, x2, x3⟩ := go x ah hv h3 hb
  -- it is enough that the state that came answers alike
  have fin : ∀ y : InstP, voteX x m ah = y → y.r = x.r → y.sl = x.sl → ¬ y.st = 3 → ¬ m.b < y.bal → (if m.k = 1 then preX y m al else if m.k = 3 then acceptX y m else { y with bal := m.b }) = y → (if m.k = 1 then preOK y m else true) = voteT x m →
      voteX (voteX x m ah) m al = voteX x m ah ∧ voteT (voteX x m ah) m = voteT x m ∧ voteR (voteX x m ah) m al = voteR x m ah := by
    intro y hy h1 h2 g2 g3 g4 g5
    obtain ⟨y1, y2, y3⟩ := go y al (same y h1 h2) g2 g3
    rw [hy] at x3 ⊢
    rw [g4] at y1
    rw [g5] at y2
    refine ⟨y1, y2, ?_⟩
    rw [y3, x3, y1, y2]
  by_cases k1 : m.k = 1
  · rw [if_pos k1] at x1 x2
    by_cases hc : x.st ≠ 0 ∧ x.vote = m.b
    · have e : preX x m ah = x := if_pos hc
      refine fin x (x1.trans e) rfl rfl h3 hb ?_ ?_
      · rw [if_pos k1]; exact if_pos hc
      · rw [if_pos k1, x2]
    · have e : preX x m ah = ⟨x.r, x.sl, 1, m.b, m.b, decide (m.b = 0) && eqA (preA x m ah) m.x.a, m.x.c, preA x m ah⟩ := if_neg hc
      refine fin _ (x1.trans e) rfl rfl (by simp) (by simp) ?_ ?_
      · rw [if_pos k1]; exact if_pos ⟨by simp, rfl⟩
      · rw [if_pos k1, x2]
        have e1 : preOK x m = true := if_neg hc
        rw [e1]
        exact (if_pos ⟨by simp, rfl⟩ : preOK _ m = _).trans (by simp)
  by_cases k3 : m.k = 3
  · rw [if_neg k1, if_pos k3] at x1
    rw [if_neg k1] at x2
    by_cases hc : x.st = 2 ∧ x.vote = m.b
    · have e : acceptX x m = x := if_pos hc
      refine fin x (x1.trans e) rfl rfl h3 hb ?_ ?_
      · rw [if_neg k1, if_pos k3]; exact if_pos hc
      · rw [if_neg k1, x2]
    · have e : acceptX x m = m.x := if_neg hc
      obtain ⟨a1, a2, a3, a4, a5, a6⟩ := rightM_ask hv'.1 (by simp [asksK, k3])
      have s2 : m.x.st = 2 := by rw [a2, k3]; rfl
      have sv : m.x.vote = m.b := by rw [a2]; rfl
      have sb : m.x.bal = m.b := by rw [a2]; rfl
      refine fin m.x (x1.trans e) (a4.trans hv'.2.2.1.1) (a5.trans hv'.2.2.1.2) (by omega) (by omega) ?_ ?_
      · rw [if_neg k1, if_pos k3]; exact if_pos ⟨s2, sv⟩
      · rw [if_neg k1, x2]
  · rw [if_neg k1, if_neg k3] at x1
    rw [if_neg k1] at x2
    refine fin _ x1 rfl rfl h3 (by simp) ?_ ?_
    · rw [if_neg k1, if_neg k3]
    · rw [if_neg k1, x2]
theorem okLawAgain0 : OkLawAgain0 := by
  intro x m ah al hq
  refine vcLawAgain0 x m ah al ?_
  obtain ⟨e1, e2, e3⟩ := vote_again (x := x) (m := m) (ah := ah) (al := al)
  rw [e1, e2, e3]
  simp only [true_and, and_true, forall_eq, eq_self, beq_self_eq_true, Bool.and_self, Bool.not_true, cond_false, cond_true]
  refine ⟨hq.1, cond_prop (fun _ => trivial) fun h1 => ⟨hq.2, cond_prop (fun _ => trivial) fun h2 => ⟨small_of h1 (by omega), cond_prop (fun _ => trivial) fun h3 => cond_prop (fun _ => trivial) fun h4 => cond_prop (fun _ => trivial) fun h5 => ⟨small_of h2 (by omega), small_of h2 (by omega)⟩⟩⟩⟩
end Go.Proofs.YtcokifdgbfbonaaDoor
/- The contracts are met. -/
namespace Go.Proofs.YtcokifdgbfbonaaDoor
set_option linter.unusedVariables false
set_option linter.unusedSimpArgs false
open Go.RowKit
theorem sndAnchor22 : Sound Tryd.prog (lookΓ gamAnchor22) := sound_of _ fun p hp => by
  simp only [gamAnchor22, List.mem_cons, List.not_mem_nil, or_false] at hp
  rcases hp with rfl | rfl | rfl
  · exact meetsInew.orNil
  · exact meetsAsk.orNil
  · exact meetsVote.orNil
set_option maxHeartbeats 4000000 in
theorem meetsAnchor22 : Meets Tryd.prog 24 anchor22F := by
  refine meets_of_awp (Γ := lookΓ gamAnchor22) (L := fun _ _ => none) sndAnchor22 mixedOrders Tryd.func24 rfl Tryd.call24 ?_
  intro args q r hF hq ho
  unfold anchor22F at hF
  split at hF
  · cases hF
    exact ⟨by simp only [List.length_cons, List.length_nil]; decide, okAnchor220 hq⟩
  · cases hF
theorem sndSmall22 : Sound Tryd.prog (lookΓ gamSmall22) := sound_of _ fun p hp => by
  simp [gamSmall22] at hp
set_option maxHeartbeats 4000000 in
theorem meetsSmall22 : Meets Tryd.prog 25 small22F := by
  refine meets_of_awp (Γ := lookΓ gamSmall22) (L := fun _ _ => none) sndSmall22 mixedOrders Tryd.func25 rfl Tryd.call25 ?_
  intro args q r hF hq ho
  unfold small22F at hF
  split at hF
  · split at hF
    · rename_i x hzx
      obtain rfl := instOf_some hzx
      cases hF
      exact ⟨by simp only [List.length_cons, List.length_nil]; decide, okSmall220 _ hq⟩
    · cases hF
  · cases hF
theorem sndLawCovers : Sound Tryd.prog (lookΓ gamLawCovers) := sound_of _ fun p hp => by
  simp only [gamLawCovers, List.mem_cons, List.not_mem_nil, or_false] at hp
  rcases hp with rfl | rfl | rfl | rfl | rfl | rfl | rfl
  · exact meetsAnchor22.orNil
  · exact meetsSmall22.orNil
  · exact meetsIright.orNil
  · exact meetsRefARight.orNil
  · exact meetsVote.orNil
  · exact meetsAttWithin.orNil
  · exact meetsAttOwn.orNil
set_option maxHeartbeats 4000000 in
theorem meetsLawCovers : Meets Tryd.prog 6 lawCoversF := by
  refine meets_of_awp (Γ := lookΓ gamLawCovers) (L := fun _ _ => none) sndLawCovers mixedOrders Tryd.func6 rfl Tryd.call6 ?_
  intro args q r hF hq ho
  unfold lawCoversF at hF
  split at hF
  · split at hF
    · rename_i x m ah hzx hzm hzah
      obtain rfl := instOf_some hzx
      obtain rfl := msgOf_some hzm
      obtain rfl := attOf_some hzah
      cases hF
      exact ⟨by simp only [List.length_cons, List.length_nil]; decide, okLawCovers0 _ _ _ hq⟩
    · cases hF
  · cases hF
theorem sndLawAgain : Sound Tryd.prog (lookΓ gamLawAgain) := sound_of _ fun p hp => by
  simp only [gamLawAgain, List.mem_cons, List.not_mem_nil, or_false] at hp
  rcases hp with rfl | rfl | rfl | rfl | rfl
  · exact meetsAnchor22.orNil
  · exact meetsSmall22.orNil
  · exact meetsIright.orNil
  · exact meetsRefARight.orNil
  · exact meetsVote.orNil
set_option maxHeartbeats 4000000 in
theorem meetsLawAgain : Meets Tryd.prog 5 lawAgainF := by
  refine meets_of_awp (Γ := lookΓ gamLawAgain) (L := fun _ _ => none) sndLawAgain mixedOrders Tryd.func5 rfl Tryd.call5 ?_
  intro args q r hF hq ho
  unfold lawAgainF at hF
  split at hF
  · split at hF
    · rename_i x m ah al hzx hzm hzah hzal
      obtain rfl := instOf_some hzx
      obtain rfl := msgOf_some hzm
      obtain rfl := attOf_some hzah
      obtain rfl := attOf_some hzal
      cases hF
      exact ⟨by simp only [List.length_cons, List.length_nil]; decide, okLawAgain0 _ _ _ _ hq⟩
    · cases hF
  · cases hF
end Go.Proofs.YtcokifdgbfbonaaDoor
