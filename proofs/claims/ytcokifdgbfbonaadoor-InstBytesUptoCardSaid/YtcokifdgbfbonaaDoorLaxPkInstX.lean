/- Contracts by content, their conditions, and that they are met: InstX. -/
import Derived.Test.YtcokifdgbfbonaaDoorLaxPkInstW
import Derived.Test.YtcokifdgbfbonaaDoorLaxInstRC
/- Contracts by content, and the conditions that their code must meet. -/
namespace Go.Proofs.YtcokifdgbfbonaaDoor
set_option linter.unusedVariables false
set_option linter.unusedSimpArgs false
open Go.RowKit
def of10F : Con
  | [.val (.agg zcx)] => (match instOf zcx with | some x => some (True, ⟨.agg (instL x), none, none⟩) | _ => none)
  | _ => none
def gamOf10 : List (Nat × Con) := []
def lpOf100 (x : InstP) : Nat → Option LoopPlan := fun _ => none
def inOf100 (x : InstP) : Prop := awp [] (lpOf100 x) (lookΓ gamOf10) Tryd.prog Tryd.f59.ntmps 0 (Tryd.f59.body.getD .skip) (entrySt [.val (.agg (instL x))]) (exitQ Tryd.prog Tryd.f59.results.toList [] ⟨.agg (instL x), none, none⟩)
def OkOf100 : Prop := ∀ (x : InstP), True → inOf100 x
def anchor10F : Con
  | [] => (some (True, ⟨.bool true, none, none⟩))
  | _ => none
def gamAnchor10 : List (Nat × Con) := [(43, inewF.orNil), (61, ibytesF.orNil)]
def lpAnchor100  : Nat → Option LoopPlan := fun _ => none
def inAnchor100  : Prop := awp [] (lpAnchor100) (lookΓ gamAnchor10) Tryd.prog Tryd.f31.ntmps 0 (Tryd.f31.body.getD .skip) (entrySt []) (exitQ Tryd.prog Tryd.f31.results.toList [] ⟨.bool true, none, none⟩)
def OkAnchor100 : Prop := True → inAnchor100
def small10F : Con
  | [.val (.agg zcx)] => (match instOf zcx with | some x => some (maxX x, ⟨.bool (smallB x 200), none, none⟩) | _ => none)
  | _ => none
def gamSmall10 : List (Nat × Con) := []
def lpSmall100 (x : InstP) : Nat → Option LoopPlan := fun _ => none
def inSmall100 (x : InstP) : Prop := awp [] (lpSmall100 x) (lookΓ gamSmall10) Tryd.prog Tryd.f32.ntmps 0 (Tryd.f32.body.getD .skip) (entrySt [.val (.agg (instL x))]) (exitQ Tryd.prog Tryd.f32.results.toList [] ⟨.bool (smallB x 200), none, none⟩)
def OkSmall100 : Prop := ∀ (x : InstP), maxX x → inSmall100 x
def lawIBytesF : Con
  | [.val (.agg zcx), .val (.sl ms .no)] => (match instOf zcx with | some x => some (maxX x ∧ isBytes ms ∧ ms.length ≤ 70368744177664, ⟨.bool true, none, none⟩) | _ => none)
  | _ => none
def gamLawIBytes : List (Nat × Con) := [(31, anchor10F.orNil), (32, small10F.orNil), (59, of10F.orNil), (60, xrightF.orNil), (61, ibytesF.orNil), (62, iparseF.orNil), (49, newInF.orNil), (63, itakeF.orNil), (51, inLeftF.orNil)]
def lpLawIBytes0 (x : InstP) (ms : List AV) : Nat → Option LoopPlan := fun _ => none
def inLawIBytes0 (x : InstP) (ms : List AV) : Prop := awp [] (lpLawIBytes0 x ms) (lookΓ gamLawIBytes) Tryd.prog Tryd.f14.ntmps 0 (Tryd.f14.body.getD .skip) (entrySt [.val (.agg (instL x)), .val (.sl ms .no)]) (exitQ Tryd.prog Tryd.f14.results.toList [] ⟨.bool true, none, none⟩)
def OkLawIBytes0 : Prop := ∀ (x : InstP) (ms : List AV), maxX x ∧ isBytes ms ∧ ms.length ≤ 70368744177664 → (rangeX x) → inLawIBytes0 x ms
end Go.Proofs.YtcokifdgbfbonaaDoor
/- What the verification conditions come to: printed by a program of ours (wip/lax/ex/Norm.lean). -/
namespace Go.Proofs.YtcokifdgbfbonaaDoor
set_option linter.unusedVariables false
open Go.RowKit
set_option maxRecDepth 100000
theorem vcOf100 (x : InstP) (h : (tt ∧ T1 ∧ T1 ∧ tt ∧ T1 ∧ tt ∧ T1 ∧ tt ∧ tt ∧ T1 ∧ tt ∧ T1 ∧ tt ∧ T1 ∧ tt ∧ T1 ∧ tt ∧ T1 ∧ tt ∧ T1 ∧ tt ∧ T1 ∧ T1 ∧ tt ∧ T1 ∧ T1 ∧ tt ∧ T1 ∧ tt ∧ T1 ∧ tt ∧ T1 ∧ tt ∧ T1 ∧ tt ∧ T1 ∧ tt ∧ T1 ∧ T1 ∧ tt ∧ T1 ∧ tt ∧ tt ∧ tt ∧ (((InstP.r x) = (InstP.r x)) ∧ ((InstP.sl x) = (InstP.sl x)) ∧ ((InstP.st x) = (InstP.st x)) ∧ ((InstP.bal x) = (InstP.bal x)) ∧ ((InstP.vote x) = (InstP.vote x)) ∧ ((InstP.same x) = (InstP.same x)) ∧ ((CmdP.k (InstP.c x)) = (CmdP.k (InstP.c x))) ∧ ((CmdP.num (InstP.c x)) = (CmdP.num (InstP.c x))) ∧ ((CmdP.foot (InstP.c x)) = (CmdP.foot (InstP.c x))) ∧ ((CmdP.rq (InstP.c x)) = (CmdP.rq (InstP.c x))) ∧ ((CmdP.path (InstP.c x)) = (CmdP.path (InstP.c x))) ∧ ((CmdP.mode (InstP.c x)) = (CmdP.mode (InstP.c x))) ∧ ((CmdP.n (InstP.c x)) = (CmdP.n (InstP.c x))) ∧ ((CmdP.time (InstP.c x)) = (CmdP.time (InstP.c x))) ∧ ((AttP.s (InstP.a x)) = (AttP.s (InstP.a x))) ∧ ((AttP.d0 (InstP.a x)) = (AttP.d0 (InstP.a x))) ∧ ((AttP.d1 (InstP.a x)) = (AttP.d1 (InstP.a x))) ∧ ((AttP.d2 (InstP.a x)) = (AttP.d2 (InstP.a x))) ∧ ((AttP.d3 (InstP.a x)) = (AttP.d3 (InstP.a x))) ∧ ((AttP.d4 (InstP.a x)) = (AttP.d4 (InstP.a x))) ∧ ((AttP.d5 (InstP.a x)) = (AttP.d5 (InstP.a x))) ∧ ((AttP.d6 (InstP.a x)) = (AttP.d6 (InstP.a x))) ∧ True) ∧ tt)) : inOf100 x :=
  Eq.mp (show _ = _ by kernel_rfl) h
theorem vcAnchor100 (h : (tt ∧ T1 ∧ tt ∧ T1 ∧ (T1 ∧ True) ∧ (T1 ∧ (smallX (InstP.mk (1 : Int) (2 : Int) (0 : Int) (0 : Int) (0 : Int) false (CmdP.mk (0 : Int) (0 : Int) (@List.nil.{0} UInt8) (0 : Int) (@List.nil.{0} UInt8) (0 : Int) (0 : Int) (0 : Int)) (AttP.mk (0 : Int) (0 : Int) (0 : Int) (0 : Int) (0 : Int) (0 : Int) (0 : Int) (0 : Int)))) ∧ (∀ (v0 : (@Ne.{1} Int (0 : Int) (0 : Int))), (attGood (InstP.mk (1 : Int) (2 : Int) (0 : Int) (0 : Int) (0 : Int) false (CmdP.mk (0 : Int) (0 : Int) (@List.nil.{0} UInt8) (0 : Int) (@List.nil.{0} UInt8) (0 : Int) (0 : Int) (0 : Int)) (AttP.mk (0 : Int) (0 : Int) (0 : Int) (0 : Int) (0 : Int) (0 : Int) (0 : Int) (0 : Int)))))) ∧ (∀ (v0 : (@List.{0} AV)), (∀ (v1 : (v0 = (bytesAV (encI (InstP.mk (1 : Int) (2 : Int) (0 : Int) (0 : Int) (0 : Int) false (CmdP.mk (0 : Int) (0 : Int) (@List.nil.{0} UInt8) (0 : Int) (@List.nil.{0} UInt8) (0 : Int) (0 : Int) (0 : Int)) (AttP.mk (0 : Int) (0 : Int) (0 : Int) (0 : Int) (0 : Int) (0 : Int) (0 : Int) (0 : Int))))))), (T1 ∧ tt ∧ T1 ∧ T1 ∧ T1 ∧ T1 ∧ (bif ((@Nat.cast Int _ (List.length v0)) == (4 : Int)) then (T1 ∧ (((0 : Int) ≤ (0 : Int)) ∧ ((0 : Int) < (@Nat.cast Int _ (List.length v0))) ∧ (okElem 1 v0 0)) ∧ (okRead [(Kd.int Go.IntKind.u8)] (elemAt v0 0) 0) ∧ T1 ∧ T1 ∧ T1 ∧ (bif ((rdInt (elemAt v0 0) 0) == (1 : Int)) then (T1 ∧ (((0 : Int) ≤ (1 : Int)) ∧ ((1 : Int) < (@Nat.cast Int _ (List.length v0))) ∧ (okElem 1 v0 1)) ∧ (okRead [(Kd.int Go.IntKind.u8)] (elemAt v0 1) 0) ∧ T1 ∧ T1 ∧ T1 ∧ (bif ((rdInt (elemAt v0 1) 0) == (2 : Int)) then (T1 ∧ (((0 : Int) ≤ (2 : Int)) ∧ ((2 : Int) < (@Nat.cast Int _ (List.length v0))) ∧ (okElem 1 v0 2)) ∧ (okRead [(Kd.int Go.IntKind.u8)] (elemAt v0 2) 0) ∧ T1 ∧ T1 ∧ T1 ∧ (bif ((rdInt (elemAt v0 2) 0) == (0 : Int)) then (T1 ∧ (((0 : Int) ≤ (3 : Int)) ∧ ((3 : Int) < (@Nat.cast Int _ (List.length v0))) ∧ (okElem 1 v0 3)) ∧ (okRead [(Kd.int Go.IntKind.u8)] (elemAt v0 3) 0) ∧ T1 ∧ T1 ∧ T1 ∧ tt ∧ tt ∧ ((true = ((rdInt (elemAt v0 3) 0) == (0 : Int))) ∧ True) ∧ tt) else ((false = false) ∧ T1 ∧ tt ∧ tt ∧ ((true = false) ∧ True) ∧ tt))) else ((false = false) ∧ T1 ∧ (false = false) ∧ T1 ∧ tt ∧ tt ∧ ((true = false) ∧ True) ∧ tt))) else ((false = false) ∧ T1 ∧ (false = false) ∧ T1 ∧ (false = false) ∧ T1 ∧ tt ∧ tt ∧ ((true = false) ∧ True) ∧ tt))) else ((false = false) ∧ T1 ∧ (false = false) ∧ T1 ∧ (false = false) ∧ T1 ∧ (false = false) ∧ T1 ∧ tt ∧ tt ∧ ((true = false) ∧ True) ∧ tt))))))) : inAnchor100 :=
  Eq.mp (show _ = _ by kernel_rfl) h
theorem vcSmall100 (x : InstP) (h : (tt ∧ T1 ∧ T1 ∧ tt ∧ T1 ∧ T1 ∧ tt ∧ T1 ∧ T1 ∧ T1 ∧ (bif (decide ((@Nat.cast Int _ (List.length (CmdP.path (InstP.c x)))) < (200 : Int))) then (T1 ∧ T1 ∧ T1 ∧ tt ∧ T1 ∧ T1 ∧ T1 ∧ T1 ∧ tt ∧ tt ∧ (((smallB x 200) = (decide ((@Nat.cast Int _ (List.length (CmdP.foot (InstP.c x)))) < (200 : Int)))) ∧ True) ∧ tt) else ((false = false) ∧ T1 ∧ tt ∧ tt ∧ (((smallB x 200) = false) ∧ True) ∧ tt)))) : inSmall100 x :=
  Eq.mp (show _ = _ by kernel_rfl) h
theorem vcLawIBytes0 (x : InstP) (ms : (@List.{0} AV)) (h : (tt ∧ T1 ∧ T1 ∧ tt ∧ (T1 ∧ True) ∧ T1 ∧ tt ∧ tt ∧ (T1 ∧ (maxX x)) ∧ T1 ∧ T1 ∧ (bif (Bool.not (smallB x 200)) then (tt ∧ tt ∧ T1 ∧ tt ∧ tt ∧ (tt ∧ True) ∧ tt) else (tt ∧ (T1 ∧ True) ∧ (T1 ∧ (smallX x)) ∧ T1 ∧ T1 ∧ (bif (Bool.not (rightI x)) then (tt ∧ T1 ∧ tt ∧ tt ∧ (tt ∧ True) ∧ tt) else (tt ∧ tt ∧ (T1 ∧ (smallX x) ∧ (∀ (v0 : (@Ne.{1} Int (InstP.st x) (0 : Int))), (attGood x))) ∧ (∀ (v0 : (@List.{0} AV)), (∀ (v1 : (v0 = (bytesAV (encI x)))), (T1 ∧ tt ∧ T1 ∧ (T1 ∧ (isBytes v0) ∧ ((List.length v0) ≤ 140737488355328)) ∧ T1 ∧ T1 ∧ T1 ∧ T1 ∧ tt ∧ T1 ∧ tt ∧ T1 ∧ T1 ∧ ((@Eq.{1} Nat 0 0) ∧ (((0 + (List.length v0)) * 1) ≤ 140737488355328) ∧ ((0 + (List.length v0)) ≤ 9223372036854775807) ∧ (okWidth 1 (@List.nil.{0} AV)) ∧ (okWidth 1 v0)) ∧ T1 ∧ (((0 + (List.length v0)) = (List.length (@catL AV (@List.nil.{0} AV) v0))) ∧ ((((List.length (@catL AV (@List.nil.{0} AV) v0)) + (List.length ms)) * 1) ≤ 140737488355328) ∧ (((List.length (@catL AV (@List.nil.{0} AV) v0)) + (List.length ms)) ≤ 9223372036854775807) ∧ (okWidth 1 (@catL AV (@List.nil.{0} AV) v0)) ∧ (okWidth 1 ms)) ∧ (T1 ∧ (isBytes (@catL AV (@catL AV (@List.nil.{0} AV) v0) ms)) ∧ ((List.length (@catL AV (@catL AV (@List.nil.{0} AV) v0) ms)) ≤ 140737488355328)) ∧ (∀ (v2 : (@List.{0} AV)), (∀ (v3 : (v2 = (@catL AV (@catL AV (@List.nil.{0} AV) v0) ms))), (∀ (v4 : Int), (∀ (v5 : (v4 = (0 : Int))), (T1 ∧ tt ∧ T1 ∧ T1 ∧ T1 ∧ (bif ((iparseE (bytesL v0)) == (0 : Int)) then (tt ∧ tt ∧ T1 ∧ T1 ∧ T1 ∧ (bif (Bool.and ((InstP.r (iparseX (bytesL v0))) == (InstP.r x)) (Bool.and ((InstP.sl (iparseX (bytesL v0))) == (InstP.sl x)) (Bool.and ((InstP.st (iparseX (bytesL v0))) == (InstP.st x)) (Bool.and ((InstP.bal (iparseX (bytesL v0))) == (InstP.bal x)) (Bool.and ((InstP.vote (iparseX (bytesL v0))) == (InstP.vote x)) (Bool.and (@BEq.beq.{0} Bool (@instBEqOfDecidableEq.{0} Bool instDecidableEqBool) (InstP.same (iparseX (bytesL v0))) (InstP.same x)) (Bool.and ((CmdP.k (InstP.c (iparseX (bytesL v0)))) == (CmdP.k (InstP.c x))) (Bool.and ((CmdP.num (InstP.c (iparseX (bytesL v0)))) == (CmdP.num (InstP.c x))) (Bool.and (@BEq.beq.{0} (List UInt8) (@List.instBEq.{0} UInt8 (@instBEqOfDecidableEq.{0} UInt8 instDecidableEqUInt8)) (CmdP.foot (InstP.c (iparseX (bytesL v0)))) (CmdP.foot (InstP.c x))) (Bool.and ((CmdP.rq (InstP.c (iparseX (bytesL v0)))) == (CmdP.rq (InstP.c x))) (Bool.and (@BEq.beq.{0} (List UInt8) (@List.instBEq.{0} UInt8 (@instBEqOfDecidableEq.{0} UInt8 instDecidableEqUInt8)) (CmdP.path (InstP.c (iparseX (bytesL v0)))) (CmdP.path (InstP.c x))) (Bool.and ((CmdP.mode (InstP.c (iparseX (bytesL v0)))) == (CmdP.mode (InstP.c x))) (Bool.and ((CmdP.n (InstP.c (iparseX (bytesL v0)))) == (CmdP.n (InstP.c x))) (Bool.and ((CmdP.time (InstP.c (iparseX (bytesL v0)))) == (CmdP.time (InstP.c x))) (Bool.and ((AttP.s (InstP.a (iparseX (bytesL v0)))) == (AttP.s (InstP.a x))) (Bool.and ((AttP.d0 (InstP.a (iparseX (bytesL v0)))) == (AttP.d0 (InstP.a x))) (Bool.and ((AttP.d1 (InstP.a (iparseX (bytesL v0)))) == (AttP.d1 (InstP.a x))) (Bool.and ((AttP.d2 (InstP.a (iparseX (bytesL v0)))) == (AttP.d2 (InstP.a x))) (Bool.and ((AttP.d3 (InstP.a (iparseX (bytesL v0)))) == (AttP.d3 (InstP.a x))) (Bool.and ((AttP.d4 (InstP.a (iparseX (bytesL v0)))) == (AttP.d4 (InstP.a x))) (Bool.and ((AttP.d5 (InstP.a (iparseX (bytesL v0)))) == (AttP.d5 (InstP.a x))) (Bool.and ((AttP.d6 (InstP.a (iparseX (bytesL v0)))) == (AttP.d6 (InstP.a x))) true)))))))))))))))))))))) then (T1 ∧ (T1 ∧ (isBytes v2)) ∧ tt ∧ T1 ∧ T1 ∧ T1 ∧ (bif (Bool.and ((InstP.r (itX (bytesL v2) v4)) == (InstP.r x)) (Bool.and ((InstP.sl (itX (bytesL v2) v4)) == (InstP.sl x)) (Bool.and ((InstP.st (itX (bytesL v2) v4)) == (InstP.st x)) (Bool.and ((InstP.bal (itX (bytesL v2) v4)) == (InstP.bal x)) (Bool.and ((InstP.vote (itX (bytesL v2) v4)) == (InstP.vote x)) (Bool.and (@BEq.beq.{0} Bool (@instBEqOfDecidableEq.{0} Bool instDecidableEqBool) (InstP.same (itX (bytesL v2) v4)) (InstP.same x)) (Bool.and ((CmdP.k (InstP.c (itX (bytesL v2) v4))) == (CmdP.k (InstP.c x))) (Bool.and ((CmdP.num (InstP.c (itX (bytesL v2) v4))) == (CmdP.num (InstP.c x))) (Bool.and (@BEq.beq.{0} (List UInt8) (@List.instBEq.{0} UInt8 (@instBEqOfDecidableEq.{0} UInt8 instDecidableEqUInt8)) (CmdP.foot (InstP.c (itX (bytesL v2) v4))) (CmdP.foot (InstP.c x))) (Bool.and ((CmdP.rq (InstP.c (itX (bytesL v2) v4))) == (CmdP.rq (InstP.c x))) (Bool.and (@BEq.beq.{0} (List UInt8) (@List.instBEq.{0} UInt8 (@instBEqOfDecidableEq.{0} UInt8 instDecidableEqUInt8)) (CmdP.path (InstP.c (itX (bytesL v2) v4))) (CmdP.path (InstP.c x))) (Bool.and ((CmdP.mode (InstP.c (itX (bytesL v2) v4))) == (CmdP.mode (InstP.c x))) (Bool.and ((CmdP.n (InstP.c (itX (bytesL v2) v4))) == (CmdP.n (InstP.c x))) (Bool.and ((CmdP.time (InstP.c (itX (bytesL v2) v4))) == (CmdP.time (InstP.c x))) (Bool.and ((AttP.s (InstP.a (itX (bytesL v2) v4))) == (AttP.s (InstP.a x))) (Bool.and ((AttP.d0 (InstP.a (itX (bytesL v2) v4))) == (AttP.d0 (InstP.a x))) (Bool.and ((AttP.d1 (InstP.a (itX (bytesL v2) v4))) == (AttP.d1 (InstP.a x))) (Bool.and ((AttP.d2 (InstP.a (itX (bytesL v2) v4))) == (AttP.d2 (InstP.a x))) (Bool.and ((AttP.d3 (InstP.a (itX (bytesL v2) v4))) == (AttP.d3 (InstP.a x))) (Bool.and ((AttP.d4 (InstP.a (itX (bytesL v2) v4))) == (AttP.d4 (InstP.a x))) (Bool.and ((AttP.d5 (InstP.a (itX (bytesL v2) v4))) == (AttP.d5 (InstP.a x))) (Bool.and ((AttP.d6 (InstP.a (itX (bytesL v2) v4))) == (AttP.d6 (InstP.a x))) true)))))))))))))))))))))) then (T1 ∧ (T1 ∧ (isBytes (bytesAV (itR (bytesL v2) v4)))) ∧ (∀ (v6 : Int), (∀ (v7 : (v6 = (inLeft (bytesL (bytesAV (itR (bytesL v2) v4))) (itE (bytesL v2) v4)))), (∀ (v8 : (@List.{0} AV)), (∀ (v9 : (v8 = (bytesAV (itR (bytesL v2) v4)))), (∀ (v10 : Int), (∀ (v11 : (v10 = (itE (bytesL v2) v4))), (T1 ∧ T1 ∧ T1 ∧ T1 ∧ T1 ∧ tt ∧ tt ∧ tt ∧ ((true = (v6 == (@Nat.cast Int _ (List.length ms)))) ∧ True) ∧ tt)))))))) else ((false = false) ∧ T1 ∧ tt ∧ tt ∧ tt ∧ ((true = false) ∧ True) ∧ tt))) else ((false = false) ∧ T1 ∧ (false = false) ∧ T1 ∧ tt ∧ tt ∧ tt ∧ ((true = false) ∧ True) ∧ tt))) else ((false = false) ∧ T1 ∧ (false = false) ∧ T1 ∧ (false = false) ∧ T1 ∧ tt ∧ tt ∧ tt ∧ ((true = false) ∧ True) ∧ tt)))))))))))))))) : inLawIBytes0 x ms :=
  Eq.mp (show _ = _ by kernel_rfl) h
end Go.Proofs.YtcokifdgbfbonaaDoor
/- The conditions hold: a state that is written is read again. -/
namespace Go.Proofs.YtcokifdgbfbonaaDoor
set_option linter.unusedVariables false
set_option linter.unusedSimpArgs false
open Go.RowKit
set_option maxRecDepth 100000

theorem sh_short {v m : Int} (more : List UInt8) (h0 : 0 ≤ v) (hm : v ≤ m) (hv : v ≤ 18446744073709551615) :
    shV (catL (short v.toNat) more) 0 m = v ∧ shRest (catL (short v.toNat) more) 0 m = more ∧ shErr (catL (short v.toNat) more) 0 m = 0 := by
  have h := rShort_short v.toNat more (by omega)
  have e : catL (short v.toNat) more = short v.toNat ++ more := rfl
  rw [e]
  have hm' : ¬ m < ((v.toNat : Nat) : Int) := by omega
  simp [shV, shRest, shErr, h, hm']
  omega
theorem encID_taken {r n : Int} (more : List UInt8) (h : rightId r n = true) : idR (catL (encID r n) more) 0 = r ∧ idS (catL (encID r n) more) 0 = n ∧ idRest (catL (encID r n) more) 0 = more ∧ idErr (catL (encID r n) more) 0 = 0 := by
  simp [rightId] at h
  have e : catL (encID r n) more = catL (encByte r) (catL (short n.toNat) more) := by
    unfold encID
    rw [catL_assoc]
    have w1 : IntKind.u8.wrap r = r := by rw [IntKind.wrap_u8]; omega
    rw [w1, wrap_u64 (by omega) (by omega)]
  rw [e]
  obtain ⟨L, hL⟩ : ∃ L, L = catL (short n.toNat) more := ⟨_, rfl⟩
  have hs := sh_short (v := n) (m := 1023) more (by omega) (by omega) (by omega)
  rw [← hL] at hs ⊢
  have ok : tkOK (catL (encByte r) L).length 0 1 = true := by simp [tkOK, catL, encByte]; omega
  have tk := tk_ok ok _ rfl
  have hb : inByteV (catL (encByte r) L) 0 = r := by
    unfold inByteV
    rw [tk.2.2]
    simp [catL, encByte, UInt8.toNat_ofNat']
    omega
  have hd : tkRest (catL (encByte r) L) 0 1 = L := by rw [tk.1]; simp [catL, encByte]
  have he : idE1 (catL (encByte r) L) 0 = 0 := by
    unfold idE1
    rw [hb, if_neg (by omega), tk.2.1]
  have e1 : idErr (catL (encByte r) L) 0 = 0 := by unfold idErr; rw [hd, he]; exact hs.2.2
  refine ⟨?_, ?_, ?_, e1⟩
  · unfold idR; rw [e1, hb]; simp
  · unfold idS; rw [e1, hd, he]; simp [hs.1]
  · unfold idRest; rw [hd, he]; exact hs.2.1
theorem truth_taken (b : Bool) (more : List UInt8) : inTruthV (encTruth b ++ more) 0 = b ∧ tkRest (encTruth b ++ more) 0 1 = more ∧ inTruthE (encTruth b ++ more) 0 = 0 := by
  have := tk_ok (n := (encTruth b ++ more).length) (e := 0) (k := 1) (by simp [tkOK, encTruth]; omega) _ rfl
  have hv : inByteV (encTruth b ++ more) 0 = if b then 1 else 0 := by
    unfold inByteV
    rw [this.2.2]
    cases b <;> simp [encTruth]
  have he : inTruthE (encTruth b ++ more) 0 = 0 := by
    unfold inTruthE
    rw [hv, this.2.1]
    cases b <;> simp
  unfold inTruthV
  rw [he, hv, this.1]
  cases b <;> simp [encTruth]
theorem encA_app {s d0 d1 d2 d3 d4 d5 d6 : Int} (h : rightA s d0 d1 d2 d3 d4 d5 d6 = true) (more : List UInt8) :
    (atS (encA s d0 d1 d2 d3 d4 d5 d6 ++ more) 0 7) = (more, 0) ∧ itA (encA s d0 d1 d2 d3 d4 d5 d6 ++ more) 0 = ⟨s, d0, d1, d2, d3, d4, d5, d6⟩ := by
  simp only [rightA, inLen, Bool.and_eq_true, decide_eq_true_eq] at h
  have e : encA s d0 d1 d2 d3 d4 d5 d6 ++ more = catL (short s.toNat) (catL (short d0.toNat) (catL (short d1.toNat) (catL (short d2.toNat) (catL (short d3.toNat) (catL (short d4.toNat) (catL (short d5.toNat) (catL (short d6.toNat) more))))))) := by
    simp only [encA, catL_eq, List.append_assoc]
  rw [e]
  have k : ∀ (v : Int) more, 0 ≤ v → v ≤ 1024 → shV (catL (short v.toNat) more) 0 1024 = v ∧ shRest (catL (short v.toNat) more) 0 1024 = more ∧ shErr (catL (short v.toNat) more) 0 1024 = 0 := fun v more h0 h1 => sh_short more h0 h1 (by omega)
  have a0 := fun more => sh_short (v := s) (m := 1073741824) more (by omega) (by omega) (by omega)
  have b0 := fun more => k d0 more (by omega) (by omega)
  have b1 := fun more => k d1 more (by omega) (by omega)
  have b2 := fun more => k d2 more (by omega) (by omega)
  have b3 := fun more => k d3 more (by omega) (by omega)
  have b4 := fun more => k d4 more (by omega) (by omega)
  have b5 := fun more => k d5 more (by omega) (by omega)
  have b6 := fun more => k d6 more (by omega) (by omega)
  have t : atS (catL (short s.toNat) (catL (short d0.toNat) (catL (short d1.toNat) (catL (short d2.toNat) (catL (short d3.toNat) (catL (short d4.toNat) (catL (short d5.toNat) (catL (short d6.toNat) more)))))))) 0 7 = (more, 0) := by
    simp [atS, (a0 _).1, (a0 _).2.1, (a0 _).2.2, (b0 _).1, (b0 _).2.1, (b0 _).2.2, (b1 _).1, (b1 _).2.1, (b1 _).2.2, (b2 _).1, (b2 _).2.1, (b2 _).2.2, (b3 _).1, (b3 _).2.1, (b3 _).2.2, (b4 _).1, (b4 _).2.1, (b4 _).2.2, (b5 _).1, (b5 _).2.1, (b5 _).2.2, (b6 _).1, (b6 _).2.1, (b6 _).2.2]
  have tz : ∀ v, atZ (catL (short s.toNat) (catL (short d0.toNat) (catL (short d1.toNat) (catL (short d2.toNat) (catL (short d3.toNat) (catL (short d4.toNat) (catL (short d5.toNat) (catL (short d6.toNat) more)))))))) 0 v = v := by
    intro v; unfold atZ; rw [t]; rfl
  refine ⟨t, ?_⟩
  unfold itA
  simp only [tz]
  simp [atV, atS, (a0 _).1, (a0 _).2.1, (a0 _).2.2, (b0 _).1, (b0 _).2.1, (b0 _).2.2, (b1 _).1, (b1 _).2.1, (b1 _).2.2, (b2 _).1, (b2 _).2.1, (b2 _).2.2, (b3 _).1, (b3 _).2.1, (b3 _).2.2, (b4 _).1, (b4 _).2.1, (b4 _).2.2, (b5 _).1, (b5 _).2.1, (b5 _).2.2, (b6 _).1, (b6 _).2.1, (b6 _).2.2]
theorem bal_taken {b : Int} (more : List UInt8) (h : balOK b = true) (h0 : 0 ≤ b) (h1 : b ≤ 4294967295) : balV (catL (short b.toNat) more) 0 = b ∧ shRest (catL (short b.toNat) more) 0 4294967295 = more ∧ balE (catL (short b.toNat) more) 0 = 0 := by
  obtain ⟨a1, a2, a3⟩ := sh_short (v := b) (m := 4294967295) more h0 h1 (by omega)
  unfold balV balE
  rw [a1, a2, a3, if_pos h, if_pos h]
  exact ⟨rfl, rfl, rfl⟩
theorem rightI_parts {x : InstP} (h : rightI x = true) : rightId x.r x.sl = true ∧ balOK x.bal = true ∧ balOK x.vote = true ∧ (x.st = 0 → x = ⟨x.r, x.sl, 0, x.bal, 0, false, zC, zA0⟩) ∧ (x.st ≠ 0 → 1 ≤ x.st ∧ x.st ≤ 3 ∧ rightC x.c = true ∧ attGood x) := by
  rw [rightI_steps] at h
  simp only [Bool.and_eq_true, Bool.not_eq_true', decide_eq_false_iff_not] at h
  obtain ⟨a1, a2, a3, a4, a5, a6, a7⟩ := h
  refine ⟨a1, a2, a3, fun h0 => ?_, fun h0 => ?_⟩
  · rw [if_pos h0] at a7
    simp only [Bool.and_eq_true, beq_iff_eq, Bool.not_eq_true'] at a7
    obtain ⟨b1, b2, b3, b4⟩ := a7
    have c1 := eqC_iff.1 b3
    have c2 : x.a = zA0 := by
      obtain ⟨_, _, _, _, _, _, _, ⟨e1, e2, e3, e4, e5, e6, e7, e8⟩⟩ := x
      simp [eqA, attL, zA0, sameCells, AV.same] at b4 ⊢
      exact b4
    obtain ⟨r, sl, st, bal, vote, same, c, a⟩ := x
    simp only at *
    subst h0 b1 b2 c1 c2
    rfl
  · rw [if_neg h0] at a7
    simp only [Bool.and_eq_true] at a7
    exact ⟨by omega, by omega, a7.2.1, a7.2.2.1⟩
theorem itake_enc {x : InstP} (h : rightI x = true) (hb : rangeX x) (more : List UInt8) : itX (encI x ++ more) 0 = x ∧ itR (encI x ++ more) 0 = more ∧ itE (encI x ++ more) 0 = 0 := by
  obtain ⟨p1, p2, p3, p4, p5⟩ := rightI_parts h
  obtain ⟨hb1, hb2, hb3⟩ := hb
  obtain ⟨S, hS⟩ : ∃ S, S = (if x.st = 0 then [] else encIR x) ++ more := ⟨_, rfl⟩
  obtain ⟨l, hl⟩ : ∃ l, l = encI x ++ more := ⟨_, rfl⟩
  have hst : 0 ≤ x.st ∧ x.st ≤ 3 := by
    by_cases h0 : x.st = 0
    · omega
    · have := p5 h0; omega
  have ws : IntKind.u8.wrap x.st = x.st := wrap_u8 hst.1 (by omega)
  have e : l = catL (encID x.r x.sl) (catL (short x.bal.toNat) (encByte x.st ++ S)) := by
    rw [hl, hS]; simp only [encI, catL_eq, ws, List.append_assoc]
  rw [← hl]
  obtain ⟨a1, a2, a3, a4⟩ := encID_taken (catL (short x.bal.toNat) (encByte x.st ++ S)) p1
  rw [← e] at a1 a2 a3 a4
  have i1 : it1 l 0 = (catL (short x.bal.toNat) (encByte x.st ++ S), 0) := by unfold it1; rw [a3, a4]
  obtain ⟨b1, b2, b3⟩ := bal_taken (encByte x.st ++ S) p2 hb1.1 hb1.2
  have i2 : it2 l 0 = (encByte x.st ++ S, 0) := by unfold it2; rw [i1, b2, b3]
  obtain ⟨c1, c2, c3⟩ := byte_taken (b := x.st) S hst.1 (by omega)
  have iS : itSt l 0 = x.st := by unfold itSt; rw [i2]; exact c1
  have i3 : it3 l 0 = (S, 0) := by unfold it3; rw [i2, iS, c2, c3, if_neg (by omega)]
  have iB : balV (it1 l 0).1 (it1 l 0).2 = x.bal := by rw [i1]; exact b1
  have key : itV l 0 = x ∧ it8 l 0 = (more, 0) := by
    by_cases h0 : x.st = 0
    · have hS' : S = more := by rw [hS, if_pos h0]; rfl
      have e0 : itSt l 0 = 0 := by rw [iS]; exact h0
      refine ⟨?_, ?_⟩
      · unfold itV
        rw [if_pos e0, a1, a2, iB]
        exact (p4 h0).symm
      · unfold it8
        rw [if_pos e0, i3, hS']
    · obtain ⟨q1, q2, q3, q4⟩ := p5 h0
      have e0 : ¬ itSt l 0 = 0 := by rw [iS]; exact h0
      have hS' : S = catL (short x.vote.toNat) (encTruth x.same ++ (encP x.c ++ (encA x.a.s x.a.d0 x.a.d1 x.a.d2 x.a.d3 x.a.d4 x.a.d5 x.a.d6 ++ more))) := by
        rw [hS, if_neg h0]; simp only [encIR, catL_eq, List.append_assoc]
      obtain ⟨d1, d2, d3⟩ := bal_taken (encTruth x.same ++ (encP x.c ++ (encA x.a.s x.a.d0 x.a.d1 x.a.d2 x.a.d3 x.a.d4 x.a.d5 x.a.d6 ++ more))) p3 hb2.1 hb2.2
      rw [← hS'] at d1 d2 d3
      have i4 : it4 l 0 = (encTruth x.same ++ (encP x.c ++ (encA x.a.s x.a.d0 x.a.d1 x.a.d2 x.a.d3 x.a.d4 x.a.d5 x.a.d6 ++ more)), 0) := by unfold it4; rw [i3, d2, d3]
      obtain ⟨t1, t2, t3⟩ := truth_taken x.same (encP x.c ++ (encA x.a.s x.a.d0 x.a.d1 x.a.d2 x.a.d3 x.a.d4 x.a.d5 x.a.d6 ++ more))
      have i5 : it5 l 0 = (encP x.c ++ (encA x.a.s x.a.d0 x.a.d1 x.a.d2 x.a.d3 x.a.d4 x.a.d5 x.a.d6 ++ more), 0) := by unfold it5; rw [i4, t2, t3]
      obtain ⟨u1, u2, u3⟩ := take_encP hb3 (encA x.a.s x.a.d0 x.a.d1 x.a.d2 x.a.d3 x.a.d4 x.a.d5 x.a.d6 ++ more)
      have i6 : it6 l 0 = (encA x.a.s x.a.d0 x.a.d1 x.a.d2 x.a.d3 x.a.d4 x.a.d5 x.a.d6 ++ more, 0) := by unfold it6; rw [i5, u2, u3]
      obtain ⟨v1, v2⟩ := encA_app q4 more
      refine ⟨?_, ?_⟩
      · unfold itV
        rw [if_neg e0, a1, a2, iB, iS, i3, i4, i5, i6]
        simp only
        rw [d1, t1, u1, if_pos q3, v2]
      · unfold it8
        rw [if_neg e0, i6, v1]
  have hE : itE l 0 = 0 := by unfold itE; rw [key.1, if_pos h, key.2]
  refine ⟨?_, ?_, hE⟩
  · unfold itX; rw [if_pos hE, key.1]
  · unfold itR; rw [key.2]
theorem iparse_enc {x : InstP} (h : rightI x = true) (hb : rangeX x) : iparseE (encI x) = 0 ∧ iparseX (encI x) = x := by
  have t := itake_enc h hb []
  rw [List.append_nil] at t
  have e : iparseE (encI x) = 0 := by
    unfold iparseE inEnd inLeft
    rw [t.2.1, t.2.2]; simp
  refine ⟨e, ?_⟩
  unfold iparseX
  rw [if_pos e]; exact t.1
theorem okOf100 : OkOf100 := by
  intro x hq
  refine vcOf100 x ?_
  simp only [true_and, and_true, forall_eq, eq_self]
theorem okSmall100 : OkSmall100 := by
  intro x hq
  refine vcSmall100 x ?_
  simp only [true_and, and_true, forall_eq, eq_self]
  refine cond_prop (fun h => ?_) fun h => ?_
  all_goals (unfold smallB; rw [Bool.eq_iff_iff]; simp at h ⊢; omega)
theorem small_small {x : InstP} {m : Nat} (h : (!smallB x m) = false) (hm : m ≤ 200) : smallX x := by
  simp [smallB] at h; unfold smallX; omega
theorem okAnchor100 : OkAnchor100 := by
  intro hq
  refine vcAnchor100 ?_
  have e : encI ⟨1, 2, 0, 0, 0, false, ⟨0, 0, [], 0, [], 0, 0, 0⟩, ⟨0, 0, 0, 0, 0, 0, 0, 0⟩⟩ = [1, 2, 0, 0] := by decide +kernel
  simp only [true_and, and_true, forall_eq, eq_self, e, length_bytesAV]
  have o : ∀ i, i < 4 → okElem 1 (bytesAV [1, 2, 0, 0]) i := fun i h => okElem_bytes h
  have r : ∀ i, i < 4 → okRead [Kd.int .u8] (elemAt (bytesAV [1, 2, 0, 0]) i) 0 := fun i h => okRead_bytes h
  have i0 : rdInt (elemAt (bytesAV [1, 2, 0, 0]) 0) 0 = 1 := rfl
  have i1 : rdInt (elemAt (bytesAV [1, 2, 0, 0]) 1) 0 = 2 := rfl
  have i2 : rdInt (elemAt (bytesAV [1, 2, 0, 0]) 2) 0 = 0 := rfl
  have i3 : rdInt (elemAt (bytesAV [1, 2, 0, 0]) 3) 0 = 0 := rfl
  simp [i0, i1, i2, i3, o, r, smallX]
theorem okLawIBytes0 : OkLawIBytes0 := by
  intro x ms hq hb
  refine vcLawIBytes0 x ms ?_
  obtain ⟨hm, hbs, hl⟩ := hq
  obtain ⟨m, rfl⟩ := hbs.get
  have cn : ∀ x : List AV, catL [] x = x := fun x => rfl
  have cb : catL (bytesAV (encI x)) (bytesAV m) = bytesAV (encI x ++ m) := by rw [catL_bytes']; rfl
  have il : inLeft m 0 = m.length := by simp [inLeft]
  simp only [true_and, and_true, forall_eq, eq_self, length_bytesAV, List.length_nil, Nat.zero_add, cn, cb, bytesL_bytesAV, isBytes_bytesAV, Nat.mul_one, okWidth_bytes, List.length_append] at hl ⊢
  refine ⟨hm, cond_prop (fun _ => trivial) fun h1 => ?_⟩
  have s1 := small_small h1 (Nat.le_refl _)
  refine ⟨s1, cond_prop (fun _ => trivial) fun h2 => ?_⟩
  have hr : rightI x = true := by simpa using h2
  have hg : x.st ≠ 0 → attGood x := fun h => ((rightI_parts hr).2.2.2.2 h).2.2.2
  have t := itake_enc hr hb m
  have p := iparse_enc hr hb
  have L1 := encI_len s1 hg hb
  have B1 := s1.1
  have B2 := s1.2
  have ow0 : okWidth 1 [] := fun x hx => by simp at hx
  simp only [t.1, t.2.1, t.2.2, p.1, p.2, il, beq_self_eq_true, Bool.and_self, cond_true, and_true]
  exact ⟨⟨s1, hg⟩, by omega, ⟨by omega, by omega, ow0⟩, ⟨by omega, by omega⟩, by omega⟩
end Go.Proofs.YtcokifdgbfbonaaDoor
/- The contracts are met. -/
namespace Go.Proofs.YtcokifdgbfbonaaDoor
set_option linter.unusedVariables false
set_option linter.unusedSimpArgs false
open Go.RowKit
theorem sndOf10 : Sound Tryd.prog (lookΓ gamOf10) := sound_of _ fun p hp => by
  simp [gamOf10] at hp
set_option maxHeartbeats 4000000 in
theorem meetsOf10 : Meets Tryd.prog 59 of10F := by
  refine meets_of_awp (Γ := lookΓ gamOf10) (L := fun _ _ => none) sndOf10 mixedOrders Tryd.func59 rfl Tryd.call59 ?_
  intro args q r hF hq ho
  unfold of10F at hF
  split at hF
  · split at hF
    · rename_i x hzx
      obtain rfl := instOf_some hzx
      cases hF
      exact ⟨by simp only [List.length_cons, List.length_nil]; decide, okOf100 _ hq⟩
    · cases hF
  · cases hF
theorem sndAnchor10 : Sound Tryd.prog (lookΓ gamAnchor10) := sound_of _ fun p hp => by
  simp only [gamAnchor10, List.mem_cons, List.not_mem_nil, or_false] at hp
  rcases hp with rfl | rfl
  · exact meetsInew.orNil
  · exact meetsIbytes.orNil
set_option maxHeartbeats 4000000 in
theorem meetsAnchor10 : Meets Tryd.prog 31 anchor10F := by
  refine meets_of_awp (Γ := lookΓ gamAnchor10) (L := fun _ _ => none) sndAnchor10 mixedOrders Tryd.func31 rfl Tryd.call31 ?_
  intro args q r hF hq ho
  unfold anchor10F at hF
  split at hF
  · cases hF
    exact ⟨by simp only [List.length_cons, List.length_nil]; decide, okAnchor100 hq⟩
  · cases hF
theorem sndSmall10 : Sound Tryd.prog (lookΓ gamSmall10) := sound_of _ fun p hp => by
  simp [gamSmall10] at hp
set_option maxHeartbeats 4000000 in
theorem meetsSmall10 : Meets Tryd.prog 32 small10F := by
  refine meets_of_awp (Γ := lookΓ gamSmall10) (L := fun _ _ => none) sndSmall10 mixedOrders Tryd.func32 rfl Tryd.call32 ?_
  intro args q r hF hq ho
  unfold small10F at hF
  split at hF
  · split at hF
    · rename_i x hzx
      obtain rfl := instOf_some hzx
      cases hF
      exact ⟨by simp only [List.length_cons, List.length_nil]; decide, okSmall100 _ hq⟩
    · cases hF
  · cases hF
theorem sndLawIBytes : Sound Tryd.prog (lookΓ gamLawIBytes) := sound_of _ fun p hp => by
  simp only [gamLawIBytes, List.mem_cons, List.not_mem_nil, or_false] at hp
  rcases hp with rfl | rfl | rfl | rfl | rfl | rfl | rfl | rfl | rfl
  · exact meetsAnchor10.orNil
  · exact meetsSmall10.orNil
  · exact meetsOf10.orNil
  · exact meetsXright.orNil
  · exact meetsIbytes.orNil
  · exact meetsIparse.orNil
  · exact meetsNewIn.orNil
  · exact meetsItake.orNil
  · exact meetsInLeft.orNil
set_option maxHeartbeats 4000000 in
theorem meetsLawIBytes : Meets Tryd.prog 14 lawIBytesF := by
  refine meets_of_awp (Γ := lookΓ gamLawIBytes) (L := fun _ _ => none) sndLawIBytes mixedOrders Tryd.func14 rfl Tryd.call14 ?_
  intro args q r hF hq ho
  unfold lawIBytesF at hF
  split at hF
  · split at hF
    · rename_i x hzx
      obtain rfl := instOf_some hzx
      cases hF
      exact ⟨by simp only [List.length_cons, List.length_nil]; decide, okLawIBytes0 _ _ hq (⟨okay_u32 (argA 0 3 ho rfl rfl), okay_u32 (argA 0 4 ho rfl rfl), okay_u64 (argA 0 7 ho rfl rfl), okay_u64 (argA 0 9 ho rfl rfl), okay_u64 (argA 0 12 ho rfl rfl)⟩)⟩
    · cases hF
  · cases hF
end Go.Proofs.YtcokifdgbfbonaaDoor
