/- Contracts by content, their conditions, and that they are met: MsgX. -/
import Derived.Test.YtfoabkkkdcicgaaGreatDoorLaxPkMsgW
import Derived.Test.YtfoabkkkdcicgaaGreatDoorLaxInstRC
import Derived.Test.YtfoabkkkdcicgaaGreatDoorLaxMsgP
/- Contracts by content, and the conditions that their code must meet. -/
namespace Go.Proofs.YtfoabkkkdcicgaaGreatDoor
set_option linter.unusedVariables false
set_option linter.unusedSimpArgs false
open Go.RowKit
def of11F : Con
  | [.val (.agg zcm)] => (match msgOf zcm with | some m => some (True, ⟨.agg (msgL m), none, none⟩) | _ => none)
  | _ => none
def gamOf11 : List (Nat × Con) := []
def lpOf110 (m : MsgP) : Nat → Option LoopPlan := fun _ => none
def inOf110 (m : MsgP) : Prop := awp [] (lpOf110 m) (lookΓ gamOf11) Tryz.prog Tryz.f16.ntmps 0 (Tryz.f16.body.getD .skip) (entrySt [.val (.agg (msgL m))]) (exitQ Tryz.prog Tryz.f16.results.toList [] ⟨.agg (msgL m), none, none⟩)
def OkOf110 : Prop := ∀ (m : MsgP), True → inOf110 m
def small11F : Con
  | [.val (.agg zcm)] => (match msgOf zcm with | some m => some (maxX m.x, ⟨.bool (smallB m.x 200), none, none⟩) | _ => none)
  | _ => none
def gamSmall11 : List (Nat × Con) := []
def lpSmall110 (m : MsgP) : Nat → Option LoopPlan := fun _ => none
def inSmall110 (m : MsgP) : Prop := awp [] (lpSmall110 m) (lookΓ gamSmall11) Tryz.prog Tryz.f15.ntmps 0 (Tryz.f15.body.getD .skip) (entrySt [.val (.agg (msgL m))]) (exitQ Tryz.prog Tryz.f15.results.toList [] ⟨.bool (smallB m.x 200), none, none⟩)
def OkSmall110 : Prop := ∀ (m : MsgP), maxX m.x → inSmall110 m
def refMF : Con
  | [.val (.agg zcm)] => (match msgOf zcm with | some m => some (smallX m.x, ⟨.bool (rightM m), none, none⟩) | _ => none)
  | _ => none
def gamRefM : List (Nat × Con) := [(39, refIdRightF.orNil), (40, refBalF.orNil), (36, xrightF.orNil)]
def lpRefM0 (m : MsgP) : Nat → Option LoopPlan := fun _ => none
def inRefM0 (m : MsgP) : Prop := awp [] (lpRefM0 m) (lookΓ gamRefM) Tryz.prog Tryz.f17.ntmps 0 (Tryz.f17.body.getD .skip) (entrySt [.val (.agg (msgL m))]) (exitQ Tryz.prog Tryz.f17.results.toList [] ⟨.bool (rightM m), none, none⟩)
def OkRefM0 : Prop := ∀ (m : MsgP), smallX m.x → inRefM0 m
def anchor11F : Con
  | [] => (some (True, ⟨.bool true, none, none⟩))
  | _ => none
def gamAnchor11 : List (Nat × Con) := [(26, inewF.orNil), (23, askF.orNil), (18, mframeTF.orNil), (20, mopenF.orNil), (19, mrightF.orNil)]
def lpAnchor110  : Nat → Option LoopPlan := fun _ => none
def inAnchor110  : Prop := awp [] (lpAnchor110) (lookΓ gamAnchor11) Tryz.prog Tryz.f14.ntmps 0 (Tryz.f14.body.getD .skip) (entrySt []) (exitQ Tryz.prog Tryz.f14.results.toList [] ⟨.bool true, none, none⟩)
def OkAnchor110 : Prop := True → inAnchor110
end Go.Proofs.YtfoabkkkdcicgaaGreatDoor
/- What the verification conditions come to: printed by a program of ours (wip/lax/ex/Norm.lean). -/
namespace Go.Proofs.YtfoabkkkdcicgaaGreatDoor
set_option linter.unusedVariables false
open Go.RowKit
set_option maxRecDepth 100000
theorem vcOf110 (m : MsgP) (h : (tt ∧ T1 ∧ T1 ∧ tt ∧ T1 ∧ tt ∧ T1 ∧ tt ∧ tt ∧ T1 ∧ tt ∧ T1 ∧ tt ∧ tt ∧ T1 ∧ tt ∧ T1 ∧ tt ∧ T1 ∧ tt ∧ T1 ∧ tt ∧ T1 ∧ tt ∧ T1 ∧ tt ∧ T1 ∧ T1 ∧ tt ∧ T1 ∧ T1 ∧ tt ∧ T1 ∧ tt ∧ T1 ∧ tt ∧ T1 ∧ tt ∧ T1 ∧ tt ∧ T1 ∧ tt ∧ T1 ∧ T1 ∧ tt ∧ T1 ∧ T1 ∧ tt ∧ tt ∧ T1 ∧ tt ∧ T1 ∧ tt ∧ T1 ∧ tt ∧ T1 ∧ tt ∧ T1 ∧ tt ∧ T1 ∧ tt ∧ tt ∧ T1 ∧ tt ∧ tt ∧ tt ∧ (m.k = m.k ∧ m.src = m.src ∧ m.dst = m.dst ∧ m.r = m.r ∧ m.s = m.s ∧ m.b = m.b ∧ m.ok = m.ok ∧ m.x.r = m.x.r ∧ m.x.sl = m.x.sl ∧ m.x.st = m.x.st ∧ m.x.bal = m.x.bal ∧ m.x.vote = m.x.vote ∧ m.x.same = m.x.same ∧ m.x.c.k = m.x.c.k ∧ m.x.c.num = m.x.c.num ∧ m.x.c.foot = m.x.c.foot ∧ m.x.c.rq = m.x.c.rq ∧ m.x.c.path = m.x.c.path ∧ m.x.c.mode = m.x.c.mode ∧ m.x.c.n = m.x.c.n ∧ m.x.c.time = m.x.c.time ∧ m.x.a.s = m.x.a.s ∧ m.x.a.d0 = m.x.a.d0 ∧ m.x.a.d1 = m.x.a.d1 ∧ m.x.a.d2 = m.x.a.d2 ∧ m.x.a.d3 = m.x.a.d3 ∧ m.x.a.d4 = m.x.a.d4 ∧ m.x.a.d5 = m.x.a.d5 ∧ m.x.a.d6 = m.x.a.d6 ∧ True) ∧ tt)) : inOf110 m :=
  Eq.mp (show _ = _ by kernel_rfl) h
theorem vcSmall110 (m : MsgP) (h : (tt ∧ T1 ∧ T1 ∧ tt ∧ T1 ∧ T1 ∧ T1 ∧ tt ∧ T1 ∧ T1 ∧ T1 ∧ (bif (decide (((List.length m.x.c.path) : Int) < 200)) then (T1 ∧ T1 ∧ T1 ∧ T1 ∧ tt ∧ T1 ∧ T1 ∧ T1 ∧ T1 ∧ tt ∧ tt ∧ ((smallB m.x 200) = (decide (((List.length m.x.c.foot) : Int) < 200)) ∧ True) ∧ tt) else (false = false ∧ T1 ∧ tt ∧ tt ∧ ((smallB m.x 200) = false ∧ True) ∧ tt)))) : inSmall110 m :=
  Eq.mp (show _ = _ by kernel_rfl) h
theorem vcRefM0 (m : MsgP) (h : let q0 := (rightM m); let q1 := ((Int.toNat m.k) * 1); (tt ∧ T1 ∧ T1 ∧ tt ∧ T1 ∧ tt ∧ T1 ∧ T1 ∧ (bif (decide (m.k < 1)) then (tt ∧ T1 ∧ tt ∧ T1 ∧ tt ∧ T1 ∧ tt ∧ T1 ∧ tt ∧ T1 ∧ tt ∧ T1 ∧ tt ∧ T1 ∧ tt ∧ tt ∧ T1 ∧ tt ∧ tt ∧ (q0 = false ∧ True) ∧ tt) else (T1 ∧ tt ∧ T1 ∧ T1 ∧ T1 ∧ (bif (decide ((7 : Int) < m.k)) then (tt ∧ T1 ∧ tt ∧ T1 ∧ tt ∧ T1 ∧ tt ∧ T1 ∧ tt ∧ T1 ∧ tt ∧ T1 ∧ tt ∧ tt ∧ T1 ∧ tt ∧ tt ∧ (q0 = false ∧ True) ∧ tt) else (T1 ∧ tt ∧ T1 ∧ T1 ∧ T1 ∧ (bif (decide (m.src < 0)) then (tt ∧ T1 ∧ tt ∧ T1 ∧ tt ∧ T1 ∧ tt ∧ T1 ∧ tt ∧ T1 ∧ tt ∧ tt ∧ T1 ∧ tt ∧ tt ∧ (q0 = false ∧ True) ∧ tt) else (T1 ∧ tt ∧ T1 ∧ T1 ∧ T1 ∧ (bif (decide ((6 : Int) < m.src)) then (tt ∧ T1 ∧ tt ∧ T1 ∧ tt ∧ T1 ∧ tt ∧ T1 ∧ tt ∧ tt ∧ T1 ∧ tt ∧ tt ∧ (q0 = false ∧ True) ∧ tt) else (T1 ∧ tt ∧ T1 ∧ T1 ∧ T1 ∧ (bif (decide (m.dst < 0)) then (tt ∧ T1 ∧ tt ∧ T1 ∧ tt ∧ T1 ∧ tt ∧ tt ∧ T1 ∧ tt ∧ tt ∧ (q0 = false ∧ True) ∧ tt) else (T1 ∧ tt ∧ T1 ∧ T1 ∧ T1 ∧ (bif (decide ((6 : Int) < m.dst)) then (tt ∧ T1 ∧ tt ∧ T1 ∧ tt ∧ tt ∧ T1 ∧ tt ∧ tt ∧ (q0 = false ∧ True) ∧ tt) else (T1 ∧ tt ∧ T1 ∧ tt ∧ T1 ∧ T1 ∧ T1 ∧ (bif (m.src == m.dst) then (tt ∧ T1 ∧ tt ∧ tt ∧ T1 ∧ tt ∧ tt ∧ (q0 = false ∧ True) ∧ tt) else (T1 ∧ tt ∧ (T1 ∧ True) ∧ T1 ∧ T1 ∧ T1 ∧ (bif (Bool.not (rightId m.r m.s)) then (tt ∧ tt ∧ T1 ∧ tt ∧ tt ∧ (q0 = false ∧ True) ∧ tt) else (T1 ∧ tt ∧ (T1 ∧ True) ∧ T1 ∧ T1 ∧ (bif (Bool.not (balOK m.b)) then (tt ∧ T1 ∧ tt ∧ tt ∧ (q0 = false ∧ True) ∧ tt) else (tt ∧ T1 ∧ tt ∧ T1 ∧ (bif (m.k == 6) then (tt ∧ T1 ∧ tt ∧ T1 ∧ T1 ∧ (bif (Bool.not m.ok) then (T1 ∧ tt ∧ T1 ∧ T1 ∧ T1 ∧ T1 ∧ tt ∧ tt ∧ (q0 = (Bool.and (m.x.r == 0) (Bool.and (m.x.sl == 0) (Bool.and (m.x.st == 0) (Bool.and (m.x.bal == 0) (Bool.and (m.x.vote == 0) (Bool.and (@BEq.beq.{0} Bool (@instBEqOfDecidableEq.{0} Bool instDecidableEqBool) m.x.same false) (Bool.and (m.x.c.k == 0) (Bool.and (m.x.c.num == 0) (Bool.and (@BEq.beq.{0} (List UInt8) (@List.instBEq.{0} UInt8 (@instBEqOfDecidableEq.{0} UInt8 instDecidableEqUInt8)) m.x.c.foot (@List.nil.{0} UInt8)) (Bool.and (m.x.c.rq == 0) (Bool.and (@BEq.beq.{0} (List UInt8) (@List.instBEq.{0} UInt8 (@instBEqOfDecidableEq.{0} UInt8 instDecidableEqUInt8)) m.x.c.path (@List.nil.{0} UInt8)) (Bool.and (m.x.c.mode == 0) (Bool.and (m.x.c.n == 0) (Bool.and (m.x.c.time == 0) (Bool.and (m.x.a.s == 0) (Bool.and (m.x.a.d0 == 0) (Bool.and (m.x.a.d1 == 0) (Bool.and (m.x.a.d2 == 0) (Bool.and (m.x.a.d3 == 0) (Bool.and (m.x.a.d4 == 0) (Bool.and (m.x.a.d5 == 0) (Bool.and (m.x.a.d6 == 0) true)))))))))))))))))))))) ∧ True) ∧ tt) else (false = false ∧ T1 ∧ tt ∧ tt ∧ (q0 = false ∧ True) ∧ tt))) else (tt ∧ T1 ∧ tt ∧ (T1 ∧ (smallX m.x)) ∧ T1 ∧ T1 ∧ (bif (Bool.not (rightI m.x)) then (tt ∧ tt ∧ T1 ∧ tt ∧ tt ∧ (q0 = false ∧ True) ∧ tt) else (T1 ∧ T1 ∧ tt ∧ T1 ∧ tt ∧ T1 ∧ T1 ∧ (bif (Bool.not (Bool.and (m.x.r == m.r) (Bool.and (m.x.sl == m.s) true))) then (tt ∧ T1 ∧ tt ∧ tt ∧ (q0 = false ∧ True) ∧ tt) else (tt ∧ T1 ∧ tt ∧ T1 ∧ T1 ∧ (bif (m.k == 2) then (tt ∧ T1 ∧ tt ∧ tt ∧ T1 ∧ tt ∧ tt ∧ (q0 = true ∧ True) ∧ tt) else (T1 ∧ tt ∧ T1 ∧ T1 ∧ T1 ∧ (bif (m.k == 4) then (tt ∧ tt ∧ T1 ∧ tt ∧ tt ∧ (q0 = true ∧ True) ∧ tt) else (T1 ∧ tt ∧ T1 ∧ T1 ∧ (bif (m.k == 7) then (tt ∧ T1 ∧ tt ∧ tt ∧ (q0 = true ∧ True) ∧ tt) else (tt ∧ T1 ∧ T1 ∧ tt ∧ ((0 : Int) ≤ m.k ∧ m.k < 6 ∧ (q1 + 1) ≤ 6) ∧ T1 ∧ tt ∧ T1 ∧ tt ∧ T1 ∧ T1 ∧ (bif (Bool.not m.ok) then (T1 ∧ T1 ∧ tt ∧ T1 ∧ T1 ∧ T1 ∧ T1 ∧ (bif (m.x.st == (@cond.{1} Int (Nat.beq q1 0) (0 : Int) (@cond.{1} Int (Nat.beq q1 1) (1 : Int) (@cond.{1} Int (Nat.beq q1 2) (0 : Int) (@cond.{1} Int (Nat.beq q1 3) (2 : Int) (@cond.{1} Int (Nat.beq q1 4) (0 : Int) (3 : Int))))))) then (T1 ∧ T1 ∧ tt ∧ T1 ∧ tt ∧ T1 ∧ T1 ∧ T1 ∧ (bif (m.x.bal == m.b) then (T1 ∧ T1 ∧ tt ∧ T1 ∧ tt ∧ T1 ∧ T1 ∧ T1 ∧ (bif (m.x.vote == m.b) then (T1 ∧ T1 ∧ tt ∧ T1 ∧ T1 ∧ T1 ∧ tt ∧ tt ∧ (q0 = (Bool.not m.x.same) ∧ True) ∧ tt) else (false = false ∧ T1 ∧ tt ∧ tt ∧ (q0 = false ∧ True) ∧ tt))) else (false = false ∧ T1 ∧ false = false ∧ T1 ∧ tt ∧ tt ∧ (q0 = false ∧ True) ∧ tt))) else (false = false ∧ T1 ∧ false = false ∧ T1 ∧ false = false ∧ T1 ∧ tt ∧ tt ∧ (q0 = false ∧ True) ∧ tt))) else (false = false ∧ T1 ∧ false = false ∧ T1 ∧ false = false ∧ T1 ∧ false = false ∧ T1 ∧ tt ∧ tt ∧ (q0 = false ∧ True) ∧ tt)))))))))))))))))))))))))))))))))) : inRefM0 m :=
  Eq.mp (show _ = _ by kernel_rfl) h
theorem vcAnchor110 (h : let q0 := (InstP.mk 0 0 0 0 0 false (CmdP.mk 0 0 [] 0 [] 0 0 0) (AttP.mk 0 0 0 0 0 0 0 0)); (tt ∧ T1 ∧ tt ∧ T1 ∧ (T1 ∧ True) ∧ (T1 ∧ True) ∧ T1 ∧ tt ∧ tt ∧ tt ∧ (T1 ∧ (smallX q0) ∧ tt) ∧ ∀ v0 : (List AV), (v0 = (bytesAV (frameM (MsgP.mk 6 2 0 1 9 10 false q0)))) → ∀ v2 : Nat, (v2 = 11) → T1 ∧ tt ∧ T1 ∧ (T1 ∧ (isBytes v0) ∧ (List.length v0) ≤ 140737488355100) ∧ T1 ∧ T1 ∧ T1 ∧ T1 ∧ tt ∧ T1 ∧ tt ∧ tt ∧ (T1 ∧ (smallX q0)) ∧ T1 ∧ (bif (rightM (MsgP.mk 6 2 0 1 9 10 false q0)) then (T1 ∧ T1 ∧ T1 ∧ T1 ∧ T1 ∧ (bif (((List.length v0) : Int) == 11) then (tt ∧ tt ∧ T1 ∧ T1 ∧ T1 ∧ (bif (Bool.and ((mopenX (bytesL v0)).k == 6) (Bool.and ((mopenX (bytesL v0)).src == 2) (Bool.and ((mopenX (bytesL v0)).dst == 0) (Bool.and ((mopenX (bytesL v0)).r == 1) (Bool.and ((mopenX (bytesL v0)).s == 9) (Bool.and ((mopenX (bytesL v0)).b == 10) (Bool.and (@BEq.beq.{0} Bool (@instBEqOfDecidableEq.{0} Bool instDecidableEqBool) (mopenX (bytesL v0)).ok false) (Bool.and ((mopenX (bytesL v0)).x.r == 0) (Bool.and ((mopenX (bytesL v0)).x.sl == 0) (Bool.and ((mopenX (bytesL v0)).x.st == 0) (Bool.and ((mopenX (bytesL v0)).x.bal == 0) (Bool.and ((mopenX (bytesL v0)).x.vote == 0) (Bool.and (@BEq.beq.{0} Bool (@instBEqOfDecidableEq.{0} Bool instDecidableEqBool) (mopenX (bytesL v0)).x.same false) (Bool.and ((mopenX (bytesL v0)).x.c.k == 0) (Bool.and ((mopenX (bytesL v0)).x.c.num == 0) (Bool.and (@BEq.beq.{0} (List UInt8) (@List.instBEq.{0} UInt8 (@instBEqOfDecidableEq.{0} UInt8 instDecidableEqUInt8)) (mopenX (bytesL v0)).x.c.foot (@List.nil.{0} UInt8)) (Bool.and ((mopenX (bytesL v0)).x.c.rq == 0) (Bool.and (@BEq.beq.{0} (List UInt8) (@List.instBEq.{0} UInt8 (@instBEqOfDecidableEq.{0} UInt8 instDecidableEqUInt8)) (mopenX (bytesL v0)).x.c.path (@List.nil.{0} UInt8)) (Bool.and ((mopenX (bytesL v0)).x.c.mode == 0) (Bool.and ((mopenX (bytesL v0)).x.c.n == 0) (Bool.and ((mopenX (bytesL v0)).x.c.time == 0) (Bool.and ((mopenX (bytesL v0)).x.a.s == 0) (Bool.and ((mopenX (bytesL v0)).x.a.d0 == 0) (Bool.and ((mopenX (bytesL v0)).x.a.d1 == 0) (Bool.and ((mopenX (bytesL v0)).x.a.d2 == 0) (Bool.and ((mopenX (bytesL v0)).x.a.d3 == 0) (Bool.and ((mopenX (bytesL v0)).x.a.d4 == 0) (Bool.and ((mopenX (bytesL v0)).x.a.d5 == 0) (Bool.and ((mopenX (bytesL v0)).x.a.d6 == 0) true))))))))))))))))))))))))))))) then (T1 ∧ T1 ∧ T1 ∧ T1 ∧ tt ∧ tt ∧ (true = ((mopenE (bytesL v0)) == 0) ∧ True) ∧ tt) else (false = false ∧ T1 ∧ tt ∧ tt ∧ (true = false ∧ True) ∧ tt))) else (false = false ∧ T1 ∧ false = false ∧ T1 ∧ tt ∧ tt ∧ (true = false ∧ True) ∧ tt))) else (false = false ∧ T1 ∧ false = false ∧ T1 ∧ false = false ∧ T1 ∧ tt ∧ tt ∧ (true = false ∧ True) ∧ tt)))) : inAnchor110 :=
  Eq.mp (show _ = _ by kernel_rfl) h
end Go.Proofs.YtfoabkkkdcicgaaGreatDoor
/- The conditions hold: whether a message may be, the document's answer; the example. -/
namespace Go.Proofs.YtfoabkkkdcicgaaGreatDoor
set_option linter.unusedVariables false
set_option linter.unusedSimpArgs false
open Go.RowKit
set_option maxRecDepth 100000

theorem okOf110 : OkOf110 := by
  intro m hq
  refine vcOf110 m ?_
  simp only [true_and, and_true, forall_eq, eq_self]
theorem okSmall110 : OkSmall110 := by
  intro m hq
  refine vcSmall110 m ?_
  simp only [true_and, and_true, forall_eq, eq_self]
  refine cond_prop (fun h => ?_) fun h => ?_
  all_goals (unfold smallB; rw [Bool.eq_iff_iff]; simp at h ⊢; omega)
theorem rightM_no {m : MsgP} (h : ¬ (1 ≤ m.k ∧ m.k ≤ 7 ∧ repOK m.src = true ∧ repOK m.dst = true ∧ m.src ≠ m.dst ∧ rightId m.r m.s = true ∧ balOK m.b = true)) : rightM m = false := by
  unfold rightM; rw [if_neg h]
theorem rightM_yes {m : MsgP} (h : 1 ≤ m.k ∧ m.k ≤ 7 ∧ repOK m.src = true ∧ repOK m.dst = true ∧ m.src ≠ m.dst ∧ rightId m.r m.s = true ∧ balOK m.b = true) :
    rightM m = if m.k = 6 then !m.ok && eqI m.x zI else if rightI m.x = true ∧ m.x.r = m.r ∧ m.x.sl = m.s then !asksK m.k || (!m.ok && eqI m.x (valueI m.k m.b m.x)) else false := by
  unfold rightM; rw [if_pos h]
theorem eqI_value (k b : Int) (x : InstP) : eqI x (valueI k b x) = ((x.st == statusK k) && ((x.bal == b) && ((x.vote == b) && !x.same))) := by
  obtain ⟨r, sl, st, bal, vote, same, ⟨k, num, foot, rq, path, mode, n, time⟩, ⟨s, d0, d1, d2, d3, d4, d5, d6⟩⟩ := x
  simp only [eqI, valueI, instL, sameCells, AV.same, beq_self_eq_true, Bool.true_and, Bool.and_true]
  cases same <;> rfl
theorem okRefM0 : OkRefM0 := by
  intro m hq
  refine vcRefM0 m ?_
  simp only [true_and, and_true, forall_eq, eq_self]
  have nk : ∀ r, repOK r = true → 0 ≤ r ∧ r < 7 := fun r h => by simpa [repOK] using h
  have no := @rightM_no m
  refine cond_prop (fun h => no fun g => by have := of_decide_eq_true h; omega) fun h1 => ?_
  refine cond_prop (fun h => no fun g => by have := of_decide_eq_true h; omega) fun h2 => ?_
  refine cond_prop (fun h => no fun g => by have := of_decide_eq_true h; have := nk _ g.2.2.1; omega) fun h3 => ?_
  refine cond_prop (fun h => no fun g => by have := of_decide_eq_true h; have := nk _ g.2.2.1; omega) fun h4 => ?_
  refine cond_prop (fun h => no fun g => by have := of_decide_eq_true h; have := nk _ g.2.2.2.1; omega) fun h5 => ?_
  refine cond_prop (fun h => no fun g => by have := of_decide_eq_true h; have := nk _ g.2.2.2.1; omega) fun h6 => ?_
  refine cond_prop (fun h => no fun g => g.2.2.2.2.1 (by simpa using h)) fun h7 => ?_
  refine cond_prop (fun h => no fun g => by rw [g.2.2.2.2.2.1] at h; cases h) fun h8 => ?_
  refine cond_prop (fun h => no fun g => by rw [g.2.2.2.2.2.2] at h; cases h) fun h9 => ?_
  have b1 := of_decide_eq_false h1
  have b2 := of_decide_eq_false h2
  have b3 := of_decide_eq_false h3
  have b4 := of_decide_eq_false h4
  have b5 := of_decide_eq_false h5
  have b6 := of_decide_eq_false h6
  have hy := rightM_yes (m := m) ⟨by omega, by omega, by simp [repOK]; omega, by simp [repOK]; omega, by simpa using h7, by simpa using h8, by simpa using h9⟩
  refine cond_prop (fun hk => ?_) fun hk => ?_
  · have hk' : m.k = 6 := by simpa using hk
    rw [hy, if_pos hk']
    cases ho : m.ok with
    | true => rfl
    | false => rfl
  · have hk' : m.k ≠ 6 := by simpa using hk
    rw [if_neg hk'] at hy
    refine ⟨hq, cond_prop (fun h => ?_) fun h => cond_prop (fun g => ?_) fun g => ?_⟩
    · rw [hy, if_neg]
      intro g; rw [g.1] at h; cases h
    · rw [hy, if_neg]
      intro g'; rw [g'.2.1, g'.2.2] at g; simp at g
    · rw [if_pos ⟨by simpa using h, by simpa using g⟩, eqI_value] at hy
      refine cond_prop (fun e => ?_) fun e2 => cond_prop (fun e => ?_) fun e4 => cond_prop (fun e => ?_) fun e7 => ?_
      · have : m.k = 2 := by simpa using e
        rw [hy, this]; rfl
      · have : m.k = 4 := by simpa using e
        rw [hy, this]; rfl
      · have : m.k = 7 := by simpa using e
        rw [hy, this]; rfl
      · have e2' : m.k ≠ 2 := by simpa using e2
        have e4' : m.k ≠ 4 := by simpa using e4
        have e7' : m.k ≠ 7 := by simpa using e7
        have h3 : m.k = 1 ∨ m.k = 3 ∨ m.k = 5 := by omega
        refine ⟨⟨by omega, by omega, by omega⟩, ?_⟩
        rw [hy]
        rcases h3 with h3 | h3 | h3
        all_goals
          rw [h3]
          cases m.ok with
          | true => rfl
          | false =>
            refine cond_prop (fun _ => ?_) fun hx => by cases hx
            refine cond_prop (fun c1 => cond_prop (fun c2 => cond_prop (fun c3 => ?_) fun c3 => ?_) fun c2 => ?_) fun c1 => ?_
            · first | (have c1' : (m.x.st == statusK 1) = true := c1; simp only [c1', c2, c3]; rfl) | (have c1' : (m.x.st == statusK 3) = true := c1; simp only [c1', c2, c3]; rfl) | (have c1' : (m.x.st == statusK 5) = true := c1; simp only [c1', c2, c3]; rfl)
            · simp only [c3, Bool.false_and, Bool.and_false]; rfl
            · simp only [c2, Bool.false_and, Bool.and_false]; rfl
            · first | (have c1' : (m.x.st == statusK 1) = false := c1; simp only [c1', Bool.false_and, Bool.and_false]; rfl) | (have c1' : (m.x.st == statusK 3) = false := c1; simp only [c1', Bool.false_and, Bool.and_false]; rfl) | (have c1' : (m.x.st == statusK 5) = false := c1; simp only [c1', Bool.false_and, Bool.and_false]; rfl)
theorem anchor_right : rightM ⟨6, 2, 0, 1, 9, 10, false, ⟨0, 0, 0, 0, 0, false, ⟨0, 0, [], 0, [], 0, 0, 0⟩, ⟨0, 0, 0, 0, 0, 0, 0, 0⟩⟩⟩ = true := by decide +kernel
theorem okAnchor110 : OkAnchor110 := by
  intro hq
  refine vcAnchor110 ?_
  simp only [true_and, and_true, forall_eq, eq_self, bytesL_bytesAV, isBytes_bytesAV, length_bytesAV]
  have hs : smallX ⟨0, 0, 0, 0, 0, false, ⟨0, 0, [], 0, [], 0, 0, 0⟩, ⟨0, 0, 0, 0, 0, 0, 0, 0⟩⟩ := ⟨by decide, by decide⟩
  obtain ⟨f1, f2, f3⟩ := frame_opens (m := ⟨6, 2, 0, 1, 9, 10, false, ⟨0, 0, 0, 0, 0, false, ⟨0, 0, [], 0, [], 0, 0, 0⟩, ⟨0, 0, 0, 0, 0, 0, 0, 0⟩⟩⟩) hs anchor_right ⟨by decide, ⟨by decide, by decide, by decide, by decide, by decide⟩⟩
  have hl : (frameM ⟨6, 2, 0, 1, 9, 10, false, ⟨0, 0, 0, 0, 0, false, ⟨0, 0, [], 0, [], 0, 0, 0⟩, ⟨0, 0, 0, 0, 0, 0, 0, 0⟩⟩⟩).length = 11 := by
    unfold frameM; rw [seal_len]; decide +kernel
  rw [f1, f2, hl, anchor_right]
  exact ⟨hs, by decide, hs, rfl⟩
end Go.Proofs.YtfoabkkkdcicgaaGreatDoor
/- The contracts are met. -/
namespace Go.Proofs.YtfoabkkkdcicgaaGreatDoor
set_option linter.unusedVariables false
set_option linter.unusedSimpArgs false
open Go.RowKit
theorem sndOf11 : Sound Tryz.prog (lookΓ gamOf11) := sound_of _ fun p hp => by
  simp [gamOf11] at hp
set_option maxHeartbeats 4000000 in
theorem meetsOf11 : Meets Tryz.prog 16 of11F := by
  refine meets_of_awp (Γ := lookΓ gamOf11) (L := fun _ _ => none) sndOf11 mixedOrders Tryz.func16 rfl Tryz.call16 ?_
  intro args q r hF hq ho
  unfold of11F at hF
  split at hF
  · split at hF
    · rename_i m hzm
      obtain rfl := msgOf_some hzm
      cases hF
      exact ⟨by simp only [List.length_cons, List.length_nil]; decide, okOf110 _ hq⟩
    · cases hF
  · cases hF
theorem sndSmall11 : Sound Tryz.prog (lookΓ gamSmall11) := sound_of _ fun p hp => by
  simp [gamSmall11] at hp
set_option maxHeartbeats 4000000 in
theorem meetsSmall11 : Meets Tryz.prog 15 small11F := by
  refine meets_of_awp (Γ := lookΓ gamSmall11) (L := fun _ _ => none) sndSmall11 mixedOrders Tryz.func15 rfl Tryz.call15 ?_
  intro args q r hF hq ho
  unfold small11F at hF
  split at hF
  · split at hF
    · rename_i m hzm
      obtain rfl := msgOf_some hzm
      cases hF
      exact ⟨by simp only [List.length_cons, List.length_nil]; decide, okSmall110 _ hq⟩
    · cases hF
  · cases hF
theorem sndRefM : Sound Tryz.prog (lookΓ gamRefM) := sound_of _ fun p hp => by
  simp only [gamRefM, List.mem_cons, List.not_mem_nil, or_false] at hp
  rcases hp with rfl | rfl | rfl
  · exact meetsRefIdRight.orNil
  · exact meetsRefBal.orNil
  · exact meetsXright.orNil
set_option maxHeartbeats 4000000 in
theorem meetsRefM : Meets Tryz.prog 17 refMF := by
  refine meets_of_awp (Γ := lookΓ gamRefM) (L := fun _ _ => none) sndRefM mixedOrders Tryz.func17 rfl Tryz.call17 ?_
  intro args q r hF hq ho
  unfold refMF at hF
  split at hF
  · split at hF
    · rename_i m hzm
      obtain rfl := msgOf_some hzm
      cases hF
      exact ⟨by simp only [List.length_cons, List.length_nil]; decide, okRefM0 _ hq⟩
    · cases hF
  · cases hF
theorem sndAnchor11 : Sound Tryz.prog (lookΓ gamAnchor11) := sound_of _ fun p hp => by
  simp only [gamAnchor11, List.mem_cons, List.not_mem_nil, or_false] at hp
  rcases hp with rfl | rfl | rfl | rfl | rfl
  · exact meetsInew.orNil
  · exact meetsAsk.orNil
  · exact meetsMframeT.orNil
  · exact meetsMopen.orNil
  · exact meetsMright.orNil
set_option maxHeartbeats 4000000 in
theorem meetsAnchor11 : Meets Tryz.prog 14 anchor11F := by
  refine meets_of_awp (Γ := lookΓ gamAnchor11) (L := fun _ _ => none) sndAnchor11 mixedOrders Tryz.func14 rfl Tryz.call14 ?_
  intro args q r hF hq ho
  unfold anchor11F at hF
  split at hF
  · cases hF
    exact ⟨by simp only [List.length_cons, List.length_nil]; decide, okAnchor110 hq⟩
  · cases hF
end Go.Proofs.YtfoabkkkdcicgaaGreatDoor
