/- Contracts by content, their conditions, and that they are met: InstR. -/
import Derived.Test.YtpomloangafbkaaGreatDoorLaxPkInstA
import Derived.Test.YtpomloangafbkaaGreatDoorLaxCmdC
/- Contracts by content, and the conditions that their code must meet. -/
namespace Go.Proofs.YtpomloangafbkaaGreatDoor
set_option linter.unusedVariables false
set_option linter.unusedSimpArgs false
open Go.RowKit
def xrightNF : Con
  | [.val (.agg zcx)] => (match instOf zcx with | some x => some (smallX x ∧ rightId x.r x.sl = false, ⟨.bool (rightI x), none, none⟩) | _ => none)
  | _ => none
def gamXrightN : List (Nat × Con) := [(30, refIdRightF.orNil)]
def lpXrightN0 (x : InstP) : Nat → Option LoopPlan := fun _ => none
def inXrightN0 (x : InstP) : Prop := awp [] (lpXrightN0 x) (lookΓ gamXrightN) Tryz.prog Tryz.f11.ntmps 0 (Tryz.f11.body.getD .skip) (entrySt [.val (.agg (instL x))]) (exitQ Tryz.prog Tryz.f11.results.toList [] ⟨.bool (rightI x), none, none⟩)
def OkXrightN0 : Prop := ∀ (x : InstP), smallX x ∧ rightId x.r x.sl = false → inXrightN0 x
def xrightIF : Con
  | [.val (.agg zcx)] => (match instOf zcx with | some x => some (smallX x ∧ rightId x.r x.sl = true, ⟨.bool (rightI x), none, none⟩) | _ => none)
  | _ => none
def gamXrightI : List (Nat × Con) := [(30, refIdRightF.orNil), (31, refBalF.orNil), (32, rrightF.orNil), (33, refARightF.orNil)]
def lpXrightI0 (x : InstP) : Nat → Option LoopPlan := fun _ => none
def inXrightI0 (x : InstP) : Prop := awp [] (lpXrightI0 x) (lookΓ gamXrightI) Tryz.prog Tryz.f11.ntmps 0 (Tryz.f11.body.getD .skip) (entrySt [.val (.agg (instL x))]) (exitQ Tryz.prog Tryz.f11.results.toList [] ⟨.bool (rightI x), none, none⟩)
def OkXrightI0 : Prop := ∀ (x : InstP), smallX x ∧ rightId x.r x.sl = true → inXrightI0 x
def inXrightK0 (x : InstP) : Prop := inXrightI0 { x with r := 0 }
def inXrightK1 (x : InstP) : Prop := inXrightI0 { x with r := 1 }
def inXrightK2 (x : InstP) : Prop := inXrightI0 { x with r := 2 }
def inXrightK3 (x : InstP) : Prop := inXrightI0 { x with r := 3 }
def inXrightK4 (x : InstP) : Prop := inXrightI0 { x with r := 4 }
def inXrightK5 (x : InstP) : Prop := inXrightI0 { x with r := 5 }
def inXrightK6 (x : InstP) : Prop := inXrightI0 { x with r := 6 }
end Go.Proofs.YtpomloangafbkaaGreatDoor
/- What the verification conditions come to: printed by a program of ours (wip/lax/ex/Norm.lean). -/
namespace Go.Proofs.YtpomloangafbkaaGreatDoor
set_option linter.unusedVariables false
open Go.RowKit
set_option maxRecDepth 100000
theorem vcXrightN0 (x : InstP) (h : (tt ∧ T1 ∧ T1 ∧ tt ∧ T1 ∧ tt ∧ (T1 ∧ True) ∧ T1 ∧ T1 ∧ (bif (Bool.not (rightId x.r x.sl)) then (tt ∧ T1 ∧ tt ∧ T1 ∧ tt ∧ T1 ∧ tt ∧ T1 ∧ tt ∧ tt ∧ T1 ∧ tt ∧ tt ∧ ((rightI x) = false ∧ True) ∧ tt) else (T1 ∧ tt ∧ False)))) : inXrightN0 x :=
  Eq.mp (show _ = _ by kernel_rfl) h
theorem vcXrightK0 (x : InstP) (h : let q0 := (rightI (InstP.mk 0 x.sl x.st x.bal x.vote x.same x.c x.a)); let q1 := (rightA x.a.s x.a.d0 x.a.d1 x.a.d2 x.a.d3 x.a.d4 x.a.d5 x.a.d6); let w1_x := (q0 = false ∧ True); let w0_x := (bif (rightC x.c) then (T1 ∧ tt ∧ (T1 ∧ True) ∧ T1 ∧ T1 ∧ (bif q1 then (T1 ∧ T1 ∧ tt ∧ T1 ∧ T1 ∧ ((0 : Int) ≤ (0 : Int) ∧ (0 : Int) < (7 : Int)) ∧ tt ∧ T1 ∧ T1 ∧ tt ∧ T1 ∧ T1 ∧ T1 ∧ tt ∧ tt ∧ tt ∧ (q0 = (x.a.d0 == x.sl) ∧ True) ∧ tt) else (false = false ∧ T1 ∧ tt ∧ tt ∧ tt ∧ w1_x ∧ tt))) else (false = false ∧ T1 ∧ false = false ∧ T1 ∧ tt ∧ tt ∧ tt ∧ w1_x ∧ tt)); let w2_x := (T1 ∧ (List.length x.c.foot) ≤ 900000 ∧ (List.length x.c.path) ≤ 900000); let w3_x := (tt ∧ T1 ∧ tt ∧ tt ∧ w1_x ∧ tt); (tt ∧ T1 ∧ T1 ∧ tt ∧ T1 ∧ tt ∧ (T1 ∧ True) ∧ T1 ∧ T1 ∧ (bif (Bool.not (rightId 0 x.sl)) then (tt ∧ T1 ∧ tt ∧ T1 ∧ tt ∧ T1 ∧ tt ∧ T1 ∧ tt ∧ tt ∧ T1 ∧ tt ∧ tt ∧ w1_x ∧ tt) else (T1 ∧ tt ∧ (T1 ∧ True) ∧ T1 ∧ T1 ∧ T1 ∧ (bif (Bool.not (balOK x.bal)) then (tt ∧ T1 ∧ tt ∧ T1 ∧ tt ∧ T1 ∧ tt ∧ tt ∧ T1 ∧ tt ∧ tt ∧ w1_x ∧ tt) else (T1 ∧ tt ∧ (T1 ∧ True) ∧ T1 ∧ T1 ∧ T1 ∧ (bif (Bool.not (balOK x.vote)) then (tt ∧ T1 ∧ tt ∧ T1 ∧ tt ∧ tt ∧ T1 ∧ tt ∧ tt ∧ w1_x ∧ tt) else (T1 ∧ tt ∧ T1 ∧ tt ∧ T1 ∧ T1 ∧ T1 ∧ (bif (decide (x.bal < x.vote)) then (tt ∧ T1 ∧ tt ∧ tt ∧ T1 ∧ tt ∧ tt ∧ w1_x ∧ tt) else (T1 ∧ tt ∧ T1 ∧ T1 ∧ T1 ∧ (bif (decide (x.st < 0)) then (tt ∧ tt ∧ T1 ∧ tt ∧ tt ∧ w1_x ∧ tt) else (T1 ∧ tt ∧ T1 ∧ T1 ∧ (bif (decide ((3 : Int) < x.st)) then w3_x else (tt ∧ T1 ∧ tt ∧ T1 ∧ (bif (x.st == 0) then (tt ∧ T1 ∧ tt ∧ T1 ∧ T1 ∧ (bif (x.vote == 0) then (T1 ∧ tt ∧ T1 ∧ T1 ∧ T1 ∧ (bif (Bool.not x.same) then (T1 ∧ tt ∧ T1 ∧ T1 ∧ T1 ∧ T1 ∧ (bif (Bool.and (x.c.k == 0) (Bool.and (x.c.num == 0) (Bool.and (@BEq.beq.{0} (List UInt8) (@List.instBEq.{0} UInt8 (@instBEqOfDecidableEq.{0} UInt8 instDecidableEqUInt8)) x.c.foot (@List.nil.{0} UInt8)) (Bool.and (x.c.rq == 0) (Bool.and (@BEq.beq.{0} (List UInt8) (@List.instBEq.{0} UInt8 (@instBEqOfDecidableEq.{0} UInt8 instDecidableEqUInt8)) x.c.path (@List.nil.{0} UInt8)) (Bool.and (x.c.mode == 0) (Bool.and (x.c.n == 0) (Bool.and (x.c.time == 0) true)))))))) then (T1 ∧ tt ∧ T1 ∧ T1 ∧ T1 ∧ T1 ∧ tt ∧ tt ∧ (q0 = (Bool.and (x.a.s == 0) (Bool.and (x.a.d0 == 0) (Bool.and (x.a.d1 == 0) (Bool.and (x.a.d2 == 0) (Bool.and (x.a.d3 == 0) (Bool.and (x.a.d4 == 0) (Bool.and (x.a.d5 == 0) (Bool.and (x.a.d6 == 0) true)))))))) ∧ True) ∧ tt) else (false = false ∧ T1 ∧ tt ∧ tt ∧ w1_x ∧ tt))) else (false = false ∧ T1 ∧ false = false ∧ T1 ∧ tt ∧ tt ∧ w1_x ∧ tt))) else (false = false ∧ T1 ∧ false = false ∧ T1 ∧ false = false ∧ T1 ∧ tt ∧ tt ∧ w1_x ∧ tt))) else (tt ∧ T1 ∧ tt ∧ T1 ∧ (bif x.same then (T1 ∧ tt ∧ T1 ∧ T1 ∧ (bif (x.st != 1) then (tt ∧ T1 ∧ tt ∧ T1 ∧ tt ∧ tt ∧ w1_x ∧ tt) else (T1 ∧ tt ∧ T1 ∧ T1 ∧ T1 ∧ (bif (x.vote != 0) then w3_x else (tt ∧ T1 ∧ tt ∧ w2_x ∧ T1 ∧ w0_x))))) else (false = false ∧ tt ∧ T1 ∧ tt ∧ w2_x ∧ T1 ∧ w0_x)))))))))))))))))) : inXrightK0 x :=
  Eq.mp (show _ = _ by kernel_rfl) h
theorem vcXrightK1 (x : InstP) (h : let q0 := (rightI (InstP.mk 1 x.sl x.st x.bal x.vote x.same x.c x.a)); let q1 := (rightA x.a.s x.a.d0 x.a.d1 x.a.d2 x.a.d3 x.a.d4 x.a.d5 x.a.d6); let w1_x := (q0 = false ∧ True); let w0_x := (bif (rightC x.c) then (T1 ∧ tt ∧ (T1 ∧ True) ∧ T1 ∧ T1 ∧ (bif q1 then (T1 ∧ T1 ∧ tt ∧ T1 ∧ T1 ∧ ((0 : Int) ≤ (1 : Int) ∧ (1 : Int) < (7 : Int)) ∧ tt ∧ T1 ∧ T1 ∧ tt ∧ T1 ∧ T1 ∧ T1 ∧ tt ∧ tt ∧ tt ∧ (q0 = (x.a.d1 == x.sl) ∧ True) ∧ tt) else (false = false ∧ T1 ∧ tt ∧ tt ∧ tt ∧ w1_x ∧ tt))) else (false = false ∧ T1 ∧ false = false ∧ T1 ∧ tt ∧ tt ∧ tt ∧ w1_x ∧ tt)); let w2_x := (T1 ∧ (List.length x.c.foot) ≤ 900000 ∧ (List.length x.c.path) ≤ 900000); let w3_x := (tt ∧ T1 ∧ tt ∧ tt ∧ w1_x ∧ tt); (tt ∧ T1 ∧ T1 ∧ tt ∧ T1 ∧ tt ∧ (T1 ∧ True) ∧ T1 ∧ T1 ∧ (bif (Bool.not (rightId 1 x.sl)) then (tt ∧ T1 ∧ tt ∧ T1 ∧ tt ∧ T1 ∧ tt ∧ T1 ∧ tt ∧ tt ∧ T1 ∧ tt ∧ tt ∧ w1_x ∧ tt) else (T1 ∧ tt ∧ (T1 ∧ True) ∧ T1 ∧ T1 ∧ T1 ∧ (bif (Bool.not (balOK x.bal)) then (tt ∧ T1 ∧ tt ∧ T1 ∧ tt ∧ T1 ∧ tt ∧ tt ∧ T1 ∧ tt ∧ tt ∧ w1_x ∧ tt) else (T1 ∧ tt ∧ (T1 ∧ True) ∧ T1 ∧ T1 ∧ T1 ∧ (bif (Bool.not (balOK x.vote)) then (tt ∧ T1 ∧ tt ∧ T1 ∧ tt ∧ tt ∧ T1 ∧ tt ∧ tt ∧ w1_x ∧ tt) else (T1 ∧ tt ∧ T1 ∧ tt ∧ T1 ∧ T1 ∧ T1 ∧ (bif (decide (x.bal < x.vote)) then (tt ∧ T1 ∧ tt ∧ tt ∧ T1 ∧ tt ∧ tt ∧ w1_x ∧ tt) else (T1 ∧ tt ∧ T1 ∧ T1 ∧ T1 ∧ (bif (decide (x.st < 0)) then (tt ∧ tt ∧ T1 ∧ tt ∧ tt ∧ w1_x ∧ tt) else (T1 ∧ tt ∧ T1 ∧ T1 ∧ (bif (decide ((3 : Int) < x.st)) then w3_x else (tt ∧ T1 ∧ tt ∧ T1 ∧ (bif (x.st == 0) then (tt ∧ T1 ∧ tt ∧ T1 ∧ T1 ∧ (bif (x.vote == 0) then (T1 ∧ tt ∧ T1 ∧ T1 ∧ T1 ∧ (bif (Bool.not x.same) then (T1 ∧ tt ∧ T1 ∧ T1 ∧ T1 ∧ T1 ∧ (bif (Bool.and (x.c.k == 0) (Bool.and (x.c.num == 0) (Bool.and (@BEq.beq.{0} (List UInt8) (@List.instBEq.{0} UInt8 (@instBEqOfDecidableEq.{0} UInt8 instDecidableEqUInt8)) x.c.foot (@List.nil.{0} UInt8)) (Bool.and (x.c.rq == 0) (Bool.and (@BEq.beq.{0} (List UInt8) (@List.instBEq.{0} UInt8 (@instBEqOfDecidableEq.{0} UInt8 instDecidableEqUInt8)) x.c.path (@List.nil.{0} UInt8)) (Bool.and (x.c.mode == 0) (Bool.and (x.c.n == 0) (Bool.and (x.c.time == 0) true)))))))) then (T1 ∧ tt ∧ T1 ∧ T1 ∧ T1 ∧ T1 ∧ tt ∧ tt ∧ (q0 = (Bool.and (x.a.s == 0) (Bool.and (x.a.d0 == 0) (Bool.and (x.a.d1 == 0) (Bool.and (x.a.d2 == 0) (Bool.and (x.a.d3 == 0) (Bool.and (x.a.d4 == 0) (Bool.and (x.a.d5 == 0) (Bool.and (x.a.d6 == 0) true)))))))) ∧ True) ∧ tt) else (false = false ∧ T1 ∧ tt ∧ tt ∧ w1_x ∧ tt))) else (false = false ∧ T1 ∧ false = false ∧ T1 ∧ tt ∧ tt ∧ w1_x ∧ tt))) else (false = false ∧ T1 ∧ false = false ∧ T1 ∧ false = false ∧ T1 ∧ tt ∧ tt ∧ w1_x ∧ tt))) else (tt ∧ T1 ∧ tt ∧ T1 ∧ (bif x.same then (T1 ∧ tt ∧ T1 ∧ T1 ∧ (bif (x.st != 1) then (tt ∧ T1 ∧ tt ∧ T1 ∧ tt ∧ tt ∧ w1_x ∧ tt) else (T1 ∧ tt ∧ T1 ∧ T1 ∧ T1 ∧ (bif (x.vote != 0) then w3_x else (tt ∧ T1 ∧ tt ∧ w2_x ∧ T1 ∧ w0_x))))) else (false = false ∧ tt ∧ T1 ∧ tt ∧ w2_x ∧ T1 ∧ w0_x)))))))))))))))))) : inXrightK1 x :=
  Eq.mp (show _ = _ by kernel_rfl) h
theorem vcXrightK2 (x : InstP) (h : let q0 := (rightI (InstP.mk 2 x.sl x.st x.bal x.vote x.same x.c x.a)); let q1 := (rightA x.a.s x.a.d0 x.a.d1 x.a.d2 x.a.d3 x.a.d4 x.a.d5 x.a.d6); let w1_x := (q0 = false ∧ True); let w0_x := (bif (rightC x.c) then (T1 ∧ tt ∧ (T1 ∧ True) ∧ T1 ∧ T1 ∧ (bif q1 then (T1 ∧ T1 ∧ tt ∧ T1 ∧ T1 ∧ ((0 : Int) ≤ (2 : Int) ∧ (2 : Int) < (7 : Int)) ∧ tt ∧ T1 ∧ T1 ∧ tt ∧ T1 ∧ T1 ∧ T1 ∧ tt ∧ tt ∧ tt ∧ (q0 = (x.a.d2 == x.sl) ∧ True) ∧ tt) else (false = false ∧ T1 ∧ tt ∧ tt ∧ tt ∧ w1_x ∧ tt))) else (false = false ∧ T1 ∧ false = false ∧ T1 ∧ tt ∧ tt ∧ tt ∧ w1_x ∧ tt)); let w2_x := (T1 ∧ (List.length x.c.foot) ≤ 900000 ∧ (List.length x.c.path) ≤ 900000); let w3_x := (tt ∧ T1 ∧ tt ∧ tt ∧ w1_x ∧ tt); (tt ∧ T1 ∧ T1 ∧ tt ∧ T1 ∧ tt ∧ (T1 ∧ True) ∧ T1 ∧ T1 ∧ (bif (Bool.not (rightId 2 x.sl)) then (tt ∧ T1 ∧ tt ∧ T1 ∧ tt ∧ T1 ∧ tt ∧ T1 ∧ tt ∧ tt ∧ T1 ∧ tt ∧ tt ∧ w1_x ∧ tt) else (T1 ∧ tt ∧ (T1 ∧ True) ∧ T1 ∧ T1 ∧ T1 ∧ (bif (Bool.not (balOK x.bal)) then (tt ∧ T1 ∧ tt ∧ T1 ∧ tt ∧ T1 ∧ tt ∧ tt ∧ T1 ∧ tt ∧ tt ∧ w1_x ∧ tt) else (T1 ∧ tt ∧ (T1 ∧ True) ∧ T1 ∧ T1 ∧ T1 ∧ (bif (Bool.not (balOK x.vote)) then (tt ∧ T1 ∧ tt ∧ T1 ∧ tt ∧ tt ∧ T1 ∧ tt ∧ tt ∧ w1_x ∧ tt) else (T1 ∧ tt ∧ T1 ∧ tt ∧ T1 ∧ T1 ∧ T1 ∧ (bif (decide (x.bal < x.vote)) then (tt ∧ T1 ∧ tt ∧ tt ∧ T1 ∧ tt ∧ tt ∧ w1_x ∧ tt) else (T1 ∧ tt ∧ T1 ∧ T1 ∧ T1 ∧ (bif (decide (x.st < 0)) then (tt ∧ tt ∧ T1 ∧ tt ∧ tt ∧ w1_x ∧ tt) else (T1 ∧ tt ∧ T1 ∧ T1 ∧ (bif (decide ((3 : Int) < x.st)) then w3_x else (tt ∧ T1 ∧ tt ∧ T1 ∧ (bif (x.st == 0) then (tt ∧ T1 ∧ tt ∧ T1 ∧ T1 ∧ (bif (x.vote == 0) then (T1 ∧ tt ∧ T1 ∧ T1 ∧ T1 ∧ (bif (Bool.not x.same) then (T1 ∧ tt ∧ T1 ∧ T1 ∧ T1 ∧ T1 ∧ (bif (Bool.and (x.c.k == 0) (Bool.and (x.c.num == 0) (Bool.and (@BEq.beq.{0} (List UInt8) (@List.instBEq.{0} UInt8 (@instBEqOfDecidableEq.{0} UInt8 instDecidableEqUInt8)) x.c.foot (@List.nil.{0} UInt8)) (Bool.and (x.c.rq == 0) (Bool.and (@BEq.beq.{0} (List UInt8) (@List.instBEq.{0} UInt8 (@instBEqOfDecidableEq.{0} UInt8 instDecidableEqUInt8)) x.c.path (@List.nil.{0} UInt8)) (Bool.and (x.c.mode == 0) (Bool.and (x.c.n == 0) (Bool.and (x.c.time == 0) true)))))))) then (T1 ∧ tt ∧ T1 ∧ T1 ∧ T1 ∧ T1 ∧ tt ∧ tt ∧ (q0 = (Bool.and (x.a.s == 0) (Bool.and (x.a.d0 == 0) (Bool.and (x.a.d1 == 0) (Bool.and (x.a.d2 == 0) (Bool.and (x.a.d3 == 0) (Bool.and (x.a.d4 == 0) (Bool.and (x.a.d5 == 0) (Bool.and (x.a.d6 == 0) true)))))))) ∧ True) ∧ tt) else (false = false ∧ T1 ∧ tt ∧ tt ∧ w1_x ∧ tt))) else (false = false ∧ T1 ∧ false = false ∧ T1 ∧ tt ∧ tt ∧ w1_x ∧ tt))) else (false = false ∧ T1 ∧ false = false ∧ T1 ∧ false = false ∧ T1 ∧ tt ∧ tt ∧ w1_x ∧ tt))) else (tt ∧ T1 ∧ tt ∧ T1 ∧ (bif x.same then (T1 ∧ tt ∧ T1 ∧ T1 ∧ (bif (x.st != 1) then (tt ∧ T1 ∧ tt ∧ T1 ∧ tt ∧ tt ∧ w1_x ∧ tt) else (T1 ∧ tt ∧ T1 ∧ T1 ∧ T1 ∧ (bif (x.vote != 0) then w3_x else (tt ∧ T1 ∧ tt ∧ w2_x ∧ T1 ∧ w0_x))))) else (false = false ∧ tt ∧ T1 ∧ tt ∧ w2_x ∧ T1 ∧ w0_x)))))))))))))))))) : inXrightK2 x :=
  Eq.mp (show _ = _ by kernel_rfl) h
theorem vcXrightK3 (x : InstP) (h : let q0 := (rightI (InstP.mk 3 x.sl x.st x.bal x.vote x.same x.c x.a)); let q1 := (rightA x.a.s x.a.d0 x.a.d1 x.a.d2 x.a.d3 x.a.d4 x.a.d5 x.a.d6); let w1_x := (q0 = false ∧ True); let w0_x := (bif (rightC x.c) then (T1 ∧ tt ∧ (T1 ∧ True) ∧ T1 ∧ T1 ∧ (bif q1 then (T1 ∧ T1 ∧ tt ∧ T1 ∧ T1 ∧ ((0 : Int) ≤ (3 : Int) ∧ (3 : Int) < (7 : Int)) ∧ tt ∧ T1 ∧ T1 ∧ tt ∧ T1 ∧ T1 ∧ T1 ∧ tt ∧ tt ∧ tt ∧ (q0 = (x.a.d3 == x.sl) ∧ True) ∧ tt) else (false = false ∧ T1 ∧ tt ∧ tt ∧ tt ∧ w1_x ∧ tt))) else (false = false ∧ T1 ∧ false = false ∧ T1 ∧ tt ∧ tt ∧ tt ∧ w1_x ∧ tt)); let w2_x := (T1 ∧ (List.length x.c.foot) ≤ 900000 ∧ (List.length x.c.path) ≤ 900000); let w3_x := (tt ∧ T1 ∧ tt ∧ tt ∧ w1_x ∧ tt); (tt ∧ T1 ∧ T1 ∧ tt ∧ T1 ∧ tt ∧ (T1 ∧ True) ∧ T1 ∧ T1 ∧ (bif (Bool.not (rightId 3 x.sl)) then (tt ∧ T1 ∧ tt ∧ T1 ∧ tt ∧ T1 ∧ tt ∧ T1 ∧ tt ∧ tt ∧ T1 ∧ tt ∧ tt ∧ w1_x ∧ tt) else (T1 ∧ tt ∧ (T1 ∧ True) ∧ T1 ∧ T1 ∧ T1 ∧ (bif (Bool.not (balOK x.bal)) then (tt ∧ T1 ∧ tt ∧ T1 ∧ tt ∧ T1 ∧ tt ∧ tt ∧ T1 ∧ tt ∧ tt ∧ w1_x ∧ tt) else (T1 ∧ tt ∧ (T1 ∧ True) ∧ T1 ∧ T1 ∧ T1 ∧ (bif (Bool.not (balOK x.vote)) then (tt ∧ T1 ∧ tt ∧ T1 ∧ tt ∧ tt ∧ T1 ∧ tt ∧ tt ∧ w1_x ∧ tt) else (T1 ∧ tt ∧ T1 ∧ tt ∧ T1 ∧ T1 ∧ T1 ∧ (bif (decide (x.bal < x.vote)) then (tt ∧ T1 ∧ tt ∧ tt ∧ T1 ∧ tt ∧ tt ∧ w1_x ∧ tt) else (T1 ∧ tt ∧ T1 ∧ T1 ∧ T1 ∧ (bif (decide (x.st < 0)) then (tt ∧ tt ∧ T1 ∧ tt ∧ tt ∧ w1_x ∧ tt) else (T1 ∧ tt ∧ T1 ∧ T1 ∧ (bif (decide ((3 : Int) < x.st)) then w3_x else (tt ∧ T1 ∧ tt ∧ T1 ∧ (bif (x.st == 0) then (tt ∧ T1 ∧ tt ∧ T1 ∧ T1 ∧ (bif (x.vote == 0) then (T1 ∧ tt ∧ T1 ∧ T1 ∧ T1 ∧ (bif (Bool.not x.same) then (T1 ∧ tt ∧ T1 ∧ T1 ∧ T1 ∧ T1 ∧ (bif (Bool.and (x.c.k == 0) (Bool.and (x.c.num == 0) (Bool.and (@BEq.beq.{0} (List UInt8) (@List.instBEq.{0} UInt8 (@instBEqOfDecidableEq.{0} UInt8 instDecidableEqUInt8)) x.c.foot (@List.nil.{0} UInt8)) (Bool.and (x.c.rq == 0) (Bool.and (@BEq.beq.{0} (List UInt8) (@List.instBEq.{0} UInt8 (@instBEqOfDecidableEq.{0} UInt8 instDecidableEqUInt8)) x.c.path (@List.nil.{0} UInt8)) (Bool.and (x.c.mode == 0) (Bool.and (x.c.n == 0) (Bool.and (x.c.time == 0) true)))))))) then (T1 ∧ tt ∧ T1 ∧ T1 ∧ T1 ∧ T1 ∧ tt ∧ tt ∧ (q0 = (Bool.and (x.a.s == 0) (Bool.and (x.a.d0 == 0) (Bool.and (x.a.d1 == 0) (Bool.and (x.a.d2 == 0) (Bool.and (x.a.d3 == 0) (Bool.and (x.a.d4 == 0) (Bool.and (x.a.d5 == 0) (Bool.and (x.a.d6 == 0) true)))))))) ∧ True) ∧ tt) else (false = false ∧ T1 ∧ tt ∧ tt ∧ w1_x ∧ tt))) else (false = false ∧ T1 ∧ false = false ∧ T1 ∧ tt ∧ tt ∧ w1_x ∧ tt))) else (false = false ∧ T1 ∧ false = false ∧ T1 ∧ false = false ∧ T1 ∧ tt ∧ tt ∧ w1_x ∧ tt))) else (tt ∧ T1 ∧ tt ∧ T1 ∧ (bif x.same then (T1 ∧ tt ∧ T1 ∧ T1 ∧ (bif (x.st != 1) then (tt ∧ T1 ∧ tt ∧ T1 ∧ tt ∧ tt ∧ w1_x ∧ tt) else (T1 ∧ tt ∧ T1 ∧ T1 ∧ T1 ∧ (bif (x.vote != 0) then w3_x else (tt ∧ T1 ∧ tt ∧ w2_x ∧ T1 ∧ w0_x))))) else (false = false ∧ tt ∧ T1 ∧ tt ∧ w2_x ∧ T1 ∧ w0_x)))))))))))))))))) : inXrightK3 x :=
  Eq.mp (show _ = _ by kernel_rfl) h
theorem vcXrightK4 (x : InstP) (h : let q0 := (rightI (InstP.mk 4 x.sl x.st x.bal x.vote x.same x.c x.a)); let q1 := (rightA x.a.s x.a.d0 x.a.d1 x.a.d2 x.a.d3 x.a.d4 x.a.d5 x.a.d6); let w1_x := (q0 = false ∧ True); let w0_x := (bif (rightC x.c) then (T1 ∧ tt ∧ (T1 ∧ True) ∧ T1 ∧ T1 ∧ (bif q1 then (T1 ∧ T1 ∧ tt ∧ T1 ∧ T1 ∧ ((0 : Int) ≤ (4 : Int) ∧ (4 : Int) < (7 : Int)) ∧ tt ∧ T1 ∧ T1 ∧ tt ∧ T1 ∧ T1 ∧ T1 ∧ tt ∧ tt ∧ tt ∧ (q0 = (x.a.d4 == x.sl) ∧ True) ∧ tt) else (false = false ∧ T1 ∧ tt ∧ tt ∧ tt ∧ w1_x ∧ tt))) else (false = false ∧ T1 ∧ false = false ∧ T1 ∧ tt ∧ tt ∧ tt ∧ w1_x ∧ tt)); let w2_x := (T1 ∧ (List.length x.c.foot) ≤ 900000 ∧ (List.length x.c.path) ≤ 900000); let w3_x := (tt ∧ T1 ∧ tt ∧ tt ∧ w1_x ∧ tt); (tt ∧ T1 ∧ T1 ∧ tt ∧ T1 ∧ tt ∧ (T1 ∧ True) ∧ T1 ∧ T1 ∧ (bif (Bool.not (rightId 4 x.sl)) then (tt ∧ T1 ∧ tt ∧ T1 ∧ tt ∧ T1 ∧ tt ∧ T1 ∧ tt ∧ tt ∧ T1 ∧ tt ∧ tt ∧ w1_x ∧ tt) else (T1 ∧ tt ∧ (T1 ∧ True) ∧ T1 ∧ T1 ∧ T1 ∧ (bif (Bool.not (balOK x.bal)) then (tt ∧ T1 ∧ tt ∧ T1 ∧ tt ∧ T1 ∧ tt ∧ tt ∧ T1 ∧ tt ∧ tt ∧ w1_x ∧ tt) else (T1 ∧ tt ∧ (T1 ∧ True) ∧ T1 ∧ T1 ∧ T1 ∧ (bif (Bool.not (balOK x.vote)) then (tt ∧ T1 ∧ tt ∧ T1 ∧ tt ∧ tt ∧ T1 ∧ tt ∧ tt ∧ w1_x ∧ tt) else (T1 ∧ tt ∧ T1 ∧ tt ∧ T1 ∧ T1 ∧ T1 ∧ (bif (decide (x.bal < x.vote)) then (tt ∧ T1 ∧ tt ∧ tt ∧ T1 ∧ tt ∧ tt ∧ w1_x ∧ tt) else (T1 ∧ tt ∧ T1 ∧ T1 ∧ T1 ∧ (bif (decide (x.st < 0)) then (tt ∧ tt ∧ T1 ∧ tt ∧ tt ∧ w1_x ∧ tt) else (T1 ∧ tt ∧ T1 ∧ T1 ∧ (bif (decide ((3 : Int) < x.st)) then w3_x else (tt ∧ T1 ∧ tt ∧ T1 ∧ (bif (x.st == 0) then (tt ∧ T1 ∧ tt ∧ T1 ∧ T1 ∧ (bif (x.vote == 0) then (T1 ∧ tt ∧ T1 ∧ T1 ∧ T1 ∧ (bif (Bool.not x.same) then (T1 ∧ tt ∧ T1 ∧ T1 ∧ T1 ∧ T1 ∧ (bif (Bool.and (x.c.k == 0) (Bool.and (x.c.num == 0) (Bool.and (@BEq.beq.{0} (List UInt8) (@List.instBEq.{0} UInt8 (@instBEqOfDecidableEq.{0} UInt8 instDecidableEqUInt8)) x.c.foot (@List.nil.{0} UInt8)) (Bool.and (x.c.rq == 0) (Bool.and (@BEq.beq.{0} (List UInt8) (@List.instBEq.{0} UInt8 (@instBEqOfDecidableEq.{0} UInt8 instDecidableEqUInt8)) x.c.path (@List.nil.{0} UInt8)) (Bool.and (x.c.mode == 0) (Bool.and (x.c.n == 0) (Bool.and (x.c.time == 0) true)))))))) then (T1 ∧ tt ∧ T1 ∧ T1 ∧ T1 ∧ T1 ∧ tt ∧ tt ∧ (q0 = (Bool.and (x.a.s == 0) (Bool.and (x.a.d0 == 0) (Bool.and (x.a.d1 == 0) (Bool.and (x.a.d2 == 0) (Bool.and (x.a.d3 == 0) (Bool.and (x.a.d4 == 0) (Bool.and (x.a.d5 == 0) (Bool.and (x.a.d6 == 0) true)))))))) ∧ True) ∧ tt) else (false = false ∧ T1 ∧ tt ∧ tt ∧ w1_x ∧ tt))) else (false = false ∧ T1 ∧ false = false ∧ T1 ∧ tt ∧ tt ∧ w1_x ∧ tt))) else (false = false ∧ T1 ∧ false = false ∧ T1 ∧ false = false ∧ T1 ∧ tt ∧ tt ∧ w1_x ∧ tt))) else (tt ∧ T1 ∧ tt ∧ T1 ∧ (bif x.same then (T1 ∧ tt ∧ T1 ∧ T1 ∧ (bif (x.st != 1) then (tt ∧ T1 ∧ tt ∧ T1 ∧ tt ∧ tt ∧ w1_x ∧ tt) else (T1 ∧ tt ∧ T1 ∧ T1 ∧ T1 ∧ (bif (x.vote != 0) then w3_x else (tt ∧ T1 ∧ tt ∧ w2_x ∧ T1 ∧ w0_x))))) else (false = false ∧ tt ∧ T1 ∧ tt ∧ w2_x ∧ T1 ∧ w0_x)))))))))))))))))) : inXrightK4 x :=
  Eq.mp (show _ = _ by kernel_rfl) h
theorem vcXrightK5 (x : InstP) (h : let q0 := (rightI (InstP.mk 5 x.sl x.st x.bal x.vote x.same x.c x.a)); let q1 := (rightA x.a.s x.a.d0 x.a.d1 x.a.d2 x.a.d3 x.a.d4 x.a.d5 x.a.d6); let w1_x := (q0 = false ∧ True); let w0_x := (bif (rightC x.c) then (T1 ∧ tt ∧ (T1 ∧ True) ∧ T1 ∧ T1 ∧ (bif q1 then (T1 ∧ T1 ∧ tt ∧ T1 ∧ T1 ∧ ((0 : Int) ≤ (5 : Int) ∧ (5 : Int) < (7 : Int)) ∧ tt ∧ T1 ∧ T1 ∧ tt ∧ T1 ∧ T1 ∧ T1 ∧ tt ∧ tt ∧ tt ∧ (q0 = (x.a.d5 == x.sl) ∧ True) ∧ tt) else (false = false ∧ T1 ∧ tt ∧ tt ∧ tt ∧ w1_x ∧ tt))) else (false = false ∧ T1 ∧ false = false ∧ T1 ∧ tt ∧ tt ∧ tt ∧ w1_x ∧ tt)); let w2_x := (T1 ∧ (List.length x.c.foot) ≤ 900000 ∧ (List.length x.c.path) ≤ 900000); let w3_x := (tt ∧ T1 ∧ tt ∧ tt ∧ w1_x ∧ tt); (tt ∧ T1 ∧ T1 ∧ tt ∧ T1 ∧ tt ∧ (T1 ∧ True) ∧ T1 ∧ T1 ∧ (bif (Bool.not (rightId 5 x.sl)) then (tt ∧ T1 ∧ tt ∧ T1 ∧ tt ∧ T1 ∧ tt ∧ T1 ∧ tt ∧ tt ∧ T1 ∧ tt ∧ tt ∧ w1_x ∧ tt) else (T1 ∧ tt ∧ (T1 ∧ True) ∧ T1 ∧ T1 ∧ T1 ∧ (bif (Bool.not (balOK x.bal)) then (tt ∧ T1 ∧ tt ∧ T1 ∧ tt ∧ T1 ∧ tt ∧ tt ∧ T1 ∧ tt ∧ tt ∧ w1_x ∧ tt) else (T1 ∧ tt ∧ (T1 ∧ True) ∧ T1 ∧ T1 ∧ T1 ∧ (bif (Bool.not (balOK x.vote)) then (tt ∧ T1 ∧ tt ∧ T1 ∧ tt ∧ tt ∧ T1 ∧ tt ∧ tt ∧ w1_x ∧ tt) else (T1 ∧ tt ∧ T1 ∧ tt ∧ T1 ∧ T1 ∧ T1 ∧ (bif (decide (x.bal < x.vote)) then (tt ∧ T1 ∧ tt ∧ tt ∧ T1 ∧ tt ∧ tt ∧ w1_x ∧ tt) else (T1 ∧ tt ∧ T1 ∧ T1 ∧ T1 ∧ (bif (decide (x.st < 0)) then (tt ∧ tt ∧ T1 ∧ tt ∧ tt ∧ w1_x ∧ tt) else (T1 ∧ tt ∧ T1 ∧ T1 ∧ (bif (decide ((3 : Int) < x.st)) then w3_x else (tt ∧ T1 ∧ tt ∧ T1 ∧ (bif (x.st == 0) then (tt ∧ T1 ∧ tt ∧ T1 ∧ T1 ∧ (bif (x.vote == 0) then (T1 ∧ tt ∧ T1 ∧ T1 ∧ T1 ∧ (bif (Bool.not x.same) then (T1 ∧ tt ∧ T1 ∧ T1 ∧ T1 ∧ T1 ∧ (bif (Bool.and (x.c.k == 0) (Bool.and (x.c.num == 0) (Bool.and (@BEq.beq.{0} (List UInt8) (@List.instBEq.{0} UInt8 (@instBEqOfDecidableEq.{0} UInt8 instDecidableEqUInt8)) x.c.foot (@List.nil.{0} UInt8)) (Bool.and (x.c.rq == 0) (Bool.and (@BEq.beq.{0} (List UInt8) (@List.instBEq.{0} UInt8 (@instBEqOfDecidableEq.{0} UInt8 instDecidableEqUInt8)) x.c.path (@List.nil.{0} UInt8)) (Bool.and (x.c.mode == 0) (Bool.and (x.c.n == 0) (Bool.and (x.c.time == 0) true)))))))) then (T1 ∧ tt ∧ T1 ∧ T1 ∧ T1 ∧ T1 ∧ tt ∧ tt ∧ (q0 = (Bool.and (x.a.s == 0) (Bool.and (x.a.d0 == 0) (Bool.and (x.a.d1 == 0) (Bool.and (x.a.d2 == 0) (Bool.and (x.a.d3 == 0) (Bool.and (x.a.d4 == 0) (Bool.and (x.a.d5 == 0) (Bool.and (x.a.d6 == 0) true)))))))) ∧ True) ∧ tt) else (false = false ∧ T1 ∧ tt ∧ tt ∧ w1_x ∧ tt))) else (false = false ∧ T1 ∧ false = false ∧ T1 ∧ tt ∧ tt ∧ w1_x ∧ tt))) else (false = false ∧ T1 ∧ false = false ∧ T1 ∧ false = false ∧ T1 ∧ tt ∧ tt ∧ w1_x ∧ tt))) else (tt ∧ T1 ∧ tt ∧ T1 ∧ (bif x.same then (T1 ∧ tt ∧ T1 ∧ T1 ∧ (bif (x.st != 1) then (tt ∧ T1 ∧ tt ∧ T1 ∧ tt ∧ tt ∧ w1_x ∧ tt) else (T1 ∧ tt ∧ T1 ∧ T1 ∧ T1 ∧ (bif (x.vote != 0) then w3_x else (tt ∧ T1 ∧ tt ∧ w2_x ∧ T1 ∧ w0_x))))) else (false = false ∧ tt ∧ T1 ∧ tt ∧ w2_x ∧ T1 ∧ w0_x)))))))))))))))))) : inXrightK5 x :=
  Eq.mp (show _ = _ by kernel_rfl) h
theorem vcXrightK6 (x : InstP) (h : let q0 := (rightI (InstP.mk 6 x.sl x.st x.bal x.vote x.same x.c x.a)); let q1 := (rightA x.a.s x.a.d0 x.a.d1 x.a.d2 x.a.d3 x.a.d4 x.a.d5 x.a.d6); let w1_x := (q0 = false ∧ True); let w0_x := (bif (rightC x.c) then (T1 ∧ tt ∧ (T1 ∧ True) ∧ T1 ∧ T1 ∧ (bif q1 then (T1 ∧ T1 ∧ tt ∧ T1 ∧ T1 ∧ ((0 : Int) ≤ (6 : Int) ∧ (6 : Int) < (7 : Int)) ∧ tt ∧ T1 ∧ T1 ∧ tt ∧ T1 ∧ T1 ∧ T1 ∧ tt ∧ tt ∧ tt ∧ (q0 = (x.a.d6 == x.sl) ∧ True) ∧ tt) else (false = false ∧ T1 ∧ tt ∧ tt ∧ tt ∧ w1_x ∧ tt))) else (false = false ∧ T1 ∧ false = false ∧ T1 ∧ tt ∧ tt ∧ tt ∧ w1_x ∧ tt)); let w2_x := (T1 ∧ (List.length x.c.foot) ≤ 900000 ∧ (List.length x.c.path) ≤ 900000); let w3_x := (tt ∧ T1 ∧ tt ∧ tt ∧ w1_x ∧ tt); (tt ∧ T1 ∧ T1 ∧ tt ∧ T1 ∧ tt ∧ (T1 ∧ True) ∧ T1 ∧ T1 ∧ (bif (Bool.not (rightId 6 x.sl)) then (tt ∧ T1 ∧ tt ∧ T1 ∧ tt ∧ T1 ∧ tt ∧ T1 ∧ tt ∧ tt ∧ T1 ∧ tt ∧ tt ∧ w1_x ∧ tt) else (T1 ∧ tt ∧ (T1 ∧ True) ∧ T1 ∧ T1 ∧ T1 ∧ (bif (Bool.not (balOK x.bal)) then (tt ∧ T1 ∧ tt ∧ T1 ∧ tt ∧ T1 ∧ tt ∧ tt ∧ T1 ∧ tt ∧ tt ∧ w1_x ∧ tt) else (T1 ∧ tt ∧ (T1 ∧ True) ∧ T1 ∧ T1 ∧ T1 ∧ (bif (Bool.not (balOK x.vote)) then (tt ∧ T1 ∧ tt ∧ T1 ∧ tt ∧ tt ∧ T1 ∧ tt ∧ tt ∧ w1_x ∧ tt) else (T1 ∧ tt ∧ T1 ∧ tt ∧ T1 ∧ T1 ∧ T1 ∧ (bif (decide (x.bal < x.vote)) then (tt ∧ T1 ∧ tt ∧ tt ∧ T1 ∧ tt ∧ tt ∧ w1_x ∧ tt) else (T1 ∧ tt ∧ T1 ∧ T1 ∧ T1 ∧ (bif (decide (x.st < 0)) then (tt ∧ tt ∧ T1 ∧ tt ∧ tt ∧ w1_x ∧ tt) else (T1 ∧ tt ∧ T1 ∧ T1 ∧ (bif (decide ((3 : Int) < x.st)) then w3_x else (tt ∧ T1 ∧ tt ∧ T1 ∧ (bif (x.st == 0) then (tt ∧ T1 ∧ tt ∧ T1 ∧ T1 ∧ (bif (x.vote == 0) then (T1 ∧ tt ∧ T1 ∧ T1 ∧ T1 ∧ (bif (Bool.not x.same) then (T1 ∧ tt ∧ T1 ∧ T1 ∧ T1 ∧ T1 ∧ (bif (Bool.and (x.c.k == 0) (Bool.and (x.c.num == 0) (Bool.and (@BEq.beq.{0} (List UInt8) (@List.instBEq.{0} UInt8 (@instBEqOfDecidableEq.{0} UInt8 instDecidableEqUInt8)) x.c.foot (@List.nil.{0} UInt8)) (Bool.and (x.c.rq == 0) (Bool.and (@BEq.beq.{0} (List UInt8) (@List.instBEq.{0} UInt8 (@instBEqOfDecidableEq.{0} UInt8 instDecidableEqUInt8)) x.c.path (@List.nil.{0} UInt8)) (Bool.and (x.c.mode == 0) (Bool.and (x.c.n == 0) (Bool.and (x.c.time == 0) true)))))))) then (T1 ∧ tt ∧ T1 ∧ T1 ∧ T1 ∧ T1 ∧ tt ∧ tt ∧ (q0 = (Bool.and (x.a.s == 0) (Bool.and (x.a.d0 == 0) (Bool.and (x.a.d1 == 0) (Bool.and (x.a.d2 == 0) (Bool.and (x.a.d3 == 0) (Bool.and (x.a.d4 == 0) (Bool.and (x.a.d5 == 0) (Bool.and (x.a.d6 == 0) true)))))))) ∧ True) ∧ tt) else (false = false ∧ T1 ∧ tt ∧ tt ∧ w1_x ∧ tt))) else (false = false ∧ T1 ∧ false = false ∧ T1 ∧ tt ∧ tt ∧ w1_x ∧ tt))) else (false = false ∧ T1 ∧ false = false ∧ T1 ∧ false = false ∧ T1 ∧ tt ∧ tt ∧ w1_x ∧ tt))) else (tt ∧ T1 ∧ tt ∧ T1 ∧ (bif x.same then (T1 ∧ tt ∧ T1 ∧ T1 ∧ (bif (x.st != 1) then (tt ∧ T1 ∧ tt ∧ T1 ∧ tt ∧ tt ∧ w1_x ∧ tt) else (T1 ∧ tt ∧ T1 ∧ T1 ∧ T1 ∧ (bif (x.vote != 0) then w3_x else (tt ∧ T1 ∧ tt ∧ w2_x ∧ T1 ∧ w0_x))))) else (false = false ∧ tt ∧ T1 ∧ tt ∧ w2_x ∧ T1 ∧ w0_x)))))))))))))))))) : inXrightK6 x :=
  Eq.mp (show _ = _ by kernel_rfl) h
end Go.Proofs.YtpomloangafbkaaGreatDoor
/- The conditions hold: the document's answer whether a state may be. -/
namespace Go.Proofs.YtpomloangafbkaaGreatDoor
set_option linter.unusedVariables false
set_option linter.unusedSimpArgs false
open Go.RowKit
set_option maxRecDepth 100000

theorem okXrightN0 : OkXrightN0 := by
  intro x hq
  refine vcXrightN0 x ?_
  have h := hq.2
  have e : rightI x = false := by unfold rightI; rw [h]; rfl
  simp only [true_and, and_true, forall_eq, eq_self, h, e, Bool.not_false, cond_true]
theorem rightI_steps (x : InstP) : rightI x = (rightId x.r x.sl && (balOK x.bal && (balOK x.vote && (!decide (x.bal < x.vote) && (!decide (x.st < 0) && (!decide (3 < x.st) &&
    (if x.st = 0 then (x.vote == 0) && (!x.same && (eqC x.c zC && eqA x.a zA0)) else (!x.same || ((x.st == 1) && (x.vote == 0))) && (rightC x.c && (rightA x.a.s x.a.d0 x.a.d1 x.a.d2 x.a.d3 x.a.d4 x.a.d5 x.a.d6 && (rightId x.r x.sl && decide (sel x.r x.a.d0 x.a.d1 x.a.d2 x.a.d3 x.a.d4 x.a.d5 x.a.d6 = x.sl))))))))))) := by
  unfold rightI
  have hd : decide (x.vote ≤ x.bal) = !decide (x.bal < x.vote) := by rw [Bool.eq_iff_iff]; simp
  rw [hd]
  generalize hA : rightId x.r x.sl = A
  generalize balOK x.bal = B
  generalize balOK x.vote = C
  generalize (!decide (x.bal < x.vote)) = D
  by_cases h0 : x.st = 0
  · rw [if_pos h0, if_pos h0]
    have e : eqI x ⟨x.r, x.sl, 0, x.bal, 0, false, zC, zA0⟩ = ((x.vote == 0) && (!x.same && (eqC x.c zC && eqA x.a zA0))) := by
      obtain ⟨a1, a2, a3, a4, a5, a6, ⟨b1, b2, b3, b4, b5, b6, b7, b8⟩, ⟨c1, c2, c3, c4, c5, c6, c7, c8⟩⟩ := x
      simp only at h0
      subst h0
      simp [eqI, eqC, eqA, instL, cmdL, attL, zC, zA0, sameCells, AV.same, Bool.and_assoc]
    rw [e, h0]
    cases A <;> cases B <;> cases C <;> cases D <;> simp
  · rw [if_neg h0, if_neg h0]
    unfold ownsI ownsB
    rw [hA]
    by_cases h1 : x.st < 0
    · cases A <;> cases B <;> cases C <;> cases D <;> simp [h1]
    · by_cases h2 : 3 < x.st
      · cases A <;> cases B <;> cases C <;> cases D <;> simp [h1, h2]
      · simp only [h1, h2, decide_false, Bool.not_false, Bool.true_and, false_or]
        cases hs : x.same
        · cases A <;> cases B <;> cases C <;> cases D <;> simp
        · by_cases h3 : x.st = 1
          · by_cases h4 : x.vote = 0
            · cases A <;> cases B <;> cases C <;> cases D <;> simp [h3, h4]
            · cases A <;> cases B <;> cases C <;> cases D <;> simp [h3, h4]
          · cases A <;> cases B <;> cases C <;> cases D <;> simp [h3]
theorem xrightK0 (x : InstP) (hs : smallX x) : inXrightK0 x := by
  refine vcXrightK0 x ?_
  have e := rightI_steps ⟨0, x.sl, x.st, x.bal, x.vote, x.same, x.c, x.a⟩
  simp only [show ∀ a b c d e f g : Int, sel 0 a b c d e f g = _ from fun a b c d e f g => rfl] at e
  have ec : (x.c.k == 0 && (x.c.num == 0 && (x.c.foot == [] && (x.c.rq == 0 && (x.c.path == [] && (x.c.mode == 0 && (x.c.n == 0 && (x.c.time == 0 && true)))))))) = eqC x.c zC := rfl
  have ea : (x.a.s == 0 && (x.a.d0 == 0 && (x.a.d1 == 0 && (x.a.d2 == 0 && (x.a.d3 == 0 && (x.a.d4 == 0 && (x.a.d5 == 0 && (x.a.d6 == 0 && true)))))))) = eqA x.a zA0 := rfl
  rw [ec, ea, e]
  have s1 := hs.1
  have s2 := hs.2
  have sd : sel 0 x.a.d0 x.a.d1 x.a.d2 x.a.d3 x.a.d4 x.a.d5 x.a.d6 = x.a.d0 := rfl
  have db : ∀ a b : Int, (a == b) = decide (a = b) := fun a b => rfl
  simp only [true_and, and_true, forall_eq, eq_self, s1, s2, sd, db]
  clear e ec ea sd db
  generalize rightId 0 x.sl = A
  generalize balOK x.bal = B
  generalize balOK x.vote = C
  generalize eqC x.c zC = F1
  generalize eqA x.a zA0 = F2
  generalize rightC x.c = F3
  generalize rightA x.a.s x.a.d0 x.a.d1 x.a.d2 x.a.d3 x.a.d4 x.a.d5 x.a.d6 = F4
  cases A <;> simp only [Bool.not_false, Bool.not_true, cond_true, cond_false, Bool.false_and, Bool.true_and, and_self]
  cases B <;> simp only [Bool.not_false, Bool.not_true, cond_true, cond_false, Bool.false_and, Bool.true_and, and_self]
  cases C <;> simp only [Bool.not_false, Bool.not_true, cond_true, cond_false, Bool.false_and, Bool.true_and, and_self]
  by_cases g1 : x.bal < x.vote
  · simp [g1]
  by_cases g2 : x.st < 0
  · simp [g1, g2]
  by_cases g3 : 3 < x.st
  · simp [g1, g2, g3]
  by_cases g4 : x.st = 0
  · cases hsm : x.same <;> cases F1 <;> by_cases g5 : x.vote = 0 <;> simp [g1, g2, g3, g4, g5] <;> (try (split <;> intros <;> omega))
  · cases hsm : x.same <;> by_cases g5 : x.st = 1 <;> by_cases g6 : x.vote = 0 <;> cases F3 <;> cases F4 <;> simp [g1, g2, g3, g4, g5, g6] <;> (try (split <;> intros <;> omega))
theorem xrightK1 (x : InstP) (hs : smallX x) : inXrightK1 x := by
  refine vcXrightK1 x ?_
  have e := rightI_steps ⟨1, x.sl, x.st, x.bal, x.vote, x.same, x.c, x.a⟩
  simp only [show ∀ a b c d e f g : Int, sel 1 a b c d e f g = _ from fun a b c d e f g => rfl] at e
  have ec : (x.c.k == 0 && (x.c.num == 0 && (x.c.foot == [] && (x.c.rq == 0 && (x.c.path == [] && (x.c.mode == 0 && (x.c.n == 0 && (x.c.time == 0 && true)))))))) = eqC x.c zC := rfl
  have ea : (x.a.s == 0 && (x.a.d0 == 0 && (x.a.d1 == 0 && (x.a.d2 == 0 && (x.a.d3 == 0 && (x.a.d4 == 0 && (x.a.d5 == 0 && (x.a.d6 == 0 && true)))))))) = eqA x.a zA0 := rfl
  rw [ec, ea, e]
  have s1 := hs.1
  have s2 := hs.2
  have sd : sel 1 x.a.d0 x.a.d1 x.a.d2 x.a.d3 x.a.d4 x.a.d5 x.a.d6 = x.a.d1 := rfl
  have db : ∀ a b : Int, (a == b) = decide (a = b) := fun a b => rfl
  simp only [true_and, and_true, forall_eq, eq_self, s1, s2, sd, db]
  clear e ec ea sd db
  generalize rightId 1 x.sl = A
  generalize balOK x.bal = B
  generalize balOK x.vote = C
  generalize eqC x.c zC = F1
  generalize eqA x.a zA0 = F2
  generalize rightC x.c = F3
  generalize rightA x.a.s x.a.d0 x.a.d1 x.a.d2 x.a.d3 x.a.d4 x.a.d5 x.a.d6 = F4
  cases A <;> simp only [Bool.not_false, Bool.not_true, cond_true, cond_false, Bool.false_and, Bool.true_and, and_self]
  cases B <;> simp only [Bool.not_false, Bool.not_true, cond_true, cond_false, Bool.false_and, Bool.true_and, and_self]
  cases C <;> simp only [Bool.not_false, Bool.not_true, cond_true, cond_false, Bool.false_and, Bool.true_and, and_self]
  by_cases g1 : x.bal < x.vote
  · simp [g1]
  by_cases g2 : x.st < 0
  · simp [g1, g2]
  by_cases g3 : 3 < x.st
  · simp [g1, g2, g3]
  by_cases g4 : x.st = 0
  · cases hsm : x.same <;> cases F1 <;> by_cases g5 : x.vote = 0 <;> simp [g1, g2, g3, g4, g5] <;> (try (split <;> intros <;> omega))
  · cases hsm : x.same <;> by_cases g5 : x.st = 1 <;> by_cases g6 : x.vote = 0 <;> cases F3 <;> cases F4 <;> simp [g1, g2, g3, g4, g5, g6] <;> (try (split <;> intros <;> omega))
theorem xrightK2 (x : InstP) (hs : smallX x) : inXrightK2 x := by
  refine vcXrightK2 x ?_
  have e := rightI_steps ⟨2, x.sl, x.st, x.bal, x.vote, x.same, x.c, x.a⟩
  simp only [show ∀ a b c d e f g : Int, sel 2 a b c d e f g = _ from fun a b c d e f g => rfl] at e
  have ec : (x.c.k == 0 && (x.c.num == 0 && (x.c.foot == [] && (x.c.rq == 0 && (x.c.path == [] && (x.c.mode == 0 && (x.c.n == 0 && (x.c.time == 0 && true)))))))) = eqC x.c zC := rfl
  have ea : (x.a.s == 0 && (x.a.d0 == 0 && (x.a.d1 == 0 && (x.a.d2 == 0 && (x.a.d3 == 0 && (x.a.d4 == 0 && (x.a.d5 == 0 && (x.a.d6 == 0 && true)))))))) = eqA x.a zA0 := rfl
  rw [ec, ea, e]
  have s1 := hs.1
  have s2 := hs.2
  have sd : sel 2 x.a.d0 x.a.d1 x.a.d2 x.a.d3 x.a.d4 x.a.d5 x.a.d6 = x.a.d2 := rfl
  have db : ∀ a b : Int, (a == b) = decide (a = b) := fun a b => rfl
  simp only [true_and, and_true, forall_eq, eq_self, s1, s2, sd, db]
  clear e ec ea sd db
  generalize rightId 2 x.sl = A
  generalize balOK x.bal = B
  generalize balOK x.vote = C
  generalize eqC x.c zC = F1
  generalize eqA x.a zA0 = F2
  generalize rightC x.c = F3
  generalize rightA x.a.s x.a.d0 x.a.d1 x.a.d2 x.a.d3 x.a.d4 x.a.d5 x.a.d6 = F4
  cases A <;> simp only [Bool.not_false, Bool.not_true, cond_true, cond_false, Bool.false_and, Bool.true_and, and_self]
  cases B <;> simp only [Bool.not_false, Bool.not_true, cond_true, cond_false, Bool.false_and, Bool.true_and, and_self]
  cases C <;> simp only [Bool.not_false, Bool.not_true, cond_true, cond_false, Bool.false_and, Bool.true_and, and_self]
  by_cases g1 : x.bal < x.vote
  · simp [g1]
  by_cases g2 : x.st < 0
  · simp [g1, g2]
  by_cases g3 : 3 < x.st
  · simp [g1, g2, g3]
  by_cases g4 : x.st = 0
  · cases hsm : x.same <;> cases F1 <;> by_cases g5 : x.vote = 0 <;> simp [g1, g2, g3, g4, g5] <;> (try (split <;> intros <;> omega))
  · cases hsm : x.same <;> by_cases g5 : x.st = 1 <;> by_cases g6 : x.vote = 0 <;> cases F3 <;> cases F4 <;> simp [g1, g2, g3, g4, g5, g6] <;> (try (split <;> intros <;> omega))
theorem xrightK3 (x : InstP) (hs : smallX x) : inXrightK3 x := by
  refine vcXrightK3 x ?_
  have e := rightI_steps ⟨3, x.sl, x.st, x.bal, x.vote, x.same, x.c, x.a⟩
  simp only [show ∀ a b c d e f g : Int, sel 3 a b c d e f g = _ from fun a b c d e f g => rfl] at e
  have ec : (x.c.k == 0 && (x.c.num == 0 && (x.c.foot == [] && (x.c.rq == 0 && (x.c.path == [] && (x.c.mode == 0 && (x.c.n == 0 && (x.c.time == 0 && true)))))))) = eqC x.c zC := rfl
  have ea : (x.a.s == 0 && (x.a.d0 == 0 && (x.a.d1 == 0 && (x.a.d2 == 0 && (x.a.d3 == 0 && (x.a.d4 == 0 && (x.a.d5 == 0 && (x.a.d6 == 0 && true)))))))) = eqA x.a zA0 := rfl
  rw [ec, ea, e]
  have s1 := hs.1
  have s2 := hs.2
  have sd : sel 3 x.a.d0 x.a.d1 x.a.d2 x.a.d3 x.a.d4 x.a.d5 x.a.d6 = x.a.d3 := rfl
  have db : ∀ a b : Int, (a == b) = decide (a = b) := fun a b => rfl
  simp only [true_and, and_true, forall_eq, eq_self, s1, s2, sd, db]
  clear e ec ea sd db
  generalize rightId 3 x.sl = A
  generalize balOK x.bal = B
  generalize balOK x.vote = C
  generalize eqC x.c zC = F1
  generalize eqA x.a zA0 = F2
  generalize rightC x.c = F3
  generalize rightA x.a.s x.a.d0 x.a.d1 x.a.d2 x.a.d3 x.a.d4 x.a.d5 x.a.d6 = F4
  cases A <;> simp only [Bool.not_false, Bool.not_true, cond_true, cond_false, Bool.false_and, Bool.true_and, and_self]
  cases B <;> simp only [Bool.not_false, Bool.not_true, cond_true, cond_false, Bool.false_and, Bool.true_and, and_self]
  cases C <;> simp only [Bool.not_false, Bool.not_true, cond_true, cond_false, Bool.false_and, Bool.true_and, and_self]
  by_cases g1 : x.bal < x.vote
  · simp [g1]
  by_cases g2 : x.st < 0
  · simp [g1, g2]
  by_cases g3 : 3 < x.st
  · simp [g1, g2, g3]
  by_cases g4 : x.st = 0
  · cases hsm : x.same <;> cases F1 <;> by_cases g5 : x.vote = 0 <;> simp [g1, g2, g3, g4, g5] <;> (try (split <;> intros <;> omega))
  · cases hsm : x.same <;> by_cases g5 : x.st = 1 <;> by_cases g6 : x.vote = 0 <;> cases F3 <;> cases F4 <;> simp [g1, g2, g3, g4, g5, g6] <;> (try (split <;> intros <;> omega))
theorem xrightK4 (x : InstP) (hs : smallX x) : inXrightK4 x := by
  refine vcXrightK4 x ?_
  have e := rightI_steps ⟨4, x.sl, x.st, x.bal, x.vote, x.same, x.c, x.a⟩
  simp only [show ∀ a b c d e f g : Int, sel 4 a b c d e f g = _ from fun a b c d e f g => rfl] at e
  have ec : (x.c.k == 0 && (x.c.num == 0 && (x.c.foot == [] && (x.c.rq == 0 && (x.c.path == [] && (x.c.mode == 0 && (x.c.n == 0 && (x.c.time == 0 && true)))))))) = eqC x.c zC := rfl
  have ea : (x.a.s == 0 && (x.a.d0 == 0 && (x.a.d1 == 0 && (x.a.d2 == 0 && (x.a.d3 == 0 && (x.a.d4 == 0 && (x.a.d5 == 0 && (x.a.d6 == 0 && true)))))))) = eqA x.a zA0 := rfl
  rw [ec, ea, e]
  have s1 := hs.1
  have s2 := hs.2
  have sd : sel 4 x.a.d0 x.a.d1 x.a.d2 x.a.d3 x.a.d4 x.a.d5 x.a.d6 = x.a.d4 := rfl
  have db : ∀ a b : Int, (a == b) = decide (a = b) := fun a b => rfl
  simp only [true_and, and_true, forall_eq, eq_self, s1, s2, sd, db]
  clear e ec ea sd db
  generalize rightId 4 x.sl = A
  generalize balOK x.bal = B
  generalize balOK x.vote = C
  generalize eqC x.c zC = F1
  generalize eqA x.a zA0 = F2
  generalize rightC x.c = F3
  generalize rightA x.a.s x.a.d0 x.a.d1 x.a.d2 x.a.d3 x.a.d4 x.a.d5 x.a.d6 = F4
  cases A <;> simp only [Bool.not_false, Bool.not_true, cond_true, cond_false, Bool.false_and, Bool.true_and, and_self]
  cases B <;> simp only [Bool.not_false, Bool.not_true, cond_true, cond_false, Bool.false_and, Bool.true_and, and_self]
  cases C <;> simp only [Bool.not_false, Bool.not_true, cond_true, cond_false, Bool.false_and, Bool.true_and, and_self]
  by_cases g1 : x.bal < x.vote
  · simp [g1]
  by_cases g2 : x.st < 0
  · simp [g1, g2]
  by_cases g3 : 3 < x.st
  · simp [g1, g2, g3]
  by_cases g4 : x.st = 0
  · cases hsm : x.same <;> cases F1 <;> by_cases g5 : x.vote = 0 <;> simp [g1, g2, g3, g4, g5] <;> (try (split <;> intros <;> omega))
  · cases hsm : x.same <;> by_cases g5 : x.st = 1 <;> by_cases g6 : x.vote = 0 <;> cases F3 <;> cases F4 <;> simp [g1, g2, g3, g4, g5, g6] <;> (try (split <;> intros <;> omega))
theorem xrightK5 (x : InstP) (hs : smallX x) : inXrightK5 x := by
  refine vcXrightK5 x ?_
  have e := rightI_steps ⟨5, x.sl, x.st, x.bal, x.vote, x.same, x.c, x.a⟩
  simp only [show ∀ a b c d e f g : Int, sel 5 a b c d e f g = _ from fun a b c d e f g => rfl] at e
  have ec : (x.c.k == 0 && (x.c.num == 0 && (x.c.foot == [] && (x.c.rq == 0 && (x.c.path == [] && (x.c.mode == 0 && (x.c.n == 0 && (x.c.time == 0 && true)))))))) = eqC x.c zC := rfl
  have ea : (x.a.s == 0 && (x.a.d0 == 0 && (x.a.d1 == 0 && (x.a.d2 == 0 && (x.a.d3 == 0 && (x.a.d4 == 0 && (x.a.d5 == 0 && (x.a.d6 == 0 && true)))))))) = eqA x.a zA0 := rfl
  rw [ec, ea, e]
  have s1 := hs.1
  have s2 := hs.2
  have sd : sel 5 x.a.d0 x.a.d1 x.a.d2 x.a.d3 x.a.d4 x.a.d5 x.a.d6 = x.a.d5 := rfl
  have db : ∀ a b : Int, (a == b) = decide (a = b) := fun a b => rfl
  simp only [true_and, and_true, forall_eq, eq_self, s1, s2, sd, db]
  clear e ec ea sd db
  generalize rightId 5 x.sl = A
  generalize balOK x.bal = B
  generalize balOK x.vote = C
  generalize eqC x.c zC = F1
  generalize eqA x.a zA0 = F2
  generalize rightC x.c = F3
  generalize rightA x.a.s x.a.d0 x.a.d1 x.a.d2 x.a.d3 x.a.d4 x.a.d5 x.a.d6 = F4
  cases A <;> simp only [Bool.not_false, Bool.not_true, cond_true, cond_false, Bool.false_and, Bool.true_and, and_self]
  cases B <;> simp only [Bool.not_false, Bool.not_true, cond_true, cond_false, Bool.false_and, Bool.true_and, and_self]
  cases C <;> simp only [Bool.not_false, Bool.not_true, cond_true, cond_false, Bool.false_and, Bool.true_and, and_self]
  by_cases g1 : x.bal < x.vote
  · simp [g1]
  by_cases g2 : x.st < 0
  · simp [g1, g2]
  by_cases g3 : 3 < x.st
  · simp [g1, g2, g3]
  by_cases g4 : x.st = 0
  · cases hsm : x.same <;> cases F1 <;> by_cases g5 : x.vote = 0 <;> simp [g1, g2, g3, g4, g5] <;> (try (split <;> intros <;> omega))
  · cases hsm : x.same <;> by_cases g5 : x.st = 1 <;> by_cases g6 : x.vote = 0 <;> cases F3 <;> cases F4 <;> simp [g1, g2, g3, g4, g5, g6] <;> (try (split <;> intros <;> omega))
theorem xrightK6 (x : InstP) (hs : smallX x) : inXrightK6 x := by
  refine vcXrightK6 x ?_
  have e := rightI_steps ⟨6, x.sl, x.st, x.bal, x.vote, x.same, x.c, x.a⟩
  simp only [show ∀ a b c d e f g : Int, sel 6 a b c d e f g = _ from fun a b c d e f g => rfl] at e
  have ec : (x.c.k == 0 && (x.c.num == 0 && (x.c.foot == [] && (x.c.rq == 0 && (x.c.path == [] && (x.c.mode == 0 && (x.c.n == 0 && (x.c.time == 0 && true)))))))) = eqC x.c zC := rfl
  have ea : (x.a.s == 0 && (x.a.d0 == 0 && (x.a.d1 == 0 && (x.a.d2 == 0 && (x.a.d3 == 0 && (x.a.d4 == 0 && (x.a.d5 == 0 && (x.a.d6 == 0 && true)))))))) = eqA x.a zA0 := rfl
  rw [ec, ea, e]
  have s1 := hs.1
  have s2 := hs.2
  have sd : sel 6 x.a.d0 x.a.d1 x.a.d2 x.a.d3 x.a.d4 x.a.d5 x.a.d6 = x.a.d6 := rfl
  have db : ∀ a b : Int, (a == b) = decide (a = b) := fun a b => rfl
  simp only [true_and, and_true, forall_eq, eq_self, s1, s2, sd, db]
  clear e ec ea sd db
  generalize rightId 6 x.sl = A
  generalize balOK x.bal = B
  generalize balOK x.vote = C
  generalize eqC x.c zC = F1
  generalize eqA x.a zA0 = F2
  generalize rightC x.c = F3
  generalize rightA x.a.s x.a.d0 x.a.d1 x.a.d2 x.a.d3 x.a.d4 x.a.d5 x.a.d6 = F4
  cases A <;> simp only [Bool.not_false, Bool.not_true, cond_true, cond_false, Bool.false_and, Bool.true_and, and_self]
  cases B <;> simp only [Bool.not_false, Bool.not_true, cond_true, cond_false, Bool.false_and, Bool.true_and, and_self]
  cases C <;> simp only [Bool.not_false, Bool.not_true, cond_true, cond_false, Bool.false_and, Bool.true_and, and_self]
  by_cases g1 : x.bal < x.vote
  · simp [g1]
  by_cases g2 : x.st < 0
  · simp [g1, g2]
  by_cases g3 : 3 < x.st
  · simp [g1, g2, g3]
  by_cases g4 : x.st = 0
  · cases hsm : x.same <;> cases F1 <;> by_cases g5 : x.vote = 0 <;> simp [g1, g2, g3, g4, g5] <;> (try (split <;> intros <;> omega))
  · cases hsm : x.same <;> by_cases g5 : x.st = 1 <;> by_cases g6 : x.vote = 0 <;> cases F3 <;> cases F4 <;> simp [g1, g2, g3, g4, g5, g6] <;> (try (split <;> intros <;> omega))
theorem okXrightI0 : OkXrightI0 := by
  intro x hq
  obtain ⟨hs, hr⟩ := hq
  have hr' : 0 ≤ x.r ∧ x.r ≤ 6 := rightId_range hr
  have hk : x.r = 0 ∨ x.r = 1 ∨ x.r = 2 ∨ x.r = 3 ∨ x.r = 4 ∨ x.r = 5 ∨ x.r = 6 := by omega
  have e : ∀ i, x.r = i → x = { x with r := i } := fun i h => by cases x; simp at h; subst h; rfl
  rcases hk with h | h | h | h | h | h | h
  · rw [e _ h]; exact xrightK0 x hs
  · rw [e _ h]; exact xrightK1 x hs
  · rw [e _ h]; exact xrightK2 x hs
  · rw [e _ h]; exact xrightK3 x hs
  · rw [e _ h]; exact xrightK4 x hs
  · rw [e _ h]; exact xrightK5 x hs
  · rw [e _ h]; exact xrightK6 x hs
end Go.Proofs.YtpomloangafbkaaGreatDoor
/- The contracts are met. -/
namespace Go.Proofs.YtpomloangafbkaaGreatDoor
set_option linter.unusedVariables false
set_option linter.unusedSimpArgs false
open Go.RowKit
theorem sndXrightN : Sound Tryz.prog (lookΓ gamXrightN) := sound_of _ fun p hp => by
  simp only [gamXrightN, List.mem_cons, List.not_mem_nil, or_false] at hp
  subst hp
  exact meetsRefIdRight.orNil
set_option maxHeartbeats 4000000 in
theorem meetsXrightN : Meets Tryz.prog 11 xrightNF := by
  refine meets_of_awp (Γ := lookΓ gamXrightN) (L := fun _ _ => none) sndXrightN mixedOrders Tryz.func11 rfl Tryz.call11 ?_
  intro args q r hF hq ho
  unfold xrightNF at hF
  split at hF
  · split at hF
    · rename_i x hzx
      obtain rfl := instOf_some hzx
      cases hF
      exact ⟨by simp only [List.length_cons, List.length_nil]; decide, okXrightN0 _ hq⟩
    · cases hF
  · cases hF
theorem sndXrightI : Sound Tryz.prog (lookΓ gamXrightI) := sound_of _ fun p hp => by
  simp only [gamXrightI, List.mem_cons, List.not_mem_nil, or_false] at hp
  rcases hp with rfl | rfl | rfl | rfl
  · exact meetsRefIdRight.orNil
  · exact meetsRefBal.orNil
  · exact meetsRright.orNil
  · exact meetsRefARight.orNil
set_option maxHeartbeats 4000000 in
theorem meetsXrightI : Meets Tryz.prog 11 xrightIF := by
  refine meets_of_awp (Γ := lookΓ gamXrightI) (L := fun _ _ => none) sndXrightI mixedOrders Tryz.func11 rfl Tryz.call11 ?_
  intro args q r hF hq ho
  unfold xrightIF at hF
  split at hF
  · split at hF
    · rename_i x hzx
      obtain rfl := instOf_some hzx
      cases hF
      exact ⟨by simp only [List.length_cons, List.length_nil]; decide, okXrightI0 _ hq⟩
    · cases hF
  · cases hF
end Go.Proofs.YtpomloangafbkaaGreatDoor
