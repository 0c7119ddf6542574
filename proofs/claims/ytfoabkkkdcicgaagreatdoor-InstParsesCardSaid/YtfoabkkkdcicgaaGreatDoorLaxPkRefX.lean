/- Contracts by content, their conditions, and that they are met: RefX. -/
import Derived.Test.YtfoabkkkdcicgaaGreatDoorLaxRefCC
import Derived.Test.YtfoabkkkdcicgaaGreatDoorLaxInstRC
import Derived.Test.YtfoabkkkdcicgaaGreatDoorLaxPkInstW
import Derived.Test.YtfoabkkkdcicgaaGreatDoorLaxBack
import Derived.Test.YtfoabkkkdcicgaaGreatDoorLaxInstRd
/- Contracts by content, and the conditions that their code must meet. -/
namespace Go.Proofs.YtfoabkkkdcicgaaGreatDoor
set_option linter.unusedVariables false
set_option linter.unusedSimpArgs false
open Go.RowKit
def refXtakeF : Con
  | [.val (.agg [.sl xs .no, .int .i64 at', .int .i64 e])] => (some (isBytes xs ∧ 0 ≤ at' ∧ at' ≤ xs.length, ⟨.tup [.agg [.sl xs .no, .int .i64 (refAt (bytesL xs) (itR (refL (bytesL xs) at') e)), .int .i64 (itE (refL (bytesL xs) at') e)], .agg (instL (itX (refL (bytesL xs) at') e))], none, none⟩))
  | _ => none
def gamRefXtake : List (Nat × Con) := [(30, refTakeIDF.orNil), (31, refTakeBalF.orNil), (32, refByteF.orNil), (33, refTruthF.orNil), (34, refCtakeF.orNil), (35, refATakeF.orNil), (36, xrightF.orNil)]
def lpRefXtake0 (xs : List AV) (at' e : Int) : Nat → Option LoopPlan := fun _ => none
def inRefXtake0 (xs : List AV) (at' e : Int) : Prop := awp [] (lpRefXtake0 xs at' e) (lookΓ gamRefXtake) Tryz.prog Tryz.f9.ntmps 0 (Tryz.f9.body.getD .skip) (entrySt [.val (.agg [.sl xs .no, .int .i64 at', .int .i64 e])]) (exitQ Tryz.prog Tryz.f9.results.toList [] ⟨.tup [.agg [.sl xs .no, .int .i64 (refAt (bytesL xs) (itR (refL (bytesL xs) at') e)), .int .i64 (itE (refL (bytesL xs) at') e)], .agg (instL (itX (refL (bytesL xs) at') e))], none, none⟩)
def OkRefXtake0 : Prop := ∀ (xs : List AV) (at' e : Int), isBytes xs ∧ 0 ≤ at' ∧ at' ≤ xs.length → inRefXtake0 xs at' e
def of10F : Con
  | [.val (.agg zcx)] => (match instOf zcx with | some x => some (True, ⟨.agg (instL x), none, none⟩) | _ => none)
  | _ => none
def gamOf10 : List (Nat × Con) := []
def lpOf100 (x : InstP) : Nat → Option LoopPlan := fun _ => none
def inOf100 (x : InstP) : Prop := awp [] (lpOf100 x) (lookΓ gamOf10) Tryz.prog Tryz.f11.ntmps 0 (Tryz.f11.body.getD .skip) (entrySt [.val (.agg (instL x))]) (exitQ Tryz.prog Tryz.f11.results.toList [] ⟨.agg (instL x), none, none⟩)
def OkOf100 : Prop := ∀ (x : InstP), True → inOf100 x
def anchor10F : Con
  | [] => (some (True, ⟨.bool true, none, none⟩))
  | _ => none
def gamAnchor10 : List (Nat × Con) := [(26, inewF.orNil), (13, ibytesF.orNil)]
def lpAnchor100  : Nat → Option LoopPlan := fun _ => none
def inAnchor100  : Prop := awp [] (lpAnchor100) (lookΓ gamAnchor10) Tryz.prog Tryz.f7.ntmps 0 (Tryz.f7.body.getD .skip) (entrySt []) (exitQ Tryz.prog Tryz.f7.results.toList [] ⟨.bool true, none, none⟩)
def OkAnchor100 : Prop := True → inAnchor100
def lawIParsesF : Con
  | [.val (.sl xs .no)] => (some (isBytes xs ∧ xs.length ≤ 9223372036854775807, ⟨.bool true, none, none⟩))
  | _ => none
def gamLawIParses : List (Nat × Con) := [(7, anchor10F.orNil), (8, iparseF.orNil), (9, refXtakeF.orNil), (10, refEndF.orNil), (11, of10F.orNil), (13, ibytesF.orNil), (12, sameDF.orNil)]
def lpLawIParses0 (xs : List AV) : Nat → Option LoopPlan := fun _ => none
def inLawIParses0 (xs : List AV) : Prop := awp [] (lpLawIParses0 xs) (lookΓ gamLawIParses) Tryz.prog Tryz.f3.ntmps 0 (Tryz.f3.body.getD .skip) (entrySt [.val (.sl xs .no)]) (exitQ Tryz.prog Tryz.f3.results.toList [] ⟨.bool true, none, none⟩)
def OkLawIParses0 : Prop := ∀ (xs : List AV), isBytes xs ∧ xs.length ≤ 9223372036854775807 → inLawIParses0 xs
end Go.Proofs.YtfoabkkkdcicgaaGreatDoor
/- What the verification conditions come to: printed by a program of ours (wip/lax/ex/Norm.lean). -/
namespace Go.Proofs.YtfoabkkkdcicgaaGreatDoor
set_option linter.unusedVariables false
open Go.RowKit
set_option maxRecDepth 100000
theorem vcRefXtake0 (xs : (List AV)) (at' : Int) (e : Int) (h : let q0 := (itX (refL (bytesL xs) at') e); let q1 := (refAt (bytesL xs) (itR (refL (bytesL xs) at') e)); let q2 := (itE (refL (bytesL xs) at') e); let q3 := (List AV); let q4 := (CmdP.mk 0 0 [] 0 [] 0 0 0); let q5 := (AttP.mk 0 0 0 0 0 0 0 0); let q6 := (refL (bytesL xs) at'); (tt ∧ T1 ∧ T1 ∧ T1 ∧ tt ∧ T1 ∧ T1 ∧ tt ∧ tt ∧ tt ∧ (T1 ∧ (isBytes xs) ∧ (0 : Int) ≤ at' ∧ at' ≤ ((List.length xs) : Int)) ∧ ∀ v0 : q3, (v0 = xs) → ∀ v2 : Int, (v2 = (refAt (bytesL xs) (idRest q6 e))) → ∀ v4 : Int, (v4 = (idErr q6 e)) → ∀ v6 : Int, (v6 = (idR q6 e)) → ∀ v8 : Int, (v8 = (idS q6 e)) → T1 ∧ T1 ∧ T1 ∧ tt ∧ T1 ∧ tt ∧ tt ∧ tt ∧ (T1 ∧ (isBytes v0) ∧ (0 : Int) ≤ v2 ∧ v2 ≤ ((List.length v0) : Int)) ∧ ∀ v10 : q3, (v10 = v0) → ∀ v12 : Int, (v12 = (refAt (bytesL v0) (shRest (refL (bytesL v0) v2) v4 4294967295))) → ∀ v14 : Int, (v14 = (balE (refL (bytesL v0) v2) v4)) → ∀ v16 : Int, (v16 = (balV (refL (bytesL v0) v2) v4)) → T1 ∧ T1 ∧ T1 ∧ tt ∧ T1 ∧ tt ∧ tt ∧ tt ∧ (T1 ∧ (isBytes v10) ∧ (0 : Int) ≤ v12 ∧ v12 ≤ ((List.length v10) : Int)) ∧ ∀ v18 : q3, (v18 = v10) → ∀ v20 : Int, (v20 = (refAt (bytesL v10) (tkRest (refL (bytesL v10) v12) v14 1))) → ∀ v22 : Int, (v22 = (tkErr (List.length (refL (bytesL v10) v12)) v14 1)) → ∀ v24 : Int, (v24 = (inByteV (refL (bytesL v10) v12) v14)) → T1 ∧ T1 ∧ T1 ∧ tt ∧ T1 ∧ tt ∧ T1 ∧ T1 ∧ T1 ∧ (bif (decide ((3 : Int) < v24)) then (T1 ∧ tt ∧ T1 ∧ T1 ∧ (bif (v22 == 0) then (tt ∧ T1 ∧ tt ∧ tt ∧ T1 ∧ T1 ∧ T1 ∧ tt ∧ tt ∧ T1 ∧ T1 ∧ (bif (decide ((0 : Int) < v24)) then (tt ∧ tt ∧ (T1 ∧ (isBytes v18) ∧ (0 : Int) ≤ v20 ∧ v20 ≤ ((List.length v18) : Int)) ∧ ∀ v26 : q3, (v26 = v18) → ∀ v28 : Int, (v28 = (refAt (bytesL v18) (shRest (refL (bytesL v18) v20) 22 4294967295))) → ∀ v30 : Int, (v30 = (balE (refL (bytesL v18) v20) 22)) → ∀ v32 : Int, (v32 = (balV (refL (bytesL v18) v20) 22)) → T1 ∧ T1 ∧ T1 ∧ tt ∧ T1 ∧ tt ∧ tt ∧ tt ∧ (T1 ∧ (isBytes v26) ∧ (0 : Int) ≤ v28 ∧ v28 ≤ ((List.length v26) : Int)) ∧ ∀ v34 : q3, (v34 = v26) → ∀ v36 : Int, (v36 = (refAt (bytesL v26) (tkRest (refL (bytesL v26) v28) v30 1))) → ∀ v38 : Int, (v38 = (inTruthE (refL (bytesL v26) v28) v30)) → T1 ∧ T1 ∧ T1 ∧ tt ∧ T1 ∧ tt ∧ tt ∧ tt ∧ (T1 ∧ (isBytes v34) ∧ (0 : Int) ≤ v36 ∧ v36 ≤ ((List.length v34) : Int)) ∧ ∀ v40 : q3, (v40 = v34) → ∀ v42 : Int, (v42 = (refAt (bytesL v34) (ctR (refL (bytesL v34) v36) v38))) → ∀ v44 : Int, (v44 = (ctE (refL (bytesL v34) v36) v38)) → ∀ v46 : Int, (v46 = (ctC (refL (bytesL v34) v36) v38).k) → ∀ v48 : Int, (v48 = (ctC (refL (bytesL v34) v36) v38).num) → ∀ v50 : (List UInt8), (v50 = (ctC (refL (bytesL v34) v36) v38).foot) → ∀ v52 : Int, (v52 = (ctC (refL (bytesL v34) v36) v38).rq) → ∀ v54 : (List UInt8), (v54 = (ctC (refL (bytesL v34) v36) v38).path) → ∀ v56 : Int, (v56 = (ctC (refL (bytesL v34) v36) v38).mode) → ∀ v58 : Int, (v58 = (ctC (refL (bytesL v34) v36) v38).n) → ∀ v60 : Int, (v60 = (ctC (refL (bytesL v34) v36) v38).time) → T1 ∧ T1 ∧ T1 ∧ tt ∧ T1 ∧ tt ∧ tt ∧ tt ∧ (T1 ∧ (isBytes v40) ∧ (0 : Int) ≤ v42 ∧ v42 ≤ ((List.length v40) : Int)) ∧ ∀ v62 : q3, (v62 = v40) → ∀ v64 : Int, (v64 = (refAt (bytesL v40) (atS (refL (bytesL v40) v42) v44 7).1)) → ∀ v66 : Int, (v66 = (atS (refL (bytesL v40) v42) v44 7).2) → ∀ v68 : Int, (v68 = (atZ (refL (bytesL v40) v42) v44 (shV (refL (bytesL v40) v42) v44 1073741824))) → ∀ v70 : Int, (v70 = (atZ (refL (bytesL v40) v42) v44 (atV (refL (bytesL v40) v42) v44 0))) → ∀ v72 : Int, (v72 = (atZ (refL (bytesL v40) v42) v44 (atV (refL (bytesL v40) v42) v44 1))) → ∀ v74 : Int, (v74 = (atZ (refL (bytesL v40) v42) v44 (atV (refL (bytesL v40) v42) v44 2))) → ∀ v76 : Int, (v76 = (atZ (refL (bytesL v40) v42) v44 (atV (refL (bytesL v40) v42) v44 3))) → ∀ v78 : Int, (v78 = (atZ (refL (bytesL v40) v42) v44 (atV (refL (bytesL v40) v42) v44 4))) → ∀ v80 : Int, (v80 = (atZ (refL (bytesL v40) v42) v44 (atV (refL (bytesL v40) v42) v44 5))) → ∀ v82 : Int, (v82 = (atZ (refL (bytesL v40) v42) v44 (atV (refL (bytesL v40) v42) v44 6))) → T1 ∧ T1 ∧ T1 ∧ tt ∧ T1 ∧ tt ∧ tt ∧ T1 ∧ tt ∧ T1 ∧ T1 ∧ (bif (v66 == 0) then (tt ∧ (T1 ∧ (smallX (InstP.mk v6 v8 (IntKind.wrap IntKind.i64 v24) v16 v32 (inTruthV (refL (bytesL v26) v28) v30) (CmdP.mk v46 v48 v50 v52 v54 v56 v58 v60) (AttP.mk v68 v70 v72 v74 v76 v78 v80 v82)))) ∧ T1 ∧ T1 ∧ (bif (Bool.not (rightI (InstP.mk v6 v8 (IntKind.wrap IntKind.i64 v24) v16 v32 (inTruthV (refL (bytesL v26) v28) v30) (CmdP.mk v46 v48 v50 v52 v54 v56 v58 v60) (AttP.mk v68 v70 v72 v74 v76 v78 v80 v82)))) then (tt ∧ T1 ∧ tt ∧ tt ∧ T1 ∧ tt ∧ T1 ∧ tt ∧ tt ∧ T1 ∧ tt ∧ tt ∧ tt ∧ tt ∧ (xs = v62 ∧ q1 = v64 ∧ q2 = 10 ∧ q0.r = 0 ∧ q0.sl = 0 ∧ q0.st = 0 ∧ q0.bal = 0 ∧ q0.vote = 0 ∧ q0.same = false ∧ q0.c.k = 0 ∧ q0.c.num = 0 ∧ q0.c.foot = [] ∧ q0.c.rq = 0 ∧ q0.c.path = [] ∧ q0.c.mode = 0 ∧ q0.c.n = 0 ∧ q0.c.time = 0 ∧ q0.a.s = 0 ∧ q0.a.d0 = 0 ∧ q0.a.d1 = 0 ∧ q0.a.d2 = 0 ∧ q0.a.d3 = 0 ∧ q0.a.d4 = 0 ∧ q0.a.d5 = 0 ∧ q0.a.d6 = 0 ∧ True) ∧ tt) else (tt ∧ T1 ∧ tt ∧ T1 ∧ (bif (v66 != 0) then (tt ∧ tt ∧ T1 ∧ tt ∧ tt ∧ tt ∧ tt ∧ (xs = v62 ∧ q1 = v64 ∧ q2 = v66 ∧ q0.r = 0 ∧ q0.sl = 0 ∧ q0.st = 0 ∧ q0.bal = 0 ∧ q0.vote = 0 ∧ q0.same = false ∧ q0.c.k = 0 ∧ q0.c.num = 0 ∧ q0.c.foot = [] ∧ q0.c.rq = 0 ∧ q0.c.path = [] ∧ q0.c.mode = 0 ∧ q0.c.n = 0 ∧ q0.c.time = 0 ∧ q0.a.s = 0 ∧ q0.a.d0 = 0 ∧ q0.a.d1 = 0 ∧ q0.a.d2 = 0 ∧ q0.a.d3 = 0 ∧ q0.a.d4 = 0 ∧ q0.a.d5 = 0 ∧ q0.a.d6 = 0 ∧ True) ∧ tt) else (tt ∧ tt ∧ tt ∧ tt ∧ tt ∧ tt ∧ tt ∧ tt ∧ (xs = v62 ∧ q1 = v64 ∧ q2 = v66 ∧ q0.r = v6 ∧ q0.sl = v8 ∧ q0.st = (IntKind.wrap IntKind.i64 v24) ∧ q0.bal = v16 ∧ q0.vote = v32 ∧ q0.same = (inTruthV (refL (bytesL v26) v28) v30) ∧ q0.c.k = v46 ∧ q0.c.num = v48 ∧ q0.c.foot = v50 ∧ q0.c.rq = v52 ∧ q0.c.path = v54 ∧ q0.c.mode = v56 ∧ q0.c.n = v58 ∧ q0.c.time = v60 ∧ q0.a.s = v68 ∧ q0.a.d0 = v70 ∧ q0.a.d1 = v72 ∧ q0.a.d2 = v74 ∧ q0.a.d3 = v76 ∧ q0.a.d4 = v78 ∧ q0.a.d5 = v80 ∧ q0.a.d6 = v82 ∧ True) ∧ tt))))) else (false = false ∧ tt ∧ T1 ∧ tt ∧ T1 ∧ (bif (v66 != 0) then (tt ∧ tt ∧ T1 ∧ tt ∧ tt ∧ tt ∧ tt ∧ (xs = v62 ∧ q1 = v64 ∧ q2 = v66 ∧ q0.r = 0 ∧ q0.sl = 0 ∧ q0.st = 0 ∧ q0.bal = 0 ∧ q0.vote = 0 ∧ q0.same = false ∧ q0.c.k = 0 ∧ q0.c.num = 0 ∧ q0.c.foot = [] ∧ q0.c.rq = 0 ∧ q0.c.path = [] ∧ q0.c.mode = 0 ∧ q0.c.n = 0 ∧ q0.c.time = 0 ∧ q0.a.s = 0 ∧ q0.a.d0 = 0 ∧ q0.a.d1 = 0 ∧ q0.a.d2 = 0 ∧ q0.a.d3 = 0 ∧ q0.a.d4 = 0 ∧ q0.a.d5 = 0 ∧ q0.a.d6 = 0 ∧ True) ∧ tt) else (tt ∧ tt ∧ tt ∧ tt ∧ tt ∧ tt ∧ tt ∧ tt ∧ (xs = v62 ∧ q1 = v64 ∧ q2 = v66 ∧ q0.r = v6 ∧ q0.sl = v8 ∧ q0.st = (IntKind.wrap IntKind.i64 v24) ∧ q0.bal = v16 ∧ q0.vote = v32 ∧ q0.same = (inTruthV (refL (bytesL v26) v28) v30) ∧ q0.c.k = v46 ∧ q0.c.num = v48 ∧ q0.c.foot = v50 ∧ q0.c.rq = v52 ∧ q0.c.path = v54 ∧ q0.c.mode = v56 ∧ q0.c.n = v58 ∧ q0.c.time = v60 ∧ q0.a.s = v68 ∧ q0.a.d0 = v70 ∧ q0.a.d1 = v72 ∧ q0.a.d2 = v74 ∧ q0.a.d3 = v76 ∧ q0.a.d4 = v78 ∧ q0.a.d5 = v80 ∧ q0.a.d6 = v82 ∧ True) ∧ tt))))) else (tt ∧ T1 ∧ tt ∧ T1 ∧ T1 ∧ false = false ∧ tt ∧ T1 ∧ tt ∧ T1 ∧ tt ∧ tt ∧ T1 ∧ tt ∧ tt ∧ tt ∧ tt ∧ (xs = v18 ∧ q1 = v20 ∧ q2 = 22 ∧ q0.r = 0 ∧ q0.sl = 0 ∧ q0.st = 0 ∧ q0.bal = 0 ∧ q0.vote = 0 ∧ q0.same = false ∧ q0.c.k = 0 ∧ q0.c.num = 0 ∧ q0.c.foot = [] ∧ q0.c.rq = 0 ∧ q0.c.path = [] ∧ q0.c.mode = 0 ∧ q0.c.n = 0 ∧ q0.c.time = 0 ∧ q0.a.s = 0 ∧ q0.a.d0 = 0 ∧ q0.a.d1 = 0 ∧ q0.a.d2 = 0 ∧ q0.a.d3 = 0 ∧ q0.a.d4 = 0 ∧ q0.a.d5 = 0 ∧ q0.a.d6 = 0 ∧ True) ∧ tt))) else (tt ∧ T1 ∧ T1 ∧ T1 ∧ tt ∧ tt ∧ T1 ∧ T1 ∧ (bif (decide ((0 : Int) < v24)) then (tt ∧ tt ∧ (T1 ∧ (isBytes v18) ∧ (0 : Int) ≤ v20 ∧ v20 ≤ ((List.length v18) : Int)) ∧ ∀ v26 : q3, (v26 = v18) → ∀ v28 : Int, (v28 = (refAt (bytesL v18) (shRest (refL (bytesL v18) v20) v22 4294967295))) → ∀ v30 : Int, (v30 = (balE (refL (bytesL v18) v20) v22)) → ∀ v32 : Int, (v32 = (balV (refL (bytesL v18) v20) v22)) → T1 ∧ T1 ∧ T1 ∧ tt ∧ T1 ∧ tt ∧ tt ∧ tt ∧ (T1 ∧ (isBytes v26) ∧ (0 : Int) ≤ v28 ∧ v28 ≤ ((List.length v26) : Int)) ∧ ∀ v34 : q3, (v34 = v26) → ∀ v36 : Int, (v36 = (refAt (bytesL v26) (tkRest (refL (bytesL v26) v28) v30 1))) → ∀ v38 : Int, (v38 = (inTruthE (refL (bytesL v26) v28) v30)) → T1 ∧ T1 ∧ T1 ∧ tt ∧ T1 ∧ tt ∧ tt ∧ tt ∧ (T1 ∧ (isBytes v34) ∧ (0 : Int) ≤ v36 ∧ v36 ≤ ((List.length v34) : Int)) ∧ ∀ v40 : q3, (v40 = v34) → ∀ v42 : Int, (v42 = (refAt (bytesL v34) (ctR (refL (bytesL v34) v36) v38))) → ∀ v44 : Int, (v44 = (ctE (refL (bytesL v34) v36) v38)) → ∀ v46 : Int, (v46 = (ctC (refL (bytesL v34) v36) v38).k) → ∀ v48 : Int, (v48 = (ctC (refL (bytesL v34) v36) v38).num) → ∀ v50 : (List UInt8), (v50 = (ctC (refL (bytesL v34) v36) v38).foot) → ∀ v52 : Int, (v52 = (ctC (refL (bytesL v34) v36) v38).rq) → ∀ v54 : (List UInt8), (v54 = (ctC (refL (bytesL v34) v36) v38).path) → ∀ v56 : Int, (v56 = (ctC (refL (bytesL v34) v36) v38).mode) → ∀ v58 : Int, (v58 = (ctC (refL (bytesL v34) v36) v38).n) → ∀ v60 : Int, (v60 = (ctC (refL (bytesL v34) v36) v38).time) → T1 ∧ T1 ∧ T1 ∧ tt ∧ T1 ∧ tt ∧ tt ∧ tt ∧ (T1 ∧ (isBytes v40) ∧ (0 : Int) ≤ v42 ∧ v42 ≤ ((List.length v40) : Int)) ∧ ∀ v62 : q3, (v62 = v40) → ∀ v64 : Int, (v64 = (refAt (bytesL v40) (atS (refL (bytesL v40) v42) v44 7).1)) → ∀ v66 : Int, (v66 = (atS (refL (bytesL v40) v42) v44 7).2) → ∀ v68 : Int, (v68 = (atZ (refL (bytesL v40) v42) v44 (shV (refL (bytesL v40) v42) v44 1073741824))) → ∀ v70 : Int, (v70 = (atZ (refL (bytesL v40) v42) v44 (atV (refL (bytesL v40) v42) v44 0))) → ∀ v72 : Int, (v72 = (atZ (refL (bytesL v40) v42) v44 (atV (refL (bytesL v40) v42) v44 1))) → ∀ v74 : Int, (v74 = (atZ (refL (bytesL v40) v42) v44 (atV (refL (bytesL v40) v42) v44 2))) → ∀ v76 : Int, (v76 = (atZ (refL (bytesL v40) v42) v44 (atV (refL (bytesL v40) v42) v44 3))) → ∀ v78 : Int, (v78 = (atZ (refL (bytesL v40) v42) v44 (atV (refL (bytesL v40) v42) v44 4))) → ∀ v80 : Int, (v80 = (atZ (refL (bytesL v40) v42) v44 (atV (refL (bytesL v40) v42) v44 5))) → ∀ v82 : Int, (v82 = (atZ (refL (bytesL v40) v42) v44 (atV (refL (bytesL v40) v42) v44 6))) → T1 ∧ T1 ∧ T1 ∧ tt ∧ T1 ∧ tt ∧ tt ∧ T1 ∧ tt ∧ T1 ∧ T1 ∧ (bif (v66 == 0) then (tt ∧ (T1 ∧ (smallX (InstP.mk v6 v8 (IntKind.wrap IntKind.i64 v24) v16 v32 (inTruthV (refL (bytesL v26) v28) v30) (CmdP.mk v46 v48 v50 v52 v54 v56 v58 v60) (AttP.mk v68 v70 v72 v74 v76 v78 v80 v82)))) ∧ T1 ∧ T1 ∧ (bif (Bool.not (rightI (InstP.mk v6 v8 (IntKind.wrap IntKind.i64 v24) v16 v32 (inTruthV (refL (bytesL v26) v28) v30) (CmdP.mk v46 v48 v50 v52 v54 v56 v58 v60) (AttP.mk v68 v70 v72 v74 v76 v78 v80 v82)))) then (tt ∧ T1 ∧ tt ∧ tt ∧ T1 ∧ tt ∧ T1 ∧ tt ∧ tt ∧ T1 ∧ tt ∧ tt ∧ tt ∧ tt ∧ (xs = v62 ∧ q1 = v64 ∧ q2 = 10 ∧ q0.r = 0 ∧ q0.sl = 0 ∧ q0.st = 0 ∧ q0.bal = 0 ∧ q0.vote = 0 ∧ q0.same = false ∧ q0.c.k = 0 ∧ q0.c.num = 0 ∧ q0.c.foot = [] ∧ q0.c.rq = 0 ∧ q0.c.path = [] ∧ q0.c.mode = 0 ∧ q0.c.n = 0 ∧ q0.c.time = 0 ∧ q0.a.s = 0 ∧ q0.a.d0 = 0 ∧ q0.a.d1 = 0 ∧ q0.a.d2 = 0 ∧ q0.a.d3 = 0 ∧ q0.a.d4 = 0 ∧ q0.a.d5 = 0 ∧ q0.a.d6 = 0 ∧ True) ∧ tt) else (tt ∧ T1 ∧ tt ∧ T1 ∧ (bif (v66 != 0) then (tt ∧ tt ∧ T1 ∧ tt ∧ tt ∧ tt ∧ tt ∧ (xs = v62 ∧ q1 = v64 ∧ q2 = v66 ∧ q0.r = 0 ∧ q0.sl = 0 ∧ q0.st = 0 ∧ q0.bal = 0 ∧ q0.vote = 0 ∧ q0.same = false ∧ q0.c.k = 0 ∧ q0.c.num = 0 ∧ q0.c.foot = [] ∧ q0.c.rq = 0 ∧ q0.c.path = [] ∧ q0.c.mode = 0 ∧ q0.c.n = 0 ∧ q0.c.time = 0 ∧ q0.a.s = 0 ∧ q0.a.d0 = 0 ∧ q0.a.d1 = 0 ∧ q0.a.d2 = 0 ∧ q0.a.d3 = 0 ∧ q0.a.d4 = 0 ∧ q0.a.d5 = 0 ∧ q0.a.d6 = 0 ∧ True) ∧ tt) else (tt ∧ tt ∧ tt ∧ tt ∧ tt ∧ tt ∧ tt ∧ tt ∧ (xs = v62 ∧ q1 = v64 ∧ q2 = v66 ∧ q0.r = v6 ∧ q0.sl = v8 ∧ q0.st = (IntKind.wrap IntKind.i64 v24) ∧ q0.bal = v16 ∧ q0.vote = v32 ∧ q0.same = (inTruthV (refL (bytesL v26) v28) v30) ∧ q0.c.k = v46 ∧ q0.c.num = v48 ∧ q0.c.foot = v50 ∧ q0.c.rq = v52 ∧ q0.c.path = v54 ∧ q0.c.mode = v56 ∧ q0.c.n = v58 ∧ q0.c.time = v60 ∧ q0.a.s = v68 ∧ q0.a.d0 = v70 ∧ q0.a.d1 = v72 ∧ q0.a.d2 = v74 ∧ q0.a.d3 = v76 ∧ q0.a.d4 = v78 ∧ q0.a.d5 = v80 ∧ q0.a.d6 = v82 ∧ True) ∧ tt))))) else (false = false ∧ tt ∧ T1 ∧ tt ∧ T1 ∧ (bif (v66 != 0) then (tt ∧ tt ∧ T1 ∧ tt ∧ tt ∧ tt ∧ tt ∧ (xs = v62 ∧ q1 = v64 ∧ q2 = v66 ∧ q0.r = 0 ∧ q0.sl = 0 ∧ q0.st = 0 ∧ q0.bal = 0 ∧ q0.vote = 0 ∧ q0.same = false ∧ q0.c.k = 0 ∧ q0.c.num = 0 ∧ q0.c.foot = [] ∧ q0.c.rq = 0 ∧ q0.c.path = [] ∧ q0.c.mode = 0 ∧ q0.c.n = 0 ∧ q0.c.time = 0 ∧ q0.a.s = 0 ∧ q0.a.d0 = 0 ∧ q0.a.d1 = 0 ∧ q0.a.d2 = 0 ∧ q0.a.d3 = 0 ∧ q0.a.d4 = 0 ∧ q0.a.d5 = 0 ∧ q0.a.d6 = 0 ∧ True) ∧ tt) else (tt ∧ tt ∧ tt ∧ tt ∧ tt ∧ tt ∧ tt ∧ tt ∧ (xs = v62 ∧ q1 = v64 ∧ q2 = v66 ∧ q0.r = v6 ∧ q0.sl = v8 ∧ q0.st = (IntKind.wrap IntKind.i64 v24) ∧ q0.bal = v16 ∧ q0.vote = v32 ∧ q0.same = (inTruthV (refL (bytesL v26) v28) v30) ∧ q0.c.k = v46 ∧ q0.c.num = v48 ∧ q0.c.foot = v50 ∧ q0.c.rq = v52 ∧ q0.c.path = v54 ∧ q0.c.mode = v56 ∧ q0.c.n = v58 ∧ q0.c.time = v60 ∧ q0.a.s = v68 ∧ q0.a.d0 = v70 ∧ q0.a.d1 = v72 ∧ q0.a.d2 = v74 ∧ q0.a.d3 = v76 ∧ q0.a.d4 = v78 ∧ q0.a.d5 = v80 ∧ q0.a.d6 = v82 ∧ True) ∧ tt))))) else (tt ∧ T1 ∧ tt ∧ T1 ∧ T1 ∧ (bif (v22 == 0) then (tt ∧ (T1 ∧ (smallX (InstP.mk v6 v8 (IntKind.wrap IntKind.i64 v24) v16 0 false q4 q5))) ∧ T1 ∧ T1 ∧ (bif (Bool.not (rightI (InstP.mk v6 v8 (IntKind.wrap IntKind.i64 v24) v16 0 false q4 q5))) then (tt ∧ T1 ∧ tt ∧ tt ∧ T1 ∧ tt ∧ T1 ∧ tt ∧ tt ∧ T1 ∧ tt ∧ tt ∧ tt ∧ tt ∧ (xs = v18 ∧ q1 = v20 ∧ q2 = 10 ∧ q0.r = 0 ∧ q0.sl = 0 ∧ q0.st = 0 ∧ q0.bal = 0 ∧ q0.vote = 0 ∧ q0.same = false ∧ q0.c.k = 0 ∧ q0.c.num = 0 ∧ q0.c.foot = [] ∧ q0.c.rq = 0 ∧ q0.c.path = [] ∧ q0.c.mode = 0 ∧ q0.c.n = 0 ∧ q0.c.time = 0 ∧ q0.a.s = 0 ∧ q0.a.d0 = 0 ∧ q0.a.d1 = 0 ∧ q0.a.d2 = 0 ∧ q0.a.d3 = 0 ∧ q0.a.d4 = 0 ∧ q0.a.d5 = 0 ∧ q0.a.d6 = 0 ∧ True) ∧ tt) else (tt ∧ T1 ∧ tt ∧ T1 ∧ (bif (v22 != 0) then (tt ∧ tt ∧ T1 ∧ tt ∧ tt ∧ tt ∧ tt ∧ (xs = v18 ∧ q1 = v20 ∧ q2 = v22 ∧ q0.r = 0 ∧ q0.sl = 0 ∧ q0.st = 0 ∧ q0.bal = 0 ∧ q0.vote = 0 ∧ q0.same = false ∧ q0.c.k = 0 ∧ q0.c.num = 0 ∧ q0.c.foot = [] ∧ q0.c.rq = 0 ∧ q0.c.path = [] ∧ q0.c.mode = 0 ∧ q0.c.n = 0 ∧ q0.c.time = 0 ∧ q0.a.s = 0 ∧ q0.a.d0 = 0 ∧ q0.a.d1 = 0 ∧ q0.a.d2 = 0 ∧ q0.a.d3 = 0 ∧ q0.a.d4 = 0 ∧ q0.a.d5 = 0 ∧ q0.a.d6 = 0 ∧ True) ∧ tt) else (tt ∧ tt ∧ tt ∧ tt ∧ tt ∧ tt ∧ tt ∧ tt ∧ (xs = v18 ∧ q1 = v20 ∧ q2 = v22 ∧ q0.r = v6 ∧ q0.sl = v8 ∧ q0.st = (IntKind.wrap IntKind.i64 v24) ∧ q0.bal = v16 ∧ q0.vote = 0 ∧ q0.same = false ∧ q0.c.k = 0 ∧ q0.c.num = 0 ∧ q0.c.foot = [] ∧ q0.c.rq = 0 ∧ q0.c.path = [] ∧ q0.c.mode = 0 ∧ q0.c.n = 0 ∧ q0.c.time = 0 ∧ q0.a.s = 0 ∧ q0.a.d0 = 0 ∧ q0.a.d1 = 0 ∧ q0.a.d2 = 0 ∧ q0.a.d3 = 0 ∧ q0.a.d4 = 0 ∧ q0.a.d5 = 0 ∧ q0.a.d6 = 0 ∧ True) ∧ tt))))) else (false = false ∧ tt ∧ T1 ∧ tt ∧ T1 ∧ (bif (v22 != 0) then (tt ∧ tt ∧ T1 ∧ tt ∧ tt ∧ tt ∧ tt ∧ (xs = v18 ∧ q1 = v20 ∧ q2 = v22 ∧ q0.r = 0 ∧ q0.sl = 0 ∧ q0.st = 0 ∧ q0.bal = 0 ∧ q0.vote = 0 ∧ q0.same = false ∧ q0.c.k = 0 ∧ q0.c.num = 0 ∧ q0.c.foot = [] ∧ q0.c.rq = 0 ∧ q0.c.path = [] ∧ q0.c.mode = 0 ∧ q0.c.n = 0 ∧ q0.c.time = 0 ∧ q0.a.s = 0 ∧ q0.a.d0 = 0 ∧ q0.a.d1 = 0 ∧ q0.a.d2 = 0 ∧ q0.a.d3 = 0 ∧ q0.a.d4 = 0 ∧ q0.a.d5 = 0 ∧ q0.a.d6 = 0 ∧ True) ∧ tt) else (tt ∧ tt ∧ tt ∧ tt ∧ tt ∧ tt ∧ tt ∧ tt ∧ (xs = v18 ∧ q1 = v20 ∧ q2 = v22 ∧ q0.r = v6 ∧ q0.sl = v8 ∧ q0.st = (IntKind.wrap IntKind.i64 v24) ∧ q0.bal = v16 ∧ q0.vote = 0 ∧ q0.same = false ∧ q0.c.k = 0 ∧ q0.c.num = 0 ∧ q0.c.foot = [] ∧ q0.c.rq = 0 ∧ q0.c.path = [] ∧ q0.c.mode = 0 ∧ q0.c.n = 0 ∧ q0.c.time = 0 ∧ q0.a.s = 0 ∧ q0.a.d0 = 0 ∧ q0.a.d1 = 0 ∧ q0.a.d2 = 0 ∧ q0.a.d3 = 0 ∧ q0.a.d4 = 0 ∧ q0.a.d5 = 0 ∧ q0.a.d6 = 0 ∧ True) ∧ tt))))))))) else (false = false ∧ tt ∧ T1 ∧ T1 ∧ T1 ∧ tt ∧ tt ∧ T1 ∧ T1 ∧ (bif (decide ((0 : Int) < v24)) then (tt ∧ tt ∧ (T1 ∧ (isBytes v18) ∧ (0 : Int) ≤ v20 ∧ v20 ≤ ((List.length v18) : Int)) ∧ ∀ v26 : q3, (v26 = v18) → ∀ v28 : Int, (v28 = (refAt (bytesL v18) (shRest (refL (bytesL v18) v20) v22 4294967295))) → ∀ v30 : Int, (v30 = (balE (refL (bytesL v18) v20) v22)) → ∀ v32 : Int, (v32 = (balV (refL (bytesL v18) v20) v22)) → T1 ∧ T1 ∧ T1 ∧ tt ∧ T1 ∧ tt ∧ tt ∧ tt ∧ (T1 ∧ (isBytes v26) ∧ (0 : Int) ≤ v28 ∧ v28 ≤ ((List.length v26) : Int)) ∧ ∀ v34 : q3, (v34 = v26) → ∀ v36 : Int, (v36 = (refAt (bytesL v26) (tkRest (refL (bytesL v26) v28) v30 1))) → ∀ v38 : Int, (v38 = (inTruthE (refL (bytesL v26) v28) v30)) → T1 ∧ T1 ∧ T1 ∧ tt ∧ T1 ∧ tt ∧ tt ∧ tt ∧ (T1 ∧ (isBytes v34) ∧ (0 : Int) ≤ v36 ∧ v36 ≤ ((List.length v34) : Int)) ∧ ∀ v40 : q3, (v40 = v34) → ∀ v42 : Int, (v42 = (refAt (bytesL v34) (ctR (refL (bytesL v34) v36) v38))) → ∀ v44 : Int, (v44 = (ctE (refL (bytesL v34) v36) v38)) → ∀ v46 : Int, (v46 = (ctC (refL (bytesL v34) v36) v38).k) → ∀ v48 : Int, (v48 = (ctC (refL (bytesL v34) v36) v38).num) → ∀ v50 : (List UInt8), (v50 = (ctC (refL (bytesL v34) v36) v38).foot) → ∀ v52 : Int, (v52 = (ctC (refL (bytesL v34) v36) v38).rq) → ∀ v54 : (List UInt8), (v54 = (ctC (refL (bytesL v34) v36) v38).path) → ∀ v56 : Int, (v56 = (ctC (refL (bytesL v34) v36) v38).mode) → ∀ v58 : Int, (v58 = (ctC (refL (bytesL v34) v36) v38).n) → ∀ v60 : Int, (v60 = (ctC (refL (bytesL v34) v36) v38).time) → T1 ∧ T1 ∧ T1 ∧ tt ∧ T1 ∧ tt ∧ tt ∧ tt ∧ (T1 ∧ (isBytes v40) ∧ (0 : Int) ≤ v42 ∧ v42 ≤ ((List.length v40) : Int)) ∧ ∀ v62 : q3, (v62 = v40) → ∀ v64 : Int, (v64 = (refAt (bytesL v40) (atS (refL (bytesL v40) v42) v44 7).1)) → ∀ v66 : Int, (v66 = (atS (refL (bytesL v40) v42) v44 7).2) → ∀ v68 : Int, (v68 = (atZ (refL (bytesL v40) v42) v44 (shV (refL (bytesL v40) v42) v44 1073741824))) → ∀ v70 : Int, (v70 = (atZ (refL (bytesL v40) v42) v44 (atV (refL (bytesL v40) v42) v44 0))) → ∀ v72 : Int, (v72 = (atZ (refL (bytesL v40) v42) v44 (atV (refL (bytesL v40) v42) v44 1))) → ∀ v74 : Int, (v74 = (atZ (refL (bytesL v40) v42) v44 (atV (refL (bytesL v40) v42) v44 2))) → ∀ v76 : Int, (v76 = (atZ (refL (bytesL v40) v42) v44 (atV (refL (bytesL v40) v42) v44 3))) → ∀ v78 : Int, (v78 = (atZ (refL (bytesL v40) v42) v44 (atV (refL (bytesL v40) v42) v44 4))) → ∀ v80 : Int, (v80 = (atZ (refL (bytesL v40) v42) v44 (atV (refL (bytesL v40) v42) v44 5))) → ∀ v82 : Int, (v82 = (atZ (refL (bytesL v40) v42) v44 (atV (refL (bytesL v40) v42) v44 6))) → T1 ∧ T1 ∧ T1 ∧ tt ∧ T1 ∧ tt ∧ tt ∧ T1 ∧ tt ∧ T1 ∧ T1 ∧ (bif (v66 == 0) then (tt ∧ (T1 ∧ (smallX (InstP.mk v6 v8 (IntKind.wrap IntKind.i64 v24) v16 v32 (inTruthV (refL (bytesL v26) v28) v30) (CmdP.mk v46 v48 v50 v52 v54 v56 v58 v60) (AttP.mk v68 v70 v72 v74 v76 v78 v80 v82)))) ∧ T1 ∧ T1 ∧ (bif (Bool.not (rightI (InstP.mk v6 v8 (IntKind.wrap IntKind.i64 v24) v16 v32 (inTruthV (refL (bytesL v26) v28) v30) (CmdP.mk v46 v48 v50 v52 v54 v56 v58 v60) (AttP.mk v68 v70 v72 v74 v76 v78 v80 v82)))) then (tt ∧ T1 ∧ tt ∧ tt ∧ T1 ∧ tt ∧ T1 ∧ tt ∧ tt ∧ T1 ∧ tt ∧ tt ∧ tt ∧ tt ∧ (xs = v62 ∧ q1 = v64 ∧ q2 = 10 ∧ q0.r = 0 ∧ q0.sl = 0 ∧ q0.st = 0 ∧ q0.bal = 0 ∧ q0.vote = 0 ∧ q0.same = false ∧ q0.c.k = 0 ∧ q0.c.num = 0 ∧ q0.c.foot = [] ∧ q0.c.rq = 0 ∧ q0.c.path = [] ∧ q0.c.mode = 0 ∧ q0.c.n = 0 ∧ q0.c.time = 0 ∧ q0.a.s = 0 ∧ q0.a.d0 = 0 ∧ q0.a.d1 = 0 ∧ q0.a.d2 = 0 ∧ q0.a.d3 = 0 ∧ q0.a.d4 = 0 ∧ q0.a.d5 = 0 ∧ q0.a.d6 = 0 ∧ True) ∧ tt) else (tt ∧ T1 ∧ tt ∧ T1 ∧ (bif (v66 != 0) then (tt ∧ tt ∧ T1 ∧ tt ∧ tt ∧ tt ∧ tt ∧ (xs = v62 ∧ q1 = v64 ∧ q2 = v66 ∧ q0.r = 0 ∧ q0.sl = 0 ∧ q0.st = 0 ∧ q0.bal = 0 ∧ q0.vote = 0 ∧ q0.same = false ∧ q0.c.k = 0 ∧ q0.c.num = 0 ∧ q0.c.foot = [] ∧ q0.c.rq = 0 ∧ q0.c.path = [] ∧ q0.c.mode = 0 ∧ q0.c.n = 0 ∧ q0.c.time = 0 ∧ q0.a.s = 0 ∧ q0.a.d0 = 0 ∧ q0.a.d1 = 0 ∧ q0.a.d2 = 0 ∧ q0.a.d3 = 0 ∧ q0.a.d4 = 0 ∧ q0.a.d5 = 0 ∧ q0.a.d6 = 0 ∧ True) ∧ tt) else (tt ∧ tt ∧ tt ∧ tt ∧ tt ∧ tt ∧ tt ∧ tt ∧ (xs = v62 ∧ q1 = v64 ∧ q2 = v66 ∧ q0.r = v6 ∧ q0.sl = v8 ∧ q0.st = (IntKind.wrap IntKind.i64 v24) ∧ q0.bal = v16 ∧ q0.vote = v32 ∧ q0.same = (inTruthV (refL (bytesL v26) v28) v30) ∧ q0.c.k = v46 ∧ q0.c.num = v48 ∧ q0.c.foot = v50 ∧ q0.c.rq = v52 ∧ q0.c.path = v54 ∧ q0.c.mode = v56 ∧ q0.c.n = v58 ∧ q0.c.time = v60 ∧ q0.a.s = v68 ∧ q0.a.d0 = v70 ∧ q0.a.d1 = v72 ∧ q0.a.d2 = v74 ∧ q0.a.d3 = v76 ∧ q0.a.d4 = v78 ∧ q0.a.d5 = v80 ∧ q0.a.d6 = v82 ∧ True) ∧ tt))))) else (false = false ∧ tt ∧ T1 ∧ tt ∧ T1 ∧ (bif (v66 != 0) then (tt ∧ tt ∧ T1 ∧ tt ∧ tt ∧ tt ∧ tt ∧ (xs = v62 ∧ q1 = v64 ∧ q2 = v66 ∧ q0.r = 0 ∧ q0.sl = 0 ∧ q0.st = 0 ∧ q0.bal = 0 ∧ q0.vote = 0 ∧ q0.same = false ∧ q0.c.k = 0 ∧ q0.c.num = 0 ∧ q0.c.foot = [] ∧ q0.c.rq = 0 ∧ q0.c.path = [] ∧ q0.c.mode = 0 ∧ q0.c.n = 0 ∧ q0.c.time = 0 ∧ q0.a.s = 0 ∧ q0.a.d0 = 0 ∧ q0.a.d1 = 0 ∧ q0.a.d2 = 0 ∧ q0.a.d3 = 0 ∧ q0.a.d4 = 0 ∧ q0.a.d5 = 0 ∧ q0.a.d6 = 0 ∧ True) ∧ tt) else (tt ∧ tt ∧ tt ∧ tt ∧ tt ∧ tt ∧ tt ∧ tt ∧ (xs = v62 ∧ q1 = v64 ∧ q2 = v66 ∧ q0.r = v6 ∧ q0.sl = v8 ∧ q0.st = (IntKind.wrap IntKind.i64 v24) ∧ q0.bal = v16 ∧ q0.vote = v32 ∧ q0.same = (inTruthV (refL (bytesL v26) v28) v30) ∧ q0.c.k = v46 ∧ q0.c.num = v48 ∧ q0.c.foot = v50 ∧ q0.c.rq = v52 ∧ q0.c.path = v54 ∧ q0.c.mode = v56 ∧ q0.c.n = v58 ∧ q0.c.time = v60 ∧ q0.a.s = v68 ∧ q0.a.d0 = v70 ∧ q0.a.d1 = v72 ∧ q0.a.d2 = v74 ∧ q0.a.d3 = v76 ∧ q0.a.d4 = v78 ∧ q0.a.d5 = v80 ∧ q0.a.d6 = v82 ∧ True) ∧ tt))))) else (tt ∧ T1 ∧ tt ∧ T1 ∧ T1 ∧ (bif (v22 == 0) then (tt ∧ (T1 ∧ (smallX (InstP.mk v6 v8 (IntKind.wrap IntKind.i64 v24) v16 0 false q4 q5))) ∧ T1 ∧ T1 ∧ (bif (Bool.not (rightI (InstP.mk v6 v8 (IntKind.wrap IntKind.i64 v24) v16 0 false q4 q5))) then (tt ∧ T1 ∧ tt ∧ tt ∧ T1 ∧ tt ∧ T1 ∧ tt ∧ tt ∧ T1 ∧ tt ∧ tt ∧ tt ∧ tt ∧ (xs = v18 ∧ q1 = v20 ∧ q2 = 10 ∧ q0.r = 0 ∧ q0.sl = 0 ∧ q0.st = 0 ∧ q0.bal = 0 ∧ q0.vote = 0 ∧ q0.same = false ∧ q0.c.k = 0 ∧ q0.c.num = 0 ∧ q0.c.foot = [] ∧ q0.c.rq = 0 ∧ q0.c.path = [] ∧ q0.c.mode = 0 ∧ q0.c.n = 0 ∧ q0.c.time = 0 ∧ q0.a.s = 0 ∧ q0.a.d0 = 0 ∧ q0.a.d1 = 0 ∧ q0.a.d2 = 0 ∧ q0.a.d3 = 0 ∧ q0.a.d4 = 0 ∧ q0.a.d5 = 0 ∧ q0.a.d6 = 0 ∧ True) ∧ tt) else (tt ∧ T1 ∧ tt ∧ T1 ∧ (bif (v22 != 0) then (tt ∧ tt ∧ T1 ∧ tt ∧ tt ∧ tt ∧ tt ∧ (xs = v18 ∧ q1 = v20 ∧ q2 = v22 ∧ q0.r = 0 ∧ q0.sl = 0 ∧ q0.st = 0 ∧ q0.bal = 0 ∧ q0.vote = 0 ∧ q0.same = false ∧ q0.c.k = 0 ∧ q0.c.num = 0 ∧ q0.c.foot = [] ∧ q0.c.rq = 0 ∧ q0.c.path = [] ∧ q0.c.mode = 0 ∧ q0.c.n = 0 ∧ q0.c.time = 0 ∧ q0.a.s = 0 ∧ q0.a.d0 = 0 ∧ q0.a.d1 = 0 ∧ q0.a.d2 = 0 ∧ q0.a.d3 = 0 ∧ q0.a.d4 = 0 ∧ q0.a.d5 = 0 ∧ q0.a.d6 = 0 ∧ True) ∧ tt) else (tt ∧ tt ∧ tt ∧ tt ∧ tt ∧ tt ∧ tt ∧ tt ∧ (xs = v18 ∧ q1 = v20 ∧ q2 = v22 ∧ q0.r = v6 ∧ q0.sl = v8 ∧ q0.st = (IntKind.wrap IntKind.i64 v24) ∧ q0.bal = v16 ∧ q0.vote = 0 ∧ q0.same = false ∧ q0.c.k = 0 ∧ q0.c.num = 0 ∧ q0.c.foot = [] ∧ q0.c.rq = 0 ∧ q0.c.path = [] ∧ q0.c.mode = 0 ∧ q0.c.n = 0 ∧ q0.c.time = 0 ∧ q0.a.s = 0 ∧ q0.a.d0 = 0 ∧ q0.a.d1 = 0 ∧ q0.a.d2 = 0 ∧ q0.a.d3 = 0 ∧ q0.a.d4 = 0 ∧ q0.a.d5 = 0 ∧ q0.a.d6 = 0 ∧ True) ∧ tt))))) else (false = false ∧ tt ∧ T1 ∧ tt ∧ T1 ∧ (bif (v22 != 0) then (tt ∧ tt ∧ T1 ∧ tt ∧ tt ∧ tt ∧ tt ∧ (xs = v18 ∧ q1 = v20 ∧ q2 = v22 ∧ q0.r = 0 ∧ q0.sl = 0 ∧ q0.st = 0 ∧ q0.bal = 0 ∧ q0.vote = 0 ∧ q0.same = false ∧ q0.c.k = 0 ∧ q0.c.num = 0 ∧ q0.c.foot = [] ∧ q0.c.rq = 0 ∧ q0.c.path = [] ∧ q0.c.mode = 0 ∧ q0.c.n = 0 ∧ q0.c.time = 0 ∧ q0.a.s = 0 ∧ q0.a.d0 = 0 ∧ q0.a.d1 = 0 ∧ q0.a.d2 = 0 ∧ q0.a.d3 = 0 ∧ q0.a.d4 = 0 ∧ q0.a.d5 = 0 ∧ q0.a.d6 = 0 ∧ True) ∧ tt) else (tt ∧ tt ∧ tt ∧ tt ∧ tt ∧ tt ∧ tt ∧ tt ∧ (xs = v18 ∧ q1 = v20 ∧ q2 = v22 ∧ q0.r = v6 ∧ q0.sl = v8 ∧ q0.st = (IntKind.wrap IntKind.i64 v24) ∧ q0.bal = v16 ∧ q0.vote = 0 ∧ q0.same = false ∧ q0.c.k = 0 ∧ q0.c.num = 0 ∧ q0.c.foot = [] ∧ q0.c.rq = 0 ∧ q0.c.path = [] ∧ q0.c.mode = 0 ∧ q0.c.n = 0 ∧ q0.c.time = 0 ∧ q0.a.s = 0 ∧ q0.a.d0 = 0 ∧ q0.a.d1 = 0 ∧ q0.a.d2 = 0 ∧ q0.a.d3 = 0 ∧ q0.a.d4 = 0 ∧ q0.a.d5 = 0 ∧ q0.a.d6 = 0 ∧ True) ∧ tt)))))))))) : inRefXtake0 xs at' e :=
  Eq.mp (show _ = _ by kernel_rfl) h
theorem vcOf100 (x : InstP) (h : (tt ∧ T1 ∧ T1 ∧ tt ∧ T1 ∧ tt ∧ T1 ∧ tt ∧ tt ∧ T1 ∧ tt ∧ T1 ∧ tt ∧ T1 ∧ tt ∧ T1 ∧ tt ∧ T1 ∧ tt ∧ T1 ∧ tt ∧ T1 ∧ T1 ∧ tt ∧ T1 ∧ T1 ∧ tt ∧ T1 ∧ tt ∧ T1 ∧ tt ∧ T1 ∧ tt ∧ T1 ∧ tt ∧ T1 ∧ tt ∧ T1 ∧ T1 ∧ tt ∧ T1 ∧ tt ∧ tt ∧ tt ∧ (x.r = x.r ∧ x.sl = x.sl ∧ x.st = x.st ∧ x.bal = x.bal ∧ x.vote = x.vote ∧ x.same = x.same ∧ x.c.k = x.c.k ∧ x.c.num = x.c.num ∧ x.c.foot = x.c.foot ∧ x.c.rq = x.c.rq ∧ x.c.path = x.c.path ∧ x.c.mode = x.c.mode ∧ x.c.n = x.c.n ∧ x.c.time = x.c.time ∧ x.a.s = x.a.s ∧ x.a.d0 = x.a.d0 ∧ x.a.d1 = x.a.d1 ∧ x.a.d2 = x.a.d2 ∧ x.a.d3 = x.a.d3 ∧ x.a.d4 = x.a.d4 ∧ x.a.d5 = x.a.d5 ∧ x.a.d6 = x.a.d6 ∧ True) ∧ tt)) : inOf100 x :=
  Eq.mp (show _ = _ by kernel_rfl) h
theorem vcAnchor100 (h : let q0 := (InstP.mk 1 2 0 0 0 false (CmdP.mk 0 0 [] 0 [] 0 0 0) (AttP.mk 0 0 0 0 0 0 0 0)); (tt ∧ T1 ∧ tt ∧ T1 ∧ (T1 ∧ True) ∧ (T1 ∧ (smallX q0) ∧ ((@Ne.{1} Int (0 : Int) (0 : Int)) → (attGood q0))) ∧ ∀ v0 : (List AV), (v0 = (bytesAV (encI q0))) → T1 ∧ tt ∧ T1 ∧ T1 ∧ T1 ∧ T1 ∧ (bif (((List.length v0) : Int) == 4) then (T1 ∧ ((0 : Int) ≤ (0 : Int) ∧ (0 : Int) < ((List.length v0) : Int) ∧ (okElem 1 v0 0)) ∧ (okRead [(Kd.int IntKind.u8)] (elemAt v0 0) 0) ∧ T1 ∧ T1 ∧ T1 ∧ (bif ((rdInt (elemAt v0 0) 0) == 1) then (T1 ∧ ((0 : Int) ≤ (1 : Int) ∧ (1 : Int) < ((List.length v0) : Int) ∧ (okElem 1 v0 1)) ∧ (okRead [(Kd.int IntKind.u8)] (elemAt v0 1) 0) ∧ T1 ∧ T1 ∧ T1 ∧ (bif ((rdInt (elemAt v0 1) 0) == 2) then (T1 ∧ ((0 : Int) ≤ (2 : Int) ∧ (2 : Int) < ((List.length v0) : Int) ∧ (okElem 1 v0 2)) ∧ (okRead [(Kd.int IntKind.u8)] (elemAt v0 2) 0) ∧ T1 ∧ T1 ∧ T1 ∧ (bif ((rdInt (elemAt v0 2) 0) == 0) then (T1 ∧ ((0 : Int) ≤ (3 : Int) ∧ (3 : Int) < ((List.length v0) : Int) ∧ (okElem 1 v0 3)) ∧ (okRead [(Kd.int IntKind.u8)] (elemAt v0 3) 0) ∧ T1 ∧ T1 ∧ T1 ∧ tt ∧ tt ∧ (true = ((rdInt (elemAt v0 3) 0) == 0) ∧ True) ∧ tt) else (false = false ∧ T1 ∧ tt ∧ tt ∧ (true = false ∧ True) ∧ tt))) else (false = false ∧ T1 ∧ false = false ∧ T1 ∧ tt ∧ tt ∧ (true = false ∧ True) ∧ tt))) else (false = false ∧ T1 ∧ false = false ∧ T1 ∧ false = false ∧ T1 ∧ tt ∧ tt ∧ (true = false ∧ True) ∧ tt))) else (false = false ∧ T1 ∧ false = false ∧ T1 ∧ false = false ∧ T1 ∧ false = false ∧ T1 ∧ tt ∧ tt ∧ (true = false ∧ True) ∧ tt)))) : inAnchor100 :=
  Eq.mp (show _ = _ by kernel_rfl) h
theorem vcLawIParses0 (xs : (List AV)) (h : let q0 := (iparseX (bytesL xs)); let q1 := (itX (refL (bytesL xs) 0) 0); let q2 := (List UInt8); let q3 := (bytesL xs); (tt ∧ T1 ∧ tt ∧ (T1 ∧ True) ∧ T1 ∧ tt ∧ T1 ∧ T1 ∧ T1 ∧ (bif (decide ((400 : Int) < ((List.length xs) : Int))) then (tt ∧ T1 ∧ tt ∧ tt ∧ (tt ∧ True) ∧ tt) else (tt ∧ T1 ∧ (T1 ∧ (isBytes xs) ∧ (List.length xs) ≤ 140737488355328) ∧ T1 ∧ T1 ∧ T1 ∧ T1 ∧ tt ∧ T1 ∧ tt ∧ T1 ∧ T1 ∧ (T1 ∧ (isBytes xs) ∧ (0 : Int) ≤ (0 : Int) ∧ (0 : Int) ≤ ((List.length xs) : Int)) ∧ ∀ v0 : (List AV), (v0 = xs) → ∀ v2 : Int, (v2 = (refAt q3 (itR (refL q3 0) 0))) → ∀ v4 : Int, (v4 = (itE (refL q3 0) 0)) → ∀ v6 : Int, (v6 = q1.r) → ∀ v8 : Int, (v8 = q1.sl) → ∀ v10 : Int, (v10 = q1.st) → ∀ v12 : Int, (v12 = q1.bal) → ∀ v14 : Int, (v14 = q1.vote) → ∀ v16 : Int, (v16 = q1.c.k) → ∀ v18 : Int, (v18 = q1.c.num) → ∀ v20 : q2, (v20 = q1.c.foot) → ∀ v22 : Int, (v22 = q1.c.rq) → ∀ v24 : q2, (v24 = q1.c.path) → ∀ v26 : Int, (v26 = q1.c.mode) → ∀ v28 : Int, (v28 = q1.c.n) → ∀ v30 : Int, (v30 = q1.c.time) → ∀ v32 : Int, (v32 = q1.a.s) → ∀ v34 : Int, (v34 = q1.a.d0) → ∀ v36 : Int, (v36 = q1.a.d1) → ∀ v38 : Int, (v38 = q1.a.d2) → ∀ v40 : Int, (v40 = q1.a.d3) → ∀ v42 : Int, (v42 = q1.a.d4) → ∀ v44 : Int, (v44 = q1.a.d5) → ∀ v46 : Int, (v46 = q1.a.d6) → T1 ∧ T1 ∧ T1 ∧ T1 ∧ T1 ∧ tt ∧ tt ∧ tt ∧ tt ∧ (T1 ∧ (isBytes v0) ∧ (0 : Int) ≤ v2 ∧ v2 ≤ ((List.length v0) : Int)) ∧ ∀ v48 : Int, (v48 = (inEnd (refL (bytesL v0) v2) v4)) → T1 ∧ tt ∧ T1 ∧ T1 ∧ T1 ∧ T1 ∧ (bif ((iparseE q3) != v48) then (tt ∧ tt ∧ T1 ∧ T1 ∧ T1 ∧ T1 ∧ (bif ((iparseE q3) == v48) then (tt ∧ T1 ∧ T1 ∧ T1 ∧ T1 ∧ tt ∧ tt ∧ (true = (Bool.and (q0.r == 0) (Bool.and (q0.sl == 0) (Bool.and (q0.st == 0) (Bool.and (q0.bal == 0) (Bool.and (q0.vote == 0) (Bool.and (@BEq.beq.{0} Bool (@instBEqOfDecidableEq.{0} Bool instDecidableEqBool) q0.same false) (Bool.and (q0.c.k == 0) (Bool.and (q0.c.num == 0) (Bool.and (@BEq.beq.{0} q2 (@List.instBEq.{0} UInt8 (@instBEqOfDecidableEq.{0} UInt8 instDecidableEqUInt8)) q0.c.foot (@List.nil.{0} UInt8)) (Bool.and (q0.c.rq == 0) (Bool.and (@BEq.beq.{0} q2 (@List.instBEq.{0} UInt8 (@instBEqOfDecidableEq.{0} UInt8 instDecidableEqUInt8)) q0.c.path (@List.nil.{0} UInt8)) (Bool.and (q0.c.mode == 0) (Bool.and (q0.c.n == 0) (Bool.and (q0.c.time == 0) (Bool.and (q0.a.s == 0) (Bool.and (q0.a.d0 == 0) (Bool.and (q0.a.d1 == 0) (Bool.and (q0.a.d2 == 0) (Bool.and (q0.a.d3 == 0) (Bool.and (q0.a.d4 == 0) (Bool.and (q0.a.d5 == 0) (Bool.and (q0.a.d6 == 0) true)))))))))))))))))))))) ∧ True) ∧ tt) else (false = false ∧ T1 ∧ tt ∧ tt ∧ (true = false ∧ True) ∧ tt))) else (T1 ∧ T1 ∧ T1 ∧ (bif (v48 != 0) then (tt ∧ T1 ∧ T1 ∧ T1 ∧ T1 ∧ (bif ((iparseE q3) == v48) then (tt ∧ T1 ∧ T1 ∧ T1 ∧ T1 ∧ tt ∧ tt ∧ (true = (Bool.and (q0.r == 0) (Bool.and (q0.sl == 0) (Bool.and (q0.st == 0) (Bool.and (q0.bal == 0) (Bool.and (q0.vote == 0) (Bool.and (@BEq.beq.{0} Bool (@instBEqOfDecidableEq.{0} Bool instDecidableEqBool) q0.same false) (Bool.and (q0.c.k == 0) (Bool.and (q0.c.num == 0) (Bool.and (@BEq.beq.{0} q2 (@List.instBEq.{0} UInt8 (@instBEqOfDecidableEq.{0} UInt8 instDecidableEqUInt8)) q0.c.foot (@List.nil.{0} UInt8)) (Bool.and (q0.c.rq == 0) (Bool.and (@BEq.beq.{0} q2 (@List.instBEq.{0} UInt8 (@instBEqOfDecidableEq.{0} UInt8 instDecidableEqUInt8)) q0.c.path (@List.nil.{0} UInt8)) (Bool.and (q0.c.mode == 0) (Bool.and (q0.c.n == 0) (Bool.and (q0.c.time == 0) (Bool.and (q0.a.s == 0) (Bool.and (q0.a.d0 == 0) (Bool.and (q0.a.d1 == 0) (Bool.and (q0.a.d2 == 0) (Bool.and (q0.a.d3 == 0) (Bool.and (q0.a.d4 == 0) (Bool.and (q0.a.d5 == 0) (Bool.and (q0.a.d6 == 0) true)))))))))))))))))))))) ∧ True) ∧ tt) else (false = false ∧ T1 ∧ tt ∧ tt ∧ (true = false ∧ True) ∧ tt))) else (tt ∧ tt ∧ (T1 ∧ True) ∧ tt ∧ T1 ∧ T1 ∧ (bif (Bool.and (q0.r == v6) (Bool.and (q0.sl == v8) (Bool.and (q0.st == v10) (Bool.and (q0.bal == v12) (Bool.and (q0.vote == v14) (Bool.and (@BEq.beq.{0} Bool (@instBEqOfDecidableEq.{0} Bool instDecidableEqBool) q0.same q1.same) (Bool.and (q0.c.k == v16) (Bool.and (q0.c.num == v18) (Bool.and (@BEq.beq.{0} q2 (@List.instBEq.{0} UInt8 (@instBEqOfDecidableEq.{0} UInt8 instDecidableEqUInt8)) q0.c.foot v20) (Bool.and (q0.c.rq == v22) (Bool.and (@BEq.beq.{0} q2 (@List.instBEq.{0} UInt8 (@instBEqOfDecidableEq.{0} UInt8 instDecidableEqUInt8)) q0.c.path v24) (Bool.and (q0.c.mode == v26) (Bool.and (q0.c.n == v28) (Bool.and (q0.c.time == v30) (Bool.and (q0.a.s == v32) (Bool.and (q0.a.d0 == v34) (Bool.and (q0.a.d1 == v36) (Bool.and (q0.a.d2 == v38) (Bool.and (q0.a.d3 == v40) (Bool.and (q0.a.d4 == v42) (Bool.and (q0.a.d5 == v44) (Bool.and (q0.a.d6 == v46) true)))))))))))))))))))))) then (tt ∧ (T1 ∧ (smallX q0) ∧ ((@Ne.{1} Int q0.st (0 : Int)) → (attGood q0))) ∧ ∀ v50 : (List AV), (v50 = (bytesAV (encI q0))) → T1 ∧ (T1 ∧ ((isBytes v50) ∧ (List.length v50) ≤ 9223372036854775807) ∧ (isBytes xs) ∧ (List.length xs) ≤ 9223372036854775807) ∧ T1 ∧ T1 ∧ tt ∧ tt ∧ tt ∧ (true = (@Decidable.decide ((bytesL v50) = q3) (@instDecidableEqList.{0} UInt8 instDecidableEqUInt8 (bytesL v50) q3)) ∧ True) ∧ tt) else (false = false ∧ T1 ∧ tt ∧ tt ∧ tt ∧ (true = false ∧ True) ∧ tt)))))))))) : inLawIParses0 xs :=
  Eq.mp (show _ = _ by kernel_rfl) h
end Go.Proofs.YtfoabkkkdcicgaaGreatDoor
/- The conditions hold: the document's reading of a state. -/
namespace Go.Proofs.YtfoabkkkdcicgaaGreatDoor
set_option linter.unusedVariables false
set_option linter.unusedSimpArgs false
open Go.RowKit
set_option maxRecDepth 100000

theorem sufId {m l : List UInt8} {e : Int} (h : m <:+ l) : idRest m e <:+ l := (idRest_suf _ _).trans h
theorem sufAt {m l : List UInt8} {e : Int} {k : Nat} (h : m <:+ l) : (atS m e k).1 <:+ l := (atS_suf _ _ _).trans h
theorem fstep {p : List UInt8 × Int} {l : List UInt8} {b : Bool} {q : List UInt8 × Int} (hp : p.1 <:+ l) (hq : q.1 <:+ l) : (if b = true then q else p).1 <:+ l := by cases b <;> assumption
theorem fR_suf (l : List UInt8) (e k : Int) : fR l e k <:+ l := by
  unfold fR
  have h1 : (f1 l e k).1 <:+ l := fstep (List.suffix_refl _) (tkRest_suf _ _ _)
  have h2 : (f2 l e k).1 <:+ l := fstep h1 (sufTx h1)
  have h3 : (f3 l e k).1 <:+ l := fstep h2 (sufSh h2)
  have h4 : (f4 l e k).1 <:+ l := fstep h3 (sufTx h3)
  have h5 : (f5 l e k).1 <:+ l := fstep h4 (sufTk h4)
  have h6 : (f6 l e k).1 <:+ l := fstep h5 (sufSh h5)
  exact fstep h6 (sufSh h6)
theorem sufCt {m l : List UInt8} {e : Int} (h : m <:+ l) : ctR m e <:+ l := ((fR_suf _ _ _).trans (tkRest_suf _ _ _)).trans h
set_option maxHeartbeats 2000000 in
theorem okRefXtake0 : OkRefXtake0 := by
  intro xs at' e hq
  refine vcRefXtake0 xs at' e ?_
  obtain ⟨hb, h1, h2⟩ := hq
  obtain ⟨l, rfl⟩ := hb.get
  simp only [length_bytesAV] at h2
  simp only [true_and, and_true, forall_eq, eq_self, bytesL_bytesAV, isBytes_bytesAV, length_bytesAV]
  refine ⟨⟨h1, h2⟩, ?_⟩
  simp (maxDischargeDepth := 20) only [refL_refAt, sufTk, sufSh, sufId, sufCt, sufAt, refL_suf, refAt_ge, refAt_le, true_and, and_true, wrap_by]
  simp only [← it1_1, ← it1_2, ← it2_1, ← it2_2, ← itSt_1, ← it3_1]
  have hr := inByteV_range (it2 (refL l at') e).1 (it2 (refL l at') e).2
  rw [← itSt_1] at hr
  refine cond_prop (fun h => cond_prop (fun hz => cond_prop (fun h0 => ?_) fun h0 => ?_) fun hz => ?_) fun h => cond_prop (fun h0 => ?_) fun h0 => ?_
  · have g0 : ¬ itSt (refL l at') e = 0 := by intro hz; simp at h0; omega
    have e3 : (it3 (refL l at') e).2 = 22 := by
      unfold it3
      rw [if_pos (of_decide_eq_true h), show tkErr (it2 (refL l at') e).1.length (it2 (refL l at') e).2 1 = 0 by simpa using hz]
      rfl
    have a41 := it4_1 (refL l at') e
    have a42 := it4_2 (refL l at') e
    rw [e3] at a41 a42
    simp only [← a41, ← a42, ← it5_1, ← it5_2, ← it6_1, ← it6_2]
    have hV : itV (refL l at') e = itVn (refL l at') e := if_neg g0
    have h8 : it8 (refL l at') e = atS (it6 (refL l at') e).1 (it6 (refL l at') e).2 7 := if_neg g0
    have F : itR (refL l at') e = (atS (it6 (refL l at') e).1 (it6 (refL l at') e).2 7).1 := by unfold itR; rw [h8]
    simp only [itVn, itA] at hV
    rw [e3] at hV
    rw [← hV]
    refine cond_prop (fun g0' => ?_) fun g0' => ?_
    · have z8 : (atS (it6 (refL l at') e).1 (it6 (refL l at') e).2 7).2 = 0 := by simpa using g0'
      refine ⟨by rw [hV]; exact ctC_small _ _, cond_prop (fun g => ?_) fun g => ?_⟩
      · have E := it_wrong (l := refL l at') (e := e) (by rw [Bool.not_eq_true'] at g; exact g)
        rw [h8, z8] at E
        have E' : itE (refL l at') e = 10 := E
        rw [F, itX_no (by rw [E']; decide), E']
        and_intros <;> first | with_reducible rfl | rfl
      · have E := it_right (l := refL l at') (e := e) (by rw [Bool.not_eq_false'] at g; exact g)
        rw [h8, z8] at E
        refine cond_prop (fun g2 => absurd z8 (by simpa using g2)) fun g2 => ?_
        rw [F, itX_ok E, E, z8, hV]
        and_intros <;> first | with_reducible rfl | rfl
    · have z8 : ¬ (atS (it6 (refL l at') e).1 (it6 (refL l at') e).2 7).2 = 0 := by simpa using g0'
      have E : itE (refL l at') e = (atS (it6 (refL l at') e).1 (it6 (refL l at') e).2 7).2 := by
        cases hr : rightI (itV (refL l at') e) with
        | true => rw [it_right hr, h8]
        | false => rw [it_wrong hr, h8]; unfold inFail; rw [if_neg z8]
      refine cond_prop (fun g2 => ?_) fun g2 => absurd (by simpa using g2) z8
      rw [F, itX_no (by rw [E]; exact z8), E]
      and_intros <;> first | with_reducible rfl | rfl
  · exfalso
    simp at h h0; omega
  · exfalso
    have := tk_zero (R := (it2 (refL l at') e).1) (e := (it2 (refL l at') e).2) (by rw [← itSt_1]; simp at h; omega)
    simp [this] at hz
  · have g0 : ¬ itSt (refL l at') e = 0 := by intro hz; simp at h0; omega
    have e3 : (it3 (refL l at') e).2 = tkErr (it2 (refL l at') e).1.length (it2 (refL l at') e).2 1 := by
      unfold it3
      rw [if_neg (of_decide_eq_false h)]
    rw [← e3]
    simp only [← it4_1, ← it4_2, ← it5_1, ← it5_2, ← it6_1, ← it6_2]
    have hV : itV (refL l at') e = itVn (refL l at') e := if_neg g0
    have h8 : it8 (refL l at') e = atS (it6 (refL l at') e).1 (it6 (refL l at') e).2 7 := if_neg g0
    have F : itR (refL l at') e = (atS (it6 (refL l at') e).1 (it6 (refL l at') e).2 7).1 := by unfold itR; rw [h8]
    simp only [itVn, itA] at hV
    rw [← hV]
    refine cond_prop (fun g0' => ?_) fun g0' => ?_
    · have z8 : (atS (it6 (refL l at') e).1 (it6 (refL l at') e).2 7).2 = 0 := by simpa using g0'
      refine ⟨by rw [hV]; exact ctC_small _ _, cond_prop (fun g => ?_) fun g => ?_⟩
      · have E := it_wrong (l := refL l at') (e := e) (by rw [Bool.not_eq_true'] at g; exact g)
        rw [h8, z8] at E
        have E' : itE (refL l at') e = 10 := E
        rw [F, itX_no (by rw [E']; decide), E']
        and_intros <;> first | with_reducible rfl | rfl
      · have E := it_right (l := refL l at') (e := e) (by rw [Bool.not_eq_false'] at g; exact g)
        rw [h8, z8] at E
        refine cond_prop (fun g2 => absurd z8 (by simpa using g2)) fun g2 => ?_
        rw [F, itX_ok E, E, z8, hV]
        and_intros <;> first | with_reducible rfl | rfl
    · have z8 : ¬ (atS (it6 (refL l at') e).1 (it6 (refL l at') e).2 7).2 = 0 := by simpa using g0'
      have E : itE (refL l at') e = (atS (it6 (refL l at') e).1 (it6 (refL l at') e).2 7).2 := by
        cases hr : rightI (itV (refL l at') e) with
        | true => rw [it_right hr, h8]
        | false => rw [it_wrong hr, h8]; unfold inFail; rw [if_neg z8]
      refine cond_prop (fun g2 => ?_) fun g2 => absurd (by simpa using g2) z8
      rw [F, itX_no (by rw [E]; exact z8), E]
      and_intros <;> first | with_reducible rfl | rfl
  · have g0 : itSt (refL l at') e = 0 := by simp at h0; omega
    have e3 : (it3 (refL l at') e).2 = tkErr (it2 (refL l at') e).1.length (it2 (refL l at') e).2 1 := by
      unfold it3
      rw [if_neg (of_decide_eq_false h)]
    rw [← e3]
    simp only [g0]
    have hV : itV (refL l at') e = ⟨idR (refL l at') e, idS (refL l at') e, 0, balV (it1 (refL l at') e).1 (it1 (refL l at') e).2, 0, false, zC, zA0⟩ := if_pos g0
    have h8 : it8 (refL l at') e = it3 (refL l at') e := if_pos g0
    have F : itR (refL l at') e = (it3 (refL l at') e).1 := by unfold itR; rw [h8]
    simp only [zC, zA0] at hV
    rw [← hV]
    refine cond_prop (fun g0' => ?_) fun g0' => ?_
    · have z8 : (it3 (refL l at') e).2 = 0 := by simpa using g0'
      refine ⟨by rw [hV]; exact ⟨Nat.zero_le _, Nat.zero_le _⟩, cond_prop (fun g => ?_) fun g => ?_⟩
      · have E := it_wrong (l := refL l at') (e := e) (by rw [Bool.not_eq_true'] at g; exact g)
        rw [h8, z8] at E
        have E' : itE (refL l at') e = 10 := E
        rw [F, itX_no (by rw [E']; decide), E']
        and_intros <;> first | with_reducible rfl | rfl
      · have E := it_right (l := refL l at') (e := e) (by rw [Bool.not_eq_false'] at g; exact g)
        rw [h8, z8] at E
        refine cond_prop (fun g2 => absurd z8 (by simpa using g2)) fun g2 => ?_
        rw [F, itX_ok E, E, z8, hV]
        and_intros <;> first | with_reducible rfl | rfl
    · have z8 : ¬ (it3 (refL l at') e).2 = 0 := by simpa using g0'
      have E : itE (refL l at') e = (it3 (refL l at') e).2 := by
        cases hr : rightI (itV (refL l at') e) with
        | true => rw [it_right hr, h8]
        | false => rw [it_wrong hr, h8]; unfold inFail; rw [if_neg z8]
      refine cond_prop (fun g2 => ?_) fun g2 => absurd (by simpa using g2) z8
      rw [F, itX_no (by rw [E]; exact z8), E]
      and_intros <;> first | with_reducible rfl | rfl
theorem okOf100 : OkOf100 := by
  intro x hq
  refine vcOf100 x ?_
  simp only [true_and, and_true, forall_eq, eq_self]
theorem okAnchor100 : OkAnchor100 := by
  intro hq
  refine vcAnchor100 ?_
  have e : encI ⟨1, 2, 0, 0, 0, false, ⟨0, 0, [], 0, [], 0, 0, 0⟩, ⟨0, 0, 0, 0, 0, 0, 0, 0⟩⟩ = [1, 2, 0, 0] := by decide +kernel
  simp only [true_and, and_true, forall_eq, eq_self, e, length_bytesAV]
  have o : ∀ i, i < 4 → okElem 1 (bytesAV [1, 2, 0, 0]) i := fun i h => okElem_bytes h
  have r : ∀ i, i < 4 → okRead [Kd.int .u8] (elemAt (bytesAV [1, 2, 0, 0]) i) 0 := fun i h => okRead_bytes h
  have i0 : rdInt (elemAt (bytesAV [1, 2, 0, 0]) 0) 0 = 1 := rfl
  have i1 : rdInt (elemAt (bytesAV [1, 2, 0, 0]) 1) 0 = 2 := rfl
  have i2 : rdInt (elemAt (bytesAV [1, 2, 0, 0]) 2) 0 = 0 := rfl
  have i3 : rdInt (elemAt (bytesAV [1, 2, 0, 0]) 3) 0 = 0 := rfl
  simp [i0, i1, i2, i3, o, r, smallX]
theorem sufIt {m l : List UInt8} {e : Int} (h : m <:+ l) : itR m e <:+ l := by
  refine List.IsSuffix.trans ?_ h
  have h1 : (it1 m e).1 <:+ m := by rw [it1_1]; exact idRest_suf _ _
  have h2 : (it2 m e).1 <:+ m := by rw [it2_1]; exact sufSh h1
  have h3 : (it3 m e).1 <:+ m := by rw [it3_1]; exact sufTk h2
  have h4 : (it4 m e).1 <:+ m := by rw [it4_1]; exact sufSh h3
  have h5 : (it5 m e).1 <:+ m := by rw [it5_1]; exact sufTk h4
  have h6 : (it6 m e).1 <:+ m := by rw [it6_1]; exact sufCt h5
  unfold itR it8
  split
  · exact h3
  · exact sufAt h6
theorem itX_small (l : List UInt8) (e : Int) : smallX (itX l e) := by
  unfold itX
  split
  · unfold itV
    split
    · exact ⟨Nat.zero_le _, Nat.zero_le _⟩
    · exact ctC_small _ _
  · exact ⟨by decide, by decide⟩
theorem okLawIParses0 : OkLawIParses0 := by
  intro xs hq
  refine vcLawIParses0 xs ?_
  obtain ⟨hb, hl⟩ := hq
  obtain ⟨l, rfl⟩ := hb.get
  have r0 : refL l 0 = l := rfl
  have rr : refL l (refAt l (itR l 0)) = itR l 0 := refL_refAt (sufIt (List.suffix_refl _))
  have ie : inEnd (itR l 0) (itE l 0) = iparseE l := rfl
  have ra := refAt_range (sufIt (e := 0) (List.suffix_refl l))
  simp only [true_and, and_true, forall_eq, eq_self, bytesL_bytesAV, isBytes_bytesAV, length_bytesAV, r0, rr, ie] at hl ⊢
  refine cond_prop (fun h => trivial) fun h => ?_
  have hlen : ¬ (400 : Int) < (l.length : Int) := of_decide_eq_false h
  refine ⟨by omega, ⟨by omega, by omega⟩, ⟨ra.1, ra.2⟩, ?_⟩
  refine cond_prop (fun g => by simp at g) fun _ => cond_prop (fun g => ?_) fun g => ?_
  · have ne : ¬ iparseE l = 0 := by simpa using g
    refine cond_prop (fun _ => ?_) fun g2 => by simp at g2
    have : iparseX l = zI := by unfold iparseX; rw [if_neg ne]
    rw [this]; decide +kernel
  · have e0 : iparseE l = 0 := by simpa using g
    obtain ⟨hL, hR, hX⟩ := back_parse e0
    refine cond_prop (fun _ => ?_) fun g2 => ?_
    · have hs : smallX (iparseX l) := by rw [hX]; exact itX_small _ _
      rw [← hL]
      refine ⟨⟨hs, fun h => ((rightI_parts hR).2.2.2.2 h).2.2.2⟩, ⟨by omega, by omega⟩, by simp⟩
    · exfalso
      rw [hX] at g2
      simp at g2
end Go.Proofs.YtfoabkkkdcicgaaGreatDoor
/- The contracts are met. -/
namespace Go.Proofs.YtfoabkkkdcicgaaGreatDoor
set_option linter.unusedVariables false
set_option linter.unusedSimpArgs false
open Go.RowKit
theorem sndRefXtake : Sound Tryz.prog (lookΓ gamRefXtake) := sound_of _ fun p hp => by
  simp only [gamRefXtake, List.mem_cons, List.not_mem_nil, or_false] at hp
  rcases hp with rfl | rfl | rfl | rfl | rfl | rfl | rfl
  · exact meetsRefTakeID.orNil
  · exact meetsRefTakeBal.orNil
  · exact meetsRefByte.orNil
  · exact meetsRefTruth.orNil
  · exact meetsRefCtake.orNil
  · exact meetsRefATake.orNil
  · exact meetsXright.orNil
set_option maxHeartbeats 4000000 in
theorem meetsRefXtake : Meets Tryz.prog 9 refXtakeF := by
  refine meets_of_awp (Γ := lookΓ gamRefXtake) (L := fun _ _ => none) sndRefXtake mixedOrders Tryz.func9 rfl Tryz.call9 ?_
  intro args q r hF hq ho
  unfold refXtakeF at hF
  split at hF
  · cases hF
    exact ⟨by simp only [List.length_cons, List.length_nil]; decide, okRefXtake0 _ _ _ hq⟩
  · cases hF
theorem sndOf10 : Sound Tryz.prog (lookΓ gamOf10) := sound_of _ fun p hp => by
  simp [gamOf10] at hp
set_option maxHeartbeats 4000000 in
theorem meetsOf10 : Meets Tryz.prog 11 of10F := by
  refine meets_of_awp (Γ := lookΓ gamOf10) (L := fun _ _ => none) sndOf10 mixedOrders Tryz.func11 rfl Tryz.call11 ?_
  intro args q r hF hq ho
  unfold of10F at hF
  split at hF
  · split at hF
    · rename_i x hzx
      obtain rfl := instOf_some hzx
      cases hF
      exact ⟨by simp only [List.length_cons, List.length_nil]; decide, okOf100 _ hq⟩
    · cases hF
  · cases hF
theorem sndAnchor10 : Sound Tryz.prog (lookΓ gamAnchor10) := sound_of _ fun p hp => by
  simp only [gamAnchor10, List.mem_cons, List.not_mem_nil, or_false] at hp
  rcases hp with rfl | rfl
  · exact meetsInew.orNil
  · exact meetsIbytes.orNil
set_option maxHeartbeats 4000000 in
theorem meetsAnchor10 : Meets Tryz.prog 7 anchor10F := by
  refine meets_of_awp (Γ := lookΓ gamAnchor10) (L := fun _ _ => none) sndAnchor10 mixedOrders Tryz.func7 rfl Tryz.call7 ?_
  intro args q r hF hq ho
  unfold anchor10F at hF
  split at hF
  · cases hF
    exact ⟨by simp only [List.length_cons, List.length_nil]; decide, okAnchor100 hq⟩
  · cases hF
theorem sndLawIParses : Sound Tryz.prog (lookΓ gamLawIParses) := sound_of _ fun p hp => by
  simp only [gamLawIParses, List.mem_cons, List.not_mem_nil, or_false] at hp
  rcases hp with rfl | rfl | rfl | rfl | rfl | rfl | rfl
  · exact meetsAnchor10.orNil
  · exact meetsIparse.orNil
  · exact meetsRefXtake.orNil
  · exact meetsRefEnd.orNil
  · exact meetsOf10.orNil
  · exact meetsIbytes.orNil
  · exact meetsSameD.orNil
set_option maxHeartbeats 4000000 in
theorem meetsLawIParses : Meets Tryz.prog 3 lawIParsesF := by
  refine meets_of_awp (Γ := lookΓ gamLawIParses) (L := fun _ _ => none) sndLawIParses mixedOrders Tryz.func3 rfl Tryz.call3 ?_
  intro args q r hF hq ho
  unfold lawIParsesF at hF
  split at hF
  · cases hF
    exact ⟨by simp only [List.length_cons, List.length_nil]; decide, okLawIParses0 _ hq⟩
  · cases hF
end Go.Proofs.YtfoabkkkdcicgaaGreatDoor
