/- Contracts by content, their conditions, and that they are met: MsgR. -/
import Derived.Test.YtpomloangafbkaaGreatDoorLaxPkMsgS
import Derived.Test.YtpomloangafbkaaGreatDoorMsgTP
import Derived.Test.YtpomloangafbkaaGreatDoorLaxPkInstV
/- Contracts by content, and the conditions that their code must meet. -/
namespace Go.Proofs.YtpomloangafbkaaGreatDoor
set_option linter.unusedVariables false
set_option linter.unusedSimpArgs false
open Go.RowKit
def mreadF : Con
  | [.val (.str t)] => (some (t.length ≤ 600000, ⟨.tup [.agg (msgL (mreadX t)), .int .i64 (mreadE t)], none, none⟩))
  | _ => none
def gamMread : List (Nat × Con) := [(39, splitNF.orNil), (53, mkindF.orNil), (54, cutSF.orNil), (55, atoiF.orNil), (40, readIDF.orNil), (41, readBalF.orNil), (14, ireadF.orNil), (17, mshowF.orNil)]
def lpMread0 (t : List UInt8) : Nat → Option LoopPlan := fun _ => none
def inMread0 (t : List UInt8) : Prop := awp [] (lpMread0 t) (lookΓ gamMread) Tryz.prog Tryz.f21.ntmps 0 (Tryz.f21.body.getD .skip) (entrySt [.val (.str t)]) (exitQ Tryz.prog Tryz.f21.results.toList [] ⟨.tup [.agg (msgL (mreadX t)), .int .i64 (mreadE t)], none, none⟩)
def OkMread0 : Prop := ∀ (t : List UInt8), t.length ≤ 600000 → inMread0 t
def lawMTextsF : Con
  | [.val (.agg zcm)] => (match msgOf zcm with | some m => some (maxX m.x, ⟨.bool true, none, none⟩) | _ => none)
  | _ => none
def gamLawMTexts : List (Nat × Con) := [(15, anchor11F.orNil), (16, small11F.orNil), (18, of11F.orNil), (19, refMF.orNil), (17, mshowF.orNil), (21, mreadF.orNil), (20, head11F.orNil), (9, ishowF.orNil)]
def lpLawMTexts0 (m : MsgP) : Nat → Option LoopPlan := fun _ => none
def inLawMTexts0 (m : MsgP) : Prop := awp [] (lpLawMTexts0 m) (lookΓ gamLawMTexts) Tryz.prog Tryz.f5.ntmps 0 (Tryz.f5.body.getD .skip) (entrySt [.val (.agg (msgL m))]) (exitQ Tryz.prog Tryz.f5.results.toList [] ⟨.bool true, none, none⟩)
def OkLawMTexts0 : Prop := ∀ (m : MsgP), maxX m.x → (rangeM m) → inLawMTexts0 m
def lawMReadsF : Con
  | [.val (.str t)] => (some (t.length ≤ 9223372036854775807, ⟨.bool true, none, none⟩))
  | _ => none
def gamLawMReads : List (Nat × Con) := [(15, anchor11F.orNil), (18, of11F.orNil), (19, refMF.orNil), (17, mshowF.orNil), (21, mreadF.orNil), (20, head11F.orNil)]
def lpLawMReads0 (t : List UInt8) : Nat → Option LoopPlan := fun _ => none
def inLawMReads0 (t : List UInt8) : Prop := awp [] (lpLawMReads0 t) (lookΓ gamLawMReads) Tryz.prog Tryz.f6.ntmps 0 (Tryz.f6.body.getD .skip) (entrySt [.val (.str t)]) (exitQ Tryz.prog Tryz.f6.results.toList [] ⟨.bool true, none, none⟩)
def OkLawMReads0 : Prop := ∀ (t : List UInt8), t.length ≤ 9223372036854775807 → inLawMReads0 t
end Go.Proofs.YtpomloangafbkaaGreatDoor
/- What the verification conditions come to: printed by a program of ours (wip/lax/ex/Norm.lean). -/
namespace Go.Proofs.YtpomloangafbkaaGreatDoor
set_option linter.unusedVariables false
open Go.RowKit
set_option maxRecDepth 100000
theorem vcMread0 (t : (List UInt8)) (h : let q0 := (mreadX t); let q1 := (InstP.mk 0 0 0 0 0 false (CmdP.mk 0 0 [] 0 [] 0 0 0) (AttP.mk 0 0 0 0 0 0 0 0)); let w1_x := (q0.k = 0 ∧ q0.src = 0 ∧ q0.dst = 0 ∧ q0.r = 0 ∧ q0.s = 0 ∧ q0.b = 0 ∧ q0.ok = false ∧ q0.x.r = 0 ∧ q0.x.sl = 0 ∧ q0.x.st = 0 ∧ q0.x.bal = 0 ∧ q0.x.vote = 0 ∧ q0.x.same = false ∧ q0.x.c.k = 0 ∧ q0.x.c.num = 0 ∧ q0.x.c.foot = [] ∧ q0.x.c.rq = 0 ∧ q0.x.c.path = [] ∧ q0.x.c.mode = 0 ∧ q0.x.c.n = 0 ∧ q0.x.c.time = 0 ∧ q0.x.a.s = 0 ∧ q0.x.a.d0 = 0 ∧ q0.x.a.d1 = 0 ∧ q0.x.a.d2 = 0 ∧ q0.x.a.d3 = 0 ∧ q0.x.a.d4 = 0 ∧ q0.x.a.d5 = 0 ∧ q0.x.a.d6 = 0 ∧ (mreadE t) = 10 ∧ True); let w5_x := (tt ∧ tt ∧ T1 ∧ tt ∧ T1 ∧ tt ∧ tt ∧ w1_x ∧ tt); let w7_x := (tt ∧ T1 ∧ tt ∧ T1 ∧ tt ∧ tt ∧ w1_x ∧ tt); let w8_x := [(AV.str []), (AV.str []), (AV.str []), (AV.str []), (AV.str []), (AV.str [])]; (tt ∧ T1 ∧ T1 ∧ tt ∧ T1 ∧ (T1 ∧ (List.length t) < 4294967281 ∧ 1 ≤ 1 ∧ (1 : Int) ≤ (6 : Int) ∧ (6 : Int) ≤ (1000000 : Int)) ∧ ∀ v0 : (List AV), let w0_0 := (@catL AV v0 w8_x); let w2_0 := (@BEq.beq.{0} (List UInt8) (@List.instBEq.{0} UInt8 (@instBEqOfDecidableEq.{0} UInt8 instDecidableEqUInt8)) (rdStr (elemAt w0_0 4) 0) [(121 : UInt8), 101, 115]); let w3_0 := (ireadX (rdStr (elemAt w0_0 5) 0)); let w6_0 := ((List.length w0_0) : Int); let w9_0 := (rdStr (elemAt w0_0 2) 0); (v0 = (strsAV (splitM t [(32 : UInt8)] 6))) → ∀ v2 : Nat, (v2 = (List.length (strsAV (splitM t [(32 : UInt8)] 6)))) → (v2 = (List.length v0) ∧ (((List.length v0) + 6) * 16) ≤ 140737488355328 ∧ ((List.length v0) + 6) ≤ 9223372036854775807 ∧ (okWidth 1 v0) ∧ (okWidth 1 w8_x)) ∧ T1 ∧ tt ∧ T1 ∧ ((0 : Int) ≤ (0 : Int) ∧ (0 : Int) < w6_0 ∧ (okElem 1 w0_0 0)) ∧ (okRead [Kd.str] (elemAt w0_0 0) 0) ∧ (T1 ∧ True) ∧ ∀ v4 : Int, (v4 = (kindM (rdStr (elemAt w0_0 0) 0))) → T1 ∧ ((0 : Int) ≤ (4 : Int) ∧ (4 : Int) < w6_0 ∧ (okElem 1 w0_0 4)) ∧ (okRead [Kd.str] (elemAt w0_0 4) 0) ∧ T1 ∧ T1 ∧ T1 ∧ tt ∧ tt ∧ tt ∧ T1 ∧ ((0 : Int) ≤ (1 : Int) ∧ (1 : Int) < w6_0 ∧ (okElem 1 w0_0 1)) ∧ (okRead [Kd.str] (elemAt w0_0 1) 0) ∧ (T1 ∧ (List.length (rdStr (elemAt w0_0 1) 0)) < 4294967281) ∧ ∀ v6 : (List UInt8), (v6 = (Go.Lib.cut (rdStr (elemAt w0_0 1) 0) [(62 : UInt8)]).1) → ∀ v8 : (List UInt8), (v8 = (Go.Lib.cut (rdStr (elemAt w0_0 1) 0) [(62 : UInt8)]).2.1) → T1 ∧ T1 ∧ T1 ∧ T1 ∧ T1 ∧ T1 ∧ T1 ∧ tt ∧ T1 ∧ (T1 ∧ (List.length v6) ≤ 281474976710656) ∧ ∀ v10 : Int, (v10 = (atoiV v6)) → T1 ∧ T1 ∧ T1 ∧ T1 ∧ tt ∧ tt ∧ T1 ∧ (T1 ∧ (List.length v8) ≤ 281474976710656) ∧ ∀ v12 : Int, (v12 = (atoiV v8)) → T1 ∧ T1 ∧ T1 ∧ T1 ∧ tt ∧ tt ∧ T1 ∧ ((0 : Int) ≤ (2 : Int) ∧ (2 : Int) < w6_0 ∧ (okElem 1 w0_0 2)) ∧ (okRead [Kd.str] (elemAt w0_0 2) 0) ∧ (T1 ∧ (List.length w9_0) ≤ 100000000) ∧ ∀ v14 : Int, (v14 = (ridR w9_0)) → ∀ v16 : Int, (v16 = (ridS w9_0)) → ∀ v18 : Int, (v18 = (ridE w9_0)) → T1 ∧ T1 ∧ T1 ∧ T1 ∧ tt ∧ tt ∧ T1 ∧ ((0 : Int) ≤ (3 : Int) ∧ (3 : Int) < w6_0 ∧ (okElem 1 w0_0 3)) ∧ (okRead [Kd.str] (elemAt w0_0 3) 0) ∧ (T1 ∧ (List.length (rdStr (elemAt w0_0 3) 0)) ≤ 100000000) ∧ ∀ v20 : Int, (v20 = (rbalV (rdStr (elemAt w0_0 3) 0))) → ∀ v22 : Int, (v22 = (rbalE (rdStr (elemAt w0_0 3) 0))) → T1 ∧ T1 ∧ T1 ∧ T1 ∧ tt ∧ tt ∧ T1 ∧ tt ∧ T1 ∧ (bif (v4 != 6) then (tt ∧ T1 ∧ ((0 : Int) ≤ (5 : Int) ∧ (5 : Int) < w6_0 ∧ (okElem 1 w0_0 5)) ∧ (okRead [Kd.str] (elemAt w0_0 5) 0) ∧ (T1 ∧ (List.length (rdStr (elemAt w0_0 5) 0)) ≤ 700000) ∧ ∀ v24 : Int, (v24 = w3_0.r) → ∀ v26 : Int, (v26 = w3_0.sl) → ∀ v28 : Int, (v28 = w3_0.st) → ∀ v30 : Int, (v30 = w3_0.bal) → ∀ v32 : Int, (v32 = w3_0.vote) → ∀ v34 : Int, (v34 = w3_0.c.k) → ∀ v36 : Int, (v36 = w3_0.c.num) → ∀ v38 : (List UInt8), (v38 = w3_0.c.foot) → ∀ v40 : Int, (v40 = w3_0.c.rq) → ∀ v42 : (List UInt8), (v42 = w3_0.c.path) → ∀ v44 : Int, (v44 = w3_0.c.mode) → ∀ v46 : Int, (v46 = w3_0.c.n) → ∀ v48 : Int, (v48 = w3_0.c.time) → ∀ v50 : Int, (v50 = w3_0.a.s) → ∀ v52 : Int, (v52 = w3_0.a.d0) → ∀ v54 : Int, (v54 = w3_0.a.d1) → ∀ v56 : Int, (v56 = w3_0.a.d2) → ∀ v58 : Int, (v58 = w3_0.a.d3) → ∀ v60 : Int, (v60 = w3_0.a.d4) → ∀ v62 : Int, (v62 = w3_0.a.d5) → ∀ v64 : Int, let w4_64 := (InstP.mk v24 v26 v28 v30 v32 w3_0.same (CmdP.mk v34 v36 v38 v40 v42 v44 v46 v48) (AttP.mk v50 v52 v54 v56 v58 v60 v62 v64)); (v64 = w3_0.a.d6) → ∀ v66 : Int, (v66 = (ireadE (rdStr (elemAt w0_0 5) 0))) → T1 ∧ T1 ∧ T1 ∧ T1 ∧ tt ∧ tt ∧ tt ∧ (T1 ∧ (smallX w4_64)) ∧ ∀ v68 : (List UInt8), (v68 = (mshowV (MsgP.mk v4 v10 v12 v14 v16 v20 w2_0 w4_64))) → ∀ v70 : Int, (v70 = (mshowE (MsgP.mk v4 v10 v12 v14 v16 v20 w2_0 w4_64))) → T1 ∧ T1 ∧ T1 ∧ T1 ∧ T1 ∧ tt ∧ T1 ∧ T1 ∧ T1 ∧ (bif (v70 != 0) then w5_x else (T1 ∧ T1 ∧ T1 ∧ T1 ∧ (bif (Bool.not (@BEq.beq.{0} (List UInt8) (@List.instBEq.{0} UInt8 (@instBEqOfDecidableEq.{0} UInt8 instDecidableEqUInt8)) v68 t)) then w7_x else (tt ∧ tt ∧ tt ∧ T1 ∧ tt ∧ tt ∧ (q0.k = v4 ∧ q0.src = v10 ∧ q0.dst = v12 ∧ q0.r = v14 ∧ q0.s = v16 ∧ q0.b = v20 ∧ q0.ok = w2_0 ∧ q0.x.r = v24 ∧ q0.x.sl = v26 ∧ q0.x.st = v28 ∧ q0.x.bal = v30 ∧ q0.x.vote = v32 ∧ q0.x.same = w3_0.same ∧ q0.x.c.k = v34 ∧ q0.x.c.num = v36 ∧ q0.x.c.foot = v38 ∧ q0.x.c.rq = v40 ∧ q0.x.c.path = v42 ∧ q0.x.c.mode = v44 ∧ q0.x.c.n = v46 ∧ q0.x.c.time = v48 ∧ q0.x.a.s = v50 ∧ q0.x.a.d0 = v52 ∧ q0.x.a.d1 = v54 ∧ q0.x.a.d2 = v56 ∧ q0.x.a.d3 = v58 ∧ q0.x.a.d4 = v60 ∧ q0.x.a.d5 = v62 ∧ q0.x.a.d6 = v64 ∧ (mreadE t) = 0 ∧ True) ∧ tt))))) else (tt ∧ tt ∧ (T1 ∧ (smallX q1)) ∧ ∀ v24 : (List UInt8), (v24 = (mshowV (MsgP.mk v4 v10 v12 v14 v16 v20 w2_0 q1))) → ∀ v26 : Int, (v26 = (mshowE (MsgP.mk v4 v10 v12 v14 v16 v20 w2_0 q1))) → T1 ∧ T1 ∧ T1 ∧ T1 ∧ T1 ∧ tt ∧ T1 ∧ T1 ∧ T1 ∧ (bif (v26 != 0) then w5_x else (T1 ∧ T1 ∧ T1 ∧ T1 ∧ (bif (Bool.not (@BEq.beq.{0} (List UInt8) (@List.instBEq.{0} UInt8 (@instBEqOfDecidableEq.{0} UInt8 instDecidableEqUInt8)) v24 t)) then w7_x else (tt ∧ tt ∧ tt ∧ T1 ∧ tt ∧ tt ∧ (q0.k = v4 ∧ q0.src = v10 ∧ q0.dst = v12 ∧ q0.r = v14 ∧ q0.s = v16 ∧ q0.b = v20 ∧ q0.ok = w2_0 ∧ q0.x.r = 0 ∧ q0.x.sl = 0 ∧ q0.x.st = 0 ∧ q0.x.bal = 0 ∧ q0.x.vote = 0 ∧ q0.x.same = false ∧ q0.x.c.k = 0 ∧ q0.x.c.num = 0 ∧ q0.x.c.foot = [] ∧ q0.x.c.rq = 0 ∧ q0.x.c.path = [] ∧ q0.x.c.mode = 0 ∧ q0.x.c.n = 0 ∧ q0.x.c.time = 0 ∧ q0.x.a.s = 0 ∧ q0.x.a.d0 = 0 ∧ q0.x.a.d1 = 0 ∧ q0.x.a.d2 = 0 ∧ q0.x.a.d3 = 0 ∧ q0.x.a.d4 = 0 ∧ q0.x.a.d5 = 0 ∧ q0.x.a.d6 = 0 ∧ (mreadE t) = 0 ∧ True) ∧ tt)))))))) : inMread0 t :=
  Eq.mp (show _ = _ by kernel_rfl) h
theorem vcLawMTexts0 (m : MsgP) (h : let w3_x := (true = false ∧ True); let w0_x := (false = false ∧ T1 ∧ tt ∧ tt ∧ w3_x ∧ tt); let w1_x := (false = false ∧ T1 ∧ false = false ∧ T1 ∧ false = false ∧ T1 ∧ tt ∧ tt ∧ w3_x ∧ tt); let w2_x := (false = false ∧ T1 ∧ false = false ∧ T1 ∧ tt ∧ tt ∧ w3_x ∧ tt); (tt ∧ T1 ∧ T1 ∧ tt ∧ (T1 ∧ True) ∧ T1 ∧ tt ∧ tt ∧ (T1 ∧ (maxX m.x)) ∧ T1 ∧ (bif (Bool.not (smallB m.x 200)) then (tt ∧ T1 ∧ tt ∧ tt ∧ (tt ∧ True) ∧ tt) else (tt ∧ tt ∧ (T1 ∧ (smallX m.x)) ∧ ∀ v0 : (List UInt8), (v0 = (mshowV m)) → ∀ v2 : Int, (v2 = (mshowE m)) → T1 ∧ T1 ∧ T1 ∧ T1 ∧ T1 ∧ tt ∧ tt ∧ (T1 ∧ True) ∧ (T1 ∧ (smallX m.x)) ∧ T1 ∧ (bif (Bool.not (rightM m)) then (tt ∧ T1 ∧ T1 ∧ T1 ∧ (bif (v2 == 10) then (T1 ∧ T1 ∧ T1 ∧ T1 ∧ tt ∧ tt ∧ (true = (@BEq.beq.{0} (List UInt8) (@List.instBEq.{0} UInt8 (@instBEqOfDecidableEq.{0} UInt8 instDecidableEqUInt8)) v0 (@List.nil.{0} UInt8)) ∧ True) ∧ tt) else w0_x)) else (tt ∧ tt ∧ (T1 ∧ True) ∧ (T1 ∧ (rightM m) = true) ∧ ∀ v4 : (List UInt8), (v4 = (headM m)) → T1 ∧ tt ∧ T1 ∧ tt ∧ T1 ∧ (bif (m.k != 6) then (tt ∧ T1 ∧ tt ∧ (T1 ∧ (smallX m.x)) ∧ ∀ v6 : (List UInt8), (v6 = (ishowV m.x)) → ∀ v8 : Int, (v8 = (ishowE m.x)) → T1 ∧ T1 ∧ T1 ∧ T1 ∧ T1 ∧ tt ∧ T1 ∧ T1 ∧ (bif (v8 != 0) then (tt ∧ T1 ∧ tt ∧ tt ∧ w3_x ∧ tt) else (tt ∧ T1 ∧ T1 ∧ (1 + (List.length v6)) ≤ 9223372036854775807 ∧ ((List.length v4) + (List.length (@catL UInt8 [(32 : UInt8)] v6))) ≤ 9223372036854775807 ∧ T1 ∧ tt ∧ T1 ∧ (T1 ∧ (List.length v0) ≤ 600000) ∧ ∀ v10 : Int, (v10 = (mreadX v0).k) → ∀ v12 : Int, (v12 = (mreadX v0).src) → ∀ v14 : Int, (v14 = (mreadX v0).dst) → ∀ v16 : Int, (v16 = (mreadX v0).r) → ∀ v18 : Int, (v18 = (mreadX v0).s) → ∀ v20 : Int, (v20 = (mreadX v0).b) → ∀ v22 : Int, (v22 = (mreadX v0).x.r) → ∀ v24 : Int, (v24 = (mreadX v0).x.sl) → ∀ v26 : Int, (v26 = (mreadX v0).x.st) → ∀ v28 : Int, (v28 = (mreadX v0).x.bal) → ∀ v30 : Int, (v30 = (mreadX v0).x.vote) → ∀ v32 : Int, (v32 = (mreadX v0).x.c.k) → ∀ v34 : Int, (v34 = (mreadX v0).x.c.num) → ∀ v36 : (List UInt8), (v36 = (mreadX v0).x.c.foot) → ∀ v38 : Int, (v38 = (mreadX v0).x.c.rq) → ∀ v40 : (List UInt8), (v40 = (mreadX v0).x.c.path) → ∀ v42 : Int, (v42 = (mreadX v0).x.c.mode) → ∀ v44 : Int, (v44 = (mreadX v0).x.c.n) → ∀ v46 : Int, (v46 = (mreadX v0).x.c.time) → ∀ v48 : Int, (v48 = (mreadX v0).x.a.s) → ∀ v50 : Int, (v50 = (mreadX v0).x.a.d0) → ∀ v52 : Int, (v52 = (mreadX v0).x.a.d1) → ∀ v54 : Int, (v54 = (mreadX v0).x.a.d2) → ∀ v56 : Int, (v56 = (mreadX v0).x.a.d3) → ∀ v58 : Int, (v58 = (mreadX v0).x.a.d4) → ∀ v60 : Int, (v60 = (mreadX v0).x.a.d5) → ∀ v62 : Int, (v62 = (mreadX v0).x.a.d6) → ∀ v64 : Int, (v64 = (mreadE v0)) → T1 ∧ T1 ∧ T1 ∧ T1 ∧ tt ∧ T1 ∧ tt ∧ T1 ∧ T1 ∧ T1 ∧ (bif (v2 == 0) then (T1 ∧ T1 ∧ T1 ∧ T1 ∧ T1 ∧ (bif (@BEq.beq.{0} (List UInt8) (@List.instBEq.{0} UInt8 (@instBEqOfDecidableEq.{0} UInt8 instDecidableEqUInt8)) v0 (@catL UInt8 v4 (@catL UInt8 [(32 : UInt8)] v6))) then (T1 ∧ T1 ∧ T1 ∧ T1 ∧ (bif (v64 == 0) then (tt ∧ tt ∧ T1 ∧ T1 ∧ T1 ∧ tt ∧ tt ∧ (true = (Bool.and (v10 == m.k) (Bool.and (v12 == m.src) (Bool.and (v14 == m.dst) (Bool.and (v16 == m.r) (Bool.and (v18 == m.s) (Bool.and (v20 == m.b) (Bool.and (@BEq.beq.{0} Bool (@instBEqOfDecidableEq.{0} Bool instDecidableEqBool) (mreadX v0).ok m.ok) (Bool.and (v22 == m.x.r) (Bool.and (v24 == m.x.sl) (Bool.and (v26 == m.x.st) (Bool.and (v28 == m.x.bal) (Bool.and (v30 == m.x.vote) (Bool.and (@BEq.beq.{0} Bool (@instBEqOfDecidableEq.{0} Bool instDecidableEqBool) (mreadX v0).x.same m.x.same) (Bool.and (v32 == m.x.c.k) (Bool.and (v34 == m.x.c.num) (Bool.and (@BEq.beq.{0} (List UInt8) (@List.instBEq.{0} UInt8 (@instBEqOfDecidableEq.{0} UInt8 instDecidableEqUInt8)) v36 m.x.c.foot) (Bool.and (v38 == m.x.c.rq) (Bool.and (@BEq.beq.{0} (List UInt8) (@List.instBEq.{0} UInt8 (@instBEqOfDecidableEq.{0} UInt8 instDecidableEqUInt8)) v40 m.x.c.path) (Bool.and (v42 == m.x.c.mode) (Bool.and (v44 == m.x.c.n) (Bool.and (v46 == m.x.c.time) (Bool.and (v48 == m.x.a.s) (Bool.and (v50 == m.x.a.d0) (Bool.and (v52 == m.x.a.d1) (Bool.and (v54 == m.x.a.d2) (Bool.and (v56 == m.x.a.d3) (Bool.and (v58 == m.x.a.d4) (Bool.and (v60 == m.x.a.d5) (Bool.and (v62 == m.x.a.d6) true))))))))))))))))))))))))))))) ∧ True) ∧ tt) else w0_x)) else w2_x)) else w1_x)))) else (tt ∧ T1 ∧ (T1 ∧ (List.length v0) ≤ 600000) ∧ ∀ v6 : Int, (v6 = (mreadX v0).k) → ∀ v8 : Int, (v8 = (mreadX v0).src) → ∀ v10 : Int, (v10 = (mreadX v0).dst) → ∀ v12 : Int, (v12 = (mreadX v0).r) → ∀ v14 : Int, (v14 = (mreadX v0).s) → ∀ v16 : Int, (v16 = (mreadX v0).b) → ∀ v18 : Int, (v18 = (mreadX v0).x.r) → ∀ v20 : Int, (v20 = (mreadX v0).x.sl) → ∀ v22 : Int, (v22 = (mreadX v0).x.st) → ∀ v24 : Int, (v24 = (mreadX v0).x.bal) → ∀ v26 : Int, (v26 = (mreadX v0).x.vote) → ∀ v28 : Int, (v28 = (mreadX v0).x.c.k) → ∀ v30 : Int, (v30 = (mreadX v0).x.c.num) → ∀ v32 : (List UInt8), (v32 = (mreadX v0).x.c.foot) → ∀ v34 : Int, (v34 = (mreadX v0).x.c.rq) → ∀ v36 : (List UInt8), (v36 = (mreadX v0).x.c.path) → ∀ v38 : Int, (v38 = (mreadX v0).x.c.mode) → ∀ v40 : Int, (v40 = (mreadX v0).x.c.n) → ∀ v42 : Int, (v42 = (mreadX v0).x.c.time) → ∀ v44 : Int, (v44 = (mreadX v0).x.a.s) → ∀ v46 : Int, (v46 = (mreadX v0).x.a.d0) → ∀ v48 : Int, (v48 = (mreadX v0).x.a.d1) → ∀ v50 : Int, (v50 = (mreadX v0).x.a.d2) → ∀ v52 : Int, (v52 = (mreadX v0).x.a.d3) → ∀ v54 : Int, (v54 = (mreadX v0).x.a.d4) → ∀ v56 : Int, (v56 = (mreadX v0).x.a.d5) → ∀ v58 : Int, (v58 = (mreadX v0).x.a.d6) → ∀ v60 : Int, (v60 = (mreadE v0)) → T1 ∧ T1 ∧ T1 ∧ T1 ∧ tt ∧ T1 ∧ tt ∧ T1 ∧ T1 ∧ T1 ∧ (bif (v2 == 0) then (T1 ∧ T1 ∧ T1 ∧ T1 ∧ T1 ∧ (bif (@BEq.beq.{0} (List UInt8) (@List.instBEq.{0} UInt8 (@instBEqOfDecidableEq.{0} UInt8 instDecidableEqUInt8)) v0 v4) then (T1 ∧ T1 ∧ T1 ∧ T1 ∧ (bif (v60 == 0) then (tt ∧ tt ∧ T1 ∧ T1 ∧ T1 ∧ tt ∧ tt ∧ (true = (Bool.and (v6 == m.k) (Bool.and (v8 == m.src) (Bool.and (v10 == m.dst) (Bool.and (v12 == m.r) (Bool.and (v14 == m.s) (Bool.and (v16 == m.b) (Bool.and (@BEq.beq.{0} Bool (@instBEqOfDecidableEq.{0} Bool instDecidableEqBool) (mreadX v0).ok m.ok) (Bool.and (v18 == m.x.r) (Bool.and (v20 == m.x.sl) (Bool.and (v22 == m.x.st) (Bool.and (v24 == m.x.bal) (Bool.and (v26 == m.x.vote) (Bool.and (@BEq.beq.{0} Bool (@instBEqOfDecidableEq.{0} Bool instDecidableEqBool) (mreadX v0).x.same m.x.same) (Bool.and (v28 == m.x.c.k) (Bool.and (v30 == m.x.c.num) (Bool.and (@BEq.beq.{0} (List UInt8) (@List.instBEq.{0} UInt8 (@instBEqOfDecidableEq.{0} UInt8 instDecidableEqUInt8)) v32 m.x.c.foot) (Bool.and (v34 == m.x.c.rq) (Bool.and (@BEq.beq.{0} (List UInt8) (@List.instBEq.{0} UInt8 (@instBEqOfDecidableEq.{0} UInt8 instDecidableEqUInt8)) v36 m.x.c.path) (Bool.and (v38 == m.x.c.mode) (Bool.and (v40 == m.x.c.n) (Bool.and (v42 == m.x.c.time) (Bool.and (v44 == m.x.a.s) (Bool.and (v46 == m.x.a.d0) (Bool.and (v48 == m.x.a.d1) (Bool.and (v50 == m.x.a.d2) (Bool.and (v52 == m.x.a.d3) (Bool.and (v54 == m.x.a.d4) (Bool.and (v56 == m.x.a.d5) (Bool.and (v58 == m.x.a.d6) true))))))))))))))))))))))))))))) ∧ True) ∧ tt) else w0_x)) else w2_x)) else w1_x))))))))) : inLawMTexts0 m :=
  Eq.mp (show _ = _ by kernel_rfl) h
theorem vcLawMReads0 (t : (List UInt8)) (h : let q0 := (mreadX t); let w2_x := (true = false ∧ True); (tt ∧ T1 ∧ tt ∧ (T1 ∧ True) ∧ T1 ∧ tt ∧ T1 ∧ T1 ∧ T1 ∧ (bif (decide ((600 : Int) < ((List.length t) : Int))) then (tt ∧ T1 ∧ tt ∧ tt ∧ (tt ∧ True) ∧ tt) else (tt ∧ T1 ∧ (T1 ∧ (List.length t) ≤ 600000) ∧ ∀ v0 : Int, (v0 = q0.k) → ∀ v2 : Int, (v2 = q0.src) → ∀ v4 : Int, (v4 = q0.dst) → ∀ v6 : Int, (v6 = q0.r) → ∀ v8 : Int, (v8 = q0.s) → ∀ v10 : Int, (v10 = q0.b) → ∀ v12 : Int, (v12 = q0.x.r) → ∀ v14 : Int, (v14 = q0.x.sl) → ∀ v16 : Int, (v16 = q0.x.st) → ∀ v18 : Int, (v18 = q0.x.bal) → ∀ v20 : Int, (v20 = q0.x.vote) → ∀ v22 : Int, (v22 = q0.x.c.k) → ∀ v24 : Int, (v24 = q0.x.c.num) → ∀ v26 : (List UInt8), (v26 = q0.x.c.foot) → ∀ v28 : Int, (v28 = q0.x.c.rq) → ∀ v30 : (List UInt8), (v30 = q0.x.c.path) → ∀ v32 : Int, (v32 = q0.x.c.mode) → ∀ v34 : Int, (v34 = q0.x.c.n) → ∀ v36 : Int, (v36 = q0.x.c.time) → ∀ v38 : Int, (v38 = q0.x.a.s) → ∀ v40 : Int, (v40 = q0.x.a.d0) → ∀ v42 : Int, (v42 = q0.x.a.d1) → ∀ v44 : Int, (v44 = q0.x.a.d2) → ∀ v46 : Int, (v46 = q0.x.a.d3) → ∀ v48 : Int, (v48 = q0.x.a.d4) → ∀ v50 : Int, (v50 = q0.x.a.d5) → ∀ v52 : Int, let w1_52 := (InstP.mk v12 v14 v16 v18 v20 q0.x.same (CmdP.mk v22 v24 v26 v28 v30 v32 v34 v36) (AttP.mk v38 v40 v42 v44 v46 v48 v50 v52)); let w0_52 := (MsgP.mk v0 v2 v4 v6 v8 v10 q0.ok w1_52); let w3_52 := (T1 ∧ (rightM w0_52) = true); (v52 = q0.x.a.d6) → ∀ v54 : Int, (v54 = (mreadE t)) → T1 ∧ T1 ∧ T1 ∧ T1 ∧ tt ∧ T1 ∧ tt ∧ T1 ∧ T1 ∧ (bif (v54 != 0) then (tt ∧ T1 ∧ T1 ∧ T1 ∧ (bif (v54 == 10) then (tt ∧ T1 ∧ T1 ∧ T1 ∧ T1 ∧ tt ∧ tt ∧ (true = (Bool.and (v0 == 0) (Bool.and (v2 == 0) (Bool.and (v4 == 0) (Bool.and (v6 == 0) (Bool.and (v8 == 0) (Bool.and (v10 == 0) (Bool.and (@BEq.beq.{0} Bool (@instBEqOfDecidableEq.{0} Bool instDecidableEqBool) q0.ok false) (Bool.and (v12 == 0) (Bool.and (v14 == 0) (Bool.and (v16 == 0) (Bool.and (v18 == 0) (Bool.and (v20 == 0) (Bool.and (@BEq.beq.{0} Bool (@instBEqOfDecidableEq.{0} Bool instDecidableEqBool) q0.x.same false) (Bool.and (v22 == 0) (Bool.and (v24 == 0) (Bool.and (@BEq.beq.{0} (List UInt8) (@List.instBEq.{0} UInt8 (@instBEqOfDecidableEq.{0} UInt8 instDecidableEqUInt8)) v26 (@List.nil.{0} UInt8)) (Bool.and (v28 == 0) (Bool.and (@BEq.beq.{0} (List UInt8) (@List.instBEq.{0} UInt8 (@instBEqOfDecidableEq.{0} UInt8 instDecidableEqUInt8)) v30 (@List.nil.{0} UInt8)) (Bool.and (v32 == 0) (Bool.and (v34 == 0) (Bool.and (v36 == 0) (Bool.and (v38 == 0) (Bool.and (v40 == 0) (Bool.and (v42 == 0) (Bool.and (v44 == 0) (Bool.and (v46 == 0) (Bool.and (v48 == 0) (Bool.and (v50 == 0) (Bool.and (v52 == 0) true))))))))))))))))))))))))))))) ∧ True) ∧ tt) else (false = false ∧ T1 ∧ tt ∧ tt ∧ w2_x ∧ tt))) else (tt ∧ tt ∧ (T1 ∧ (smallX w1_52)) ∧ ∀ v56 : (List UInt8), (v56 = (mshowV w0_52)) → ∀ v58 : Int, (v58 = (mshowE w0_52)) → T1 ∧ T1 ∧ T1 ∧ T1 ∧ T1 ∧ tt ∧ tt ∧ (T1 ∧ True) ∧ (T1 ∧ (smallX w1_52)) ∧ T1 ∧ (bif (rightM w0_52) then (T1 ∧ T1 ∧ T1 ∧ T1 ∧ (bif (v58 == 0) then (T1 ∧ T1 ∧ T1 ∧ T1 ∧ T1 ∧ (bif (@BEq.beq.{0} (List UInt8) (@List.instBEq.{0} UInt8 (@instBEqOfDecidableEq.{0} UInt8 instDecidableEqUInt8)) v56 t) then (T1 ∧ T1 ∧ tt ∧ (T1 ∧ True) ∧ w3_52 ∧ ∀ v60 : (List UInt8), (v60 = (headM w0_52)) → T1 ∧ T1 ∧ T1 ∧ T1 ∧ (bif (decide (((List.length v60) : Int) ≤ ((List.length t) : Int))) then (T1 ∧ tt ∧ (T1 ∧ True) ∧ w3_52 ∧ ∀ v62 : (List UInt8), (v62 = (headM w0_52)) → T1 ∧ ((0 : Int) ≤ ((List.length v62) : Int) ∧ ((List.length v62) : Int) ≤ ((List.length t) : Int)) ∧ tt ∧ (T1 ∧ True) ∧ w3_52 ∧ ∀ v64 : (List UInt8), (v64 = (headM w0_52)) → T1 ∧ T1 ∧ T1 ∧ tt ∧ tt ∧ tt ∧ (true = (@BEq.beq.{0} (List UInt8) (@List.instBEq.{0} UInt8 (@instBEqOfDecidableEq.{0} UInt8 instDecidableEqUInt8)) (@cutL UInt8 t 0 (Int.toNat ((List.length v62) : Int))) v64) ∧ True) ∧ tt) else (false = false ∧ T1 ∧ tt ∧ tt ∧ tt ∧ w2_x ∧ tt))) else (false = false ∧ T1 ∧ false = false ∧ T1 ∧ tt ∧ tt ∧ tt ∧ w2_x ∧ tt))) else (false = false ∧ T1 ∧ false = false ∧ T1 ∧ false = false ∧ T1 ∧ tt ∧ tt ∧ tt ∧ w2_x ∧ tt))) else (false = false ∧ T1 ∧ false = false ∧ T1 ∧ false = false ∧ T1 ∧ false = false ∧ T1 ∧ tt ∧ tt ∧ tt ∧ w2_x ∧ tt)))))))) : inLawMReads0 t :=
  Eq.mp (show _ = _ by kernel_rfl) h
end Go.Proofs.YtpomloangafbkaaGreatDoor
/- Messages' texts: the law's conditions hold. -/
namespace Go.Proofs.YtpomloangafbkaaGreatDoor
set_option linter.unusedVariables false
set_option linter.unusedSimpArgs false
open Go.RowKit
set_option maxRecDepth 100000
theorem pad_strs6 (l : List (List UInt8)) : catL (strsAV l) [AV.str [], AV.str [], AV.str [], AV.str [], AV.str [], AV.str []] = strsAV (l ++ List.replicate 6 []) := by
  simp [catL, strsAV, List.replicate]
theorem mread_no {t : List UInt8} (h : rightM (mxR t) = false ∨ mshowV (mxR t) ≠ t) : mreadX t = zM ∧ mreadE t = 10 := by
  have hk : mokR t = false := by
    unfold mokR
    rcases h with h | h
    · rw [h]; rfl
    · have : (mshowV (mxR t) == t) = false := by simpa using h
      rw [this]; simp
  unfold mreadX mreadE
  rw [hk]; exact ⟨rfl, rfl⟩
theorem mread_yes {t : List UInt8} (h1 : rightM (mxR t) = true) (h2 : mshowV (mxR t) = t) : mreadX t = mxR t ∧ mreadE t = 0 := by
  have hk : mokR t = true := by unfold mokR; rw [h1, h2]; simp
  unfold mreadX mreadE
  rw [hk]; exact ⟨rfl, rfl⟩
theorem mshowE_right {m : MsgP} (h : (mshowE m != 0) = true) : rightM m = false := by
  cases hr : rightM m with
  | false => rfl
  | true => simp [mshowE, hr] at h
theorem mshowE_right' {m : MsgP} (h : (mshowE m != 0) = false) : rightM m = true := by
  cases hr : rightM m with
  | true => rfl
  | false => simp [mshowE, hr] at h
theorem small_zI : smallX zI := ⟨by show ([] : List UInt8).length ≤ 900000; simp, by show ([] : List UInt8).length ≤ 900000; simp⟩
theorem iread_small {t : List UInt8} (h : t.length ≤ 700000) : smallX (ireadX t) := by
  unfold ireadX
  split
  · exact ix_small t h
  · exact small_zI
set_option maxHeartbeats 4000000 in
theorem okMread0 : OkMread0 := by
  intro t hq
  have hq' : t.length ≤ 600000 := hq
  refine vcMread0 t ?_
  have hl := splitM_len t [32] 6 (by omega)
  have hL : ((splitM t [32] 6) ++ List.replicate 6 ([] : List UInt8)).length = (splitM t [32] 6).length + 6 := by simp
  have hw : ∀ i, i < 6 → rdStr (elemAt (strsAV (splitM t [32] 6 ++ List.replicate 6 [])) i) 0 = wdM t i := fun i h => by
    rw [rdStr_strs (by omega), getD_pad]; rfl
  have ho : ∀ i, i < 6 → okElem 1 (strsAV (splitM t [32] 6 ++ List.replicate 6 [])) i := fun i h => okElem_strs (by omega)
  have hr : ∀ i, i < 6 → okRead [Kd.str] (elemAt (strsAV (splitM t [32] 6 ++ List.replicate 6 [])) i) 0 := fun i h => okRead_strs (by omega)
  have hn : ∀ i, (wdM t i).length ≤ 600000 := fun i => by have := wdM_len t i; omega
  have n1 := hn 1
  have n2 := hn 2
  have n3 := hn 3
  have n5 := hn 5
  have hc := cut_len (wdM t 1) [62]
  have hs := iread_small (t := wdM t 5) (by omega)
  have eta : InstP.mk (ireadX (wdM t 5)).r (ireadX (wdM t 5)).sl (ireadX (wdM t 5)).st (ireadX (wdM t 5)).bal (ireadX (wdM t 5)).vote (ireadX (wdM t 5)).same (CmdP.mk (ireadX (wdM t 5)).c.k (ireadX (wdM t 5)).c.num (ireadX (wdM t 5)).c.foot (ireadX (wdM t 5)).c.rq (ireadX (wdM t 5)).c.path (ireadX (wdM t 5)).c.mode (ireadX (wdM t 5)).c.n (ireadX (wdM t 5)).c.time) (AttP.mk (ireadX (wdM t 5)).a.s (ireadX (wdM t 5)).a.d0 (ireadX (wdM t 5)).a.d1 (ireadX (wdM t 5)).a.d2 (ireadX (wdM t 5)).a.d3 (ireadX (wdM t 5)).a.d4 (ireadX (wdM t 5)).a.d5 (ireadX (wdM t 5)).a.d6) = ireadX (wdM t 5) := rfl
  have ez : InstP.mk 0 0 0 0 0 false (CmdP.mk 0 0 [] 0 [] 0 0 0) (AttP.mk 0 0 0 0 0 0 0 0) = zI := rfl
  simp only [true_and, and_true, forall_eq, eq_self, pad_strs6, hw 0 (by omega), hw 1 (by omega), hw 2 (by omega), hw 3 (by omega), hw 4 (by omega), hw 5 (by omega), ho 0 (by omega), ho 1 (by omega), ho 2 (by omega), ho 3 (by omega), ho 4 (by omega), ho 5 (by omega), hr 0 (by omega), hr 1 (by omega), hr 2 (by omega), hr 3 (by omega), hr 4 (by omega), hr 5 (by omega), length_strsAV, hL, okWidth_strs, eta, ez]
  have P : (okWidth 1 [AV.str [], AV.str [], AV.str [], AV.str [], AV.str [], AV.str []]) := okWidth_strs [[], [], [], [], [], []]
  and_intros
  all_goals first | omega | exact P | skip
  refine cond_prop (fun h => ?_) fun h => ?_
  · have h' : kindM (wdM t 0) ≠ 6 := by simpa using h
    have hx : mxR t = MsgP.mk (kindM (wdM t 0)) (atoiV (Lib.cut (wdM t 1) [62]).1) (atoiV (Lib.cut (wdM t 1) [62]).2.1) (ridR (wdM t 2)) (ridS (wdM t 2)) (rbalV (wdM t 3)) (wdM t 4 == [121, 101, 115]) (ireadX (wdM t 5)) := by unfold mxR; rw [if_neg h']
    rw [← hx]
    and_intros
    all_goals first | omega | exact hs | exact hs.1 | exact hs.2 | skip
    refine cond_prop (fun g => ?_) fun g => cond_prop (fun g2 => ?_) fun g2 => ?_
    · obtain ⟨r1, r2⟩ := mread_no (.inl (mshowE_right g))
      rw [r1, r2]; and_intros <;> rfl
    · obtain ⟨r1, r2⟩ := mread_no (t := t) (.inr (by simpa using g2))
      rw [r1, r2]; and_intros <;> rfl
    · obtain ⟨r1, r2⟩ := mread_yes (mshowE_right' g) (by simpa using g2)
      rw [r1, r2, hx]; and_intros <;> rfl
  · have h' : kindM (wdM t 0) = 6 := by simpa using h
    have hx : mxR t = MsgP.mk (kindM (wdM t 0)) (atoiV (Lib.cut (wdM t 1) [62]).1) (atoiV (Lib.cut (wdM t 1) [62]).2.1) (ridR (wdM t 2)) (ridS (wdM t 2)) (rbalV (wdM t 3)) (wdM t 4 == [121, 101, 115]) zI := by unfold mxR; rw [if_pos h']
    rw [← hx]
    refine ⟨small_zI, cond_prop (fun g => ?_) fun g => cond_prop (fun g2 => ?_) fun g2 => ?_⟩
    · obtain ⟨r1, r2⟩ := mread_no (.inl (mshowE_right g))
      rw [r1, r2]; and_intros <;> rfl
    · obtain ⟨r1, r2⟩ := mread_no (t := t) (.inr (by simpa using g2))
      rw [r1, r2]; and_intros <;> rfl
    · obtain ⟨r1, r2⟩ := mread_yes (mshowE_right' g) (by simpa using g2)
      rw [r1, r2, hx]; and_intros <;> rfl
set_option maxHeartbeats 4000000 in
theorem okLawMTexts0 : OkLawMTexts0 := by
  intro m hq hb
  refine vcLawMTexts0 m ?_
  simp only [true_and, and_true, forall_eq, eq_self]
  refine ⟨hq, cond_prop (fun _ => trivial) fun h => ?_⟩
  have hs : smallX m.x := smallB_small h
  refine ⟨hs, hs, cond_prop (fun g => ?_) fun g => ?_⟩
  · have g' : rightM m = false := by simpa using g
    have e1 : mshowV m = [] := by unfold mshowV; rw [g']; rfl
    have e2 : mshowE m = 10 := by unfold mshowE; rw [g']; rfl
    rw [e1, e2]
    exact cond_prop (fun _ => by decide) fun k => by simp at k
  · have g' : rightM m = true := by simpa using g
    have e2 : mshowE m = 0 := by unfold mshowE; rw [g']; rfl
    obtain ⟨r1, r2⟩ := mread_shown g' hb
    have hh := mshow_head g' hb.1
    have hl := mshow_len g' hb
    have hfin : true = (m.k == m.k && (m.src == m.src && (m.dst == m.dst && (m.r == m.r && (m.s == m.s && (m.b == m.b && (m.ok == m.ok && (m.x.r == m.x.r && (m.x.sl == m.x.sl && (m.x.st == m.x.st && (m.x.bal == m.x.bal && (m.x.vote == m.x.vote && (m.x.same == m.x.same && (m.x.c.k == m.x.c.k && (m.x.c.num == m.x.c.num && (m.x.c.foot == m.x.c.foot && (m.x.c.rq == m.x.c.rq && (m.x.c.path == m.x.c.path && (m.x.c.mode == m.x.c.mode && (m.x.c.n == m.x.c.n && (m.x.c.time == m.x.c.time && (m.x.a.s == m.x.a.s && (m.x.a.d0 == m.x.a.d0 && (m.x.a.d1 == m.x.a.d1 && (m.x.a.d2 == m.x.a.d2 && (m.x.a.d3 == m.x.a.d3 && (m.x.a.d4 == m.x.a.d4 && (m.x.a.d5 == m.x.a.d5 && (m.x.a.d6 == m.x.a.d6 && true))))))))))))))))))))))))))))) := by simp
    rw [r1, r2, e2]
    refine ⟨g', cond_prop (fun k => ?_) fun k => ?_⟩
    · have k' : m.k ≠ 6 := by simpa using k
      obtain ⟨a1, a2, a3, a4, a5, a6, a7, a8, a9⟩ := rightM_parts g'
      have e3 : ishowE m.x = 0 := by unfold ishowE; rw [(a9 k').1]; rfl
      rw [if_neg k'] at hh
      have hl2 : (headM m).length + ((ishowV m.x).length + 1) ≤ 50000 := by rw [hh] at hl; simpa using hl
      have hl3 : (catL [32] (ishowV m.x)).length = (ishowV m.x).length + 1 := by simp [catL]
      rw [e3, hl3]
      refine ⟨hs, cond_prop (fun q => by simp at q) fun _ => ⟨by omega, by omega, by omega, cond_prop (fun _ => cond_prop (fun _ => cond_prop (fun _ => hfin) fun q => by simp at q) fun q => ?_) fun q => by simp at q⟩⟩
      exfalso
      rw [hh] at q
      simp [catL] at q
    · have k' : m.k = 6 := by simpa using k
      rw [if_pos k'] at hh
      refine ⟨by omega, cond_prop (fun _ => cond_prop (fun _ => cond_prop (fun _ => hfin) fun q => by simp at q) fun q => ?_) fun q => by simp at q⟩
      exfalso
      rw [hh] at q
      simp at q
set_option maxHeartbeats 4000000 in
theorem okLawMReads0 : OkLawMReads0 := by
  intro t hq
  refine vcLawMReads0 t ?_
  have eta : MsgP.mk (mreadX t).k (mreadX t).src (mreadX t).dst (mreadX t).r (mreadX t).s (mreadX t).b (mreadX t).ok (mreadX t).x = mreadX t := rfl
  have eta5 : InstP.mk (mreadX t).x.r (mreadX t).x.sl (mreadX t).x.st (mreadX t).x.bal (mreadX t).x.vote (mreadX t).x.same (CmdP.mk (mreadX t).x.c.k (mreadX t).x.c.num (mreadX t).x.c.foot (mreadX t).x.c.rq (mreadX t).x.c.path (mreadX t).x.c.mode (mreadX t).x.c.n (mreadX t).x.c.time) (AttP.mk (mreadX t).x.a.s (mreadX t).x.a.d0 (mreadX t).x.a.d1 (mreadX t).x.a.d2 (mreadX t).x.a.d3 (mreadX t).x.a.d4 (mreadX t).x.a.d5 (mreadX t).x.a.d6) = (mreadX t).x := rfl
  simp only [true_and, and_true, forall_eq, eq_self, eta5, eta]
  refine cond_prop (fun _ => trivial) fun h => ?_
  have hl : t.length ≤ 600 := by have := of_decide_eq_false h; omega
  refine ⟨by omega, ?_⟩
  cases hk : mokR t with
  | false =>
    have r1 : mreadX t = zM := by unfold mreadX; rw [hk]; rfl
    have r2 : mreadE t = 10 := by unfold mreadE; rw [hk]; rfl
    rw [r1, r2]
    refine cond_prop (fun _ => cond_prop (fun _ => by decide) fun q => by simp at q) fun q => by simp at q
  | true =>
    have r1 : mreadX t = mxR t := by unfold mreadX; rw [hk]; rfl
    have r2 : mreadE t = 0 := by unfold mreadE; rw [hk]; rfl
    have hk2 := hk
    unfold mokR at hk2
    rw [Bool.and_eq_true] at hk2
    obtain ⟨k1, k2⟩ := hk2
    have k3 : mshowV (mxR t) = t := by simpa using k2
    have e2 : mshowE (mxR t) = 0 := by unfold mshowE; rw [k1]; rfl
    have hbal : 0 ≤ (mxR t).b ∧ (mxR t).b ≤ 4294967295 := rbal_range _
    have hh := mshow_head k1 hbal
    rw [k3] at hh
    have hs : smallX (mxR t).x := by
      show smallX (if kindM (wdM t 0) = 6 then zI else ireadX (wdM t 5))
      split
      · exact small_zI
      · have := wdM_len t 5
        exact iread_small (by omega)
    rw [r1, r2, e2, k3, k1]
    have hlen : (headM (mxR t)).length ≤ t.length := by
      have := congrArg List.length hh
      simp only [List.length_append] at this; omega
    have e5 : (((headM (mxR t)).length : Int)).toNat = (headM (mxR t)).length := by omega
    have e7 : ∀ (H R : List UInt8), t = H ++ R → cutL t 0 H.length = H := fun H R e => by
      unfold cutL; rw [e]; simp
    have e6 : cutL t 0 (headM (mxR t)).length = headM (mxR t) := e7 _ _ hh
    refine cond_prop (fun q => by simp at q) fun _ => ⟨hs, hs, cond_prop (fun _ => cond_prop (fun _ => cond_prop (fun _ => ⟨rfl, cond_prop (fun _ => ⟨rfl, ⟨by omega, by omega⟩, rfl, ?_⟩) fun q => ?_⟩) fun q => by simp at q) fun q => by simp at q) fun q => by simp at q⟩
    · rw [e5, e6]; simp
    · exfalso
      have := of_decide_eq_false q; omega
end Go.Proofs.YtpomloangafbkaaGreatDoor
/- The contracts are met. -/
namespace Go.Proofs.YtpomloangafbkaaGreatDoor
set_option linter.unusedVariables false
set_option linter.unusedSimpArgs false
open Go.RowKit
theorem sndMread : Sound Tryz.prog (lookΓ gamMread) := sound_of _ fun p hp => by
  simp only [gamMread, List.mem_cons, List.not_mem_nil, or_false] at hp
  rcases hp with rfl | rfl | rfl | rfl | rfl | rfl | rfl | rfl
  · exact meetsSplitN.orNil
  · exact meetsMkind.orNil
  · exact meetsCutS.orNil
  · exact meetsAtoi.orNil
  · exact meetsReadID.orNil
  · exact meetsReadBal.orNil
  · exact meetsIread.orNil
  · exact meetsMshow.orNil
set_option maxHeartbeats 4000000 in
theorem meetsMread : Meets Tryz.prog 21 mreadF := by
  refine meets_of_awp (Γ := lookΓ gamMread) (L := fun _ _ => none) sndMread mixedOrders Tryz.func21 rfl Tryz.call21 ?_
  intro args q r hF hq ho
  unfold mreadF at hF
  split at hF
  · cases hF
    exact ⟨by simp only [List.length_cons, List.length_nil]; decide, okMread0 _ hq⟩
  · cases hF
theorem sndLawMTexts : Sound Tryz.prog (lookΓ gamLawMTexts) := sound_of _ fun p hp => by
  simp only [gamLawMTexts, List.mem_cons, List.not_mem_nil, or_false] at hp
  rcases hp with rfl | rfl | rfl | rfl | rfl | rfl | rfl | rfl
  · exact meetsAnchor11.orNil
  · exact meetsSmall11.orNil
  · exact meetsOf11.orNil
  · exact meetsRefM.orNil
  · exact meetsMshow.orNil
  · exact meetsMread.orNil
  · exact meetsHead11.orNil
  · exact meetsIshow.orNil
set_option maxHeartbeats 4000000 in
theorem meetsLawMTexts : Meets Tryz.prog 5 lawMTextsF := by
  refine meets_of_awp (Γ := lookΓ gamLawMTexts) (L := fun _ _ => none) sndLawMTexts mixedOrders Tryz.func5 rfl Tryz.call5 ?_
  intro args q r hF hq ho
  unfold lawMTextsF at hF
  split at hF
  · split at hF
    · rename_i m hzm
      obtain rfl := msgOf_some hzm
      cases hF
      exact ⟨by simp only [List.length_cons, List.length_nil]; decide, okLawMTexts0 _ hq (⟨okay_u32 (argA 0 5 ho rfl rfl), okay_u32 (argA 0 10 ho rfl rfl), okay_u32 (argA 0 11 ho rfl rfl), okay_u64 (argA 0 14 ho rfl rfl), okay_u64 (argA 0 16 ho rfl rfl), okay_u64 (argA 0 19 ho rfl rfl)⟩)⟩
    · cases hF
  · cases hF
theorem sndLawMReads : Sound Tryz.prog (lookΓ gamLawMReads) := sound_of _ fun p hp => by
  simp only [gamLawMReads, List.mem_cons, List.not_mem_nil, or_false] at hp
  rcases hp with rfl | rfl | rfl | rfl | rfl | rfl
  · exact meetsAnchor11.orNil
  · exact meetsOf11.orNil
  · exact meetsRefM.orNil
  · exact meetsMshow.orNil
  · exact meetsMread.orNil
  · exact meetsHead11.orNil
set_option maxHeartbeats 4000000 in
theorem meetsLawMReads : Meets Tryz.prog 6 lawMReadsF := by
  refine meets_of_awp (Γ := lookΓ gamLawMReads) (L := fun _ _ => none) sndLawMReads mixedOrders Tryz.func6 rfl Tryz.call6 ?_
  intro args q r hF hq ho
  unfold lawMReadsF at hF
  split at hF
  · cases hF
    exact ⟨by simp only [List.length_cons, List.length_nil]; decide, okLawMReads0 _ hq⟩
  · cases hF
end Go.Proofs.YtpomloangafbkaaGreatDoor
