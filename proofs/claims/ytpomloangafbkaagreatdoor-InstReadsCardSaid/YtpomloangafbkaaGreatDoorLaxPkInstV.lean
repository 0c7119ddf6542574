/- Contracts by content, their conditions, and that they are met: InstV. -/
import Derived.Test.YtpomloangafbkaaGreatDoorLaxPkInstU
import Derived.Test.YtpomloangafbkaaGreatDoorInstTP
/- Contracts by content, and the conditions that their code must meet. -/
namespace Go.Proofs.YtpomloangafbkaaGreatDoor
set_option linter.unusedVariables false
set_option linter.unusedSimpArgs false
open Go.RowKit
def ireadF : Con
  | [.val (.str t)] => (some (t.length ≤ 700000, ⟨.tup [.agg (instL (ireadX t)), .int .i64 (ireadE t)], none, none⟩))
  | _ => none
def gamIread : List (Nat × Con) := [(39, splitNF.orNil), (40, readIDF.orNil), (41, readBalF.orNil), (42, istatusF.orNil), (43, attReadF.orNil), (44, creadF.orNil), (9, ishowF.orNil)]
def lpIread0 (t : List UInt8) : Nat → Option LoopPlan := fun _ => none
def inIread0 (t : List UInt8) : Prop := awp [] (lpIread0 t) (lookΓ gamIread) Tryz.prog Tryz.f14.ntmps 0 (Tryz.f14.body.getD .skip) (entrySt [.val (.str t)]) (exitQ Tryz.prog Tryz.f14.results.toList [] ⟨.tup [.agg (instL (ireadX t)), .int .i64 (ireadE t)], none, none⟩)
def OkIread0 : Prop := ∀ (t : List UInt8), t.length ≤ 700000 → inIread0 t
def lawITextsF : Con
  | [.val (.agg zcx)] => (match instOf zcx with | some x => some (maxX x, ⟨.bool true, none, none⟩) | _ => none)
  | _ => none
def gamLawITexts : List (Nat × Con) := [(7, anchor10F.orNil), (8, small10F.orNil), (10, of10F.orNil), (11, xrightF.orNil), (9, ishowF.orNil), (14, ireadF.orNil), (12, text10F.orNil), (13, cshowF.orNil)]
def lpLawITexts0 (x : InstP) : Nat → Option LoopPlan := fun _ => none
def inLawITexts0 (x : InstP) : Prop := awp [] (lpLawITexts0 x) (lookΓ gamLawITexts) Tryz.prog Tryz.f3.ntmps 0 (Tryz.f3.body.getD .skip) (entrySt [.val (.agg (instL x))]) (exitQ Tryz.prog Tryz.f3.results.toList [] ⟨.bool true, none, none⟩)
def OkLawITexts0 : Prop := ∀ (x : InstP), maxX x → (rangeI x) → inLawITexts0 x
def lawIReadsF : Con
  | [.val (.str t)] => (some (t.length ≤ 9223372036854775807, ⟨.bool true, none, none⟩))
  | _ => none
def gamLawIReads : List (Nat × Con) := [(7, anchor10F.orNil), (10, of10F.orNil), (11, xrightF.orNil), (9, ishowF.orNil), (14, ireadF.orNil), (12, text10F.orNil)]
def lpLawIReads0 (t : List UInt8) : Nat → Option LoopPlan := fun _ => none
def inLawIReads0 (t : List UInt8) : Prop := awp [] (lpLawIReads0 t) (lookΓ gamLawIReads) Tryz.prog Tryz.f4.ntmps 0 (Tryz.f4.body.getD .skip) (entrySt [.val (.str t)]) (exitQ Tryz.prog Tryz.f4.results.toList [] ⟨.bool true, none, none⟩)
def OkLawIReads0 : Prop := ∀ (t : List UInt8), t.length ≤ 9223372036854775807 → inLawIReads0 t
end Go.Proofs.YtpomloangafbkaaGreatDoor
/- What the verification conditions come to: printed by a program of ours (wip/lax/ex/Norm.lean). -/
namespace Go.Proofs.YtpomloangafbkaaGreatDoor
set_option linter.unusedVariables false
open Go.RowKit
set_option maxRecDepth 100000
theorem vcIread0 (t : (List UInt8)) (h : let q0 := (ireadX t); let w1_x := (q0.r = 0 ∧ q0.sl = 0 ∧ q0.st = 0 ∧ q0.bal = 0 ∧ q0.vote = 0 ∧ q0.same = false ∧ q0.c.k = 0 ∧ q0.c.num = 0 ∧ q0.c.foot = [] ∧ q0.c.rq = 0 ∧ q0.c.path = [] ∧ q0.c.mode = 0 ∧ q0.c.n = 0 ∧ q0.c.time = 0 ∧ q0.a.s = 0 ∧ q0.a.d0 = 0 ∧ q0.a.d1 = 0 ∧ q0.a.d2 = 0 ∧ q0.a.d3 = 0 ∧ q0.a.d4 = 0 ∧ q0.a.d5 = 0 ∧ q0.a.d6 = 0 ∧ (ireadE t) = 10 ∧ True); let w8_x := (tt ∧ tt ∧ T1 ∧ tt ∧ T1 ∧ tt ∧ tt ∧ w1_x ∧ tt); let w9_x := (tt ∧ T1 ∧ tt ∧ T1 ∧ tt ∧ tt ∧ w1_x ∧ tt); let w10_x := [(AV.str []), (AV.str []), (AV.str []), (AV.str []), (AV.str []), (AV.str []), (AV.str [])]; (tt ∧ T1 ∧ T1 ∧ tt ∧ T1 ∧ (T1 ∧ (List.length t) < 4294967281 ∧ 1 ≤ 1 ∧ (1 : Int) ≤ (7 : Int) ∧ (7 : Int) ≤ (1000000 : Int)) ∧ ∀ v0 : (List AV), let w0_0 := (@catL AV v0 w10_x); let w3_0 := (readC (rdStr (elemAt w0_0 6) 0)); let w4_0 := (@BEq.beq.{0} (List UInt8) (@List.instBEq.{0} UInt8 (@instBEqOfDecidableEq.{0} UInt8 instDecidableEqUInt8)) (rdStr (elemAt w0_0 4) 0) [(115 : UInt8), 97, 109, 101]); let w5_0 := (rdStr (elemAt w0_0 5) 0); let w7_0 := ((List.length w0_0) : Int); let w11_0 := (rdStr (elemAt w0_0 0) 0); (v0 = (strsAV (splitM t [(32 : UInt8)] 7))) → ∀ v2 : Nat, (v2 = (List.length (strsAV (splitM t [(32 : UInt8)] 7)))) → (v2 = (List.length v0) ∧ (((List.length v0) + 7) * 16) ≤ 140737488355328 ∧ ((List.length v0) + 7) ≤ 9223372036854775807 ∧ (okWidth 1 v0) ∧ (okWidth 1 w10_x)) ∧ T1 ∧ tt ∧ T1 ∧ tt ∧ T1 ∧ ((0 : Int) ≤ (0 : Int) ∧ (0 : Int) < w7_0 ∧ (okElem 1 w0_0 0)) ∧ (okRead [Kd.str] (elemAt w0_0 0) 0) ∧ (T1 ∧ (List.length w11_0) ≤ 100000000) ∧ ∀ v4 : Int, (v4 = (ridR w11_0)) → ∀ v6 : Int, (v6 = (ridS w11_0)) → ∀ v8 : Int, (v8 = (ridE w11_0)) → T1 ∧ T1 ∧ T1 ∧ T1 ∧ tt ∧ tt ∧ T1 ∧ ((0 : Int) ≤ (1 : Int) ∧ (1 : Int) < w7_0 ∧ (okElem 1 w0_0 1)) ∧ (okRead [Kd.str] (elemAt w0_0 1) 0) ∧ (T1 ∧ (List.length (rdStr (elemAt w0_0 1) 0)) ≤ 100000000) ∧ ∀ v10 : Int, (v10 = (rbalV (rdStr (elemAt w0_0 1) 0))) → ∀ v12 : Int, (v12 = (rbalE (rdStr (elemAt w0_0 1) 0))) → T1 ∧ T1 ∧ T1 ∧ T1 ∧ tt ∧ tt ∧ T1 ∧ ((0 : Int) ≤ (2 : Int) ∧ (2 : Int) < w7_0 ∧ (okElem 1 w0_0 2)) ∧ (okRead [Kd.str] (elemAt w0_0 2) 0) ∧ (T1 ∧ True) ∧ ∀ v14 : Int, let w6_14 := (InstP.mk v4 v6 v14 v10 0 false (CmdP.mk 0 0 [] 0 [] 0 0 0) (AttP.mk 0 0 0 0 0 0 0 0)); (v14 = (statusN (rdStr (elemAt w0_0 2) 0))) → T1 ∧ tt ∧ tt ∧ T1 ∧ tt ∧ T1 ∧ (bif (v14 != 0) then (tt ∧ T1 ∧ ((0 : Int) ≤ (3 : Int) ∧ (3 : Int) < w7_0 ∧ (okElem 1 w0_0 3)) ∧ (okRead [Kd.str] (elemAt w0_0 3) 0) ∧ (T1 ∧ (List.length (rdStr (elemAt w0_0 3) 0)) ≤ 100000000) ∧ ∀ v16 : Int, (v16 = (rbalV (rdStr (elemAt w0_0 3) 0))) → ∀ v18 : Int, (v18 = (rbalE (rdStr (elemAt w0_0 3) 0))) → T1 ∧ T1 ∧ T1 ∧ T1 ∧ tt ∧ tt ∧ T1 ∧ ((0 : Int) ≤ (4 : Int) ∧ (4 : Int) < w7_0 ∧ (okElem 1 w0_0 4)) ∧ (okRead [Kd.str] (elemAt w0_0 4) 0) ∧ T1 ∧ T1 ∧ tt ∧ tt ∧ T1 ∧ ((0 : Int) ≤ (5 : Int) ∧ (5 : Int) < w7_0 ∧ (okElem 1 w0_0 5)) ∧ (okRead [Kd.str] (elemAt w0_0 5) 0) ∧ (T1 ∧ (List.length w5_0) ≤ 100000000) ∧ ∀ v20 : Int, (v20 = (raS w5_0)) → ∀ v22 : Int, (v22 = (raD w5_0 0)) → ∀ v24 : Int, (v24 = (raD w5_0 1)) → ∀ v26 : Int, (v26 = (raD w5_0 2)) → ∀ v28 : Int, (v28 = (raD w5_0 3)) → ∀ v30 : Int, (v30 = (raD w5_0 4)) → ∀ v32 : Int, (v32 = (raD w5_0 5)) → ∀ v34 : Int, (v34 = (raD w5_0 6)) → ∀ v36 : Int, (v36 = (raE w5_0)) → T1 ∧ T1 ∧ T1 ∧ T1 ∧ tt ∧ tt ∧ T1 ∧ ((0 : Int) ≤ (6 : Int) ∧ (6 : Int) < w7_0 ∧ (okElem 1 w0_0 6)) ∧ (okRead [Kd.str] (elemAt w0_0 6) 0) ∧ (T1 ∧ (List.length (rdStr (elemAt w0_0 6) 0)) ≤ 800000) ∧ ∀ v38 : Int, (v38 = w3_0.k) → ∀ v40 : Int, (v40 = w3_0.num) → ∀ v42 : (List UInt8), (v42 = w3_0.foot) → ∀ v44 : Int, (v44 = w3_0.rq) → ∀ v46 : (List UInt8), (v46 = w3_0.path) → ∀ v48 : Int, (v48 = w3_0.mode) → ∀ v50 : Int, (v50 = w3_0.n) → ∀ v52 : Int, let w2_52 := (InstP.mk v4 v6 v14 v10 v16 w4_0 (CmdP.mk v38 v40 v42 v44 v46 v48 v50 v52) (AttP.mk v20 v22 v24 v26 v28 v30 v32 v34)); (v52 = w3_0.time) → ∀ v54 : Int, (v54 = (readE (rdStr (elemAt w0_0 6) 0))) → T1 ∧ T1 ∧ T1 ∧ T1 ∧ tt ∧ tt ∧ tt ∧ (T1 ∧ (smallX w2_52)) ∧ ∀ v56 : (List UInt8), (v56 = (ishowV w2_52)) → ∀ v58 : Int, (v58 = (ishowE w2_52)) → T1 ∧ T1 ∧ T1 ∧ T1 ∧ T1 ∧ tt ∧ T1 ∧ T1 ∧ T1 ∧ (bif (v58 != 0) then w8_x else (T1 ∧ T1 ∧ T1 ∧ T1 ∧ (bif (Bool.not (@BEq.beq.{0} (List UInt8) (@List.instBEq.{0} UInt8 (@instBEqOfDecidableEq.{0} UInt8 instDecidableEqUInt8)) v56 t)) then w9_x else (tt ∧ tt ∧ tt ∧ T1 ∧ tt ∧ tt ∧ (q0.r = v4 ∧ q0.sl = v6 ∧ q0.st = v14 ∧ q0.bal = v10 ∧ q0.vote = v16 ∧ q0.same = w4_0 ∧ q0.c.k = v38 ∧ q0.c.num = v40 ∧ q0.c.foot = v42 ∧ q0.c.rq = v44 ∧ q0.c.path = v46 ∧ q0.c.mode = v48 ∧ q0.c.n = v50 ∧ q0.c.time = v52 ∧ q0.a.s = v20 ∧ q0.a.d0 = v22 ∧ q0.a.d1 = v24 ∧ q0.a.d2 = v26 ∧ q0.a.d3 = v28 ∧ q0.a.d4 = v30 ∧ q0.a.d5 = v32 ∧ q0.a.d6 = v34 ∧ (ireadE t) = 0 ∧ True) ∧ tt))))) else (tt ∧ tt ∧ (T1 ∧ (smallX w6_14)) ∧ ∀ v16 : (List UInt8), (v16 = (ishowV w6_14)) → ∀ v18 : Int, (v18 = (ishowE w6_14)) → T1 ∧ T1 ∧ T1 ∧ T1 ∧ T1 ∧ tt ∧ T1 ∧ T1 ∧ T1 ∧ (bif (v18 != 0) then w8_x else (T1 ∧ T1 ∧ T1 ∧ T1 ∧ (bif (Bool.not (@BEq.beq.{0} (List UInt8) (@List.instBEq.{0} UInt8 (@instBEqOfDecidableEq.{0} UInt8 instDecidableEqUInt8)) v16 t)) then w9_x else (tt ∧ tt ∧ tt ∧ T1 ∧ tt ∧ tt ∧ (q0.r = v4 ∧ q0.sl = v6 ∧ q0.st = v14 ∧ q0.bal = v10 ∧ q0.vote = 0 ∧ q0.same = false ∧ q0.c.k = 0 ∧ q0.c.num = 0 ∧ q0.c.foot = [] ∧ q0.c.rq = 0 ∧ q0.c.path = [] ∧ q0.c.mode = 0 ∧ q0.c.n = 0 ∧ q0.c.time = 0 ∧ q0.a.s = 0 ∧ q0.a.d0 = 0 ∧ q0.a.d1 = 0 ∧ q0.a.d2 = 0 ∧ q0.a.d3 = 0 ∧ q0.a.d4 = 0 ∧ q0.a.d5 = 0 ∧ q0.a.d6 = 0 ∧ (ireadE t) = 0 ∧ True) ∧ tt)))))))) : inIread0 t :=
  Eq.mp (show _ = _ by kernel_rfl) h
theorem vcLawITexts0 (x : InstP) (h : let w3_x := (true = false ∧ True); let w0_x := (false = false ∧ T1 ∧ tt ∧ tt ∧ w3_x ∧ tt); let w1_x := (false = false ∧ T1 ∧ false = false ∧ T1 ∧ false = false ∧ T1 ∧ tt ∧ tt ∧ w3_x ∧ tt); let w2_x := (false = false ∧ T1 ∧ false = false ∧ T1 ∧ tt ∧ tt ∧ w3_x ∧ tt); (tt ∧ T1 ∧ T1 ∧ tt ∧ (T1 ∧ True) ∧ T1 ∧ tt ∧ tt ∧ (T1 ∧ (maxX x)) ∧ T1 ∧ (bif (Bool.not (smallB x 200)) then (tt ∧ T1 ∧ tt ∧ tt ∧ (tt ∧ True) ∧ tt) else (tt ∧ tt ∧ (T1 ∧ (smallX x)) ∧ ∀ v0 : (List UInt8), (v0 = (ishowV x)) → ∀ v2 : Int, (v2 = (ishowE x)) → T1 ∧ T1 ∧ T1 ∧ T1 ∧ T1 ∧ tt ∧ tt ∧ (T1 ∧ True) ∧ (T1 ∧ (smallX x)) ∧ T1 ∧ (bif (Bool.not (rightI x)) then (tt ∧ T1 ∧ T1 ∧ T1 ∧ (bif (v2 == 10) then (T1 ∧ T1 ∧ T1 ∧ T1 ∧ tt ∧ tt ∧ (true = (@BEq.beq.{0} (List UInt8) (@List.instBEq.{0} UInt8 (@instBEqOfDecidableEq.{0} UInt8 instDecidableEqUInt8)) v0 (@List.nil.{0} UInt8)) ∧ True) ∧ tt) else w0_x)) else (tt ∧ tt ∧ (T1 ∧ True) ∧ (T1 ∧ (rightI x) = true) ∧ ∀ v4 : (List UInt8), (v4 = (headI x)) → T1 ∧ T1 ∧ T1 ∧ T1 ∧ T1 ∧ tt ∧ T1 ∧ (bif (@Decidable.decide (@Ne.{1} Int x.st (0 : Int)) (@instDecidableNot (x.st = 0) (@Int.instDecidableEq x.st (0 : Int)))) then (tt ∧ T1 ∧ tt ∧ (T1 ∧ (List.length x.c.foot) ≤ 900000 ∧ (List.length x.c.path) ≤ 900000) ∧ ∀ v6 : (List UInt8), (v6 = (showV x.c)) → ∀ v8 : Int, (v8 = (showE x.c)) → T1 ∧ T1 ∧ T1 ∧ T1 ∧ T1 ∧ tt ∧ T1 ∧ T1 ∧ (bif (v8 != 0) then (tt ∧ T1 ∧ tt ∧ tt ∧ w3_x ∧ tt) else (tt ∧ T1 ∧ T1 ∧ ((List.length v4) + (List.length v6)) ≤ 9223372036854775807 ∧ T1 ∧ tt ∧ T1 ∧ (T1 ∧ (List.length v0) ≤ 700000) ∧ ∀ v10 : Int, (v10 = (ireadX v0).r) → ∀ v12 : Int, (v12 = (ireadX v0).sl) → ∀ v14 : Int, (v14 = (ireadX v0).st) → ∀ v16 : Int, (v16 = (ireadX v0).bal) → ∀ v18 : Int, (v18 = (ireadX v0).vote) → ∀ v20 : Int, (v20 = (ireadX v0).c.k) → ∀ v22 : Int, (v22 = (ireadX v0).c.num) → ∀ v24 : (List UInt8), (v24 = (ireadX v0).c.foot) → ∀ v26 : Int, (v26 = (ireadX v0).c.rq) → ∀ v28 : (List UInt8), (v28 = (ireadX v0).c.path) → ∀ v30 : Int, (v30 = (ireadX v0).c.mode) → ∀ v32 : Int, (v32 = (ireadX v0).c.n) → ∀ v34 : Int, (v34 = (ireadX v0).c.time) → ∀ v36 : Int, (v36 = (ireadX v0).a.s) → ∀ v38 : Int, (v38 = (ireadX v0).a.d0) → ∀ v40 : Int, (v40 = (ireadX v0).a.d1) → ∀ v42 : Int, (v42 = (ireadX v0).a.d2) → ∀ v44 : Int, (v44 = (ireadX v0).a.d3) → ∀ v46 : Int, (v46 = (ireadX v0).a.d4) → ∀ v48 : Int, (v48 = (ireadX v0).a.d5) → ∀ v50 : Int, (v50 = (ireadX v0).a.d6) → ∀ v52 : Int, (v52 = (ireadE v0)) → T1 ∧ T1 ∧ T1 ∧ T1 ∧ tt ∧ T1 ∧ tt ∧ T1 ∧ T1 ∧ T1 ∧ (bif (v2 == 0) then (T1 ∧ T1 ∧ T1 ∧ T1 ∧ T1 ∧ (bif (@BEq.beq.{0} (List UInt8) (@List.instBEq.{0} UInt8 (@instBEqOfDecidableEq.{0} UInt8 instDecidableEqUInt8)) v0 (@catL UInt8 v4 v6)) then (T1 ∧ T1 ∧ T1 ∧ T1 ∧ (bif (v52 == 0) then (tt ∧ tt ∧ T1 ∧ T1 ∧ T1 ∧ tt ∧ tt ∧ (true = (Bool.and (v10 == x.r) (Bool.and (v12 == x.sl) (Bool.and (v14 == x.st) (Bool.and (v16 == x.bal) (Bool.and (v18 == x.vote) (Bool.and (@BEq.beq.{0} Bool (@instBEqOfDecidableEq.{0} Bool instDecidableEqBool) (ireadX v0).same x.same) (Bool.and (v20 == x.c.k) (Bool.and (v22 == x.c.num) (Bool.and (@BEq.beq.{0} (List UInt8) (@List.instBEq.{0} UInt8 (@instBEqOfDecidableEq.{0} UInt8 instDecidableEqUInt8)) v24 x.c.foot) (Bool.and (v26 == x.c.rq) (Bool.and (@BEq.beq.{0} (List UInt8) (@List.instBEq.{0} UInt8 (@instBEqOfDecidableEq.{0} UInt8 instDecidableEqUInt8)) v28 x.c.path) (Bool.and (v30 == x.c.mode) (Bool.and (v32 == x.c.n) (Bool.and (v34 == x.c.time) (Bool.and (v36 == x.a.s) (Bool.and (v38 == x.a.d0) (Bool.and (v40 == x.a.d1) (Bool.and (v42 == x.a.d2) (Bool.and (v44 == x.a.d3) (Bool.and (v46 == x.a.d4) (Bool.and (v48 == x.a.d5) (Bool.and (v50 == x.a.d6) true)))))))))))))))))))))) ∧ True) ∧ tt) else w0_x)) else w2_x)) else w1_x)))) else (tt ∧ T1 ∧ (T1 ∧ (List.length v0) ≤ 700000) ∧ ∀ v6 : Int, (v6 = (ireadX v0).r) → ∀ v8 : Int, (v8 = (ireadX v0).sl) → ∀ v10 : Int, (v10 = (ireadX v0).st) → ∀ v12 : Int, (v12 = (ireadX v0).bal) → ∀ v14 : Int, (v14 = (ireadX v0).vote) → ∀ v16 : Int, (v16 = (ireadX v0).c.k) → ∀ v18 : Int, (v18 = (ireadX v0).c.num) → ∀ v20 : (List UInt8), (v20 = (ireadX v0).c.foot) → ∀ v22 : Int, (v22 = (ireadX v0).c.rq) → ∀ v24 : (List UInt8), (v24 = (ireadX v0).c.path) → ∀ v26 : Int, (v26 = (ireadX v0).c.mode) → ∀ v28 : Int, (v28 = (ireadX v0).c.n) → ∀ v30 : Int, (v30 = (ireadX v0).c.time) → ∀ v32 : Int, (v32 = (ireadX v0).a.s) → ∀ v34 : Int, (v34 = (ireadX v0).a.d0) → ∀ v36 : Int, (v36 = (ireadX v0).a.d1) → ∀ v38 : Int, (v38 = (ireadX v0).a.d2) → ∀ v40 : Int, (v40 = (ireadX v0).a.d3) → ∀ v42 : Int, (v42 = (ireadX v0).a.d4) → ∀ v44 : Int, (v44 = (ireadX v0).a.d5) → ∀ v46 : Int, (v46 = (ireadX v0).a.d6) → ∀ v48 : Int, (v48 = (ireadE v0)) → T1 ∧ T1 ∧ T1 ∧ T1 ∧ tt ∧ T1 ∧ tt ∧ T1 ∧ T1 ∧ T1 ∧ (bif (v2 == 0) then (T1 ∧ T1 ∧ T1 ∧ T1 ∧ T1 ∧ (bif (@BEq.beq.{0} (List UInt8) (@List.instBEq.{0} UInt8 (@instBEqOfDecidableEq.{0} UInt8 instDecidableEqUInt8)) v0 v4) then (T1 ∧ T1 ∧ T1 ∧ T1 ∧ (bif (v48 == 0) then (tt ∧ tt ∧ T1 ∧ T1 ∧ T1 ∧ tt ∧ tt ∧ (true = (Bool.and (v6 == x.r) (Bool.and (v8 == x.sl) (Bool.and (v10 == x.st) (Bool.and (v12 == x.bal) (Bool.and (v14 == x.vote) (Bool.and (@BEq.beq.{0} Bool (@instBEqOfDecidableEq.{0} Bool instDecidableEqBool) (ireadX v0).same x.same) (Bool.and (v16 == x.c.k) (Bool.and (v18 == x.c.num) (Bool.and (@BEq.beq.{0} (List UInt8) (@List.instBEq.{0} UInt8 (@instBEqOfDecidableEq.{0} UInt8 instDecidableEqUInt8)) v20 x.c.foot) (Bool.and (v22 == x.c.rq) (Bool.and (@BEq.beq.{0} (List UInt8) (@List.instBEq.{0} UInt8 (@instBEqOfDecidableEq.{0} UInt8 instDecidableEqUInt8)) v24 x.c.path) (Bool.and (v26 == x.c.mode) (Bool.and (v28 == x.c.n) (Bool.and (v30 == x.c.time) (Bool.and (v32 == x.a.s) (Bool.and (v34 == x.a.d0) (Bool.and (v36 == x.a.d1) (Bool.and (v38 == x.a.d2) (Bool.and (v40 == x.a.d3) (Bool.and (v42 == x.a.d4) (Bool.and (v44 == x.a.d5) (Bool.and (v46 == x.a.d6) true)))))))))))))))))))))) ∧ True) ∧ tt) else w0_x)) else w2_x)) else w1_x))))))))) : inLawITexts0 x :=
  Eq.mp (show _ = _ by kernel_rfl) h
theorem vcLawIReads0 (t : (List UInt8)) (h : let q0 := (ireadX t); let w3_x := (true = false ∧ True); let w1_x := (false = false ∧ T1 ∧ tt ∧ tt ∧ w3_x ∧ tt); (tt ∧ T1 ∧ tt ∧ (T1 ∧ True) ∧ T1 ∧ tt ∧ T1 ∧ T1 ∧ T1 ∧ (bif (decide ((600 : Int) < ((List.length t) : Int))) then (tt ∧ T1 ∧ tt ∧ tt ∧ (tt ∧ True) ∧ tt) else (tt ∧ T1 ∧ (T1 ∧ (List.length t) ≤ 700000) ∧ ∀ v0 : Int, (v0 = q0.r) → ∀ v2 : Int, (v2 = q0.sl) → ∀ v4 : Int, (v4 = q0.st) → ∀ v6 : Int, (v6 = q0.bal) → ∀ v8 : Int, (v8 = q0.vote) → ∀ v10 : Int, (v10 = q0.c.k) → ∀ v12 : Int, (v12 = q0.c.num) → ∀ v14 : (List UInt8), (v14 = q0.c.foot) → ∀ v16 : Int, (v16 = q0.c.rq) → ∀ v18 : (List UInt8), (v18 = q0.c.path) → ∀ v20 : Int, (v20 = q0.c.mode) → ∀ v22 : Int, (v22 = q0.c.n) → ∀ v24 : Int, (v24 = q0.c.time) → ∀ v26 : Int, (v26 = q0.a.s) → ∀ v28 : Int, (v28 = q0.a.d0) → ∀ v30 : Int, (v30 = q0.a.d1) → ∀ v32 : Int, (v32 = q0.a.d2) → ∀ v34 : Int, (v34 = q0.a.d3) → ∀ v36 : Int, (v36 = q0.a.d4) → ∀ v38 : Int, (v38 = q0.a.d5) → ∀ v40 : Int, let w0_40 := (InstP.mk v0 v2 v4 v6 v8 q0.same (CmdP.mk v10 v12 v14 v16 v18 v20 v22 v24) (AttP.mk v26 v28 v30 v32 v34 v36 v38 v40)); (v40 = q0.a.d6) → ∀ v42 : Int, (v42 = (ireadE t)) → T1 ∧ T1 ∧ T1 ∧ T1 ∧ tt ∧ T1 ∧ tt ∧ T1 ∧ T1 ∧ (bif (v42 != 0) then (tt ∧ T1 ∧ T1 ∧ T1 ∧ (bif (v42 == 10) then (tt ∧ T1 ∧ T1 ∧ T1 ∧ T1 ∧ tt ∧ tt ∧ (true = (Bool.and (v0 == 0) (Bool.and (v2 == 0) (Bool.and (v4 == 0) (Bool.and (v6 == 0) (Bool.and (v8 == 0) (Bool.and (@BEq.beq.{0} Bool (@instBEqOfDecidableEq.{0} Bool instDecidableEqBool) q0.same false) (Bool.and (v10 == 0) (Bool.and (v12 == 0) (Bool.and (@BEq.beq.{0} (List UInt8) (@List.instBEq.{0} UInt8 (@instBEqOfDecidableEq.{0} UInt8 instDecidableEqUInt8)) v14 (@List.nil.{0} UInt8)) (Bool.and (v16 == 0) (Bool.and (@BEq.beq.{0} (List UInt8) (@List.instBEq.{0} UInt8 (@instBEqOfDecidableEq.{0} UInt8 instDecidableEqUInt8)) v18 (@List.nil.{0} UInt8)) (Bool.and (v20 == 0) (Bool.and (v22 == 0) (Bool.and (v24 == 0) (Bool.and (v26 == 0) (Bool.and (v28 == 0) (Bool.and (v30 == 0) (Bool.and (v32 == 0) (Bool.and (v34 == 0) (Bool.and (v36 == 0) (Bool.and (v38 == 0) (Bool.and (v40 == 0) true)))))))))))))))))))))) ∧ True) ∧ tt) else w1_x)) else (tt ∧ tt ∧ (T1 ∧ (smallX w0_40)) ∧ ∀ v44 : (List UInt8), (v44 = (ishowV w0_40)) → ∀ v46 : Int, (v46 = (ishowE w0_40)) → T1 ∧ T1 ∧ T1 ∧ T1 ∧ T1 ∧ tt ∧ tt ∧ (T1 ∧ True) ∧ (T1 ∧ (rightI w0_40) = true) ∧ ∀ v48 : (List UInt8), let w2_48 := ((List.length v48) : Int); (v48 = (headI w0_40)) → T1 ∧ T1 ∧ T1 ∧ T1 ∧ T1 ∧ tt ∧ tt ∧ (T1 ∧ True) ∧ (T1 ∧ (smallX w0_40)) ∧ T1 ∧ (bif (rightI w0_40) then (T1 ∧ T1 ∧ T1 ∧ T1 ∧ (bif (v46 == 0) then (T1 ∧ T1 ∧ T1 ∧ T1 ∧ T1 ∧ (bif (@BEq.beq.{0} (List UInt8) (@List.instBEq.{0} UInt8 (@instBEqOfDecidableEq.{0} UInt8 instDecidableEqUInt8)) v44 t) then (T1 ∧ T1 ∧ T1 ∧ T1 ∧ T1 ∧ T1 ∧ T1 ∧ (bif (decide (w2_48 ≤ ((List.length t) : Int))) then (T1 ∧ T1 ∧ T1 ∧ ((0 : Int) ≤ w2_48 ∧ w2_48 ≤ ((List.length t) : Int)) ∧ T1 ∧ T1 ∧ T1 ∧ T1 ∧ tt ∧ tt ∧ (true = (@BEq.beq.{0} (List UInt8) (@List.instBEq.{0} UInt8 (@instBEqOfDecidableEq.{0} UInt8 instDecidableEqUInt8)) (@cutL UInt8 t 0 (Int.toNat w2_48)) v48) ∧ True) ∧ tt) else w1_x)) else (false = false ∧ T1 ∧ false = false ∧ T1 ∧ tt ∧ tt ∧ w3_x ∧ tt))) else (false = false ∧ T1 ∧ false = false ∧ T1 ∧ false = false ∧ T1 ∧ tt ∧ tt ∧ w3_x ∧ tt))) else (false = false ∧ T1 ∧ false = false ∧ T1 ∧ false = false ∧ T1 ∧ false = false ∧ T1 ∧ tt ∧ tt ∧ w3_x ∧ tt)))))))) : inLawIReads0 t :=
  Eq.mp (show _ = _ by kernel_rfl) h
end Go.Proofs.YtpomloangafbkaaGreatDoor
/- States' texts: the law's conditions hold. -/
namespace Go.Proofs.YtpomloangafbkaaGreatDoor
set_option linter.unusedVariables false
set_option linter.unusedSimpArgs false
open Go.RowKit
set_option maxRecDepth 100000
theorem getD_pad (l : List (List UInt8)) (n i : Nat) : (l ++ List.replicate n []).getD i [] = l.getD i [] := by
  simp only [List.getD_eq_getElem?_getD]
  by_cases h : i < l.length
  · rw [List.getElem?_append_left h]
  · rw [List.getElem?_append_right (by omega), List.getElem?_eq_none (l := l) (by omega), List.getElem?_replicate]
    split <;> rfl
theorem pad_strs (l : List (List UInt8)) : catL (strsAV l) [AV.str [], AV.str [], AV.str [], AV.str [], AV.str [], AV.str [], AV.str []] = strsAV (l ++ List.replicate 7 []) := by
  simp [catL, strsAV, List.replicate]
theorem iread_no {t : List UInt8} (h : rightI (ixR t) = false ∨ ishowV (ixR t) ≠ t) : ireadX t = zI ∧ ireadE t = 10 := by
  have hk : iokR t = false := by
    unfold iokR
    rcases h with h | h
    · rw [h]; rfl
    · have : (ishowV (ixR t) == t) = false := by simpa using h
      rw [this]; simp
  unfold ireadX ireadE
  rw [hk]; exact ⟨rfl, rfl⟩
theorem iread_yes {t : List UInt8} (h1 : rightI (ixR t) = true) (h2 : ishowV (ixR t) = t) : ireadX t = ixR t ∧ ireadE t = 0 := by
  have hk : iokR t = true := by unfold iokR; rw [h1, h2]; simp
  unfold ireadX ireadE
  rw [hk]; exact ⟨rfl, rfl⟩
theorem showE_right {x : InstP} (h : (ishowE x != 0) = true) : rightI x = false := by
  cases hr : rightI x with
  | false => rfl
  | true => simp [ishowE, hr] at h
theorem showE_right' {x : InstP} (h : (ishowE x != 0) = false) : rightI x = true := by
  cases hr : rightI x with
  | true => rfl
  | false => simp [ishowE, hr] at h
theorem readC_lens (t : List UInt8) : (readC t).foot.length ≤ t.length ∧ (readC t).path.length ≤ t.length := by
  unfold readC
  split
  · exact rdN_lens t _
  · exact ⟨Nat.zero_le _, Nat.zero_le _⟩
set_option maxHeartbeats 4000000 in
theorem okIread0 : OkIread0 := by
  intro t hq
  have hq' : t.length ≤ 700000 := hq
  refine vcIread0 t ?_
  have hl := splitM_len t [32] 7 (by omega)
  have hL : ((splitM t [32] 7) ++ List.replicate 7 ([] : List UInt8)).length = (splitM t [32] 7).length + 7 := by simp
  have hw : ∀ i, i < 7 → rdStr (elemAt (strsAV (splitM t [32] 7 ++ List.replicate 7 [])) i) 0 = wdX t i := fun i h => by
    rw [rdStr_strs (by omega), getD_pad]; rfl
  have ho : ∀ i, i < 7 → okElem 1 (strsAV (splitM t [32] 7 ++ List.replicate 7 [])) i := fun i h => okElem_strs (by omega)
  have hr : ∀ i, i < 7 → okRead [Kd.str] (elemAt (strsAV (splitM t [32] 7 ++ List.replicate 7 [])) i) 0 := fun i h => okRead_strs (by omega)
  have hn : ∀ i, (wdX t i).length ≤ 700000 := fun i => by have := wdX_len t i; omega
  have hn1 : ∀ i, (wdX t i).length ≤ 100000000 := fun i => by have := hn i; omega
  have hn6 : (wdX t 6).length ≤ 800000 := by have := hn 6; omega
  have hc := readC_lens (wdX t 6)
  have h6 := hn 6
  simp only [true_and, and_true, forall_eq, eq_self, pad_strs, hw 0 (by omega), hw 1 (by omega), hw 2 (by omega), hw 3 (by omega), hw 4 (by omega), hw 5 (by omega), hw 6 (by omega), ho 0 (by omega), ho 1 (by omega), ho 2 (by omega), ho 3 (by omega), ho 4 (by omega), ho 5 (by omega), ho 6 (by omega), hr 0 (by omega), hr 1 (by omega), hr 2 (by omega), hr 3 (by omega), hr 4 (by omega), hr 5 (by omega), hr 6 (by omega), hn1, hn6, length_strsAV, hL, okWidth_strs]
  refine ⟨by omega, ⟨by omega, by omega, okWidth_strs [[], [], [], [], [], [], []]⟩, by omega, by omega, by omega, cond_prop (fun h => ?_) fun h => ?_⟩
  · have h' : statusN (wdX t 2) ≠ 0 := by simpa using h
    have hx : ixR t = InstP.mk (ridR (wdX t 0)) (ridS (wdX t 0)) (statusN (wdX t 2)) (rbalV (wdX t 1)) (rbalV (wdX t 3)) (wdX t 4 == [115, 97, 109, 101]) (CmdP.mk (readC (wdX t 6)).k (readC (wdX t 6)).num (readC (wdX t 6)).foot (readC (wdX t 6)).rq (readC (wdX t 6)).path (readC (wdX t 6)).mode (readC (wdX t 6)).n (readC (wdX t 6)).time) (AttP.mk (raS (wdX t 5)) (raD (wdX t 5) 0) (raD (wdX t 5) 1) (raD (wdX t 5) 2) (raD (wdX t 5) 3) (raD (wdX t 5) 4) (raD (wdX t 5) 5) (raD (wdX t 5) 6)) := if_neg h'
    have hs : smallX (ixR t) := by rw [hx]; exact ⟨by show (readC (wdX t 6)).foot.length ≤ 900000; omega, by show (readC (wdX t 6)).path.length ≤ 900000; omega⟩
    rw [← hx]
    refine ⟨by omega, by omega, by omega, by omega, hs, cond_prop (fun g => ?_) fun g => cond_prop (fun g2 => ?_) fun g2 => ?_⟩
    · obtain ⟨r1, r2⟩ := iread_no (.inl (showE_right g))
      rw [r1, r2]; and_intros <;> rfl
    · obtain ⟨r1, r2⟩ := iread_no (t := t) (.inr (by simpa using g2))
      rw [r1, r2]; and_intros <;> rfl
    · obtain ⟨r1, r2⟩ := iread_yes (showE_right' g) (by simpa using g2)
      rw [r1, r2, hx]; and_intros <;> rfl
  · have h' : statusN (wdX t 2) = 0 := by simpa using h
    have hx : ixR t = InstP.mk (ridR (wdX t 0)) (ridS (wdX t 0)) (statusN (wdX t 2)) (rbalV (wdX t 1)) 0 false (CmdP.mk 0 0 [] 0 [] 0 0 0) (AttP.mk 0 0 0 0 0 0 0 0) := by rw [h']; exact if_pos h'
    have hs : smallX (ixR t) := by rw [hx]; exact ⟨by show ([] : List UInt8).length ≤ 900000; simp, by show ([] : List UInt8).length ≤ 900000; simp⟩
    rw [← hx]
    refine ⟨hs, cond_prop (fun g => ?_) fun g => cond_prop (fun g2 => ?_) fun g2 => ?_⟩
    · obtain ⟨r1, r2⟩ := iread_no (.inl (showE_right g))
      rw [r1, r2]; and_intros <;> rfl
    · obtain ⟨r1, r2⟩ := iread_no (t := t) (.inr (by simpa using g2))
      rw [r1, r2]; and_intros <;> rfl
    · obtain ⟨r1, r2⟩ := iread_yes (showE_right' g) (by simpa using g2)
      rw [r1, r2, hx]; and_intros <;> rfl
theorem smallB_small {x : InstP} (h : (!smallB x 200) = false) : smallX x := by
  simp [smallB] at h
  exact ⟨by omega, by omega⟩
set_option maxHeartbeats 4000000 in
theorem okLawITexts0 : OkLawITexts0 := by
  intro x hq hb
  refine vcLawITexts0 x ?_
  simp only [true_and, and_true, forall_eq, eq_self]
  refine ⟨hq, cond_prop (fun _ => trivial) fun h => ?_⟩
  have hs := smallB_small h
  refine ⟨hs, hs, cond_prop (fun g => ?_) fun g => ?_⟩
  · have g' : rightI x = false := by simpa using g
    have e1 : ishowV x = [] := by unfold ishowV; rw [g']; rfl
    have e2 : ishowE x = 10 := by unfold ishowE; rw [g']; rfl
    rw [e1, e2]
    exact cond_prop (fun _ => by decide) fun k => by simp at k
  · have g' : rightI x = true := by simpa using g
    have e2 : ishowE x = 0 := by unfold ishowE; rw [g']; rfl
    obtain ⟨r1, r2⟩ := iread_shown g' hb
    have hh := ishow_head g' ⟨hb.1, hb.2.1⟩
    have hl := ishow_len g' hb
    have hfin : true = (x.r == x.r && (x.sl == x.sl && (x.st == x.st && (x.bal == x.bal && (x.vote == x.vote && (x.same == x.same && (x.c.k == x.c.k && (x.c.num == x.c.num && (x.c.foot == x.c.foot && (x.c.rq == x.c.rq && (x.c.path == x.c.path && (x.c.mode == x.c.mode && (x.c.n == x.c.n && (x.c.time == x.c.time && (x.a.s == x.a.s && (x.a.d0 == x.a.d0 && (x.a.d1 == x.a.d1 && (x.a.d2 == x.a.d2 && (x.a.d3 == x.a.d3 && (x.a.d4 == x.a.d4 && (x.a.d5 == x.a.d5 && (x.a.d6 == x.a.d6 && true)))))))))))))))))))))) := by simp
    rw [r1, r2, e2]
    refine ⟨g', cond_prop (fun k => ?_) fun k => ?_⟩
    · have k' : x.st ≠ 0 := of_decide_eq_true k
      obtain ⟨_, _, hc, _⟩ := (rightI_parts g').2.2.2.2 k'
      have e3 : showE x.c = 0 := by unfold showE; rw [hc]; rfl
      rw [if_neg k'] at hh
      have hl2 : (headI x).length + (showV x.c).length ≤ 7100 := by rw [hh] at hl; simpa using hl
      rw [e3]
      refine ⟨hs, cond_prop (fun m => by simp at m) fun _ => ⟨by omega, by omega, cond_prop (fun _ => cond_prop (fun _ => cond_prop (fun _ => hfin) fun m => by simp at m) fun m => ?_) fun m => by simp at m⟩⟩
      exfalso
      rw [hh] at m
      simp [catL] at m
    · have k' : x.st = 0 := by simpa using k
      rw [if_pos k'] at hh
      refine ⟨by omega, cond_prop (fun _ => cond_prop (fun _ => cond_prop (fun _ => hfin) fun m => by simp at m) fun m => ?_) fun m => by simp at m⟩
      exfalso
      rw [hh] at m
      simp at m
theorem rbal_range (s : List UInt8) : 0 ≤ rbalV s ∧ rbalV s ≤ 4294967295 := by
  unfold rbalV
  split
  · rename_i h
    unfold rbalE at h
    split at h
    · split at h
      · omega
      · omega
    · omega
  · omega
theorem ix_range (t : List UInt8) : (0 ≤ (ixR t).bal ∧ (ixR t).bal ≤ 4294967295) ∧ (0 ≤ (ixR t).vote ∧ (ixR t).vote ≤ 4294967295) := by
  unfold ixR
  split
  · exact ⟨rbal_range _, by show (0 : Int) ≤ 0 ∧ (0 : Int) ≤ 4294967295; omega⟩
  · exact ⟨rbal_range _, rbal_range _⟩
theorem ix_small (t : List UInt8) (h : t.length ≤ 700000) : smallX (ixR t) := by
  have h6 := wdX_len t 6
  have hc := readC_lens (wdX t 6)
  unfold ixR
  split
  · exact ⟨by show ([] : List UInt8).length ≤ 900000; simp, by show ([] : List UInt8).length ≤ 900000; simp⟩
  · exact ⟨by show (readC (wdX t 6)).foot.length ≤ 900000; omega, by show (readC (wdX t 6)).path.length ≤ 900000; omega⟩
set_option maxHeartbeats 4000000 in
theorem okLawIReads0 : OkLawIReads0 := by
  intro t hq
  refine vcLawIReads0 t ?_
  have eta : InstP.mk (ireadX t).r (ireadX t).sl (ireadX t).st (ireadX t).bal (ireadX t).vote (ireadX t).same (CmdP.mk (ireadX t).c.k (ireadX t).c.num (ireadX t).c.foot (ireadX t).c.rq (ireadX t).c.path (ireadX t).c.mode (ireadX t).c.n (ireadX t).c.time) (AttP.mk (ireadX t).a.s (ireadX t).a.d0 (ireadX t).a.d1 (ireadX t).a.d2 (ireadX t).a.d3 (ireadX t).a.d4 (ireadX t).a.d5 (ireadX t).a.d6) = ireadX t := rfl
  simp only [true_and, and_true, forall_eq, eq_self, eta]
  refine cond_prop (fun _ => trivial) fun h => ?_
  have hl : t.length ≤ 600 := by have := of_decide_eq_false h; omega
  refine ⟨by omega, ?_⟩
  cases hk : iokR t with
  | false =>
    have r1 : ireadX t = zI := by unfold ireadX; rw [hk]; rfl
    have r2 : ireadE t = 10 := by unfold ireadE; rw [hk]; rfl
    rw [r1, r2]
    refine cond_prop (fun _ => cond_prop (fun _ => by decide) fun m => by simp at m) fun m => by simp at m
  | true =>
    have r1 : ireadX t = ixR t := by unfold ireadX; rw [hk]; rfl
    have r2 : ireadE t = 0 := by unfold ireadE; rw [hk]; rfl
    have hk2 := hk
    unfold iokR at hk2
    rw [Bool.and_eq_true] at hk2
    obtain ⟨k1, k2⟩ := hk2
    have k3 : ishowV (ixR t) = t := by simpa using k2
    have e2 : ishowE (ixR t) = 0 := by unfold ishowE; rw [k1]; rfl
    have hh := ishow_head k1 (ix_range t)
    rw [k3] at hh
    have hs := ix_small t (by omega)
    rw [r1, r2, e2, k3, k1]
    have hlen : (headI (ixR t)).length ≤ t.length := by
      have := congrArg List.length hh
      simp at this; omega
    refine cond_prop (fun m => by simp at m) fun _ => ⟨hs, rfl, hs, cond_prop (fun _ => cond_prop (fun _ => cond_prop (fun _ => cond_prop (fun _ => ⟨by omega, ?_⟩) fun m => ?_) fun m => by simp at m) fun m => by simp at m) fun m => by simp at m⟩
    · have e5 : (((headI (ixR t)).length : Int)).toNat = (headI (ixR t)).length := by omega
      rw [e5]
      have e7 : ∀ (H R : List UInt8), t = H ++ R → cutL t 0 H.length = H := fun H R e => by
        unfold cutL; rw [e]; simp
      have e6 : cutL t 0 (headI (ixR t)).length = headI (ixR t) := e7 _ _ hh
      rw [e6]; simp
    · exfalso
      have := of_decide_eq_false m; omega
end Go.Proofs.YtpomloangafbkaaGreatDoor
/- The contracts are met. -/
namespace Go.Proofs.YtpomloangafbkaaGreatDoor
set_option linter.unusedVariables false
set_option linter.unusedSimpArgs false
open Go.RowKit
theorem sndIread : Sound Tryz.prog (lookΓ gamIread) := sound_of _ fun p hp => by
  simp only [gamIread, List.mem_cons, List.not_mem_nil, or_false] at hp
  rcases hp with rfl | rfl | rfl | rfl | rfl | rfl | rfl
  · exact meetsSplitN.orNil
  · exact meetsReadID.orNil
  · exact meetsReadBal.orNil
  · exact meetsIstatus.orNil
  · exact meetsAttRead.orNil
  · exact meetsCread.orNil
  · exact meetsIshow.orNil
set_option maxHeartbeats 4000000 in
theorem meetsIread : Meets Tryz.prog 14 ireadF := by
  refine meets_of_awp (Γ := lookΓ gamIread) (L := fun _ _ => none) sndIread mixedOrders Tryz.func14 rfl Tryz.call14 ?_
  intro args q r hF hq ho
  unfold ireadF at hF
  split at hF
  · cases hF
    exact ⟨by simp only [List.length_cons, List.length_nil]; decide, okIread0 _ hq⟩
  · cases hF
theorem sndLawITexts : Sound Tryz.prog (lookΓ gamLawITexts) := sound_of _ fun p hp => by
  simp only [gamLawITexts, List.mem_cons, List.not_mem_nil, or_false] at hp
  rcases hp with rfl | rfl | rfl | rfl | rfl | rfl | rfl | rfl
  · exact meetsAnchor10.orNil
  · exact meetsSmall10.orNil
  · exact meetsOf10.orNil
  · exact meetsXright.orNil
  · exact meetsIshow.orNil
  · exact meetsIread.orNil
  · exact meetsText10.orNil
  · exact meetsCshow.orNil
set_option maxHeartbeats 4000000 in
theorem meetsLawITexts : Meets Tryz.prog 3 lawITextsF := by
  refine meets_of_awp (Γ := lookΓ gamLawITexts) (L := fun _ _ => none) sndLawITexts mixedOrders Tryz.func3 rfl Tryz.call3 ?_
  intro args q r hF hq ho
  unfold lawITextsF at hF
  split at hF
  · split at hF
    · rename_i x hzx
      obtain rfl := instOf_some hzx
      cases hF
      exact ⟨by simp only [List.length_cons, List.length_nil]; decide, okLawITexts0 _ hq (⟨okay_u32 (argA 0 3 ho rfl rfl), okay_u32 (argA 0 4 ho rfl rfl), okay_u64 (argA 0 7 ho rfl rfl), okay_u64 (argA 0 9 ho rfl rfl), okay_u64 (argA 0 12 ho rfl rfl)⟩)⟩
    · cases hF
  · cases hF
theorem sndLawIReads : Sound Tryz.prog (lookΓ gamLawIReads) := sound_of _ fun p hp => by
  simp only [gamLawIReads, List.mem_cons, List.not_mem_nil, or_false] at hp
  rcases hp with rfl | rfl | rfl | rfl | rfl | rfl
  · exact meetsAnchor10.orNil
  · exact meetsOf10.orNil
  · exact meetsXright.orNil
  · exact meetsIshow.orNil
  · exact meetsIread.orNil
  · exact meetsText10.orNil
set_option maxHeartbeats 4000000 in
theorem meetsLawIReads : Meets Tryz.prog 4 lawIReadsF := by
  refine meets_of_awp (Γ := lookΓ gamLawIReads) (L := fun _ _ => none) sndLawIReads mixedOrders Tryz.func4 rfl Tryz.call4 ?_
  intro args q r hF hq ho
  unfold lawIReadsF at hF
  split at hF
  · cases hF
    exact ⟨by simp only [List.length_cons, List.length_nil]; decide, okLawIReads0 _ hq⟩
  · cases hF
end Go.Proofs.YtpomloangafbkaaGreatDoor
