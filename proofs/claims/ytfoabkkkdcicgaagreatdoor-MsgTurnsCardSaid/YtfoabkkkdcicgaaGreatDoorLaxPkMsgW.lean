/- Contracts by content, their conditions, and that they are met: MsgW. -/
import Derived.Test.YtfoabkkkdcicgaaGreatDoorLaxPkMsgA
import Derived.Test.YtfoabkkkdcicgaaGreatDoorLaxPkInstW
import Derived.Test.YtfoabkkkdcicgaaGreatDoorLaxPkSumW
import Derived.Test.YtfoabkkkdcicgaaGreatDoorLaxInstRd
/- Contracts by content, and the conditions that their code must meet. -/
namespace Go.Proofs.YtfoabkkkdcicgaaGreatDoor
set_option linter.unusedVariables false
set_option linter.unusedSimpArgs false
open Go.RowKit
def mrightTF : Con
  | [.val (.agg zcm)] => (match msgOf zcm with | some m => some (smallX m.x ∧ rightM m = true, ⟨.bool true, none, none⟩) | _ => none)
  | _ => none
def mrightNF : Con
  | [.val (.agg zcm)] => (match msgOf zcm with | some m => some (smallX m.x ∧ rightM m = false, ⟨.bool false, none, none⟩) | _ => none)
  | _ => none
theorem meetsMrightT : Meets Tryz.prog 19 mrightTF := meetsMright.weak fun args q r hF hq => by
  unfold mrightTF at hF
  split at hF
  · split at hF
    · rename_i m hz
      obtain rfl := msgOf_some hz
      cases hF
      exact ⟨_, congrArg (fun b => some (smallX m.x, (⟨.bool b, none, none⟩ : Res))) hq.2, hq.1⟩
    · cases hF
  · cases hF
theorem meetsMrightN : Meets Tryz.prog 19 mrightNF := meetsMright.weak fun args q r hF hq => by
  unfold mrightNF at hF
  split at hF
  · split at hF
    · rename_i m hz
      obtain rfl := msgOf_some hz
      cases hF
      exact ⟨_, congrArg (fun b => some (smallX m.x, (⟨.bool b, none, none⟩ : Res))) hq.2, hq.1⟩
    · cases hF
  · cases hF
def bodyM (m : MsgP) : List UInt8 := catL (encByte (IntKind.u8.wrap m.k)) (catL (encByte (IntKind.u8.wrap m.src)) (catL (encByte (IntKind.u8.wrap m.dst)) (catL (encID m.r m.s) (catL (short m.b.toNat) (catL (encTruth m.ok) (if m.k = 6 then [] else encI m.x))))))
def frameM (m : MsgP) : List UInt8 := sealL (bodyM m)
abbrev rangeM (m : MsgP) : Prop := (0 ≤ m.b ∧ m.b ≤ 4294967295) ∧ rangeX m.x
def kOK (k : Int) : Bool := decide (1 ≤ k ∧ k ≤ 7)
def mt1 (l : List UInt8) (e : Int) : List UInt8 × Int := (tkRest l e 1, if kOK (inByteV l e) then tkErr l.length e 1 else inFail (tkErr l.length e 1) 22)
def mt2 (l : List UInt8) (e : Int) : List UInt8 × Int := (tkRest (mt1 l e).1 (mt1 l e).2 1, tkErr (mt1 l e).1.length (mt1 l e).2 1)
def mtF (l : List UInt8) (e : Int) : Int := inByteV (mt1 l e).1 (mt1 l e).2
def mtT (l : List UInt8) (e : Int) : Int := inByteV (mt2 l e).1 (mt2 l e).2
def mt3 (l : List UInt8) (e : Int) : List UInt8 × Int := (tkRest (mt2 l e).1 (mt2 l e).2 1, if repOK (mtF l e) && repOK (mtT l e) then tkErr (mt2 l e).1.length (mt2 l e).2 1 else inFail (tkErr (mt2 l e).1.length (mt2 l e).2 1) 12)
def mt4 (l : List UInt8) (e : Int) : List UInt8 × Int := (idRest (mt3 l e).1 (mt3 l e).2, idErr (mt3 l e).1 (mt3 l e).2)
def mt5 (l : List UInt8) (e : Int) : List UInt8 × Int := (shRest (mt4 l e).1 (mt4 l e).2 4294967295, balE (mt4 l e).1 (mt4 l e).2)
def mt6 (l : List UInt8) (e : Int) : List UInt8 × Int := (tkRest (mt5 l e).1 (mt5 l e).2 1, inTruthE (mt5 l e).1 (mt5 l e).2)
def mt7 (l : List UInt8) (e : Int) : List UInt8 × Int := if inByteV l e = 6 then mt6 l e else (itR (mt6 l e).1 (mt6 l e).2, itE (mt6 l e).1 (mt6 l e).2)
def mtV (l : List UInt8) (e : Int) : MsgP := ⟨inByteV l e, mtF l e, mtT l e, idR (mt3 l e).1 (mt3 l e).2, idS (mt3 l e).1 (mt3 l e).2, balV (mt4 l e).1 (mt4 l e).2, inTruthV (mt5 l e).1 (mt5 l e).2, if inByteV l e = 6 then zI else itX (mt6 l e).1 (mt6 l e).2⟩
def mopenE (l : List UInt8) : Int :=
  if 512 < l.length then 11 else if openE l ≠ 0 then openE l
  else if inEnd (mt7 (openV l) 0).1 (mt7 (openV l) 0).2 ≠ 0 then inEnd (mt7 (openV l) 0).1 (mt7 (openV l) 0).2
  else if rightM (mtV (openV l) 0) then 0 else 10
def mopenX (l : List UInt8) : MsgP := if mopenE l = 0 then mtV (openV l) 0 else zM
def mframeTF : Con
  | [.val (.agg zcm)] => (match msgOf zcm with | some m => some (smallX m.x ∧ rightM m = true, ⟨.sl (bytesAV (frameM m)) (.row 0 0 5), none, none⟩) | _ => none)
  | _ => none
def gamMframeT : List (Nat × Con) := [(19, mrightTF.orNil), (41, outByteF.orNil), (42, idPutF.orNil), (43, balPutF.orNil), (44, outTruthF.orNil), (37, iputF.orNil), (38, outBytesF.orNil), (45, sealF.orNil)]
def lpMframeT0 (m : MsgP) : Nat → Option LoopPlan := fun _ => none
def inMframeT0 (m : MsgP) : Prop := awp [] (lpMframeT0 m) (lookΓ gamMframeT) Tryz.prog Tryz.f18.ntmps 0 (Tryz.f18.body.getD .skip) (entrySt [.val (.agg (msgL m))]) (exitQ Tryz.prog Tryz.f18.results.toList [] ⟨.sl (bytesAV (frameM m)) (.row 0 0 5), none, none⟩)
def OkMframeT0 : Prop := ∀ (m : MsgP), smallX m.x ∧ rightM m = true → (rangeM m) → inMframeT0 m
def mframeNF : Con
  | [.val (.agg zcm)] => (match msgOf zcm with | some m => some (smallX m.x ∧ rightM m = false, ⟨.sl [] .no, none, none⟩) | _ => none)
  | _ => none
def gamMframeN : List (Nat × Con) := [(19, mrightNF.orNil)]
def lpMframeN0 (m : MsgP) : Nat → Option LoopPlan := fun _ => none
def inMframeN0 (m : MsgP) : Prop := awp [] (lpMframeN0 m) (lookΓ gamMframeN) Tryz.prog Tryz.f18.ntmps 0 (Tryz.f18.body.getD .skip) (entrySt [.val (.agg (msgL m))]) (exitQ Tryz.prog Tryz.f18.results.toList [] ⟨.sl [] .no, none, none⟩)
def OkMframeN0 : Prop := ∀ (m : MsgP), smallX m.x ∧ rightM m = false → inMframeN0 m
def mtakeF : Con
  | [.box [.sl xs .no, .int .i64 e]] => (some (isBytes xs, ⟨.agg (msgL (mtV (bytesL xs) e)), (some [.sl (bytesAV (mt7 (bytesL xs) e).1) .no, .int .i64 (mt7 (bytesL xs) e).2]), none⟩))
  | _ => none
def gamMtake : List (Nat × Con) := [(59, inByteF.orNil), (60, inFailF.orNil), (46, replicaF.orNil), (57, takeIDF.orNil), (58, takeBalF.orNil), (61, inTruthF.orNil), (28, itakeF.orNil)]
def lpMtake0 (xs : List AV) (e : Int) : Nat → Option LoopPlan := fun _ => none
def inMtake0 (xs : List AV) (e : Int) : Prop := awp [0] (lpMtake0 xs e) (lookΓ gamMtake) Tryz.prog Tryz.f51.ntmps 0 (Tryz.f51.body.getD .skip) (entrySt [.box [.sl xs .no, .int .i64 e]]) (exitQ Tryz.prog Tryz.f51.results.toList [0] ⟨.agg (msgL (mtV (bytesL xs) e)), (some [.sl (bytesAV (mt7 (bytesL xs) e).1) .no, .int .i64 (mt7 (bytesL xs) e).2]), none⟩)
def OkMtake0 : Prop := ∀ (xs : List AV) (e : Int), isBytes xs → inMtake0 xs e
def mopenF : Con
  | [.val (.sl xs .no)] => (some (isBytes xs ∧ xs.length ≤ 140737488355100, ⟨.tup [.agg (msgL (mopenX (bytesL xs))), .int .i64 (mopenE (bytesL xs))], none, none⟩))
  | _ => none
def gamMopen : List (Nat × Con) := [(50, openF.orNil), (27, newInF.orNil), (51, mtakeF.orNil), (29, inEndF.orNil), (19, mrightF.orNil)]
def lpMopen0 (xs : List AV) : Nat → Option LoopPlan := fun _ => none
def inMopen0 (xs : List AV) : Prop := awp [] (lpMopen0 xs) (lookΓ gamMopen) Tryz.prog Tryz.f20.ntmps 0 (Tryz.f20.body.getD .skip) (entrySt [.val (.sl xs .no)]) (exitQ Tryz.prog Tryz.f20.results.toList [] ⟨.tup [.agg (msgL (mopenX (bytesL xs))), .int .i64 (mopenE (bytesL xs))], none, none⟩)
def OkMopen0 : Prop := ∀ (xs : List AV), isBytes xs ∧ xs.length ≤ 140737488355100 → inMopen0 xs
end Go.Proofs.YtfoabkkkdcicgaaGreatDoor
/- What the verification conditions come to: printed by a program of ours (wip/lax/ex/Norm.lean). -/
namespace Go.Proofs.YtfoabkkkdcicgaaGreatDoor
set_option linter.unusedVariables false
open Go.RowKit
set_option maxRecDepth 100000
theorem vcMframeT0 (m : MsgP) (h : (tt ∧ T1 ∧ T1 ∧ tt ∧ tt ∧ (T1 ∧ (smallX m.x) ∧ (rightM m) = true) ∧ T1 ∧ tt ∧ T1 ∧ T1 ∧ T1 ∧ tt ∧ T1 ∧ T1 ∧ tt ∧ T1 ∧ ((@Eq.{1} Nat 0 0 ∧ True) ∧ (isBytes []) ∧ 1 ≤ 140737488355328) ∧ ∀ v0 : (List AV), (v0 = (bytesAV (@catL UInt8 (@List.nil.{0} UInt8) (encByte (IntKind.wrap IntKind.u8 m.k))))) → ∀ v2 : Nat, (v2 = (List.length (bytesAV (@catL UInt8 (@List.nil.{0} UInt8) (encByte (IntKind.wrap IntKind.u8 m.k)))))) → T1 ∧ tt ∧ T1 ∧ ((v2 = (List.length v0) ∧ True) ∧ (isBytes v0) ∧ ((List.length v0) + 1) ≤ 140737488355328) ∧ ∀ v4 : (List AV), (v4 = (bytesAV (@catL UInt8 (bytesL v0) (encByte (IntKind.wrap IntKind.u8 m.src))))) → ∀ v6 : Nat, (v6 = (List.length (bytesAV (@catL UInt8 (bytesL v0) (encByte (IntKind.wrap IntKind.u8 m.src)))))) → T1 ∧ tt ∧ T1 ∧ ((v6 = (List.length v4) ∧ True) ∧ (isBytes v4) ∧ ((List.length v4) + 1) ≤ 140737488355328) ∧ ∀ v8 : (List AV), (v8 = (bytesAV (@catL UInt8 (bytesL v4) (encByte (IntKind.wrap IntKind.u8 m.dst))))) → ∀ v10 : Nat, (v10 = (List.length (bytesAV (@catL UInt8 (bytesL v4) (encByte (IntKind.wrap IntKind.u8 m.dst)))))) → tt ∧ tt ∧ T1 ∧ tt ∧ T1 ∧ ((v10 = (List.length v8) ∧ True) ∧ (isBytes v8) ∧ ((List.length v8) + 11) ≤ 140737488355328) ∧ ∀ v12 : (List AV), (v12 = (bytesAV (@catL UInt8 (bytesL v8) (encID m.r m.s)))) → ∀ v14 : Nat, (v14 = (List.length (bytesAV (@catL UInt8 (bytesL v8) (encID m.r m.s))))) → tt ∧ T1 ∧ tt ∧ T1 ∧ ((v14 = (List.length v12) ∧ True) ∧ (isBytes v12) ∧ ((List.length v12) + 10) ≤ 140737488355328) ∧ ∀ v16 : (List AV), (v16 = (bytesAV (@catL UInt8 (bytesL v12) (short (Int.toNat m.b))))) → ∀ v18 : Nat, (v18 = (List.length (bytesAV (@catL UInt8 (bytesL v12) (short (Int.toNat m.b)))))) → tt ∧ T1 ∧ T1 ∧ tt ∧ ((v18 = (List.length v16) ∧ True) ∧ (isBytes v16) ∧ ((List.length v16) + 1) ≤ 140737488355328) ∧ ∀ v20 : (List AV), (v20 = (bytesAV (@catL UInt8 (bytesL v16) (encTruth m.ok)))) → ∀ v22 : Nat, (v22 = (List.length (bytesAV (@catL UInt8 (bytesL v16) (encTruth m.ok))))) → tt ∧ T1 ∧ tt ∧ T1 ∧ (bif (m.k != 6) then (tt ∧ T1 ∧ tt ∧ T1 ∧ ((v22 = (List.length v20) ∧ True) ∧ (smallX m.x) ∧ ((@Ne.{1} Int m.x.st (0 : Int)) → (attGood m.x)) ∧ (isBytes v20) ∧ ((List.length v20) + 3000000) ≤ 140737488355328) ∧ ∀ v24 : (List AV), (v24 = (bytesAV (@catL UInt8 (bytesL v20) (encI m.x)))) → ∀ v26 : Nat, (v26 = (List.length (bytesAV (@catL UInt8 (bytesL v20) (encI m.x))))) → tt ∧ T1 ∧ ((v26 = (List.length v24) ∧ True) ∧ (isBytes v24) ∧ (List.length v24) ≤ 140737488355328) ∧ ∀ v28 : (List AV), (v28 = v24) → ∀ v30 : (List AV), (v30 = v24) → ∀ v32 : Nat, (v32 = (List.length v24)) → (T1 ∧ (isBytes v28) ∧ (List.length v28) ≤ 140737488355000) ∧ ∀ v34 : (List AV), (v34 = (bytesAV (sealL (bytesL v28)))) → ∀ v36 : Nat, (v36 = (List.length (bytesAV (sealL (bytesL v28))))) → T1 ∧ tt ∧ tt ∧ ((0 < 1 ∧ (bytesAV (frameM m)) = v34 ∧ v36 = (List.length v34)) ∧ True) ∧ tt) else (tt ∧ T1 ∧ ((v22 = (List.length v20) ∧ True) ∧ (isBytes v20) ∧ (List.length v20) ≤ 140737488355328) ∧ ∀ v24 : (List AV), (v24 = v20) → ∀ v26 : (List AV), (v26 = v20) → ∀ v28 : Nat, (v28 = (List.length v20)) → (T1 ∧ (isBytes v24) ∧ (List.length v24) ≤ 140737488355000) ∧ ∀ v30 : (List AV), (v30 = (bytesAV (sealL (bytesL v24)))) → ∀ v32 : Nat, (v32 = (List.length (bytesAV (sealL (bytesL v24))))) → T1 ∧ tt ∧ tt ∧ ((0 < 1 ∧ (bytesAV (frameM m)) = v30 ∧ v32 = (List.length v30)) ∧ True) ∧ tt)))) : inMframeT0 m :=
  Eq.mp (show _ = _ by kernel_rfl) h
theorem vcMframeN0 (m : MsgP) (h : (tt ∧ T1 ∧ T1 ∧ tt ∧ tt ∧ (T1 ∧ (smallX m.x) ∧ (rightM m) = false) ∧ T1 ∧ tt ∧ T1 ∧ tt ∧ tt ∧ ((@List.nil.{0} AV) = [] ∧ True) ∧ tt)) : inMframeN0 m :=
  Eq.mp (show _ = _ by kernel_rfl) h
theorem vcMtake0 (xs : (List AV)) (e : Int) (h : let q0 := (mtV (bytesL xs) e); let q1 := (mt7 (bytesL xs) e); let q2 := (bytesAV q1.1); (tt ∧ T1 ∧ tt ∧ T1 ∧ (T1 ∧ (isBytes xs)) ∧ ∀ v0 : Int, (v0 = (inByteV (bytesL xs) e)) → ∀ v2 : (List AV), (v2 = (bytesAV (tkRest (bytesL xs) e 1))) → ∀ v4 : Int, (v4 = (tkErr (List.length (bytesL xs)) e 1)) → T1 ∧ T1 ∧ T1 ∧ tt ∧ tt ∧ T1 ∧ tt ∧ T1 ∧ T1 ∧ (bif (decide ((IntKind.wrap IntKind.i64 v0) < 1)) then (tt ∧ tt ∧ T1 ∧ (T1 ∧ True) ∧ ∀ v6 : (List AV), (v6 = v2) → ∀ v8 : Int, (v8 = (inFail v4 22)) → tt ∧ T1 ∧ (T1 ∧ (isBytes v6)) ∧ ∀ v10 : Int, (v10 = (inByteV (bytesL v6) v8)) → ∀ v12 : (List AV), (v12 = (bytesAV (tkRest (bytesL v6) v8 1))) → ∀ v14 : Int, (v14 = (tkErr (List.length (bytesL v6)) v8 1)) → T1 ∧ T1 ∧ (T1 ∧ (isBytes v12)) ∧ ∀ v16 : Int, (v16 = (inByteV (bytesL v12) v14)) → ∀ v18 : (List AV), (v18 = (bytesAV (tkRest (bytesL v12) v14 1))) → ∀ v20 : Int, (v20 = (tkErr (List.length (bytesL v12)) v14 1)) → T1 ∧ T1 ∧ tt ∧ T1 ∧ tt ∧ tt ∧ T1 ∧ tt ∧ (T1 ∧ True) ∧ T1 ∧ T1 ∧ (bif (Bool.not (repOK (IntKind.wrap IntKind.i64 v10))) then (tt ∧ tt ∧ T1 ∧ (T1 ∧ True) ∧ ∀ v22 : (List AV), (v22 = v18) → ∀ v24 : Int, (v24 = (inFail v20 12)) → tt ∧ T1 ∧ (T1 ∧ (isBytes v22)) ∧ ∀ v26 : Int, (v26 = (idR (bytesL v22) v24)) → ∀ v28 : Int, (v28 = (idS (bytesL v22) v24)) → ∀ v30 : (List AV), (v30 = (bytesAV (idRest (bytesL v22) v24))) → ∀ v32 : Int, (v32 = (idErr (bytesL v22) v24)) → T1 ∧ tt ∧ tt ∧ T1 ∧ (T1 ∧ (isBytes v30)) ∧ ∀ v34 : Int, (v34 = (balV (bytesL v30) v32)) → ∀ v36 : (List AV), (v36 = (bytesAV (shRest (bytesL v30) v32 4294967295))) → ∀ v38 : Int, (v38 = (balE (bytesL v30) v32)) → T1 ∧ tt ∧ tt ∧ T1 ∧ (T1 ∧ (isBytes v36)) ∧ ∀ v40 : (List AV), (v40 = (bytesAV (tkRest (bytesL v36) v38 1))) → ∀ v42 : Int, (v42 = (inTruthE (bytesL v36) v38)) → T1 ∧ tt ∧ tt ∧ T1 ∧ tt ∧ T1 ∧ (bif ((IntKind.wrap IntKind.i64 v0) != 6) then (tt ∧ T1 ∧ (T1 ∧ (isBytes v40)) ∧ T1 ∧ tt ∧ tt ∧ tt ∧ tt ∧ tt ∧ tt ∧ (q2 = (bytesAV (itR (bytesL v40) v42)) ∧ q1.2 = (itE (bytesL v40) v42) ∧ q0.k = (IntKind.wrap IntKind.i64 v0) ∧ q0.src = (IntKind.wrap IntKind.i64 v10) ∧ q0.dst = (IntKind.wrap IntKind.i64 v16) ∧ q0.r = v26 ∧ q0.s = v28 ∧ q0.b = v34 ∧ q0.ok = (inTruthV (bytesL v36) v38) ∧ q0.x.r = (itX (bytesL v40) v42).r ∧ q0.x.sl = (itX (bytesL v40) v42).sl ∧ q0.x.st = (itX (bytesL v40) v42).st ∧ q0.x.bal = (itX (bytesL v40) v42).bal ∧ q0.x.vote = (itX (bytesL v40) v42).vote ∧ q0.x.same = (itX (bytesL v40) v42).same ∧ q0.x.c.k = (itX (bytesL v40) v42).c.k ∧ q0.x.c.num = (itX (bytesL v40) v42).c.num ∧ q0.x.c.foot = (itX (bytesL v40) v42).c.foot ∧ q0.x.c.rq = (itX (bytesL v40) v42).c.rq ∧ q0.x.c.path = (itX (bytesL v40) v42).c.path ∧ q0.x.c.mode = (itX (bytesL v40) v42).c.mode ∧ q0.x.c.n = (itX (bytesL v40) v42).c.n ∧ q0.x.c.time = (itX (bytesL v40) v42).c.time ∧ q0.x.a.s = (itX (bytesL v40) v42).a.s ∧ q0.x.a.d0 = (itX (bytesL v40) v42).a.d0 ∧ q0.x.a.d1 = (itX (bytesL v40) v42).a.d1 ∧ q0.x.a.d2 = (itX (bytesL v40) v42).a.d2 ∧ q0.x.a.d3 = (itX (bytesL v40) v42).a.d3 ∧ q0.x.a.d4 = (itX (bytesL v40) v42).a.d4 ∧ q0.x.a.d5 = (itX (bytesL v40) v42).a.d5 ∧ q0.x.a.d6 = (itX (bytesL v40) v42).a.d6 ∧ True) ∧ tt) else (tt ∧ tt ∧ tt ∧ tt ∧ tt ∧ (q2 = v40 ∧ q1.2 = v42 ∧ q0.k = (IntKind.wrap IntKind.i64 v0) ∧ q0.src = (IntKind.wrap IntKind.i64 v10) ∧ q0.dst = (IntKind.wrap IntKind.i64 v16) ∧ q0.r = v26 ∧ q0.s = v28 ∧ q0.b = v34 ∧ q0.ok = (inTruthV (bytesL v36) v38) ∧ q0.x.r = 0 ∧ q0.x.sl = 0 ∧ q0.x.st = 0 ∧ q0.x.bal = 0 ∧ q0.x.vote = 0 ∧ q0.x.same = false ∧ q0.x.c.k = 0 ∧ q0.x.c.num = 0 ∧ q0.x.c.foot = [] ∧ q0.x.c.rq = 0 ∧ q0.x.c.path = [] ∧ q0.x.c.mode = 0 ∧ q0.x.c.n = 0 ∧ q0.x.c.time = 0 ∧ q0.x.a.s = 0 ∧ q0.x.a.d0 = 0 ∧ q0.x.a.d1 = 0 ∧ q0.x.a.d2 = 0 ∧ q0.x.a.d3 = 0 ∧ q0.x.a.d4 = 0 ∧ q0.x.a.d5 = 0 ∧ q0.x.a.d6 = 0 ∧ True) ∧ tt))) else (T1 ∧ tt ∧ (T1 ∧ True) ∧ T1 ∧ T1 ∧ (bif (Bool.not (repOK (IntKind.wrap IntKind.i64 v16))) then (tt ∧ T1 ∧ (T1 ∧ True) ∧ ∀ v22 : (List AV), (v22 = v18) → ∀ v24 : Int, (v24 = (inFail v20 12)) → tt ∧ T1 ∧ (T1 ∧ (isBytes v22)) ∧ ∀ v26 : Int, (v26 = (idR (bytesL v22) v24)) → ∀ v28 : Int, (v28 = (idS (bytesL v22) v24)) → ∀ v30 : (List AV), (v30 = (bytesAV (idRest (bytesL v22) v24))) → ∀ v32 : Int, (v32 = (idErr (bytesL v22) v24)) → T1 ∧ tt ∧ tt ∧ T1 ∧ (T1 ∧ (isBytes v30)) ∧ ∀ v34 : Int, (v34 = (balV (bytesL v30) v32)) → ∀ v36 : (List AV), (v36 = (bytesAV (shRest (bytesL v30) v32 4294967295))) → ∀ v38 : Int, (v38 = (balE (bytesL v30) v32)) → T1 ∧ tt ∧ tt ∧ T1 ∧ (T1 ∧ (isBytes v36)) ∧ ∀ v40 : (List AV), (v40 = (bytesAV (tkRest (bytesL v36) v38 1))) → ∀ v42 : Int, (v42 = (inTruthE (bytesL v36) v38)) → T1 ∧ tt ∧ tt ∧ T1 ∧ tt ∧ T1 ∧ (bif ((IntKind.wrap IntKind.i64 v0) != 6) then (tt ∧ T1 ∧ (T1 ∧ (isBytes v40)) ∧ T1 ∧ tt ∧ tt ∧ tt ∧ tt ∧ tt ∧ tt ∧ (q2 = (bytesAV (itR (bytesL v40) v42)) ∧ q1.2 = (itE (bytesL v40) v42) ∧ q0.k = (IntKind.wrap IntKind.i64 v0) ∧ q0.src = (IntKind.wrap IntKind.i64 v10) ∧ q0.dst = (IntKind.wrap IntKind.i64 v16) ∧ q0.r = v26 ∧ q0.s = v28 ∧ q0.b = v34 ∧ q0.ok = (inTruthV (bytesL v36) v38) ∧ q0.x.r = (itX (bytesL v40) v42).r ∧ q0.x.sl = (itX (bytesL v40) v42).sl ∧ q0.x.st = (itX (bytesL v40) v42).st ∧ q0.x.bal = (itX (bytesL v40) v42).bal ∧ q0.x.vote = (itX (bytesL v40) v42).vote ∧ q0.x.same = (itX (bytesL v40) v42).same ∧ q0.x.c.k = (itX (bytesL v40) v42).c.k ∧ q0.x.c.num = (itX (bytesL v40) v42).c.num ∧ q0.x.c.foot = (itX (bytesL v40) v42).c.foot ∧ q0.x.c.rq = (itX (bytesL v40) v42).c.rq ∧ q0.x.c.path = (itX (bytesL v40) v42).c.path ∧ q0.x.c.mode = (itX (bytesL v40) v42).c.mode ∧ q0.x.c.n = (itX (bytesL v40) v42).c.n ∧ q0.x.c.time = (itX (bytesL v40) v42).c.time ∧ q0.x.a.s = (itX (bytesL v40) v42).a.s ∧ q0.x.a.d0 = (itX (bytesL v40) v42).a.d0 ∧ q0.x.a.d1 = (itX (bytesL v40) v42).a.d1 ∧ q0.x.a.d2 = (itX (bytesL v40) v42).a.d2 ∧ q0.x.a.d3 = (itX (bytesL v40) v42).a.d3 ∧ q0.x.a.d4 = (itX (bytesL v40) v42).a.d4 ∧ q0.x.a.d5 = (itX (bytesL v40) v42).a.d5 ∧ q0.x.a.d6 = (itX (bytesL v40) v42).a.d6 ∧ True) ∧ tt) else (tt ∧ tt ∧ tt ∧ tt ∧ tt ∧ (q2 = v40 ∧ q1.2 = v42 ∧ q0.k = (IntKind.wrap IntKind.i64 v0) ∧ q0.src = (IntKind.wrap IntKind.i64 v10) ∧ q0.dst = (IntKind.wrap IntKind.i64 v16) ∧ q0.r = v26 ∧ q0.s = v28 ∧ q0.b = v34 ∧ q0.ok = (inTruthV (bytesL v36) v38) ∧ q0.x.r = 0 ∧ q0.x.sl = 0 ∧ q0.x.st = 0 ∧ q0.x.bal = 0 ∧ q0.x.vote = 0 ∧ q0.x.same = false ∧ q0.x.c.k = 0 ∧ q0.x.c.num = 0 ∧ q0.x.c.foot = [] ∧ q0.x.c.rq = 0 ∧ q0.x.c.path = [] ∧ q0.x.c.mode = 0 ∧ q0.x.c.n = 0 ∧ q0.x.c.time = 0 ∧ q0.x.a.s = 0 ∧ q0.x.a.d0 = 0 ∧ q0.x.a.d1 = 0 ∧ q0.x.a.d2 = 0 ∧ q0.x.a.d3 = 0 ∧ q0.x.a.d4 = 0 ∧ q0.x.a.d5 = 0 ∧ q0.x.a.d6 = 0 ∧ True) ∧ tt))) else (tt ∧ T1 ∧ (T1 ∧ (isBytes v18)) ∧ ∀ v22 : Int, (v22 = (idR (bytesL v18) v20)) → ∀ v24 : Int, (v24 = (idS (bytesL v18) v20)) → ∀ v26 : (List AV), (v26 = (bytesAV (idRest (bytesL v18) v20))) → ∀ v28 : Int, (v28 = (idErr (bytesL v18) v20)) → T1 ∧ tt ∧ tt ∧ T1 ∧ (T1 ∧ (isBytes v26)) ∧ ∀ v30 : Int, (v30 = (balV (bytesL v26) v28)) → ∀ v32 : (List AV), (v32 = (bytesAV (shRest (bytesL v26) v28 4294967295))) → ∀ v34 : Int, (v34 = (balE (bytesL v26) v28)) → T1 ∧ tt ∧ tt ∧ T1 ∧ (T1 ∧ (isBytes v32)) ∧ ∀ v36 : (List AV), (v36 = (bytesAV (tkRest (bytesL v32) v34 1))) → ∀ v38 : Int, (v38 = (inTruthE (bytesL v32) v34)) → T1 ∧ tt ∧ tt ∧ T1 ∧ tt ∧ T1 ∧ (bif ((IntKind.wrap IntKind.i64 v0) != 6) then (tt ∧ T1 ∧ (T1 ∧ (isBytes v36)) ∧ T1 ∧ tt ∧ tt ∧ tt ∧ tt ∧ tt ∧ tt ∧ (q2 = (bytesAV (itR (bytesL v36) v38)) ∧ q1.2 = (itE (bytesL v36) v38) ∧ q0.k = (IntKind.wrap IntKind.i64 v0) ∧ q0.src = (IntKind.wrap IntKind.i64 v10) ∧ q0.dst = (IntKind.wrap IntKind.i64 v16) ∧ q0.r = v22 ∧ q0.s = v24 ∧ q0.b = v30 ∧ q0.ok = (inTruthV (bytesL v32) v34) ∧ q0.x.r = (itX (bytesL v36) v38).r ∧ q0.x.sl = (itX (bytesL v36) v38).sl ∧ q0.x.st = (itX (bytesL v36) v38).st ∧ q0.x.bal = (itX (bytesL v36) v38).bal ∧ q0.x.vote = (itX (bytesL v36) v38).vote ∧ q0.x.same = (itX (bytesL v36) v38).same ∧ q0.x.c.k = (itX (bytesL v36) v38).c.k ∧ q0.x.c.num = (itX (bytesL v36) v38).c.num ∧ q0.x.c.foot = (itX (bytesL v36) v38).c.foot ∧ q0.x.c.rq = (itX (bytesL v36) v38).c.rq ∧ q0.x.c.path = (itX (bytesL v36) v38).c.path ∧ q0.x.c.mode = (itX (bytesL v36) v38).c.mode ∧ q0.x.c.n = (itX (bytesL v36) v38).c.n ∧ q0.x.c.time = (itX (bytesL v36) v38).c.time ∧ q0.x.a.s = (itX (bytesL v36) v38).a.s ∧ q0.x.a.d0 = (itX (bytesL v36) v38).a.d0 ∧ q0.x.a.d1 = (itX (bytesL v36) v38).a.d1 ∧ q0.x.a.d2 = (itX (bytesL v36) v38).a.d2 ∧ q0.x.a.d3 = (itX (bytesL v36) v38).a.d3 ∧ q0.x.a.d4 = (itX (bytesL v36) v38).a.d4 ∧ q0.x.a.d5 = (itX (bytesL v36) v38).a.d5 ∧ q0.x.a.d6 = (itX (bytesL v36) v38).a.d6 ∧ True) ∧ tt) else (tt ∧ tt ∧ tt ∧ tt ∧ tt ∧ (q2 = v36 ∧ q1.2 = v38 ∧ q0.k = (IntKind.wrap IntKind.i64 v0) ∧ q0.src = (IntKind.wrap IntKind.i64 v10) ∧ q0.dst = (IntKind.wrap IntKind.i64 v16) ∧ q0.r = v22 ∧ q0.s = v24 ∧ q0.b = v30 ∧ q0.ok = (inTruthV (bytesL v32) v34) ∧ q0.x.r = 0 ∧ q0.x.sl = 0 ∧ q0.x.st = 0 ∧ q0.x.bal = 0 ∧ q0.x.vote = 0 ∧ q0.x.same = false ∧ q0.x.c.k = 0 ∧ q0.x.c.num = 0 ∧ q0.x.c.foot = [] ∧ q0.x.c.rq = 0 ∧ q0.x.c.path = [] ∧ q0.x.c.mode = 0 ∧ q0.x.c.n = 0 ∧ q0.x.c.time = 0 ∧ q0.x.a.s = 0 ∧ q0.x.a.d0 = 0 ∧ q0.x.a.d1 = 0 ∧ q0.x.a.d2 = 0 ∧ q0.x.a.d3 = 0 ∧ q0.x.a.d4 = 0 ∧ q0.x.a.d5 = 0 ∧ q0.x.a.d6 = 0 ∧ True) ∧ tt))))))) else (T1 ∧ tt ∧ T1 ∧ T1 ∧ (bif (decide ((7 : Int) < (IntKind.wrap IntKind.i64 v0))) then (tt ∧ T1 ∧ (T1 ∧ True) ∧ ∀ v6 : (List AV), (v6 = v2) → ∀ v8 : Int, (v8 = (inFail v4 22)) → tt ∧ T1 ∧ (T1 ∧ (isBytes v6)) ∧ ∀ v10 : Int, (v10 = (inByteV (bytesL v6) v8)) → ∀ v12 : (List AV), (v12 = (bytesAV (tkRest (bytesL v6) v8 1))) → ∀ v14 : Int, (v14 = (tkErr (List.length (bytesL v6)) v8 1)) → T1 ∧ T1 ∧ (T1 ∧ (isBytes v12)) ∧ ∀ v16 : Int, (v16 = (inByteV (bytesL v12) v14)) → ∀ v18 : (List AV), (v18 = (bytesAV (tkRest (bytesL v12) v14 1))) → ∀ v20 : Int, (v20 = (tkErr (List.length (bytesL v12)) v14 1)) → T1 ∧ T1 ∧ tt ∧ T1 ∧ tt ∧ tt ∧ T1 ∧ tt ∧ (T1 ∧ True) ∧ T1 ∧ T1 ∧ (bif (Bool.not (repOK (IntKind.wrap IntKind.i64 v10))) then (tt ∧ tt ∧ T1 ∧ (T1 ∧ True) ∧ ∀ v22 : (List AV), (v22 = v18) → ∀ v24 : Int, (v24 = (inFail v20 12)) → tt ∧ T1 ∧ (T1 ∧ (isBytes v22)) ∧ ∀ v26 : Int, (v26 = (idR (bytesL v22) v24)) → ∀ v28 : Int, (v28 = (idS (bytesL v22) v24)) → ∀ v30 : (List AV), (v30 = (bytesAV (idRest (bytesL v22) v24))) → ∀ v32 : Int, (v32 = (idErr (bytesL v22) v24)) → T1 ∧ tt ∧ tt ∧ T1 ∧ (T1 ∧ (isBytes v30)) ∧ ∀ v34 : Int, (v34 = (balV (bytesL v30) v32)) → ∀ v36 : (List AV), (v36 = (bytesAV (shRest (bytesL v30) v32 4294967295))) → ∀ v38 : Int, (v38 = (balE (bytesL v30) v32)) → T1 ∧ tt ∧ tt ∧ T1 ∧ (T1 ∧ (isBytes v36)) ∧ ∀ v40 : (List AV), (v40 = (bytesAV (tkRest (bytesL v36) v38 1))) → ∀ v42 : Int, (v42 = (inTruthE (bytesL v36) v38)) → T1 ∧ tt ∧ tt ∧ T1 ∧ tt ∧ T1 ∧ (bif ((IntKind.wrap IntKind.i64 v0) != 6) then (tt ∧ T1 ∧ (T1 ∧ (isBytes v40)) ∧ T1 ∧ tt ∧ tt ∧ tt ∧ tt ∧ tt ∧ tt ∧ (q2 = (bytesAV (itR (bytesL v40) v42)) ∧ q1.2 = (itE (bytesL v40) v42) ∧ q0.k = (IntKind.wrap IntKind.i64 v0) ∧ q0.src = (IntKind.wrap IntKind.i64 v10) ∧ q0.dst = (IntKind.wrap IntKind.i64 v16) ∧ q0.r = v26 ∧ q0.s = v28 ∧ q0.b = v34 ∧ q0.ok = (inTruthV (bytesL v36) v38) ∧ q0.x.r = (itX (bytesL v40) v42).r ∧ q0.x.sl = (itX (bytesL v40) v42).sl ∧ q0.x.st = (itX (bytesL v40) v42).st ∧ q0.x.bal = (itX (bytesL v40) v42).bal ∧ q0.x.vote = (itX (bytesL v40) v42).vote ∧ q0.x.same = (itX (bytesL v40) v42).same ∧ q0.x.c.k = (itX (bytesL v40) v42).c.k ∧ q0.x.c.num = (itX (bytesL v40) v42).c.num ∧ q0.x.c.foot = (itX (bytesL v40) v42).c.foot ∧ q0.x.c.rq = (itX (bytesL v40) v42).c.rq ∧ q0.x.c.path = (itX (bytesL v40) v42).c.path ∧ q0.x.c.mode = (itX (bytesL v40) v42).c.mode ∧ q0.x.c.n = (itX (bytesL v40) v42).c.n ∧ q0.x.c.time = (itX (bytesL v40) v42).c.time ∧ q0.x.a.s = (itX (bytesL v40) v42).a.s ∧ q0.x.a.d0 = (itX (bytesL v40) v42).a.d0 ∧ q0.x.a.d1 = (itX (bytesL v40) v42).a.d1 ∧ q0.x.a.d2 = (itX (bytesL v40) v42).a.d2 ∧ q0.x.a.d3 = (itX (bytesL v40) v42).a.d3 ∧ q0.x.a.d4 = (itX (bytesL v40) v42).a.d4 ∧ q0.x.a.d5 = (itX (bytesL v40) v42).a.d5 ∧ q0.x.a.d6 = (itX (bytesL v40) v42).a.d6 ∧ True) ∧ tt) else (tt ∧ tt ∧ tt ∧ tt ∧ tt ∧ (q2 = v40 ∧ q1.2 = v42 ∧ q0.k = (IntKind.wrap IntKind.i64 v0) ∧ q0.src = (IntKind.wrap IntKind.i64 v10) ∧ q0.dst = (IntKind.wrap IntKind.i64 v16) ∧ q0.r = v26 ∧ q0.s = v28 ∧ q0.b = v34 ∧ q0.ok = (inTruthV (bytesL v36) v38) ∧ q0.x.r = 0 ∧ q0.x.sl = 0 ∧ q0.x.st = 0 ∧ q0.x.bal = 0 ∧ q0.x.vote = 0 ∧ q0.x.same = false ∧ q0.x.c.k = 0 ∧ q0.x.c.num = 0 ∧ q0.x.c.foot = [] ∧ q0.x.c.rq = 0 ∧ q0.x.c.path = [] ∧ q0.x.c.mode = 0 ∧ q0.x.c.n = 0 ∧ q0.x.c.time = 0 ∧ q0.x.a.s = 0 ∧ q0.x.a.d0 = 0 ∧ q0.x.a.d1 = 0 ∧ q0.x.a.d2 = 0 ∧ q0.x.a.d3 = 0 ∧ q0.x.a.d4 = 0 ∧ q0.x.a.d5 = 0 ∧ q0.x.a.d6 = 0 ∧ True) ∧ tt))) else (T1 ∧ tt ∧ (T1 ∧ True) ∧ T1 ∧ T1 ∧ (bif (Bool.not (repOK (IntKind.wrap IntKind.i64 v16))) then (tt ∧ T1 ∧ (T1 ∧ True) ∧ ∀ v22 : (List AV), (v22 = v18) → ∀ v24 : Int, (v24 = (inFail v20 12)) → tt ∧ T1 ∧ (T1 ∧ (isBytes v22)) ∧ ∀ v26 : Int, (v26 = (idR (bytesL v22) v24)) → ∀ v28 : Int, (v28 = (idS (bytesL v22) v24)) → ∀ v30 : (List AV), (v30 = (bytesAV (idRest (bytesL v22) v24))) → ∀ v32 : Int, (v32 = (idErr (bytesL v22) v24)) → T1 ∧ tt ∧ tt ∧ T1 ∧ (T1 ∧ (isBytes v30)) ∧ ∀ v34 : Int, (v34 = (balV (bytesL v30) v32)) → ∀ v36 : (List AV), (v36 = (bytesAV (shRest (bytesL v30) v32 4294967295))) → ∀ v38 : Int, (v38 = (balE (bytesL v30) v32)) → T1 ∧ tt ∧ tt ∧ T1 ∧ (T1 ∧ (isBytes v36)) ∧ ∀ v40 : (List AV), (v40 = (bytesAV (tkRest (bytesL v36) v38 1))) → ∀ v42 : Int, (v42 = (inTruthE (bytesL v36) v38)) → T1 ∧ tt ∧ tt ∧ T1 ∧ tt ∧ T1 ∧ (bif ((IntKind.wrap IntKind.i64 v0) != 6) then (tt ∧ T1 ∧ (T1 ∧ (isBytes v40)) ∧ T1 ∧ tt ∧ tt ∧ tt ∧ tt ∧ tt ∧ tt ∧ (q2 = (bytesAV (itR (bytesL v40) v42)) ∧ q1.2 = (itE (bytesL v40) v42) ∧ q0.k = (IntKind.wrap IntKind.i64 v0) ∧ q0.src = (IntKind.wrap IntKind.i64 v10) ∧ q0.dst = (IntKind.wrap IntKind.i64 v16) ∧ q0.r = v26 ∧ q0.s = v28 ∧ q0.b = v34 ∧ q0.ok = (inTruthV (bytesL v36) v38) ∧ q0.x.r = (itX (bytesL v40) v42).r ∧ q0.x.sl = (itX (bytesL v40) v42).sl ∧ q0.x.st = (itX (bytesL v40) v42).st ∧ q0.x.bal = (itX (bytesL v40) v42).bal ∧ q0.x.vote = (itX (bytesL v40) v42).vote ∧ q0.x.same = (itX (bytesL v40) v42).same ∧ q0.x.c.k = (itX (bytesL v40) v42).c.k ∧ q0.x.c.num = (itX (bytesL v40) v42).c.num ∧ q0.x.c.foot = (itX (bytesL v40) v42).c.foot ∧ q0.x.c.rq = (itX (bytesL v40) v42).c.rq ∧ q0.x.c.path = (itX (bytesL v40) v42).c.path ∧ q0.x.c.mode = (itX (bytesL v40) v42).c.mode ∧ q0.x.c.n = (itX (bytesL v40) v42).c.n ∧ q0.x.c.time = (itX (bytesL v40) v42).c.time ∧ q0.x.a.s = (itX (bytesL v40) v42).a.s ∧ q0.x.a.d0 = (itX (bytesL v40) v42).a.d0 ∧ q0.x.a.d1 = (itX (bytesL v40) v42).a.d1 ∧ q0.x.a.d2 = (itX (bytesL v40) v42).a.d2 ∧ q0.x.a.d3 = (itX (bytesL v40) v42).a.d3 ∧ q0.x.a.d4 = (itX (bytesL v40) v42).a.d4 ∧ q0.x.a.d5 = (itX (bytesL v40) v42).a.d5 ∧ q0.x.a.d6 = (itX (bytesL v40) v42).a.d6 ∧ True) ∧ tt) else (tt ∧ tt ∧ tt ∧ tt ∧ tt ∧ (q2 = v40 ∧ q1.2 = v42 ∧ q0.k = (IntKind.wrap IntKind.i64 v0) ∧ q0.src = (IntKind.wrap IntKind.i64 v10) ∧ q0.dst = (IntKind.wrap IntKind.i64 v16) ∧ q0.r = v26 ∧ q0.s = v28 ∧ q0.b = v34 ∧ q0.ok = (inTruthV (bytesL v36) v38) ∧ q0.x.r = 0 ∧ q0.x.sl = 0 ∧ q0.x.st = 0 ∧ q0.x.bal = 0 ∧ q0.x.vote = 0 ∧ q0.x.same = false ∧ q0.x.c.k = 0 ∧ q0.x.c.num = 0 ∧ q0.x.c.foot = [] ∧ q0.x.c.rq = 0 ∧ q0.x.c.path = [] ∧ q0.x.c.mode = 0 ∧ q0.x.c.n = 0 ∧ q0.x.c.time = 0 ∧ q0.x.a.s = 0 ∧ q0.x.a.d0 = 0 ∧ q0.x.a.d1 = 0 ∧ q0.x.a.d2 = 0 ∧ q0.x.a.d3 = 0 ∧ q0.x.a.d4 = 0 ∧ q0.x.a.d5 = 0 ∧ q0.x.a.d6 = 0 ∧ True) ∧ tt))) else (tt ∧ T1 ∧ (T1 ∧ (isBytes v18)) ∧ ∀ v22 : Int, (v22 = (idR (bytesL v18) v20)) → ∀ v24 : Int, (v24 = (idS (bytesL v18) v20)) → ∀ v26 : (List AV), (v26 = (bytesAV (idRest (bytesL v18) v20))) → ∀ v28 : Int, (v28 = (idErr (bytesL v18) v20)) → T1 ∧ tt ∧ tt ∧ T1 ∧ (T1 ∧ (isBytes v26)) ∧ ∀ v30 : Int, (v30 = (balV (bytesL v26) v28)) → ∀ v32 : (List AV), (v32 = (bytesAV (shRest (bytesL v26) v28 4294967295))) → ∀ v34 : Int, (v34 = (balE (bytesL v26) v28)) → T1 ∧ tt ∧ tt ∧ T1 ∧ (T1 ∧ (isBytes v32)) ∧ ∀ v36 : (List AV), (v36 = (bytesAV (tkRest (bytesL v32) v34 1))) → ∀ v38 : Int, (v38 = (inTruthE (bytesL v32) v34)) → T1 ∧ tt ∧ tt ∧ T1 ∧ tt ∧ T1 ∧ (bif ((IntKind.wrap IntKind.i64 v0) != 6) then (tt ∧ T1 ∧ (T1 ∧ (isBytes v36)) ∧ T1 ∧ tt ∧ tt ∧ tt ∧ tt ∧ tt ∧ tt ∧ (q2 = (bytesAV (itR (bytesL v36) v38)) ∧ q1.2 = (itE (bytesL v36) v38) ∧ q0.k = (IntKind.wrap IntKind.i64 v0) ∧ q0.src = (IntKind.wrap IntKind.i64 v10) ∧ q0.dst = (IntKind.wrap IntKind.i64 v16) ∧ q0.r = v22 ∧ q0.s = v24 ∧ q0.b = v30 ∧ q0.ok = (inTruthV (bytesL v32) v34) ∧ q0.x.r = (itX (bytesL v36) v38).r ∧ q0.x.sl = (itX (bytesL v36) v38).sl ∧ q0.x.st = (itX (bytesL v36) v38).st ∧ q0.x.bal = (itX (bytesL v36) v38).bal ∧ q0.x.vote = (itX (bytesL v36) v38).vote ∧ q0.x.same = (itX (bytesL v36) v38).same ∧ q0.x.c.k = (itX (bytesL v36) v38).c.k ∧ q0.x.c.num = (itX (bytesL v36) v38).c.num ∧ q0.x.c.foot = (itX (bytesL v36) v38).c.foot ∧ q0.x.c.rq = (itX (bytesL v36) v38).c.rq ∧ q0.x.c.path = (itX (bytesL v36) v38).c.path ∧ q0.x.c.mode = (itX (bytesL v36) v38).c.mode ∧ q0.x.c.n = (itX (bytesL v36) v38).c.n ∧ q0.x.c.time = (itX (bytesL v36) v38).c.time ∧ q0.x.a.s = (itX (bytesL v36) v38).a.s ∧ q0.x.a.d0 = (itX (bytesL v36) v38).a.d0 ∧ q0.x.a.d1 = (itX (bytesL v36) v38).a.d1 ∧ q0.x.a.d2 = (itX (bytesL v36) v38).a.d2 ∧ q0.x.a.d3 = (itX (bytesL v36) v38).a.d3 ∧ q0.x.a.d4 = (itX (bytesL v36) v38).a.d4 ∧ q0.x.a.d5 = (itX (bytesL v36) v38).a.d5 ∧ q0.x.a.d6 = (itX (bytesL v36) v38).a.d6 ∧ True) ∧ tt) else (tt ∧ tt ∧ tt ∧ tt ∧ tt ∧ (q2 = v36 ∧ q1.2 = v38 ∧ q0.k = (IntKind.wrap IntKind.i64 v0) ∧ q0.src = (IntKind.wrap IntKind.i64 v10) ∧ q0.dst = (IntKind.wrap IntKind.i64 v16) ∧ q0.r = v22 ∧ q0.s = v24 ∧ q0.b = v30 ∧ q0.ok = (inTruthV (bytesL v32) v34) ∧ q0.x.r = 0 ∧ q0.x.sl = 0 ∧ q0.x.st = 0 ∧ q0.x.bal = 0 ∧ q0.x.vote = 0 ∧ q0.x.same = false ∧ q0.x.c.k = 0 ∧ q0.x.c.num = 0 ∧ q0.x.c.foot = [] ∧ q0.x.c.rq = 0 ∧ q0.x.c.path = [] ∧ q0.x.c.mode = 0 ∧ q0.x.c.n = 0 ∧ q0.x.c.time = 0 ∧ q0.x.a.s = 0 ∧ q0.x.a.d0 = 0 ∧ q0.x.a.d1 = 0 ∧ q0.x.a.d2 = 0 ∧ q0.x.a.d3 = 0 ∧ q0.x.a.d4 = 0 ∧ q0.x.a.d5 = 0 ∧ q0.x.a.d6 = 0 ∧ True) ∧ tt))))))) else (tt ∧ T1 ∧ (T1 ∧ (isBytes v2)) ∧ ∀ v6 : Int, (v6 = (inByteV (bytesL v2) v4)) → ∀ v8 : (List AV), (v8 = (bytesAV (tkRest (bytesL v2) v4 1))) → ∀ v10 : Int, (v10 = (tkErr (List.length (bytesL v2)) v4 1)) → T1 ∧ T1 ∧ (T1 ∧ (isBytes v8)) ∧ ∀ v12 : Int, (v12 = (inByteV (bytesL v8) v10)) → ∀ v14 : (List AV), (v14 = (bytesAV (tkRest (bytesL v8) v10 1))) → ∀ v16 : Int, (v16 = (tkErr (List.length (bytesL v8)) v10 1)) → T1 ∧ T1 ∧ tt ∧ T1 ∧ tt ∧ tt ∧ T1 ∧ tt ∧ (T1 ∧ True) ∧ T1 ∧ T1 ∧ (bif (Bool.not (repOK (IntKind.wrap IntKind.i64 v6))) then (tt ∧ tt ∧ T1 ∧ (T1 ∧ True) ∧ ∀ v18 : (List AV), (v18 = v14) → ∀ v20 : Int, (v20 = (inFail v16 12)) → tt ∧ T1 ∧ (T1 ∧ (isBytes v18)) ∧ ∀ v22 : Int, (v22 = (idR (bytesL v18) v20)) → ∀ v24 : Int, (v24 = (idS (bytesL v18) v20)) → ∀ v26 : (List AV), (v26 = (bytesAV (idRest (bytesL v18) v20))) → ∀ v28 : Int, (v28 = (idErr (bytesL v18) v20)) → T1 ∧ tt ∧ tt ∧ T1 ∧ (T1 ∧ (isBytes v26)) ∧ ∀ v30 : Int, (v30 = (balV (bytesL v26) v28)) → ∀ v32 : (List AV), (v32 = (bytesAV (shRest (bytesL v26) v28 4294967295))) → ∀ v34 : Int, (v34 = (balE (bytesL v26) v28)) → T1 ∧ tt ∧ tt ∧ T1 ∧ (T1 ∧ (isBytes v32)) ∧ ∀ v36 : (List AV), (v36 = (bytesAV (tkRest (bytesL v32) v34 1))) → ∀ v38 : Int, (v38 = (inTruthE (bytesL v32) v34)) → T1 ∧ tt ∧ tt ∧ T1 ∧ tt ∧ T1 ∧ (bif ((IntKind.wrap IntKind.i64 v0) != 6) then (tt ∧ T1 ∧ (T1 ∧ (isBytes v36)) ∧ T1 ∧ tt ∧ tt ∧ tt ∧ tt ∧ tt ∧ tt ∧ (q2 = (bytesAV (itR (bytesL v36) v38)) ∧ q1.2 = (itE (bytesL v36) v38) ∧ q0.k = (IntKind.wrap IntKind.i64 v0) ∧ q0.src = (IntKind.wrap IntKind.i64 v6) ∧ q0.dst = (IntKind.wrap IntKind.i64 v12) ∧ q0.r = v22 ∧ q0.s = v24 ∧ q0.b = v30 ∧ q0.ok = (inTruthV (bytesL v32) v34) ∧ q0.x.r = (itX (bytesL v36) v38).r ∧ q0.x.sl = (itX (bytesL v36) v38).sl ∧ q0.x.st = (itX (bytesL v36) v38).st ∧ q0.x.bal = (itX (bytesL v36) v38).bal ∧ q0.x.vote = (itX (bytesL v36) v38).vote ∧ q0.x.same = (itX (bytesL v36) v38).same ∧ q0.x.c.k = (itX (bytesL v36) v38).c.k ∧ q0.x.c.num = (itX (bytesL v36) v38).c.num ∧ q0.x.c.foot = (itX (bytesL v36) v38).c.foot ∧ q0.x.c.rq = (itX (bytesL v36) v38).c.rq ∧ q0.x.c.path = (itX (bytesL v36) v38).c.path ∧ q0.x.c.mode = (itX (bytesL v36) v38).c.mode ∧ q0.x.c.n = (itX (bytesL v36) v38).c.n ∧ q0.x.c.time = (itX (bytesL v36) v38).c.time ∧ q0.x.a.s = (itX (bytesL v36) v38).a.s ∧ q0.x.a.d0 = (itX (bytesL v36) v38).a.d0 ∧ q0.x.a.d1 = (itX (bytesL v36) v38).a.d1 ∧ q0.x.a.d2 = (itX (bytesL v36) v38).a.d2 ∧ q0.x.a.d3 = (itX (bytesL v36) v38).a.d3 ∧ q0.x.a.d4 = (itX (bytesL v36) v38).a.d4 ∧ q0.x.a.d5 = (itX (bytesL v36) v38).a.d5 ∧ q0.x.a.d6 = (itX (bytesL v36) v38).a.d6 ∧ True) ∧ tt) else (tt ∧ tt ∧ tt ∧ tt ∧ tt ∧ (q2 = v36 ∧ q1.2 = v38 ∧ q0.k = (IntKind.wrap IntKind.i64 v0) ∧ q0.src = (IntKind.wrap IntKind.i64 v6) ∧ q0.dst = (IntKind.wrap IntKind.i64 v12) ∧ q0.r = v22 ∧ q0.s = v24 ∧ q0.b = v30 ∧ q0.ok = (inTruthV (bytesL v32) v34) ∧ q0.x.r = 0 ∧ q0.x.sl = 0 ∧ q0.x.st = 0 ∧ q0.x.bal = 0 ∧ q0.x.vote = 0 ∧ q0.x.same = false ∧ q0.x.c.k = 0 ∧ q0.x.c.num = 0 ∧ q0.x.c.foot = [] ∧ q0.x.c.rq = 0 ∧ q0.x.c.path = [] ∧ q0.x.c.mode = 0 ∧ q0.x.c.n = 0 ∧ q0.x.c.time = 0 ∧ q0.x.a.s = 0 ∧ q0.x.a.d0 = 0 ∧ q0.x.a.d1 = 0 ∧ q0.x.a.d2 = 0 ∧ q0.x.a.d3 = 0 ∧ q0.x.a.d4 = 0 ∧ q0.x.a.d5 = 0 ∧ q0.x.a.d6 = 0 ∧ True) ∧ tt))) else (T1 ∧ tt ∧ (T1 ∧ True) ∧ T1 ∧ T1 ∧ (bif (Bool.not (repOK (IntKind.wrap IntKind.i64 v12))) then (tt ∧ T1 ∧ (T1 ∧ True) ∧ ∀ v18 : (List AV), (v18 = v14) → ∀ v20 : Int, (v20 = (inFail v16 12)) → tt ∧ T1 ∧ (T1 ∧ (isBytes v18)) ∧ ∀ v22 : Int, (v22 = (idR (bytesL v18) v20)) → ∀ v24 : Int, (v24 = (idS (bytesL v18) v20)) → ∀ v26 : (List AV), (v26 = (bytesAV (idRest (bytesL v18) v20))) → ∀ v28 : Int, (v28 = (idErr (bytesL v18) v20)) → T1 ∧ tt ∧ tt ∧ T1 ∧ (T1 ∧ (isBytes v26)) ∧ ∀ v30 : Int, (v30 = (balV (bytesL v26) v28)) → ∀ v32 : (List AV), (v32 = (bytesAV (shRest (bytesL v26) v28 4294967295))) → ∀ v34 : Int, (v34 = (balE (bytesL v26) v28)) → T1 ∧ tt ∧ tt ∧ T1 ∧ (T1 ∧ (isBytes v32)) ∧ ∀ v36 : (List AV), (v36 = (bytesAV (tkRest (bytesL v32) v34 1))) → ∀ v38 : Int, (v38 = (inTruthE (bytesL v32) v34)) → T1 ∧ tt ∧ tt ∧ T1 ∧ tt ∧ T1 ∧ (bif ((IntKind.wrap IntKind.i64 v0) != 6) then (tt ∧ T1 ∧ (T1 ∧ (isBytes v36)) ∧ T1 ∧ tt ∧ tt ∧ tt ∧ tt ∧ tt ∧ tt ∧ (q2 = (bytesAV (itR (bytesL v36) v38)) ∧ q1.2 = (itE (bytesL v36) v38) ∧ q0.k = (IntKind.wrap IntKind.i64 v0) ∧ q0.src = (IntKind.wrap IntKind.i64 v6) ∧ q0.dst = (IntKind.wrap IntKind.i64 v12) ∧ q0.r = v22 ∧ q0.s = v24 ∧ q0.b = v30 ∧ q0.ok = (inTruthV (bytesL v32) v34) ∧ q0.x.r = (itX (bytesL v36) v38).r ∧ q0.x.sl = (itX (bytesL v36) v38).sl ∧ q0.x.st = (itX (bytesL v36) v38).st ∧ q0.x.bal = (itX (bytesL v36) v38).bal ∧ q0.x.vote = (itX (bytesL v36) v38).vote ∧ q0.x.same = (itX (bytesL v36) v38).same ∧ q0.x.c.k = (itX (bytesL v36) v38).c.k ∧ q0.x.c.num = (itX (bytesL v36) v38).c.num ∧ q0.x.c.foot = (itX (bytesL v36) v38).c.foot ∧ q0.x.c.rq = (itX (bytesL v36) v38).c.rq ∧ q0.x.c.path = (itX (bytesL v36) v38).c.path ∧ q0.x.c.mode = (itX (bytesL v36) v38).c.mode ∧ q0.x.c.n = (itX (bytesL v36) v38).c.n ∧ q0.x.c.time = (itX (bytesL v36) v38).c.time ∧ q0.x.a.s = (itX (bytesL v36) v38).a.s ∧ q0.x.a.d0 = (itX (bytesL v36) v38).a.d0 ∧ q0.x.a.d1 = (itX (bytesL v36) v38).a.d1 ∧ q0.x.a.d2 = (itX (bytesL v36) v38).a.d2 ∧ q0.x.a.d3 = (itX (bytesL v36) v38).a.d3 ∧ q0.x.a.d4 = (itX (bytesL v36) v38).a.d4 ∧ q0.x.a.d5 = (itX (bytesL v36) v38).a.d5 ∧ q0.x.a.d6 = (itX (bytesL v36) v38).a.d6 ∧ True) ∧ tt) else (tt ∧ tt ∧ tt ∧ tt ∧ tt ∧ (q2 = v36 ∧ q1.2 = v38 ∧ q0.k = (IntKind.wrap IntKind.i64 v0) ∧ q0.src = (IntKind.wrap IntKind.i64 v6) ∧ q0.dst = (IntKind.wrap IntKind.i64 v12) ∧ q0.r = v22 ∧ q0.s = v24 ∧ q0.b = v30 ∧ q0.ok = (inTruthV (bytesL v32) v34) ∧ q0.x.r = 0 ∧ q0.x.sl = 0 ∧ q0.x.st = 0 ∧ q0.x.bal = 0 ∧ q0.x.vote = 0 ∧ q0.x.same = false ∧ q0.x.c.k = 0 ∧ q0.x.c.num = 0 ∧ q0.x.c.foot = [] ∧ q0.x.c.rq = 0 ∧ q0.x.c.path = [] ∧ q0.x.c.mode = 0 ∧ q0.x.c.n = 0 ∧ q0.x.c.time = 0 ∧ q0.x.a.s = 0 ∧ q0.x.a.d0 = 0 ∧ q0.x.a.d1 = 0 ∧ q0.x.a.d2 = 0 ∧ q0.x.a.d3 = 0 ∧ q0.x.a.d4 = 0 ∧ q0.x.a.d5 = 0 ∧ q0.x.a.d6 = 0 ∧ True) ∧ tt))) else (tt ∧ T1 ∧ (T1 ∧ (isBytes v14)) ∧ ∀ v18 : Int, (v18 = (idR (bytesL v14) v16)) → ∀ v20 : Int, (v20 = (idS (bytesL v14) v16)) → ∀ v22 : (List AV), (v22 = (bytesAV (idRest (bytesL v14) v16))) → ∀ v24 : Int, (v24 = (idErr (bytesL v14) v16)) → T1 ∧ tt ∧ tt ∧ T1 ∧ (T1 ∧ (isBytes v22)) ∧ ∀ v26 : Int, (v26 = (balV (bytesL v22) v24)) → ∀ v28 : (List AV), (v28 = (bytesAV (shRest (bytesL v22) v24 4294967295))) → ∀ v30 : Int, (v30 = (balE (bytesL v22) v24)) → T1 ∧ tt ∧ tt ∧ T1 ∧ (T1 ∧ (isBytes v28)) ∧ ∀ v32 : (List AV), (v32 = (bytesAV (tkRest (bytesL v28) v30 1))) → ∀ v34 : Int, (v34 = (inTruthE (bytesL v28) v30)) → T1 ∧ tt ∧ tt ∧ T1 ∧ tt ∧ T1 ∧ (bif ((IntKind.wrap IntKind.i64 v0) != 6) then (tt ∧ T1 ∧ (T1 ∧ (isBytes v32)) ∧ T1 ∧ tt ∧ tt ∧ tt ∧ tt ∧ tt ∧ tt ∧ (q2 = (bytesAV (itR (bytesL v32) v34)) ∧ q1.2 = (itE (bytesL v32) v34) ∧ q0.k = (IntKind.wrap IntKind.i64 v0) ∧ q0.src = (IntKind.wrap IntKind.i64 v6) ∧ q0.dst = (IntKind.wrap IntKind.i64 v12) ∧ q0.r = v18 ∧ q0.s = v20 ∧ q0.b = v26 ∧ q0.ok = (inTruthV (bytesL v28) v30) ∧ q0.x.r = (itX (bytesL v32) v34).r ∧ q0.x.sl = (itX (bytesL v32) v34).sl ∧ q0.x.st = (itX (bytesL v32) v34).st ∧ q0.x.bal = (itX (bytesL v32) v34).bal ∧ q0.x.vote = (itX (bytesL v32) v34).vote ∧ q0.x.same = (itX (bytesL v32) v34).same ∧ q0.x.c.k = (itX (bytesL v32) v34).c.k ∧ q0.x.c.num = (itX (bytesL v32) v34).c.num ∧ q0.x.c.foot = (itX (bytesL v32) v34).c.foot ∧ q0.x.c.rq = (itX (bytesL v32) v34).c.rq ∧ q0.x.c.path = (itX (bytesL v32) v34).c.path ∧ q0.x.c.mode = (itX (bytesL v32) v34).c.mode ∧ q0.x.c.n = (itX (bytesL v32) v34).c.n ∧ q0.x.c.time = (itX (bytesL v32) v34).c.time ∧ q0.x.a.s = (itX (bytesL v32) v34).a.s ∧ q0.x.a.d0 = (itX (bytesL v32) v34).a.d0 ∧ q0.x.a.d1 = (itX (bytesL v32) v34).a.d1 ∧ q0.x.a.d2 = (itX (bytesL v32) v34).a.d2 ∧ q0.x.a.d3 = (itX (bytesL v32) v34).a.d3 ∧ q0.x.a.d4 = (itX (bytesL v32) v34).a.d4 ∧ q0.x.a.d5 = (itX (bytesL v32) v34).a.d5 ∧ q0.x.a.d6 = (itX (bytesL v32) v34).a.d6 ∧ True) ∧ tt) else (tt ∧ tt ∧ tt ∧ tt ∧ tt ∧ (q2 = v32 ∧ q1.2 = v34 ∧ q0.k = (IntKind.wrap IntKind.i64 v0) ∧ q0.src = (IntKind.wrap IntKind.i64 v6) ∧ q0.dst = (IntKind.wrap IntKind.i64 v12) ∧ q0.r = v18 ∧ q0.s = v20 ∧ q0.b = v26 ∧ q0.ok = (inTruthV (bytesL v28) v30) ∧ q0.x.r = 0 ∧ q0.x.sl = 0 ∧ q0.x.st = 0 ∧ q0.x.bal = 0 ∧ q0.x.vote = 0 ∧ q0.x.same = false ∧ q0.x.c.k = 0 ∧ q0.x.c.num = 0 ∧ q0.x.c.foot = [] ∧ q0.x.c.rq = 0 ∧ q0.x.c.path = [] ∧ q0.x.c.mode = 0 ∧ q0.x.c.n = 0 ∧ q0.x.c.time = 0 ∧ q0.x.a.s = 0 ∧ q0.x.a.d0 = 0 ∧ q0.x.a.d1 = 0 ∧ q0.x.a.d2 = 0 ∧ q0.x.a.d3 = 0 ∧ q0.x.a.d4 = 0 ∧ q0.x.a.d5 = 0 ∧ q0.x.a.d6 = 0 ∧ True) ∧ tt)))))))))))) : inMtake0 xs e :=
  Eq.mp (show _ = _ by kernel_rfl) h
theorem vcMopen0 (xs : (List AV)) (h : let q0 := (mopenX (bytesL xs)); let q1 := (mopenE (bytesL xs)); (tt ∧ T1 ∧ T1 ∧ tt ∧ T1 ∧ T1 ∧ T1 ∧ (bif (decide ((512 : Int) < ((List.length xs) : Int))) then (tt ∧ T1 ∧ tt ∧ T1 ∧ tt ∧ tt ∧ (q0.k = 0 ∧ q0.src = 0 ∧ q0.dst = 0 ∧ q0.r = 0 ∧ q0.s = 0 ∧ q0.b = 0 ∧ q0.ok = false ∧ q0.x.r = 0 ∧ q0.x.sl = 0 ∧ q0.x.st = 0 ∧ q0.x.bal = 0 ∧ q0.x.vote = 0 ∧ q0.x.same = false ∧ q0.x.c.k = 0 ∧ q0.x.c.num = 0 ∧ q0.x.c.foot = [] ∧ q0.x.c.rq = 0 ∧ q0.x.c.path = [] ∧ q0.x.c.mode = 0 ∧ q0.x.c.n = 0 ∧ q0.x.c.time = 0 ∧ q0.x.a.s = 0 ∧ q0.x.a.d0 = 0 ∧ q0.x.a.d1 = 0 ∧ q0.x.a.d2 = 0 ∧ q0.x.a.d3 = 0 ∧ q0.x.a.d4 = 0 ∧ q0.x.a.d5 = 0 ∧ q0.x.a.d6 = 0 ∧ q1 = 11 ∧ True) ∧ tt) else (tt ∧ T1 ∧ (T1 ∧ (isBytes xs) ∧ (List.length xs) ≤ 140737488355100) ∧ ∀ v0 : (List AV), (v0 = (bytesAV (openV (bytesL xs)))) → ∀ v2 : Int, (v2 = (openE (bytesL xs))) → T1 ∧ T1 ∧ T1 ∧ T1 ∧ T1 ∧ tt ∧ T1 ∧ T1 ∧ (bif (v2 != 0) then (tt ∧ T1 ∧ T1 ∧ tt ∧ T1 ∧ tt ∧ tt ∧ (q0.k = 0 ∧ q0.src = 0 ∧ q0.dst = 0 ∧ q0.r = 0 ∧ q0.s = 0 ∧ q0.b = 0 ∧ q0.ok = false ∧ q0.x.r = 0 ∧ q0.x.sl = 0 ∧ q0.x.st = 0 ∧ q0.x.bal = 0 ∧ q0.x.vote = 0 ∧ q0.x.same = false ∧ q0.x.c.k = 0 ∧ q0.x.c.num = 0 ∧ q0.x.c.foot = [] ∧ q0.x.c.rq = 0 ∧ q0.x.c.path = [] ∧ q0.x.c.mode = 0 ∧ q0.x.c.n = 0 ∧ q0.x.c.time = 0 ∧ q0.x.a.s = 0 ∧ q0.x.a.d0 = 0 ∧ q0.x.a.d1 = 0 ∧ q0.x.a.d2 = 0 ∧ q0.x.a.d3 = 0 ∧ q0.x.a.d4 = 0 ∧ q0.x.a.d5 = 0 ∧ q0.x.a.d6 = 0 ∧ q1 = v2 ∧ True) ∧ tt) else (tt ∧ T1 ∧ (T1 ∧ (isBytes v0) ∧ (List.length v0) ≤ 140737488355328) ∧ ∀ v4 : (List AV), (v4 = v0) → ∀ v6 : Int, (v6 = 0) → T1 ∧ tt ∧ T1 ∧ (T1 ∧ (isBytes v4)) ∧ T1 ∧ tt ∧ tt ∧ T1 ∧ (T1 ∧ (isBytes (bytesAV (mt7 (bytesL v4) v6).1))) ∧ ∀ v8 : Int, (v8 = (inEnd (bytesL (bytesAV (mt7 (bytesL v4) v6).1)) (mt7 (bytesL v4) v6).2)) → ∀ v10 : (List AV), (v10 = (bytesAV (mt7 (bytesL v4) v6).1)) → ∀ v12 : Int, (v12 = (mt7 (bytesL v4) v6).2) → T1 ∧ tt ∧ T1 ∧ T1 ∧ (bif (v8 != 0) then (tt ∧ T1 ∧ T1 ∧ tt ∧ T1 ∧ tt ∧ tt ∧ (q0.k = 0 ∧ q0.src = 0 ∧ q0.dst = 0 ∧ q0.r = 0 ∧ q0.s = 0 ∧ q0.b = 0 ∧ q0.ok = false ∧ q0.x.r = 0 ∧ q0.x.sl = 0 ∧ q0.x.st = 0 ∧ q0.x.bal = 0 ∧ q0.x.vote = 0 ∧ q0.x.same = false ∧ q0.x.c.k = 0 ∧ q0.x.c.num = 0 ∧ q0.x.c.foot = [] ∧ q0.x.c.rq = 0 ∧ q0.x.c.path = [] ∧ q0.x.c.mode = 0 ∧ q0.x.c.n = 0 ∧ q0.x.c.time = 0 ∧ q0.x.a.s = 0 ∧ q0.x.a.d0 = 0 ∧ q0.x.a.d1 = 0 ∧ q0.x.a.d2 = 0 ∧ q0.x.a.d3 = 0 ∧ q0.x.a.d4 = 0 ∧ q0.x.a.d5 = 0 ∧ q0.x.a.d6 = 0 ∧ q1 = v8 ∧ True) ∧ tt) else (tt ∧ tt ∧ (T1 ∧ (smallX (mtV (bytesL v4) v6).x)) ∧ T1 ∧ (bif (Bool.not (rightM (mtV (bytesL v4) v6))) then (tt ∧ T1 ∧ tt ∧ T1 ∧ tt ∧ tt ∧ (q0.k = 0 ∧ q0.src = 0 ∧ q0.dst = 0 ∧ q0.r = 0 ∧ q0.s = 0 ∧ q0.b = 0 ∧ q0.ok = false ∧ q0.x.r = 0 ∧ q0.x.sl = 0 ∧ q0.x.st = 0 ∧ q0.x.bal = 0 ∧ q0.x.vote = 0 ∧ q0.x.same = false ∧ q0.x.c.k = 0 ∧ q0.x.c.num = 0 ∧ q0.x.c.foot = [] ∧ q0.x.c.rq = 0 ∧ q0.x.c.path = [] ∧ q0.x.c.mode = 0 ∧ q0.x.c.n = 0 ∧ q0.x.c.time = 0 ∧ q0.x.a.s = 0 ∧ q0.x.a.d0 = 0 ∧ q0.x.a.d1 = 0 ∧ q0.x.a.d2 = 0 ∧ q0.x.a.d3 = 0 ∧ q0.x.a.d4 = 0 ∧ q0.x.a.d5 = 0 ∧ q0.x.a.d6 = 0 ∧ q1 = 10 ∧ True) ∧ tt) else (tt ∧ tt ∧ tt ∧ T1 ∧ tt ∧ tt ∧ (q0.k = (mtV (bytesL v4) v6).k ∧ q0.src = (mtV (bytesL v4) v6).src ∧ q0.dst = (mtV (bytesL v4) v6).dst ∧ q0.r = (mtV (bytesL v4) v6).r ∧ q0.s = (mtV (bytesL v4) v6).s ∧ q0.b = (mtV (bytesL v4) v6).b ∧ q0.ok = (mtV (bytesL v4) v6).ok ∧ q0.x.r = (mtV (bytesL v4) v6).x.r ∧ q0.x.sl = (mtV (bytesL v4) v6).x.sl ∧ q0.x.st = (mtV (bytesL v4) v6).x.st ∧ q0.x.bal = (mtV (bytesL v4) v6).x.bal ∧ q0.x.vote = (mtV (bytesL v4) v6).x.vote ∧ q0.x.same = (mtV (bytesL v4) v6).x.same ∧ q0.x.c.k = (mtV (bytesL v4) v6).x.c.k ∧ q0.x.c.num = (mtV (bytesL v4) v6).x.c.num ∧ q0.x.c.foot = (mtV (bytesL v4) v6).x.c.foot ∧ q0.x.c.rq = (mtV (bytesL v4) v6).x.c.rq ∧ q0.x.c.path = (mtV (bytesL v4) v6).x.c.path ∧ q0.x.c.mode = (mtV (bytesL v4) v6).x.c.mode ∧ q0.x.c.n = (mtV (bytesL v4) v6).x.c.n ∧ q0.x.c.time = (mtV (bytesL v4) v6).x.c.time ∧ q0.x.a.s = (mtV (bytesL v4) v6).x.a.s ∧ q0.x.a.d0 = (mtV (bytesL v4) v6).x.a.d0 ∧ q0.x.a.d1 = (mtV (bytesL v4) v6).x.a.d1 ∧ q0.x.a.d2 = (mtV (bytesL v4) v6).x.a.d2 ∧ q0.x.a.d3 = (mtV (bytesL v4) v6).x.a.d3 ∧ q0.x.a.d4 = (mtV (bytesL v4) v6).x.a.d4 ∧ q0.x.a.d5 = (mtV (bytesL v4) v6).x.a.d5 ∧ q0.x.a.d6 = (mtV (bytesL v4) v6).x.a.d6 ∧ q1 = 0 ∧ True) ∧ tt)))))))))) : inMopen0 xs :=
  Eq.mp (show _ = _ by kernel_rfl) h
end Go.Proofs.YtfoabkkkdcicgaaGreatDoor
/- The conditions hold: a message's frame, and what is read of it. -/
namespace Go.Proofs.YtfoabkkkdcicgaaGreatDoor
set_option linter.unusedVariables false
set_option linter.unusedSimpArgs false
open Go.RowKit
set_option maxRecDepth 100000

theorem rightM_parts {m : MsgP} (h : rightM m = true) : 1 ≤ m.k ∧ m.k ≤ 7 ∧ repOK m.src = true ∧ repOK m.dst = true ∧ m.src ≠ m.dst ∧ rightId m.r m.s = true ∧ balOK m.b = true ∧ (m.k = 6 → m.ok = false ∧ eqI m.x zI = true) ∧ (m.k ≠ 6 → rightI m.x = true ∧ m.x.r = m.r ∧ m.x.sl = m.s) := by
  unfold rightM at h
  split at h
  · rename_i h0
    obtain ⟨a1, a2, a3, a4, a5, a6, a7⟩ := h0
    refine ⟨a1, a2, a3, a4, a5, a6, a7, fun hk => ?_, fun hk => ?_⟩
    · rw [if_pos hk] at h
      simpa using h
    · rw [if_neg hk] at h
      split at h
      · rename_i h1; exact h1
      · cases h
  · cases h
theorem good_of {x : InstP} (h : rightI x = true) : x.st ≠ 0 → attGood x := fun h0 => ((rightI_parts h).2.2.2.2 h0).2.2.2
theorem bodyM_len {m : MsgP} (hs : smallX m.x) (h : rightM m = true) (hb : rangeM m) : (bodyM m).length ≤ 1800400 := by
  obtain ⟨a1, a2, a3, a4, a5, a6, a7, a8, a9⟩ := rightM_parts h
  have s1 := short10 (u64_range m.s)
  have s2 : (short m.b.toNat).length ≤ 10 := short_le10 hb.1.1 (by omega)
  unfold bodyM
  simp only [catL_length, encByte_len, encTruth_len, encID]
  have : (if m.k = 6 then [] else encI m.x).length ≤ 1800300 := by
    split
    · simp
    · rename_i h6
      have := encI_len hs (good_of (a9 h6).1) hb.2
      have := hs.1; have := hs.2
      omega
  omega
theorem okMframeT0 : OkMframeT0 := by
  intro m hq hb
  refine vcMframeT0 m ?_
  have hl := bodyM_len hq.1 hq.2 hb
  obtain ⟨a1, a2, a3, a4, a5, a6, a7, a8, a9⟩ := rightM_parts hq.2
  simp only [true_and, and_true, forall_eq, eq_self, bytesL_bytesAV, isBytes_bytesAV, length_bytesAV]
  have e0 : ∀ l : List UInt8, catL [] l = l := fun l => rfl
  simp only [e0, catL_assoc]
  unfold bodyM at hl
  simp only [catL_length] at hl
  simp only [catL_length]
  refine ⟨hq, ⟨isBytes_nil, by decide⟩, by omega, by omega, by omega, by omega, by omega, cond_prop (fun h => ?_) fun h => ?_⟩
  · have hk : m.k ≠ 6 := by simpa using h
    rw [if_neg hk] at hl
    refine ⟨⟨hq.1, good_of (a9 hk).1, by omega⟩, by omega, by omega, by decide, ?_⟩
    unfold frameM bodyM; rw [if_neg hk]
  · have hk : m.k = 6 := by simpa using h
    rw [if_pos hk] at hl
    refine ⟨by omega, by omega, by decide, ?_⟩
    unfold frameM bodyM; rw [if_pos hk]
    simp [catL]
theorem okMframeN0 : OkMframeN0 := by
  intro m hq
  refine vcMframeN0 m ?_
  simp only [true_and, and_true, forall_eq, eq_self]
  exact hq
theorem mt1_1 (l : List UInt8) (e : Int) : (mt1 l e).1 = tkRest l e 1 := by unfold mt1; with_reducible rfl
theorem mt2_1 (l : List UInt8) (e : Int) : (mt2 l e).1 = tkRest (mt1 l e).1 (mt1 l e).2 1 := by unfold mt2; with_reducible rfl
theorem mt2_2 (l : List UInt8) (e : Int) : (mt2 l e).2 = tkErr (mt1 l e).1.length (mt1 l e).2 1 := by unfold mt2; with_reducible rfl
theorem mtF_1 (l : List UInt8) (e : Int) : mtF l e = inByteV (mt1 l e).1 (mt1 l e).2 := by unfold mtF; with_reducible rfl
theorem mtT_1 (l : List UInt8) (e : Int) : mtT l e = inByteV (mt2 l e).1 (mt2 l e).2 := by unfold mtT; with_reducible rfl
theorem mt3_1 (l : List UInt8) (e : Int) : (mt3 l e).1 = tkRest (mt2 l e).1 (mt2 l e).2 1 := by unfold mt3; with_reducible rfl
theorem mt4_1 (l : List UInt8) (e : Int) : (mt4 l e).1 = idRest (mt3 l e).1 (mt3 l e).2 := by unfold mt4; with_reducible rfl
theorem mt4_2 (l : List UInt8) (e : Int) : (mt4 l e).2 = idErr (mt3 l e).1 (mt3 l e).2 := by unfold mt4; with_reducible rfl
theorem mt5_1 (l : List UInt8) (e : Int) : (mt5 l e).1 = shRest (mt4 l e).1 (mt4 l e).2 4294967295 := by unfold mt5; with_reducible rfl
theorem mt5_2 (l : List UInt8) (e : Int) : (mt5 l e).2 = balE (mt4 l e).1 (mt4 l e).2 := by unfold mt5; with_reducible rfl
theorem mt6_1 (l : List UInt8) (e : Int) : (mt6 l e).1 = tkRest (mt5 l e).1 (mt5 l e).2 1 := by unfold mt6; with_reducible rfl
theorem mt6_2 (l : List UInt8) (e : Int) : (mt6 l e).2 = inTruthE (mt5 l e).1 (mt5 l e).2 := by unfold mt6; with_reducible rfl
theorem mt7_st (l : List UInt8) (e : Int) (h : inByteV l e ≠ 6) : mt7 l e = (itR (mt6 l e).1 (mt6 l e).2, itE (mt6 l e).1 (mt6 l e).2) := by unfold mt7; rw [if_neg h]
theorem mt7_no (l : List UInt8) (e : Int) (h : inByteV l e = 6) : mt7 l e = mt6 l e := by unfold mt7; rw [if_pos h]
theorem mtV_st (l : List UInt8) (e : Int) (h : inByteV l e ≠ 6) : mtV l e = ⟨inByteV l e, mtF l e, mtT l e, idR (mt3 l e).1 (mt3 l e).2, idS (mt3 l e).1 (mt3 l e).2, balV (mt4 l e).1 (mt4 l e).2, inTruthV (mt5 l e).1 (mt5 l e).2, itX (mt6 l e).1 (mt6 l e).2⟩ := by unfold mtV; rw [if_neg h]
theorem mtV_no (l : List UInt8) (e : Int) (h : inByteV l e = 6) : mtV l e = ⟨inByteV l e, mtF l e, mtT l e, idR (mt3 l e).1 (mt3 l e).2, idS (mt3 l e).1 (mt3 l e).2, balV (mt4 l e).1 (mt4 l e).2, inTruthV (mt5 l e).1 (mt5 l e).2, zI⟩ := by unfold mtV; rw [if_pos h]
theorem kOK_out {k : Int} (h : k < 1 ∨ 7 < k) : kOK k = false := by unfold kOK; simp; omega
theorem kOK_in {k : Int} (h0 : ¬ k < 1) (h : ¬ 7 < k) : kOK k = true := by unfold kOK; simp; omega
set_option maxHeartbeats 4000000 in
theorem okMtake0 : OkMtake0 := by
  intro xs e hq
  refine vcMtake0 xs e ?_
  obtain ⟨l, rfl⟩ := hq.get
  have wb : ∀ l e, IntKind.i64.wrap (inByteV l e) = inByteV l e := byW
  simp only [true_and, and_true, forall_eq, eq_self, bytesL_bytesAV, isBytes_bytesAV, length_bytesAV, wb]
  refine cond_prop (fun hk => ?_) fun hk => cond_prop (fun hk' => ?_) fun hk' => ?_
  · have e1 : (mt1 l e).2 = inFail (tkErr l.length e 1) 22 := by unfold mt1; simp only []; rw [if_neg (by rw [kOK_out (.inl (of_decide_eq_true hk))]; simp)]
    rw [← e1]
    simp only [← mt1_1 l e, ← mt2_1 l e, ← mt2_2 l e, ← mtF_1 l e, ← mtT_1 l e]
    refine cond_prop (fun h1 => ?_) fun h1 => cond_prop (fun h2 => ?_) fun h2 => ?_
    · have e3 : (mt3 l e).2 = inFail (tkErr (mt2 l e).1.length (mt2 l e).2 1) 12 := by unfold mt3; simp only []; rw [if_neg (by rw [Bool.not_eq_true'] at h1; rw [h1]; simp)]
      rw [← e3]
      simp only [← mt3_1 l e, ← mt4_1 l e, ← mt4_2 l e, ← mt5_1 l e, ← mt5_2 l e, ← mt6_1 l e, ← mt6_2 l e]
      refine cond_prop (fun h6 => ?_) fun h6 => ?_
      · have h6' : inByteV l e ≠ 6 := by simpa using h6
        rw [mt7_st l e h6', mtV_st l e h6']
        and_intros <;> first | with_reducible rfl | rfl
      · have h6' : inByteV l e = 6 := by simpa using h6
        rw [mt7_no l e h6', mtV_no l e h6']
        and_intros <;> first | with_reducible rfl | rfl
    · have e3 : (mt3 l e).2 = inFail (tkErr (mt2 l e).1.length (mt2 l e).2 1) 12 := by unfold mt3; simp only []; rw [if_neg (by rw [Bool.not_eq_true'] at h2; rw [h2]; simp)]
      rw [← e3]
      simp only [← mt3_1 l e, ← mt4_1 l e, ← mt4_2 l e, ← mt5_1 l e, ← mt5_2 l e, ← mt6_1 l e, ← mt6_2 l e]
      refine cond_prop (fun h6 => ?_) fun h6 => ?_
      · have h6' : inByteV l e ≠ 6 := by simpa using h6
        rw [mt7_st l e h6', mtV_st l e h6']
        and_intros <;> first | with_reducible rfl | rfl
      · have h6' : inByteV l e = 6 := by simpa using h6
        rw [mt7_no l e h6', mtV_no l e h6']
        and_intros <;> first | with_reducible rfl | rfl
    · have e3 : (mt3 l e).2 = tkErr (mt2 l e).1.length (mt2 l e).2 1 := by unfold mt3; simp only []; rw [if_pos (by rw [Bool.not_eq_false'] at h1 h2; rw [h1, h2]; rfl)]
      rw [← e3]
      simp only [← mt3_1 l e, ← mt4_1 l e, ← mt4_2 l e, ← mt5_1 l e, ← mt5_2 l e, ← mt6_1 l e, ← mt6_2 l e]
      refine cond_prop (fun h6 => ?_) fun h6 => ?_
      · have h6' : inByteV l e ≠ 6 := by simpa using h6
        rw [mt7_st l e h6', mtV_st l e h6']
        and_intros <;> first | with_reducible rfl | rfl
      · have h6' : inByteV l e = 6 := by simpa using h6
        rw [mt7_no l e h6', mtV_no l e h6']
        and_intros <;> first | with_reducible rfl | rfl
  · have e1 : (mt1 l e).2 = inFail (tkErr l.length e 1) 22 := by unfold mt1; simp only []; rw [if_neg (by rw [kOK_out (.inr (of_decide_eq_true hk'))]; simp)]
    rw [← e1]
    simp only [← mt1_1 l e, ← mt2_1 l e, ← mt2_2 l e, ← mtF_1 l e, ← mtT_1 l e]
    refine cond_prop (fun h1 => ?_) fun h1 => cond_prop (fun h2 => ?_) fun h2 => ?_
    · have e3 : (mt3 l e).2 = inFail (tkErr (mt2 l e).1.length (mt2 l e).2 1) 12 := by unfold mt3; simp only []; rw [if_neg (by rw [Bool.not_eq_true'] at h1; rw [h1]; simp)]
      rw [← e3]
      simp only [← mt3_1 l e, ← mt4_1 l e, ← mt4_2 l e, ← mt5_1 l e, ← mt5_2 l e, ← mt6_1 l e, ← mt6_2 l e]
      refine cond_prop (fun h6 => ?_) fun h6 => ?_
      · have h6' : inByteV l e ≠ 6 := by simpa using h6
        rw [mt7_st l e h6', mtV_st l e h6']
        and_intros <;> first | with_reducible rfl | rfl
      · have h6' : inByteV l e = 6 := by simpa using h6
        rw [mt7_no l e h6', mtV_no l e h6']
        and_intros <;> first | with_reducible rfl | rfl
    · have e3 : (mt3 l e).2 = inFail (tkErr (mt2 l e).1.length (mt2 l e).2 1) 12 := by unfold mt3; simp only []; rw [if_neg (by rw [Bool.not_eq_true'] at h2; rw [h2]; simp)]
      rw [← e3]
      simp only [← mt3_1 l e, ← mt4_1 l e, ← mt4_2 l e, ← mt5_1 l e, ← mt5_2 l e, ← mt6_1 l e, ← mt6_2 l e]
      refine cond_prop (fun h6 => ?_) fun h6 => ?_
      · have h6' : inByteV l e ≠ 6 := by simpa using h6
        rw [mt7_st l e h6', mtV_st l e h6']
        and_intros <;> first | with_reducible rfl | rfl
      · have h6' : inByteV l e = 6 := by simpa using h6
        rw [mt7_no l e h6', mtV_no l e h6']
        and_intros <;> first | with_reducible rfl | rfl
    · have e3 : (mt3 l e).2 = tkErr (mt2 l e).1.length (mt2 l e).2 1 := by unfold mt3; simp only []; rw [if_pos (by rw [Bool.not_eq_false'] at h1 h2; rw [h1, h2]; rfl)]
      rw [← e3]
      simp only [← mt3_1 l e, ← mt4_1 l e, ← mt4_2 l e, ← mt5_1 l e, ← mt5_2 l e, ← mt6_1 l e, ← mt6_2 l e]
      refine cond_prop (fun h6 => ?_) fun h6 => ?_
      · have h6' : inByteV l e ≠ 6 := by simpa using h6
        rw [mt7_st l e h6', mtV_st l e h6']
        and_intros <;> first | with_reducible rfl | rfl
      · have h6' : inByteV l e = 6 := by simpa using h6
        rw [mt7_no l e h6', mtV_no l e h6']
        and_intros <;> first | with_reducible rfl | rfl
  · have e1 : (mt1 l e).2 = tkErr l.length e 1 := by unfold mt1; simp only []; rw [if_pos (kOK_in (of_decide_eq_false hk) (of_decide_eq_false hk'))]
    rw [← e1]
    simp only [← mt1_1 l e, ← mt2_1 l e, ← mt2_2 l e, ← mtF_1 l e, ← mtT_1 l e]
    refine cond_prop (fun h1 => ?_) fun h1 => cond_prop (fun h2 => ?_) fun h2 => ?_
    · have e3 : (mt3 l e).2 = inFail (tkErr (mt2 l e).1.length (mt2 l e).2 1) 12 := by unfold mt3; simp only []; rw [if_neg (by rw [Bool.not_eq_true'] at h1; rw [h1]; simp)]
      rw [← e3]
      simp only [← mt3_1 l e, ← mt4_1 l e, ← mt4_2 l e, ← mt5_1 l e, ← mt5_2 l e, ← mt6_1 l e, ← mt6_2 l e]
      refine cond_prop (fun h6 => ?_) fun h6 => ?_
      · have h6' : inByteV l e ≠ 6 := by simpa using h6
        rw [mt7_st l e h6', mtV_st l e h6']
        and_intros <;> first | with_reducible rfl | rfl
      · have h6' : inByteV l e = 6 := by simpa using h6
        rw [mt7_no l e h6', mtV_no l e h6']
        and_intros <;> first | with_reducible rfl | rfl
    · have e3 : (mt3 l e).2 = inFail (tkErr (mt2 l e).1.length (mt2 l e).2 1) 12 := by unfold mt3; simp only []; rw [if_neg (by rw [Bool.not_eq_true'] at h2; rw [h2]; simp)]
      rw [← e3]
      simp only [← mt3_1 l e, ← mt4_1 l e, ← mt4_2 l e, ← mt5_1 l e, ← mt5_2 l e, ← mt6_1 l e, ← mt6_2 l e]
      refine cond_prop (fun h6 => ?_) fun h6 => ?_
      · have h6' : inByteV l e ≠ 6 := by simpa using h6
        rw [mt7_st l e h6', mtV_st l e h6']
        and_intros <;> first | with_reducible rfl | rfl
      · have h6' : inByteV l e = 6 := by simpa using h6
        rw [mt7_no l e h6', mtV_no l e h6']
        and_intros <;> first | with_reducible rfl | rfl
    · have e3 : (mt3 l e).2 = tkErr (mt2 l e).1.length (mt2 l e).2 1 := by unfold mt3; simp only []; rw [if_pos (by rw [Bool.not_eq_false'] at h1 h2; rw [h1, h2]; rfl)]
      rw [← e3]
      simp only [← mt3_1 l e, ← mt4_1 l e, ← mt4_2 l e, ← mt5_1 l e, ← mt5_2 l e, ← mt6_1 l e, ← mt6_2 l e]
      refine cond_prop (fun h6 => ?_) fun h6 => ?_
      · have h6' : inByteV l e ≠ 6 := by simpa using h6
        rw [mt7_st l e h6', mtV_st l e h6']
        and_intros <;> first | with_reducible rfl | rfl
      · have h6' : inByteV l e = 6 := by simpa using h6
        rw [mt7_no l e h6', mtV_no l e h6']
        and_intros <;> first | with_reducible rfl | rfl
theorem itX_small (l : List UInt8) (e : Int) : smallX (itX l e) := by
  unfold itX
  split
  · unfold itV
    split
    · exact ⟨Nat.zero_le _, Nat.zero_le _⟩
    · exact ctC_small _ _
  · exact ⟨by decide, by decide⟩
theorem mtV_small (l : List UInt8) (e : Int) : smallX (mtV l e).x := by
  unfold mtV
  simp only []
  split
  · exact ⟨by decide, by decide⟩
  · exact itX_small _ _
theorem openV_len (l : List UInt8) : (openV l).length ≤ l.length := by
  unfold openV bodyL
  split
  · rw [List.length_take]; omega
  · simp
theorem okMopen0 : OkMopen0 := by
  intro xs hq
  refine vcMopen0 xs ?_
  obtain ⟨hb, hl⟩ := hq
  obtain ⟨l, rfl⟩ := hb.get
  simp only [true_and, and_true, forall_eq, eq_self, bytesL_bytesAV, isBytes_bytesAV, length_bytesAV] at hl ⊢
  obtain ⟨E, hE⟩ : ∃ E, E = mopenE l := ⟨_, rfl⟩
  have hE' := hE
  unfold mopenE at hE
  have hX : mopenX l = if mopenE l = 0 then mtV (openV l) 0 else zM := rfl
  rw [← hE'] at hX ⊢
  refine cond_prop (fun h => ?_) fun h => ?_
  · have h' : 512 < l.length := by simp at h; omega
    rw [if_pos h'] at hE
    rw [hX, if_neg (by rw [hE]; decide), hE]
    and_intros <;> first | with_reducible rfl | rfl
  · have h' : ¬ 512 < l.length := by simp at h; omega
    rw [if_neg h'] at hE
    refine ⟨by omega, cond_prop (fun h1 => ?_) fun h1 => ?_⟩
    · have h1' : openE l ≠ 0 := by simpa using h1
      rw [if_pos h1'] at hE
      rw [hX, if_neg (by rw [hE]; exact h1'), hE]
      and_intros <;> first | with_reducible rfl | rfl
    · have h1' : ¬ openE l ≠ 0 := by simpa using h1
      rw [if_neg h1'] at hE
      have := openV_len l
      refine ⟨by omega, cond_prop (fun h2 => ?_) fun h2 => ?_⟩
      · have h2' : inEnd (mt7 (openV l) 0).1 (mt7 (openV l) 0).2 ≠ 0 := by simpa using h2
        rw [if_pos h2'] at hE
        rw [hX, if_neg (by rw [hE]; exact h2'), hE]
        and_intros <;> first | with_reducible rfl | rfl
      · have h2' : ¬ inEnd (mt7 (openV l) 0).1 (mt7 (openV l) 0).2 ≠ 0 := by simpa using h2
        rw [if_neg h2'] at hE
        refine ⟨mtV_small _ _, cond_prop (fun h3 => ?_) fun h3 => ?_⟩
        · rw [Bool.not_eq_true'] at h3
          rw [h3] at hE
          have hE2 : E = 10 := hE
          rw [hX, if_neg (by rw [hE2]; decide), hE2]
          and_intros <;> first | with_reducible rfl | rfl
        · rw [Bool.not_eq_false'] at h3
          rw [h3] at hE
          have hE2 : E = 0 := hE
          rw [hX, if_pos hE2, hE2]
          and_intros <;> first | with_reducible rfl | rfl
end Go.Proofs.YtfoabkkkdcicgaaGreatDoor
/- The contracts are met. -/
namespace Go.Proofs.YtfoabkkkdcicgaaGreatDoor
set_option linter.unusedVariables false
set_option linter.unusedSimpArgs false
open Go.RowKit
theorem sndMframeT : Sound Tryz.prog (lookΓ gamMframeT) := sound_of _ fun p hp => by
  simp only [gamMframeT, List.mem_cons, List.not_mem_nil, or_false] at hp
  rcases hp with rfl | rfl | rfl | rfl | rfl | rfl | rfl | rfl
  · exact meetsMrightT.orNil
  · exact meetsOutByte.orNil
  · exact meetsIdPut.orNil
  · exact meetsBalPut.orNil
  · exact meetsOutTruth.orNil
  · exact meetsIput.orNil
  · exact meetsOutBytes.orNil
  · exact meetsSeal.orNil
set_option maxHeartbeats 4000000 in
theorem meetsMframeT : Meets Tryz.prog 18 mframeTF := by
  refine meets_of_awp (Γ := lookΓ gamMframeT) (L := fun _ _ => none) sndMframeT mixedOrders Tryz.func18 rfl Tryz.call18 ?_
  intro args q r hF hq ho
  unfold mframeTF at hF
  split at hF
  · split at hF
    · rename_i m hzm
      obtain rfl := msgOf_some hzm
      cases hF
      exact ⟨by simp only [List.length_cons, List.length_nil]; decide, okMframeT0 _ hq (⟨okay_u32 (argA 0 5 ho rfl rfl), okay_u32 (argA 0 10 ho rfl rfl), okay_u32 (argA 0 11 ho rfl rfl), okay_u64 (argA 0 14 ho rfl rfl), okay_u64 (argA 0 16 ho rfl rfl), okay_u64 (argA 0 19 ho rfl rfl)⟩)⟩
    · cases hF
  · cases hF
theorem sndMframeN : Sound Tryz.prog (lookΓ gamMframeN) := sound_of _ fun p hp => by
  simp only [gamMframeN, List.mem_cons, List.not_mem_nil, or_false] at hp
  subst hp
  exact meetsMrightN.orNil
set_option maxHeartbeats 4000000 in
theorem meetsMframeN : Meets Tryz.prog 18 mframeNF := by
  refine meets_of_awp (Γ := lookΓ gamMframeN) (L := fun _ _ => none) sndMframeN mixedOrders Tryz.func18 rfl Tryz.call18 ?_
  intro args q r hF hq ho
  unfold mframeNF at hF
  split at hF
  · split at hF
    · rename_i m hzm
      obtain rfl := msgOf_some hzm
      cases hF
      exact ⟨by simp only [List.length_cons, List.length_nil]; decide, okMframeN0 _ hq⟩
    · cases hF
  · cases hF
theorem sndMtake : Sound Tryz.prog (lookΓ gamMtake) := sound_of _ fun p hp => by
  simp only [gamMtake, List.mem_cons, List.not_mem_nil, or_false] at hp
  rcases hp with rfl | rfl | rfl | rfl | rfl | rfl | rfl
  · exact meetsInByte.orNil
  · exact meetsInFail.orNil
  · exact meetsReplica.orNil
  · exact meetsTakeID.orNil
  · exact meetsTakeBal.orNil
  · exact meetsInTruth.orNil
  · exact meetsItake.orNil
set_option maxHeartbeats 4000000 in
theorem meetsMtake : Meets Tryz.prog 51 mtakeF := by
  refine meets_of_awp (Γ := lookΓ gamMtake) (L := fun _ _ => none) sndMtake mixedOrders Tryz.func51 rfl Tryz.call51 ?_
  intro args q r hF hq ho
  unfold mtakeF at hF
  split at hF
  · cases hF
    exact ⟨by simp only [List.length_cons, List.length_nil]; decide, okMtake0 _ _ hq⟩
  · cases hF
theorem sndMopen : Sound Tryz.prog (lookΓ gamMopen) := sound_of _ fun p hp => by
  simp only [gamMopen, List.mem_cons, List.not_mem_nil, or_false] at hp
  rcases hp with rfl | rfl | rfl | rfl | rfl
  · exact meetsOpen.orNil
  · exact meetsNewIn.orNil
  · exact meetsMtake.orNil
  · exact meetsInEnd.orNil
  · exact meetsMright.orNil
set_option maxHeartbeats 4000000 in
theorem meetsMopen : Meets Tryz.prog 20 mopenF := by
  refine meets_of_awp (Γ := lookΓ gamMopen) (L := fun _ _ => none) sndMopen mixedOrders Tryz.func20 rfl Tryz.call20 ?_
  intro args q r hF hq ho
  unfold mopenF at hF
  split at hF
  · cases hF
    exact ⟨by simp only [List.length_cons, List.length_nil]; decide, okMopen0 _ hq⟩
  · cases hF
end Go.Proofs.YtfoabkkkdcicgaaGreatDoor
