/- Contracts by content, their conditions, and that they are met: InstW. -/
import Derived.Test.YtfoabkkkdcicgaaGreatDoorLaxPkInstA
import Derived.Test.YtfoabkkkdcicgaaGreatDoorLaxPkCmdX
/- Contracts by content, and the conditions that their code must meet. -/
namespace Go.Proofs.YtfoabkkkdcicgaaGreatDoor
set_option linter.unusedVariables false
set_option linter.unusedSimpArgs false
open Go.RowKit
def encIR (x : InstP) : List UInt8 := catL (short x.vote.toNat) (catL (encTruth x.same) (catL (encP x.c) (encA x.a.s x.a.d0 x.a.d1 x.a.d2 x.a.d3 x.a.d4 x.a.d5 x.a.d6)))
def encI (x : InstP) : List UInt8 := catL (encID x.r x.sl) (catL (short x.bal.toNat) (catL (encByte (IntKind.u8.wrap x.st)) (if x.st = 0 then [] else encIR x)))
abbrev rangeX (x : InstP) : Prop := (0 ≤ x.bal ∧ x.bal ≤ 4294967295) ∧ (0 ≤ x.vote ∧ x.vote ≤ 4294967295) ∧ rangeC x.c
abbrev attGood (x : InstP) : Prop := rightA x.a.s x.a.d0 x.a.d1 x.a.d2 x.a.d3 x.a.d4 x.a.d5 x.a.d6 = true
def iputF : Con
  | [.val (.agg zcx), .box [.sl xs (.row p q te0)]] => (match instOf zcx with | some x => if te0 = 5 then some (smallX x ∧ (x.st ≠ 0 → attGood x) ∧ isBytes xs ∧ xs.length + 3000000 ≤ 140737488355328, ⟨.tup [], (some [.sl (bytesAV (catL (bytesL xs) (encI x))) (.row 0 0 5)]), none⟩) else none | _ => none)
  | _ => none
def gamIput : List (Nat × Con) := [(42, idPutF.orNil), (43, balPutF.orNil), (41, outByteF.orNil), (44, outTruthF.orNil), (73, cputF.orNil), (74, attPutF.orNil)]
def lpIput0 (x : InstP) (xs : List AV) (p q : Nat) : Nat → Option LoopPlan := fun _ => none
def inIput0 (x : InstP) (xs : List AV) (p q : Nat) : Prop := awp [1] (lpIput0 x xs p q) (lookΓ gamIput) Tryz.prog Tryz.f37.ntmps 0 (Tryz.f37.body.getD .skip) (entrySt [.val (.agg (instL x)), .box [.sl xs (.row p q 5)]]) (exitQ Tryz.prog Tryz.f37.results.toList [1] ⟨.tup [], (some [.sl (bytesAV (catL (bytesL xs) (encI x))) (.row 0 0 5)]), none⟩)
def OkIput0 : Prop := ∀ (x : InstP) (xs : List AV) (p q : Nat), smallX x ∧ (x.st ≠ 0 → attGood x) ∧ isBytes xs ∧ xs.length + 3000000 ≤ 140737488355328 → (rangeX x) → inIput0 x xs p q
def it1 (l : List UInt8) (e : Int) : List UInt8 × Int := (idRest l e, idErr l e)
def it2 (l : List UInt8) (e : Int) : List UInt8 × Int := (shRest (it1 l e).1 (it1 l e).2 4294967295, balE (it1 l e).1 (it1 l e).2)
def itSt (l : List UInt8) (e : Int) : Int := inByteV (it2 l e).1 (it2 l e).2
def it3 (l : List UInt8) (e : Int) : List UInt8 × Int := (tkRest (it2 l e).1 (it2 l e).2 1, if 3 < itSt l e then inFail (tkErr (it2 l e).1.length (it2 l e).2 1) 22 else tkErr (it2 l e).1.length (it2 l e).2 1)
def it4 (l : List UInt8) (e : Int) : List UInt8 × Int := (shRest (it3 l e).1 (it3 l e).2 4294967295, balE (it3 l e).1 (it3 l e).2)
def it5 (l : List UInt8) (e : Int) : List UInt8 × Int := (tkRest (it4 l e).1 (it4 l e).2 1, inTruthE (it4 l e).1 (it4 l e).2)
def it6 (l : List UInt8) (e : Int) : List UInt8 × Int := (ctR (it5 l e).1 (it5 l e).2, ctE (it5 l e).1 (it5 l e).2)
def itA (l : List UInt8) (e : Int) : AttP := ⟨atZ l e (shV l e 1073741824), atZ l e (atV l e 0), atZ l e (atV l e 1), atZ l e (atV l e 2), atZ l e (atV l e 3), atZ l e (atV l e 4), atZ l e (atV l e 5), atZ l e (atV l e 6)⟩
def it8 (l : List UInt8) (e : Int) : List UInt8 × Int := if itSt l e = 0 then it3 l e else atS (it6 l e).1 (it6 l e).2 7
def itV (l : List UInt8) (e : Int) : InstP :=
  if itSt l e = 0 then ⟨idR l e, idS l e, 0, balV (it1 l e).1 (it1 l e).2, 0, false, zC, zA0⟩
  else ⟨idR l e, idS l e, itSt l e, balV (it1 l e).1 (it1 l e).2, balV (it3 l e).1 (it3 l e).2, inTruthV (it4 l e).1 (it4 l e).2, ctC (it5 l e).1 (it5 l e).2, itA (it6 l e).1 (it6 l e).2⟩
def itE (l : List UInt8) (e : Int) : Int := if rightI (itV l e) then (it8 l e).2 else inFail (it8 l e).2 10
def itR (l : List UInt8) (e : Int) : List UInt8 := (it8 l e).1
def itX (l : List UInt8) (e : Int) : InstP := if itE l e = 0 then itV l e else zI
def iparseE (l : List UInt8) : Int := inEnd (itR l 0) (itE l 0)
def iparseX (l : List UInt8) : InstP := if iparseE l = 0 then itX l 0 else zI
def itakeF : Con
  | [.box [.sl xs .no, .int .i64 e]] => (some (isBytes xs, ⟨.agg (instL (itX (bytesL xs) e)), (some [.sl (bytesAV (itR (bytesL xs) e)) .no, .int .i64 (itE (bytesL xs) e)]), none⟩))
  | _ => none
def gamItake : List (Nat × Con) := [(57, takeIDF.orNil), (26, inewF.orNil), (58, takeBalF.orNil), (59, inByteF.orNil), (60, inFailF.orNil), (61, inTruthF.orNil), (62, ctakeF.orNil), (63, attTakeF.orNil), (21, irightF.orNil), (64, inFailedF.orNil)]
def lpItake0 (xs : List AV) (e : Int) : Nat → Option LoopPlan := fun _ => none
def inItake0 (xs : List AV) (e : Int) : Prop := awp [0] (lpItake0 xs e) (lookΓ gamItake) Tryz.prog Tryz.f28.ntmps 0 (Tryz.f28.body.getD .skip) (entrySt [.box [.sl xs .no, .int .i64 e]]) (exitQ Tryz.prog Tryz.f28.results.toList [0] ⟨.agg (instL (itX (bytesL xs) e)), (some [.sl (bytesAV (itR (bytesL xs) e)) .no, .int .i64 (itE (bytesL xs) e)]), none⟩)
def OkItake0 : Prop := ∀ (xs : List AV) (e : Int), isBytes xs → inItake0 xs e
def ibytesF : Con
  | [.val (.agg zcx)] => (match instOf zcx with | some x => some (smallX x ∧ (x.st ≠ 0 → attGood x), ⟨.sl (bytesAV (encI x)) .no, none, none⟩) | _ => none)
  | _ => none
def gamIbytes : List (Nat × Con) := [(37, iputF.orNil), (38, outBytesF.orNil)]
def lpIbytes0 (x : InstP) : Nat → Option LoopPlan := fun _ => none
def inIbytes0 (x : InstP) : Prop := awp [] (lpIbytes0 x) (lookΓ gamIbytes) Tryz.prog Tryz.f13.ntmps 0 (Tryz.f13.body.getD .skip) (entrySt [.val (.agg (instL x))]) (exitQ Tryz.prog Tryz.f13.results.toList [] ⟨.sl (bytesAV (encI x)) .no, none, none⟩)
def OkIbytes0 : Prop := ∀ (x : InstP), smallX x ∧ (x.st ≠ 0 → attGood x) → (rangeX x) → inIbytes0 x
def iparseF : Con
  | [.val (.sl xs .no)] => (some (isBytes xs ∧ xs.length ≤ 140737488355328, ⟨.tup [.agg (instL (iparseX (bytesL xs))), .int .i64 (iparseE (bytesL xs))], none, none⟩))
  | _ => none
def gamIparse : List (Nat × Con) := [(27, newInF.orNil), (28, itakeF.orNil), (29, inEndF.orNil)]
def lpIparse0 (xs : List AV) : Nat → Option LoopPlan := fun _ => none
def inIparse0 (xs : List AV) : Prop := awp [] (lpIparse0 xs) (lookΓ gamIparse) Tryz.prog Tryz.f8.ntmps 0 (Tryz.f8.body.getD .skip) (entrySt [.val (.sl xs .no)]) (exitQ Tryz.prog Tryz.f8.results.toList [] ⟨.tup [.agg (instL (iparseX (bytesL xs))), .int .i64 (iparseE (bytesL xs))], none, none⟩)
def OkIparse0 : Prop := ∀ (xs : List AV), isBytes xs ∧ xs.length ≤ 140737488355328 → inIparse0 xs
end Go.Proofs.YtfoabkkkdcicgaaGreatDoor
/- What the verification conditions come to: printed by a program of ours (wip/lax/ex/Norm.lean). -/
namespace Go.Proofs.YtfoabkkkdcicgaaGreatDoor
set_option linter.unusedVariables false
open Go.RowKit
set_option maxRecDepth 100000
theorem vcIput0 (x : InstP) (xs : (List AV)) (p : Nat) (q : Nat) (h : let q0 := (encA (zA x.a.s x.a.d0 x.a.d1 x.a.d2 x.a.d3 x.a.d4 x.a.d5 x.a.d6 x.a.s) (zA x.a.s x.a.d0 x.a.d1 x.a.d2 x.a.d3 x.a.d4 x.a.d5 x.a.d6 x.a.d0) (zA x.a.s x.a.d0 x.a.d1 x.a.d2 x.a.d3 x.a.d4 x.a.d5 x.a.d6 x.a.d1) (zA x.a.s x.a.d0 x.a.d1 x.a.d2 x.a.d3 x.a.d4 x.a.d5 x.a.d6 x.a.d2) (zA x.a.s x.a.d0 x.a.d1 x.a.d2 x.a.d3 x.a.d4 x.a.d5 x.a.d6 x.a.d3) (zA x.a.s x.a.d0 x.a.d1 x.a.d2 x.a.d3 x.a.d4 x.a.d5 x.a.d6 x.a.d4) (zA x.a.s x.a.d0 x.a.d1 x.a.d2 x.a.d3 x.a.d4 x.a.d5 x.a.d6 x.a.d5) (zA x.a.s x.a.d0 x.a.d1 x.a.d2 x.a.d3 x.a.d4 x.a.d5 x.a.d6 x.a.d6)); (tt ∧ T1 ∧ tt ∧ T1 ∧ tt ∧ T1 ∧ (((List.length xs) = (List.length xs) ∧ True) ∧ (isBytes xs) ∧ ((List.length xs) + 11) ≤ 140737488355328) ∧ ∀ v0 : (List AV), (v0 = (bytesAV (@catL UInt8 (bytesL xs) (encID x.r x.sl)))) → ∀ v2 : Nat, (v2 = (List.length (bytesAV (@catL UInt8 (bytesL xs) (encID x.r x.sl))))) → tt ∧ T1 ∧ tt ∧ T1 ∧ ((v2 = (List.length v0) ∧ True) ∧ (isBytes v0) ∧ ((List.length v0) + 10) ≤ 140737488355328) ∧ ∀ v4 : (List AV), (v4 = (bytesAV (@catL UInt8 (bytesL v0) (short (Int.toNat x.bal))))) → ∀ v6 : Nat, (v6 = (List.length (bytesAV (@catL UInt8 (bytesL v0) (short (Int.toNat x.bal)))))) → tt ∧ T1 ∧ T1 ∧ tt ∧ T1 ∧ ((v6 = (List.length v4) ∧ True) ∧ (isBytes v4) ∧ ((List.length v4) + 1) ≤ 140737488355328) ∧ ∀ v8 : (List AV), (v8 = (bytesAV (@catL UInt8 (bytesL v4) (encByte (IntKind.wrap IntKind.u8 x.st))))) → ∀ v10 : Nat, (v10 = (List.length (bytesAV (@catL UInt8 (bytesL v4) (encByte (IntKind.wrap IntKind.u8 x.st)))))) → tt ∧ T1 ∧ tt ∧ T1 ∧ (bif (x.st == 0) then (tt ∧ tt ∧ ((0 < 1 ∧ (bytesAV (@catL UInt8 (bytesL xs) (encI x))) = v8 ∧ v10 = (List.length v8)) ∧ True) ∧ tt) else (tt ∧ T1 ∧ tt ∧ T1 ∧ ((v10 = (List.length v8) ∧ True) ∧ (isBytes v8) ∧ ((List.length v8) + 10) ≤ 140737488355328) ∧ ∀ v12 : (List AV), (v12 = (bytesAV (@catL UInt8 (bytesL v8) (short (Int.toNat x.vote))))) → ∀ v14 : Nat, (v14 = (List.length (bytesAV (@catL UInt8 (bytesL v8) (short (Int.toNat x.vote)))))) → tt ∧ T1 ∧ T1 ∧ tt ∧ ((v14 = (List.length v12) ∧ True) ∧ (isBytes v12) ∧ ((List.length v12) + 1) ≤ 140737488355328) ∧ ∀ v16 : (List AV), (v16 = (bytesAV (@catL UInt8 (bytesL v12) (encTruth x.same)))) → ∀ v18 : Nat, (v18 = (List.length (bytesAV (@catL UInt8 (bytesL v12) (encTruth x.same))))) → tt ∧ T1 ∧ tt ∧ T1 ∧ ((v18 = (List.length v16) ∧ True) ∧ ((List.length x.c.foot) ≤ 900000 ∧ (List.length x.c.path) ≤ 900000) ∧ (isBytes v16) ∧ ((List.length v16) + 2000000) ≤ 140737488355328) ∧ ∀ v20 : (List AV), (v20 = (bytesAV (@catL UInt8 (bytesL v16) (encP x.c)))) → ∀ v22 : Nat, (v22 = (List.length (bytesAV (@catL UInt8 (bytesL v16) (encP x.c))))) → tt ∧ T1 ∧ tt ∧ T1 ∧ ((v22 = (List.length v20) ∧ True) ∧ (isBytes v20) ∧ ((List.length v20) + 80) ≤ 140737488355328) ∧ ∀ v24 : (List AV), (v24 = (bytesAV (@catL UInt8 (bytesL v20) q0))) → ∀ v26 : Nat, (v26 = (List.length (bytesAV (@catL UInt8 (bytesL v20) q0)))) → tt ∧ tt ∧ ((0 < 1 ∧ (bytesAV (@catL UInt8 (bytesL xs) (encI x))) = v24 ∧ v26 = (List.length v24)) ∧ True) ∧ tt)))) : inIput0 x xs p q :=
  Eq.mp (show _ = _ by kernel_rfl) h
theorem vcItake0 (xs : (List AV)) (e : Int) (h : let q0 := (itX (bytesL xs) e); let q1 := (bytesAV (itR (bytesL xs) e)); let q2 := (itE (bytesL xs) e); (tt ∧ T1 ∧ tt ∧ T1 ∧ (T1 ∧ (isBytes xs)) ∧ ∀ v0 : Int, (v0 = (idR (bytesL xs) e)) → ∀ v2 : Int, (v2 = (idS (bytesL xs) e)) → ∀ v4 : (List AV), (v4 = (bytesAV (idRest (bytesL xs) e))) → ∀ v6 : Int, (v6 = (idErr (bytesL xs) e)) → (T1 ∧ True) ∧ T1 ∧ tt ∧ tt ∧ T1 ∧ (T1 ∧ (isBytes v4)) ∧ ∀ v8 : Int, (v8 = (balV (bytesL v4) v6)) → ∀ v10 : (List AV), (v10 = (bytesAV (shRest (bytesL v4) v6 4294967295))) → ∀ v12 : Int, (v12 = (balE (bytesL v4) v6)) → T1 ∧ tt ∧ tt ∧ T1 ∧ (T1 ∧ (isBytes v10)) ∧ ∀ v14 : Int, (v14 = (inByteV (bytesL v10) v12)) → ∀ v16 : (List AV), (v16 = (bytesAV (tkRest (bytesL v10) v12 1))) → ∀ v18 : Int, (v18 = (tkErr (List.length (bytesL v10)) v12 1)) → T1 ∧ T1 ∧ tt ∧ tt ∧ T1 ∧ tt ∧ T1 ∧ (bif (decide ((3 : Int) < (IntKind.wrap IntKind.i64 v14))) then (tt ∧ T1 ∧ (T1 ∧ True) ∧ ∀ v20 : (List AV), (v20 = v16) → ∀ v22 : Int, (v22 = (inFail v18 22)) → tt ∧ T1 ∧ tt ∧ T1 ∧ (bif ((IntKind.wrap IntKind.i64 v14) != 0) then (tt ∧ T1 ∧ (T1 ∧ (isBytes v20)) ∧ ∀ v24 : Int, (v24 = (balV (bytesL v20) v22)) → ∀ v26 : (List AV), (v26 = (bytesAV (shRest (bytesL v20) v22 4294967295))) → ∀ v28 : Int, (v28 = (balE (bytesL v20) v22)) → T1 ∧ tt ∧ tt ∧ T1 ∧ (T1 ∧ (isBytes v26)) ∧ ∀ v30 : (List AV), (v30 = (bytesAV (tkRest (bytesL v26) v28 1))) → ∀ v32 : Int, (v32 = (inTruthE (bytesL v26) v28)) → T1 ∧ tt ∧ tt ∧ T1 ∧ (T1 ∧ (isBytes v30)) ∧ T1 ∧ tt ∧ tt ∧ T1 ∧ (T1 ∧ (isBytes (bytesAV (ctR (bytesL v30) v32)))) ∧ T1 ∧ tt ∧ tt ∧ tt ∧ (T1 ∧ (smallX (InstP.mk (newI v0 v2).r (newI v0 v2).sl (IntKind.wrap IntKind.i64 v14) v8 v24 (inTruthV (bytesL v26) v28) (ctC (bytesL v30) v32) (AttP.mk (atZ (bytesL (bytesAV (ctR (bytesL v30) v32))) (ctE (bytesL v30) v32) (shV (bytesL (bytesAV (ctR (bytesL v30) v32))) (ctE (bytesL v30) v32) 1073741824)) (atZ (bytesL (bytesAV (ctR (bytesL v30) v32))) (ctE (bytesL v30) v32) (atV (bytesL (bytesAV (ctR (bytesL v30) v32))) (ctE (bytesL v30) v32) 0)) (atZ (bytesL (bytesAV (ctR (bytesL v30) v32))) (ctE (bytesL v30) v32) (atV (bytesL (bytesAV (ctR (bytesL v30) v32))) (ctE (bytesL v30) v32) 1)) (atZ (bytesL (bytesAV (ctR (bytesL v30) v32))) (ctE (bytesL v30) v32) (atV (bytesL (bytesAV (ctR (bytesL v30) v32))) (ctE (bytesL v30) v32) 2)) (atZ (bytesL (bytesAV (ctR (bytesL v30) v32))) (ctE (bytesL v30) v32) (atV (bytesL (bytesAV (ctR (bytesL v30) v32))) (ctE (bytesL v30) v32) 3)) (atZ (bytesL (bytesAV (ctR (bytesL v30) v32))) (ctE (bytesL v30) v32) (atV (bytesL (bytesAV (ctR (bytesL v30) v32))) (ctE (bytesL v30) v32) 4)) (atZ (bytesL (bytesAV (ctR (bytesL v30) v32))) (ctE (bytesL v30) v32) (atV (bytesL (bytesAV (ctR (bytesL v30) v32))) (ctE (bytesL v30) v32) 5)) (atZ (bytesL (bytesAV (ctR (bytesL v30) v32))) (ctE (bytesL v30) v32) (atV (bytesL (bytesAV (ctR (bytesL v30) v32))) (ctE (bytesL v30) v32) 6)))))) ∧ T1 ∧ (bif (Bool.not (rightI (InstP.mk (newI v0 v2).r (newI v0 v2).sl (IntKind.wrap IntKind.i64 v14) v8 v24 (inTruthV (bytesL v26) v28) (ctC (bytesL v30) v32) (AttP.mk (atZ (bytesL (bytesAV (ctR (bytesL v30) v32))) (ctE (bytesL v30) v32) (shV (bytesL (bytesAV (ctR (bytesL v30) v32))) (ctE (bytesL v30) v32) 1073741824)) (atZ (bytesL (bytesAV (ctR (bytesL v30) v32))) (ctE (bytesL v30) v32) (atV (bytesL (bytesAV (ctR (bytesL v30) v32))) (ctE (bytesL v30) v32) 0)) (atZ (bytesL (bytesAV (ctR (bytesL v30) v32))) (ctE (bytesL v30) v32) (atV (bytesL (bytesAV (ctR (bytesL v30) v32))) (ctE (bytesL v30) v32) 1)) (atZ (bytesL (bytesAV (ctR (bytesL v30) v32))) (ctE (bytesL v30) v32) (atV (bytesL (bytesAV (ctR (bytesL v30) v32))) (ctE (bytesL v30) v32) 2)) (atZ (bytesL (bytesAV (ctR (bytesL v30) v32))) (ctE (bytesL v30) v32) (atV (bytesL (bytesAV (ctR (bytesL v30) v32))) (ctE (bytesL v30) v32) 3)) (atZ (bytesL (bytesAV (ctR (bytesL v30) v32))) (ctE (bytesL v30) v32) (atV (bytesL (bytesAV (ctR (bytesL v30) v32))) (ctE (bytesL v30) v32) 4)) (atZ (bytesL (bytesAV (ctR (bytesL v30) v32))) (ctE (bytesL v30) v32) (atV (bytesL (bytesAV (ctR (bytesL v30) v32))) (ctE (bytesL v30) v32) 5)) (atZ (bytesL (bytesAV (ctR (bytesL v30) v32))) (ctE (bytesL v30) v32) (atV (bytesL (bytesAV (ctR (bytesL v30) v32))) (ctE (bytesL v30) v32) 6)))))) then (tt ∧ T1 ∧ (T1 ∧ True) ∧ ∀ v34 : (List AV), (v34 = (bytesAV (atS (bytesL (bytesAV (ctR (bytesL v30) v32))) (ctE (bytesL v30) v32) 7).1)) → ∀ v36 : Int, (v36 = (inFail (atS (bytesL (bytesAV (ctR (bytesL v30) v32))) (ctE (bytesL v30) v32) 7).2 10)) → tt ∧ T1 ∧ (T1 ∧ True) ∧ ∀ v38 : (List AV), (v38 = v34) → ∀ v40 : Int, (v40 = v36) → (bif (@Decidable.decide (@Ne.{1} Int v36 (0 : Int)) (@instDecidableNot (v36 = 0) (@Int.instDecidableEq v36 (0 : Int)))) then (tt ∧ T1 ∧ tt ∧ tt ∧ tt ∧ (q1 = v38 ∧ q2 = v40 ∧ q0.r = 0 ∧ q0.sl = 0 ∧ q0.st = 0 ∧ q0.bal = 0 ∧ q0.vote = 0 ∧ q0.same = false ∧ q0.c.k = 0 ∧ q0.c.num = 0 ∧ q0.c.foot = [] ∧ q0.c.rq = 0 ∧ q0.c.path = [] ∧ q0.c.mode = 0 ∧ q0.c.n = 0 ∧ q0.c.time = 0 ∧ q0.a.s = 0 ∧ q0.a.d0 = 0 ∧ q0.a.d1 = 0 ∧ q0.a.d2 = 0 ∧ q0.a.d3 = 0 ∧ q0.a.d4 = 0 ∧ q0.a.d5 = 0 ∧ q0.a.d6 = 0 ∧ True) ∧ tt) else (tt ∧ tt ∧ tt ∧ tt ∧ tt ∧ (q1 = v38 ∧ q2 = v40 ∧ q0.r = (newI v0 v2).r ∧ q0.sl = (newI v0 v2).sl ∧ q0.st = (IntKind.wrap IntKind.i64 v14) ∧ q0.bal = v8 ∧ q0.vote = v24 ∧ q0.same = (inTruthV (bytesL v26) v28) ∧ q0.c.k = (ctC (bytesL v30) v32).k ∧ q0.c.num = (ctC (bytesL v30) v32).num ∧ q0.c.foot = (ctC (bytesL v30) v32).foot ∧ q0.c.rq = (ctC (bytesL v30) v32).rq ∧ q0.c.path = (ctC (bytesL v30) v32).path ∧ q0.c.mode = (ctC (bytesL v30) v32).mode ∧ q0.c.n = (ctC (bytesL v30) v32).n ∧ q0.c.time = (ctC (bytesL v30) v32).time ∧ q0.a.s = (atZ (bytesL (bytesAV (ctR (bytesL v30) v32))) (ctE (bytesL v30) v32) (shV (bytesL (bytesAV (ctR (bytesL v30) v32))) (ctE (bytesL v30) v32) 1073741824)) ∧ q0.a.d0 = (atZ (bytesL (bytesAV (ctR (bytesL v30) v32))) (ctE (bytesL v30) v32) (atV (bytesL (bytesAV (ctR (bytesL v30) v32))) (ctE (bytesL v30) v32) 0)) ∧ q0.a.d1 = (atZ (bytesL (bytesAV (ctR (bytesL v30) v32))) (ctE (bytesL v30) v32) (atV (bytesL (bytesAV (ctR (bytesL v30) v32))) (ctE (bytesL v30) v32) 1)) ∧ q0.a.d2 = (atZ (bytesL (bytesAV (ctR (bytesL v30) v32))) (ctE (bytesL v30) v32) (atV (bytesL (bytesAV (ctR (bytesL v30) v32))) (ctE (bytesL v30) v32) 2)) ∧ q0.a.d3 = (atZ (bytesL (bytesAV (ctR (bytesL v30) v32))) (ctE (bytesL v30) v32) (atV (bytesL (bytesAV (ctR (bytesL v30) v32))) (ctE (bytesL v30) v32) 3)) ∧ q0.a.d4 = (atZ (bytesL (bytesAV (ctR (bytesL v30) v32))) (ctE (bytesL v30) v32) (atV (bytesL (bytesAV (ctR (bytesL v30) v32))) (ctE (bytesL v30) v32) 4)) ∧ q0.a.d5 = (atZ (bytesL (bytesAV (ctR (bytesL v30) v32))) (ctE (bytesL v30) v32) (atV (bytesL (bytesAV (ctR (bytesL v30) v32))) (ctE (bytesL v30) v32) 5)) ∧ q0.a.d6 = (atZ (bytesL (bytesAV (ctR (bytesL v30) v32))) (ctE (bytesL v30) v32) (atV (bytesL (bytesAV (ctR (bytesL v30) v32))) (ctE (bytesL v30) v32) 6)) ∧ True) ∧ tt))) else (tt ∧ T1 ∧ (T1 ∧ True) ∧ ∀ v34 : (List AV), (v34 = (bytesAV (atS (bytesL (bytesAV (ctR (bytesL v30) v32))) (ctE (bytesL v30) v32) 7).1)) → ∀ v36 : Int, (v36 = (atS (bytesL (bytesAV (ctR (bytesL v30) v32))) (ctE (bytesL v30) v32) 7).2) → (bif (@Decidable.decide (@Ne.{1} Int (atS (bytesL (bytesAV (ctR (bytesL v30) v32))) (ctE (bytesL v30) v32) 7).2 (0 : Int)) (@instDecidableNot ((atS (bytesL (bytesAV (ctR (bytesL v30) v32))) (ctE (bytesL v30) v32) 7).2 = 0) (@Int.instDecidableEq (atS (bytesL (bytesAV (ctR (bytesL v30) v32))) (ctE (bytesL v30) v32) 7).2 (0 : Int)))) then (tt ∧ T1 ∧ tt ∧ tt ∧ tt ∧ (q1 = v34 ∧ q2 = v36 ∧ q0.r = 0 ∧ q0.sl = 0 ∧ q0.st = 0 ∧ q0.bal = 0 ∧ q0.vote = 0 ∧ q0.same = false ∧ q0.c.k = 0 ∧ q0.c.num = 0 ∧ q0.c.foot = [] ∧ q0.c.rq = 0 ∧ q0.c.path = [] ∧ q0.c.mode = 0 ∧ q0.c.n = 0 ∧ q0.c.time = 0 ∧ q0.a.s = 0 ∧ q0.a.d0 = 0 ∧ q0.a.d1 = 0 ∧ q0.a.d2 = 0 ∧ q0.a.d3 = 0 ∧ q0.a.d4 = 0 ∧ q0.a.d5 = 0 ∧ q0.a.d6 = 0 ∧ True) ∧ tt) else (tt ∧ tt ∧ tt ∧ tt ∧ tt ∧ (q1 = v34 ∧ q2 = v36 ∧ q0.r = (newI v0 v2).r ∧ q0.sl = (newI v0 v2).sl ∧ q0.st = (IntKind.wrap IntKind.i64 v14) ∧ q0.bal = v8 ∧ q0.vote = v24 ∧ q0.same = (inTruthV (bytesL v26) v28) ∧ q0.c.k = (ctC (bytesL v30) v32).k ∧ q0.c.num = (ctC (bytesL v30) v32).num ∧ q0.c.foot = (ctC (bytesL v30) v32).foot ∧ q0.c.rq = (ctC (bytesL v30) v32).rq ∧ q0.c.path = (ctC (bytesL v30) v32).path ∧ q0.c.mode = (ctC (bytesL v30) v32).mode ∧ q0.c.n = (ctC (bytesL v30) v32).n ∧ q0.c.time = (ctC (bytesL v30) v32).time ∧ q0.a.s = (atZ (bytesL (bytesAV (ctR (bytesL v30) v32))) (ctE (bytesL v30) v32) (shV (bytesL (bytesAV (ctR (bytesL v30) v32))) (ctE (bytesL v30) v32) 1073741824)) ∧ q0.a.d0 = (atZ (bytesL (bytesAV (ctR (bytesL v30) v32))) (ctE (bytesL v30) v32) (atV (bytesL (bytesAV (ctR (bytesL v30) v32))) (ctE (bytesL v30) v32) 0)) ∧ q0.a.d1 = (atZ (bytesL (bytesAV (ctR (bytesL v30) v32))) (ctE (bytesL v30) v32) (atV (bytesL (bytesAV (ctR (bytesL v30) v32))) (ctE (bytesL v30) v32) 1)) ∧ q0.a.d2 = (atZ (bytesL (bytesAV (ctR (bytesL v30) v32))) (ctE (bytesL v30) v32) (atV (bytesL (bytesAV (ctR (bytesL v30) v32))) (ctE (bytesL v30) v32) 2)) ∧ q0.a.d3 = (atZ (bytesL (bytesAV (ctR (bytesL v30) v32))) (ctE (bytesL v30) v32) (atV (bytesL (bytesAV (ctR (bytesL v30) v32))) (ctE (bytesL v30) v32) 3)) ∧ q0.a.d4 = (atZ (bytesL (bytesAV (ctR (bytesL v30) v32))) (ctE (bytesL v30) v32) (atV (bytesL (bytesAV (ctR (bytesL v30) v32))) (ctE (bytesL v30) v32) 4)) ∧ q0.a.d5 = (atZ (bytesL (bytesAV (ctR (bytesL v30) v32))) (ctE (bytesL v30) v32) (atV (bytesL (bytesAV (ctR (bytesL v30) v32))) (ctE (bytesL v30) v32) 5)) ∧ q0.a.d6 = (atZ (bytesL (bytesAV (ctR (bytesL v30) v32))) (ctE (bytesL v30) v32) (atV (bytesL (bytesAV (ctR (bytesL v30) v32))) (ctE (bytesL v30) v32) 6)) ∧ True) ∧ tt))))) else (tt ∧ tt ∧ (T1 ∧ (smallX (InstP.mk (newI v0 v2).r (newI v0 v2).sl (IntKind.wrap IntKind.i64 v14) v8 (newI v0 v2).vote (newI v0 v2).same (newI v0 v2).c (newI v0 v2).a))) ∧ T1 ∧ (bif (Bool.not (rightI (InstP.mk (newI v0 v2).r (newI v0 v2).sl (IntKind.wrap IntKind.i64 v14) v8 (newI v0 v2).vote (newI v0 v2).same (newI v0 v2).c (newI v0 v2).a))) then (tt ∧ T1 ∧ (T1 ∧ True) ∧ ∀ v24 : (List AV), (v24 = v20) → ∀ v26 : Int, (v26 = (inFail v22 10)) → tt ∧ T1 ∧ (T1 ∧ True) ∧ ∀ v28 : (List AV), (v28 = v24) → ∀ v30 : Int, (v30 = v26) → (bif (@Decidable.decide (@Ne.{1} Int v26 (0 : Int)) (@instDecidableNot (v26 = 0) (@Int.instDecidableEq v26 (0 : Int)))) then (tt ∧ T1 ∧ tt ∧ tt ∧ tt ∧ (q1 = v28 ∧ q2 = v30 ∧ q0.r = 0 ∧ q0.sl = 0 ∧ q0.st = 0 ∧ q0.bal = 0 ∧ q0.vote = 0 ∧ q0.same = false ∧ q0.c.k = 0 ∧ q0.c.num = 0 ∧ q0.c.foot = [] ∧ q0.c.rq = 0 ∧ q0.c.path = [] ∧ q0.c.mode = 0 ∧ q0.c.n = 0 ∧ q0.c.time = 0 ∧ q0.a.s = 0 ∧ q0.a.d0 = 0 ∧ q0.a.d1 = 0 ∧ q0.a.d2 = 0 ∧ q0.a.d3 = 0 ∧ q0.a.d4 = 0 ∧ q0.a.d5 = 0 ∧ q0.a.d6 = 0 ∧ True) ∧ tt) else (tt ∧ tt ∧ tt ∧ tt ∧ tt ∧ (q1 = v28 ∧ q2 = v30 ∧ q0.r = (newI v0 v2).r ∧ q0.sl = (newI v0 v2).sl ∧ q0.st = (IntKind.wrap IntKind.i64 v14) ∧ q0.bal = v8 ∧ q0.vote = (newI v0 v2).vote ∧ q0.same = (newI v0 v2).same ∧ q0.c.k = (newI v0 v2).c.k ∧ q0.c.num = (newI v0 v2).c.num ∧ q0.c.foot = (newI v0 v2).c.foot ∧ q0.c.rq = (newI v0 v2).c.rq ∧ q0.c.path = (newI v0 v2).c.path ∧ q0.c.mode = (newI v0 v2).c.mode ∧ q0.c.n = (newI v0 v2).c.n ∧ q0.c.time = (newI v0 v2).c.time ∧ q0.a.s = (newI v0 v2).a.s ∧ q0.a.d0 = (newI v0 v2).a.d0 ∧ q0.a.d1 = (newI v0 v2).a.d1 ∧ q0.a.d2 = (newI v0 v2).a.d2 ∧ q0.a.d3 = (newI v0 v2).a.d3 ∧ q0.a.d4 = (newI v0 v2).a.d4 ∧ q0.a.d5 = (newI v0 v2).a.d5 ∧ q0.a.d6 = (newI v0 v2).a.d6 ∧ True) ∧ tt))) else (tt ∧ T1 ∧ (T1 ∧ True) ∧ ∀ v24 : (List AV), (v24 = v20) → ∀ v26 : Int, (v26 = v22) → (bif (@Decidable.decide (@Ne.{1} Int v22 (0 : Int)) (@instDecidableNot (v22 = 0) (@Int.instDecidableEq v22 (0 : Int)))) then (tt ∧ T1 ∧ tt ∧ tt ∧ tt ∧ (q1 = v24 ∧ q2 = v26 ∧ q0.r = 0 ∧ q0.sl = 0 ∧ q0.st = 0 ∧ q0.bal = 0 ∧ q0.vote = 0 ∧ q0.same = false ∧ q0.c.k = 0 ∧ q0.c.num = 0 ∧ q0.c.foot = [] ∧ q0.c.rq = 0 ∧ q0.c.path = [] ∧ q0.c.mode = 0 ∧ q0.c.n = 0 ∧ q0.c.time = 0 ∧ q0.a.s = 0 ∧ q0.a.d0 = 0 ∧ q0.a.d1 = 0 ∧ q0.a.d2 = 0 ∧ q0.a.d3 = 0 ∧ q0.a.d4 = 0 ∧ q0.a.d5 = 0 ∧ q0.a.d6 = 0 ∧ True) ∧ tt) else (tt ∧ tt ∧ tt ∧ tt ∧ tt ∧ (q1 = v24 ∧ q2 = v26 ∧ q0.r = (newI v0 v2).r ∧ q0.sl = (newI v0 v2).sl ∧ q0.st = (IntKind.wrap IntKind.i64 v14) ∧ q0.bal = v8 ∧ q0.vote = (newI v0 v2).vote ∧ q0.same = (newI v0 v2).same ∧ q0.c.k = (newI v0 v2).c.k ∧ q0.c.num = (newI v0 v2).c.num ∧ q0.c.foot = (newI v0 v2).c.foot ∧ q0.c.rq = (newI v0 v2).c.rq ∧ q0.c.path = (newI v0 v2).c.path ∧ q0.c.mode = (newI v0 v2).c.mode ∧ q0.c.n = (newI v0 v2).c.n ∧ q0.c.time = (newI v0 v2).c.time ∧ q0.a.s = (newI v0 v2).a.s ∧ q0.a.d0 = (newI v0 v2).a.d0 ∧ q0.a.d1 = (newI v0 v2).a.d1 ∧ q0.a.d2 = (newI v0 v2).a.d2 ∧ q0.a.d3 = (newI v0 v2).a.d3 ∧ q0.a.d4 = (newI v0 v2).a.d4 ∧ q0.a.d5 = (newI v0 v2).a.d5 ∧ q0.a.d6 = (newI v0 v2).a.d6 ∧ True) ∧ tt))))))) else (tt ∧ T1 ∧ tt ∧ T1 ∧ (bif ((IntKind.wrap IntKind.i64 v14) != 0) then (tt ∧ T1 ∧ (T1 ∧ (isBytes v16)) ∧ ∀ v20 : Int, (v20 = (balV (bytesL v16) v18)) → ∀ v22 : (List AV), (v22 = (bytesAV (shRest (bytesL v16) v18 4294967295))) → ∀ v24 : Int, (v24 = (balE (bytesL v16) v18)) → T1 ∧ tt ∧ tt ∧ T1 ∧ (T1 ∧ (isBytes v22)) ∧ ∀ v26 : (List AV), (v26 = (bytesAV (tkRest (bytesL v22) v24 1))) → ∀ v28 : Int, (v28 = (inTruthE (bytesL v22) v24)) → T1 ∧ tt ∧ tt ∧ T1 ∧ (T1 ∧ (isBytes v26)) ∧ T1 ∧ tt ∧ tt ∧ T1 ∧ (T1 ∧ (isBytes (bytesAV (ctR (bytesL v26) v28)))) ∧ T1 ∧ tt ∧ tt ∧ tt ∧ (T1 ∧ (smallX (InstP.mk (newI v0 v2).r (newI v0 v2).sl (IntKind.wrap IntKind.i64 v14) v8 v20 (inTruthV (bytesL v22) v24) (ctC (bytesL v26) v28) (AttP.mk (atZ (bytesL (bytesAV (ctR (bytesL v26) v28))) (ctE (bytesL v26) v28) (shV (bytesL (bytesAV (ctR (bytesL v26) v28))) (ctE (bytesL v26) v28) 1073741824)) (atZ (bytesL (bytesAV (ctR (bytesL v26) v28))) (ctE (bytesL v26) v28) (atV (bytesL (bytesAV (ctR (bytesL v26) v28))) (ctE (bytesL v26) v28) 0)) (atZ (bytesL (bytesAV (ctR (bytesL v26) v28))) (ctE (bytesL v26) v28) (atV (bytesL (bytesAV (ctR (bytesL v26) v28))) (ctE (bytesL v26) v28) 1)) (atZ (bytesL (bytesAV (ctR (bytesL v26) v28))) (ctE (bytesL v26) v28) (atV (bytesL (bytesAV (ctR (bytesL v26) v28))) (ctE (bytesL v26) v28) 2)) (atZ (bytesL (bytesAV (ctR (bytesL v26) v28))) (ctE (bytesL v26) v28) (atV (bytesL (bytesAV (ctR (bytesL v26) v28))) (ctE (bytesL v26) v28) 3)) (atZ (bytesL (bytesAV (ctR (bytesL v26) v28))) (ctE (bytesL v26) v28) (atV (bytesL (bytesAV (ctR (bytesL v26) v28))) (ctE (bytesL v26) v28) 4)) (atZ (bytesL (bytesAV (ctR (bytesL v26) v28))) (ctE (bytesL v26) v28) (atV (bytesL (bytesAV (ctR (bytesL v26) v28))) (ctE (bytesL v26) v28) 5)) (atZ (bytesL (bytesAV (ctR (bytesL v26) v28))) (ctE (bytesL v26) v28) (atV (bytesL (bytesAV (ctR (bytesL v26) v28))) (ctE (bytesL v26) v28) 6)))))) ∧ T1 ∧ (bif (Bool.not (rightI (InstP.mk (newI v0 v2).r (newI v0 v2).sl (IntKind.wrap IntKind.i64 v14) v8 v20 (inTruthV (bytesL v22) v24) (ctC (bytesL v26) v28) (AttP.mk (atZ (bytesL (bytesAV (ctR (bytesL v26) v28))) (ctE (bytesL v26) v28) (shV (bytesL (bytesAV (ctR (bytesL v26) v28))) (ctE (bytesL v26) v28) 1073741824)) (atZ (bytesL (bytesAV (ctR (bytesL v26) v28))) (ctE (bytesL v26) v28) (atV (bytesL (bytesAV (ctR (bytesL v26) v28))) (ctE (bytesL v26) v28) 0)) (atZ (bytesL (bytesAV (ctR (bytesL v26) v28))) (ctE (bytesL v26) v28) (atV (bytesL (bytesAV (ctR (bytesL v26) v28))) (ctE (bytesL v26) v28) 1)) (atZ (bytesL (bytesAV (ctR (bytesL v26) v28))) (ctE (bytesL v26) v28) (atV (bytesL (bytesAV (ctR (bytesL v26) v28))) (ctE (bytesL v26) v28) 2)) (atZ (bytesL (bytesAV (ctR (bytesL v26) v28))) (ctE (bytesL v26) v28) (atV (bytesL (bytesAV (ctR (bytesL v26) v28))) (ctE (bytesL v26) v28) 3)) (atZ (bytesL (bytesAV (ctR (bytesL v26) v28))) (ctE (bytesL v26) v28) (atV (bytesL (bytesAV (ctR (bytesL v26) v28))) (ctE (bytesL v26) v28) 4)) (atZ (bytesL (bytesAV (ctR (bytesL v26) v28))) (ctE (bytesL v26) v28) (atV (bytesL (bytesAV (ctR (bytesL v26) v28))) (ctE (bytesL v26) v28) 5)) (atZ (bytesL (bytesAV (ctR (bytesL v26) v28))) (ctE (bytesL v26) v28) (atV (bytesL (bytesAV (ctR (bytesL v26) v28))) (ctE (bytesL v26) v28) 6)))))) then (tt ∧ T1 ∧ (T1 ∧ True) ∧ ∀ v30 : (List AV), (v30 = (bytesAV (atS (bytesL (bytesAV (ctR (bytesL v26) v28))) (ctE (bytesL v26) v28) 7).1)) → ∀ v32 : Int, (v32 = (inFail (atS (bytesL (bytesAV (ctR (bytesL v26) v28))) (ctE (bytesL v26) v28) 7).2 10)) → tt ∧ T1 ∧ (T1 ∧ True) ∧ ∀ v34 : (List AV), (v34 = v30) → ∀ v36 : Int, (v36 = v32) → (bif (@Decidable.decide (@Ne.{1} Int v32 (0 : Int)) (@instDecidableNot (v32 = 0) (@Int.instDecidableEq v32 (0 : Int)))) then (tt ∧ T1 ∧ tt ∧ tt ∧ tt ∧ (q1 = v34 ∧ q2 = v36 ∧ q0.r = 0 ∧ q0.sl = 0 ∧ q0.st = 0 ∧ q0.bal = 0 ∧ q0.vote = 0 ∧ q0.same = false ∧ q0.c.k = 0 ∧ q0.c.num = 0 ∧ q0.c.foot = [] ∧ q0.c.rq = 0 ∧ q0.c.path = [] ∧ q0.c.mode = 0 ∧ q0.c.n = 0 ∧ q0.c.time = 0 ∧ q0.a.s = 0 ∧ q0.a.d0 = 0 ∧ q0.a.d1 = 0 ∧ q0.a.d2 = 0 ∧ q0.a.d3 = 0 ∧ q0.a.d4 = 0 ∧ q0.a.d5 = 0 ∧ q0.a.d6 = 0 ∧ True) ∧ tt) else (tt ∧ tt ∧ tt ∧ tt ∧ tt ∧ (q1 = v34 ∧ q2 = v36 ∧ q0.r = (newI v0 v2).r ∧ q0.sl = (newI v0 v2).sl ∧ q0.st = (IntKind.wrap IntKind.i64 v14) ∧ q0.bal = v8 ∧ q0.vote = v20 ∧ q0.same = (inTruthV (bytesL v22) v24) ∧ q0.c.k = (ctC (bytesL v26) v28).k ∧ q0.c.num = (ctC (bytesL v26) v28).num ∧ q0.c.foot = (ctC (bytesL v26) v28).foot ∧ q0.c.rq = (ctC (bytesL v26) v28).rq ∧ q0.c.path = (ctC (bytesL v26) v28).path ∧ q0.c.mode = (ctC (bytesL v26) v28).mode ∧ q0.c.n = (ctC (bytesL v26) v28).n ∧ q0.c.time = (ctC (bytesL v26) v28).time ∧ q0.a.s = (atZ (bytesL (bytesAV (ctR (bytesL v26) v28))) (ctE (bytesL v26) v28) (shV (bytesL (bytesAV (ctR (bytesL v26) v28))) (ctE (bytesL v26) v28) 1073741824)) ∧ q0.a.d0 = (atZ (bytesL (bytesAV (ctR (bytesL v26) v28))) (ctE (bytesL v26) v28) (atV (bytesL (bytesAV (ctR (bytesL v26) v28))) (ctE (bytesL v26) v28) 0)) ∧ q0.a.d1 = (atZ (bytesL (bytesAV (ctR (bytesL v26) v28))) (ctE (bytesL v26) v28) (atV (bytesL (bytesAV (ctR (bytesL v26) v28))) (ctE (bytesL v26) v28) 1)) ∧ q0.a.d2 = (atZ (bytesL (bytesAV (ctR (bytesL v26) v28))) (ctE (bytesL v26) v28) (atV (bytesL (bytesAV (ctR (bytesL v26) v28))) (ctE (bytesL v26) v28) 2)) ∧ q0.a.d3 = (atZ (bytesL (bytesAV (ctR (bytesL v26) v28))) (ctE (bytesL v26) v28) (atV (bytesL (bytesAV (ctR (bytesL v26) v28))) (ctE (bytesL v26) v28) 3)) ∧ q0.a.d4 = (atZ (bytesL (bytesAV (ctR (bytesL v26) v28))) (ctE (bytesL v26) v28) (atV (bytesL (bytesAV (ctR (bytesL v26) v28))) (ctE (bytesL v26) v28) 4)) ∧ q0.a.d5 = (atZ (bytesL (bytesAV (ctR (bytesL v26) v28))) (ctE (bytesL v26) v28) (atV (bytesL (bytesAV (ctR (bytesL v26) v28))) (ctE (bytesL v26) v28) 5)) ∧ q0.a.d6 = (atZ (bytesL (bytesAV (ctR (bytesL v26) v28))) (ctE (bytesL v26) v28) (atV (bytesL (bytesAV (ctR (bytesL v26) v28))) (ctE (bytesL v26) v28) 6)) ∧ True) ∧ tt))) else (tt ∧ T1 ∧ (T1 ∧ True) ∧ ∀ v30 : (List AV), (v30 = (bytesAV (atS (bytesL (bytesAV (ctR (bytesL v26) v28))) (ctE (bytesL v26) v28) 7).1)) → ∀ v32 : Int, (v32 = (atS (bytesL (bytesAV (ctR (bytesL v26) v28))) (ctE (bytesL v26) v28) 7).2) → (bif (@Decidable.decide (@Ne.{1} Int (atS (bytesL (bytesAV (ctR (bytesL v26) v28))) (ctE (bytesL v26) v28) 7).2 (0 : Int)) (@instDecidableNot ((atS (bytesL (bytesAV (ctR (bytesL v26) v28))) (ctE (bytesL v26) v28) 7).2 = 0) (@Int.instDecidableEq (atS (bytesL (bytesAV (ctR (bytesL v26) v28))) (ctE (bytesL v26) v28) 7).2 (0 : Int)))) then (tt ∧ T1 ∧ tt ∧ tt ∧ tt ∧ (q1 = v30 ∧ q2 = v32 ∧ q0.r = 0 ∧ q0.sl = 0 ∧ q0.st = 0 ∧ q0.bal = 0 ∧ q0.vote = 0 ∧ q0.same = false ∧ q0.c.k = 0 ∧ q0.c.num = 0 ∧ q0.c.foot = [] ∧ q0.c.rq = 0 ∧ q0.c.path = [] ∧ q0.c.mode = 0 ∧ q0.c.n = 0 ∧ q0.c.time = 0 ∧ q0.a.s = 0 ∧ q0.a.d0 = 0 ∧ q0.a.d1 = 0 ∧ q0.a.d2 = 0 ∧ q0.a.d3 = 0 ∧ q0.a.d4 = 0 ∧ q0.a.d5 = 0 ∧ q0.a.d6 = 0 ∧ True) ∧ tt) else (tt ∧ tt ∧ tt ∧ tt ∧ tt ∧ (q1 = v30 ∧ q2 = v32 ∧ q0.r = (newI v0 v2).r ∧ q0.sl = (newI v0 v2).sl ∧ q0.st = (IntKind.wrap IntKind.i64 v14) ∧ q0.bal = v8 ∧ q0.vote = v20 ∧ q0.same = (inTruthV (bytesL v22) v24) ∧ q0.c.k = (ctC (bytesL v26) v28).k ∧ q0.c.num = (ctC (bytesL v26) v28).num ∧ q0.c.foot = (ctC (bytesL v26) v28).foot ∧ q0.c.rq = (ctC (bytesL v26) v28).rq ∧ q0.c.path = (ctC (bytesL v26) v28).path ∧ q0.c.mode = (ctC (bytesL v26) v28).mode ∧ q0.c.n = (ctC (bytesL v26) v28).n ∧ q0.c.time = (ctC (bytesL v26) v28).time ∧ q0.a.s = (atZ (bytesL (bytesAV (ctR (bytesL v26) v28))) (ctE (bytesL v26) v28) (shV (bytesL (bytesAV (ctR (bytesL v26) v28))) (ctE (bytesL v26) v28) 1073741824)) ∧ q0.a.d0 = (atZ (bytesL (bytesAV (ctR (bytesL v26) v28))) (ctE (bytesL v26) v28) (atV (bytesL (bytesAV (ctR (bytesL v26) v28))) (ctE (bytesL v26) v28) 0)) ∧ q0.a.d1 = (atZ (bytesL (bytesAV (ctR (bytesL v26) v28))) (ctE (bytesL v26) v28) (atV (bytesL (bytesAV (ctR (bytesL v26) v28))) (ctE (bytesL v26) v28) 1)) ∧ q0.a.d2 = (atZ (bytesL (bytesAV (ctR (bytesL v26) v28))) (ctE (bytesL v26) v28) (atV (bytesL (bytesAV (ctR (bytesL v26) v28))) (ctE (bytesL v26) v28) 2)) ∧ q0.a.d3 = (atZ (bytesL (bytesAV (ctR (bytesL v26) v28))) (ctE (bytesL v26) v28) (atV (bytesL (bytesAV (ctR (bytesL v26) v28))) (ctE (bytesL v26) v28) 3)) ∧ q0.a.d4 = (atZ (bytesL (bytesAV (ctR (bytesL v26) v28))) (ctE (bytesL v26) v28) (atV (bytesL (bytesAV (ctR (bytesL v26) v28))) (ctE (bytesL v26) v28) 4)) ∧ q0.a.d5 = (atZ (bytesL (bytesAV (ctR (bytesL v26) v28))) (ctE (bytesL v26) v28) (atV (bytesL (bytesAV (ctR (bytesL v26) v28))) (ctE (bytesL v26) v28) 5)) ∧ q0.a.d6 = (atZ (bytesL (bytesAV (ctR (bytesL v26) v28))) (ctE (bytesL v26) v28) (atV (bytesL (bytesAV (ctR (bytesL v26) v28))) (ctE (bytesL v26) v28) 6)) ∧ True) ∧ tt))))) else (tt ∧ tt ∧ (T1 ∧ (smallX (InstP.mk (newI v0 v2).r (newI v0 v2).sl (IntKind.wrap IntKind.i64 v14) v8 (newI v0 v2).vote (newI v0 v2).same (newI v0 v2).c (newI v0 v2).a))) ∧ T1 ∧ (bif (Bool.not (rightI (InstP.mk (newI v0 v2).r (newI v0 v2).sl (IntKind.wrap IntKind.i64 v14) v8 (newI v0 v2).vote (newI v0 v2).same (newI v0 v2).c (newI v0 v2).a))) then (tt ∧ T1 ∧ (T1 ∧ True) ∧ ∀ v20 : (List AV), (v20 = v16) → ∀ v22 : Int, (v22 = (inFail v18 10)) → tt ∧ T1 ∧ (T1 ∧ True) ∧ ∀ v24 : (List AV), (v24 = v20) → ∀ v26 : Int, (v26 = v22) → (bif (@Decidable.decide (@Ne.{1} Int v22 (0 : Int)) (@instDecidableNot (v22 = 0) (@Int.instDecidableEq v22 (0 : Int)))) then (tt ∧ T1 ∧ tt ∧ tt ∧ tt ∧ (q1 = v24 ∧ q2 = v26 ∧ q0.r = 0 ∧ q0.sl = 0 ∧ q0.st = 0 ∧ q0.bal = 0 ∧ q0.vote = 0 ∧ q0.same = false ∧ q0.c.k = 0 ∧ q0.c.num = 0 ∧ q0.c.foot = [] ∧ q0.c.rq = 0 ∧ q0.c.path = [] ∧ q0.c.mode = 0 ∧ q0.c.n = 0 ∧ q0.c.time = 0 ∧ q0.a.s = 0 ∧ q0.a.d0 = 0 ∧ q0.a.d1 = 0 ∧ q0.a.d2 = 0 ∧ q0.a.d3 = 0 ∧ q0.a.d4 = 0 ∧ q0.a.d5 = 0 ∧ q0.a.d6 = 0 ∧ True) ∧ tt) else (tt ∧ tt ∧ tt ∧ tt ∧ tt ∧ (q1 = v24 ∧ q2 = v26 ∧ q0.r = (newI v0 v2).r ∧ q0.sl = (newI v0 v2).sl ∧ q0.st = (IntKind.wrap IntKind.i64 v14) ∧ q0.bal = v8 ∧ q0.vote = (newI v0 v2).vote ∧ q0.same = (newI v0 v2).same ∧ q0.c.k = (newI v0 v2).c.k ∧ q0.c.num = (newI v0 v2).c.num ∧ q0.c.foot = (newI v0 v2).c.foot ∧ q0.c.rq = (newI v0 v2).c.rq ∧ q0.c.path = (newI v0 v2).c.path ∧ q0.c.mode = (newI v0 v2).c.mode ∧ q0.c.n = (newI v0 v2).c.n ∧ q0.c.time = (newI v0 v2).c.time ∧ q0.a.s = (newI v0 v2).a.s ∧ q0.a.d0 = (newI v0 v2).a.d0 ∧ q0.a.d1 = (newI v0 v2).a.d1 ∧ q0.a.d2 = (newI v0 v2).a.d2 ∧ q0.a.d3 = (newI v0 v2).a.d3 ∧ q0.a.d4 = (newI v0 v2).a.d4 ∧ q0.a.d5 = (newI v0 v2).a.d5 ∧ q0.a.d6 = (newI v0 v2).a.d6 ∧ True) ∧ tt))) else (tt ∧ T1 ∧ (T1 ∧ True) ∧ ∀ v20 : (List AV), (v20 = v16) → ∀ v22 : Int, (v22 = v18) → (bif (@Decidable.decide (@Ne.{1} Int v18 (0 : Int)) (@instDecidableNot (v18 = 0) (@Int.instDecidableEq v18 (0 : Int)))) then (tt ∧ T1 ∧ tt ∧ tt ∧ tt ∧ (q1 = v20 ∧ q2 = v22 ∧ q0.r = 0 ∧ q0.sl = 0 ∧ q0.st = 0 ∧ q0.bal = 0 ∧ q0.vote = 0 ∧ q0.same = false ∧ q0.c.k = 0 ∧ q0.c.num = 0 ∧ q0.c.foot = [] ∧ q0.c.rq = 0 ∧ q0.c.path = [] ∧ q0.c.mode = 0 ∧ q0.c.n = 0 ∧ q0.c.time = 0 ∧ q0.a.s = 0 ∧ q0.a.d0 = 0 ∧ q0.a.d1 = 0 ∧ q0.a.d2 = 0 ∧ q0.a.d3 = 0 ∧ q0.a.d4 = 0 ∧ q0.a.d5 = 0 ∧ q0.a.d6 = 0 ∧ True) ∧ tt) else (tt ∧ tt ∧ tt ∧ tt ∧ tt ∧ (q1 = v20 ∧ q2 = v22 ∧ q0.r = (newI v0 v2).r ∧ q0.sl = (newI v0 v2).sl ∧ q0.st = (IntKind.wrap IntKind.i64 v14) ∧ q0.bal = v8 ∧ q0.vote = (newI v0 v2).vote ∧ q0.same = (newI v0 v2).same ∧ q0.c.k = (newI v0 v2).c.k ∧ q0.c.num = (newI v0 v2).c.num ∧ q0.c.foot = (newI v0 v2).c.foot ∧ q0.c.rq = (newI v0 v2).c.rq ∧ q0.c.path = (newI v0 v2).c.path ∧ q0.c.mode = (newI v0 v2).c.mode ∧ q0.c.n = (newI v0 v2).c.n ∧ q0.c.time = (newI v0 v2).c.time ∧ q0.a.s = (newI v0 v2).a.s ∧ q0.a.d0 = (newI v0 v2).a.d0 ∧ q0.a.d1 = (newI v0 v2).a.d1 ∧ q0.a.d2 = (newI v0 v2).a.d2 ∧ q0.a.d3 = (newI v0 v2).a.d3 ∧ q0.a.d4 = (newI v0 v2).a.d4 ∧ q0.a.d5 = (newI v0 v2).a.d5 ∧ q0.a.d6 = (newI v0 v2).a.d6 ∧ True) ∧ tt)))))))))) : inItake0 xs e :=
  Eq.mp (show _ = _ by kernel_rfl) h
theorem vcIbytes0 (x : InstP) (h : (tt ∧ T1 ∧ T1 ∧ tt ∧ T1 ∧ T1 ∧ T1 ∧ tt ∧ tt ∧ T1 ∧ ((@Eq.{1} Nat 0 0 ∧ True) ∧ (smallX x) ∧ ((@Ne.{1} Int x.st (0 : Int)) → (attGood x)) ∧ (isBytes []) ∧ 3000000 ≤ 140737488355328) ∧ ∀ v0 : (List AV), (v0 = (bytesAV (@catL UInt8 (@List.nil.{0} UInt8) (encI x)))) → ∀ v2 : Nat, (v2 = (List.length (bytesAV (@catL UInt8 (@List.nil.{0} UInt8) (encI x))))) → tt ∧ T1 ∧ ((v2 = (List.length v0) ∧ True) ∧ (isBytes v0) ∧ (List.length v0) ≤ 140737488355328) ∧ ∀ v4 : (List AV), (v4 = v0) → ∀ v6 : (List AV), (v6 = v0) → ∀ v8 : Nat, (v8 = (List.length v0)) → T1 ∧ tt ∧ tt ∧ ((bytesAV (encI x)) = v4 ∧ True) ∧ tt)) : inIbytes0 x :=
  Eq.mp (show _ = _ by kernel_rfl) h
theorem vcIparse0 (xs : (List AV)) (h : let q0 := (iparseX (bytesL xs)); (tt ∧ T1 ∧ T1 ∧ tt ∧ T1 ∧ (T1 ∧ (isBytes xs) ∧ (List.length xs) ≤ 140737488355328) ∧ ∀ v0 : (List AV), (v0 = xs) → ∀ v2 : Int, (v2 = 0) → T1 ∧ tt ∧ T1 ∧ (T1 ∧ (isBytes v0)) ∧ T1 ∧ tt ∧ tt ∧ T1 ∧ (T1 ∧ (isBytes (bytesAV (itR (bytesL v0) v2)))) ∧ ∀ v4 : Int, (v4 = (inEnd (bytesL (bytesAV (itR (bytesL v0) v2))) (itE (bytesL v0) v2))) → ∀ v6 : (List AV), (v6 = (bytesAV (itR (bytesL v0) v2))) → ∀ v8 : Int, (v8 = (itE (bytesL v0) v2)) → T1 ∧ tt ∧ T1 ∧ T1 ∧ (bif (v4 != 0) then (tt ∧ T1 ∧ T1 ∧ tt ∧ T1 ∧ tt ∧ tt ∧ (q0.r = 0 ∧ q0.sl = 0 ∧ q0.st = 0 ∧ q0.bal = 0 ∧ q0.vote = 0 ∧ q0.same = false ∧ q0.c.k = 0 ∧ q0.c.num = 0 ∧ q0.c.foot = [] ∧ q0.c.rq = 0 ∧ q0.c.path = [] ∧ q0.c.mode = 0 ∧ q0.c.n = 0 ∧ q0.c.time = 0 ∧ q0.a.s = 0 ∧ q0.a.d0 = 0 ∧ q0.a.d1 = 0 ∧ q0.a.d2 = 0 ∧ q0.a.d3 = 0 ∧ q0.a.d4 = 0 ∧ q0.a.d5 = 0 ∧ q0.a.d6 = 0 ∧ (iparseE (bytesL xs)) = v4 ∧ True) ∧ tt) else (tt ∧ tt ∧ tt ∧ T1 ∧ tt ∧ tt ∧ (q0.r = (itX (bytesL v0) v2).r ∧ q0.sl = (itX (bytesL v0) v2).sl ∧ q0.st = (itX (bytesL v0) v2).st ∧ q0.bal = (itX (bytesL v0) v2).bal ∧ q0.vote = (itX (bytesL v0) v2).vote ∧ q0.same = (itX (bytesL v0) v2).same ∧ q0.c.k = (itX (bytesL v0) v2).c.k ∧ q0.c.num = (itX (bytesL v0) v2).c.num ∧ q0.c.foot = (itX (bytesL v0) v2).c.foot ∧ q0.c.rq = (itX (bytesL v0) v2).c.rq ∧ q0.c.path = (itX (bytesL v0) v2).c.path ∧ q0.c.mode = (itX (bytesL v0) v2).c.mode ∧ q0.c.n = (itX (bytesL v0) v2).c.n ∧ q0.c.time = (itX (bytesL v0) v2).c.time ∧ q0.a.s = (itX (bytesL v0) v2).a.s ∧ q0.a.d0 = (itX (bytesL v0) v2).a.d0 ∧ q0.a.d1 = (itX (bytesL v0) v2).a.d1 ∧ q0.a.d2 = (itX (bytesL v0) v2).a.d2 ∧ q0.a.d3 = (itX (bytesL v0) v2).a.d3 ∧ q0.a.d4 = (itX (bytesL v0) v2).a.d4 ∧ q0.a.d5 = (itX (bytesL v0) v2).a.d5 ∧ q0.a.d6 = (itX (bytesL v0) v2).a.d6 ∧ (iparseE (bytesL xs)) = 0 ∧ True) ∧ tt)))) : inIparse0 xs :=
  Eq.mp (show _ = _ by kernel_rfl) h
end Go.Proofs.YtfoabkkkdcicgaaGreatDoor
/- The conditions hold: states in bytes. -/
namespace Go.Proofs.YtfoabkkkdcicgaaGreatDoor
set_option linter.unusedVariables false
set_option linter.unusedSimpArgs false
open Go.RowKit
set_option maxRecDepth 100000

theorem encID_len (r s : Int) : (encID r s).length ≤ 11 := by
  have h : 0 ≤ IntKind.u64.wrap s ∧ IntKind.u64.wrap s ≤ 18446744073709551615 := by rw [IntKind.wrap_u64]; omega
  have := short_le10 h.1 h.2
  unfold encID
  rw [catL_length]
  have : (encByte (IntKind.u8.wrap r)).length = 1 := rfl
  omega
theorem encTruth_len (b : Bool) : (encTruth b).length = 1 := rfl
theorem encA_length {s d0 d1 d2 d3 d4 d5 d6 : Int} (h : rightA s d0 d1 d2 d3 d4 d5 d6 = true) : (encA s d0 d1 d2 d3 d4 d5 d6).length ≤ 80 := by
  simp only [rightA, inLen, Bool.and_eq_true, decide_eq_true_eq] at h
  have sl : ∀ v : Int, 0 ≤ v → v ≤ 1073741824 → (short v.toNat).length ≤ 10 := fun v h0 h1 => short_le10 h0 (by omega)
  have := sl s (by omega) (by omega); have := sl d0 (by omega) (by omega); have := sl d1 (by omega) (by omega); have := sl d2 (by omega) (by omega); have := sl d3 (by omega) (by omega); have := sl d4 (by omega) (by omega); have := sl d5 (by omega) (by omega); have := sl d6 (by omega) (by omega)
  simp only [encA, catL_length]
  omega
theorem okIput0 : OkIput0 := by
  intro x xs p q hq hb
  refine vcIput0 x xs p q ?_
  obtain ⟨hs, ha, hx, hl⟩ := hq
  obtain ⟨b1, b2, b3⟩ := hb
  have hlen : (bytesL xs).length = xs.length := by simp [bytesL]
  have l1 := encID_len x.r x.sl
  have l2 := short_le10 (v := x.bal) b1.1 (by omega)
  have l3 := short_le10 (v := x.vote) b2.1 (by omega)
  have l4 := encP_len hs b3
  have s1 := hs.1
  have s2 := hs.2
  have w0 : IntKind.u8.wrap 0 = 0 := by decide
  simp only [true_and, and_true, forall_eq, eq_self, bytesL_bytesAV, isBytes_bytesAV, length_bytesAV, catL_length, encByte_len, encTruth_len, hlen]
  refine ⟨⟨hx, by omega⟩, by omega, by omega, cond_prop (fun h => ⟨by omega, ?_⟩) fun h => ?_⟩
  · have h0 : x.st = 0 := by simpa using h
    refine congrArg bytesAV ?_
    simp [encI, h0, catL_eq]
  · have h0 : x.st ≠ 0 := by simpa using h
    have hA : rightA x.a.s x.a.d0 x.a.d1 x.a.d2 x.a.d3 x.a.d4 x.a.d5 x.a.d6 = true := ha h0
    have zz : ∀ v, zA x.a.s x.a.d0 x.a.d1 x.a.d2 x.a.d3 x.a.d4 x.a.d5 x.a.d6 v = v := fun v => by unfold zA; rw [if_pos hA]
    simp only [zz]
    refine ⟨by omega, by omega, ⟨⟨s1, s2⟩, by omega⟩, by omega, by omega, ?_⟩
    refine congrArg bytesAV ?_
    simp [encI, encIR, h0, catL_eq]
theorem encI_len {x : InstP} (hs : smallX x) (ha : x.st ≠ 0 → attGood x) (hb : rangeX x) : (encI x).length ≤ x.c.foot.length + x.c.path.length + 300 := by
  obtain ⟨b1, b2, b3⟩ := hb
  have l1 := encID_len x.r x.sl
  have l2 := short_le10 (v := x.bal) b1.1 (by omega)
  have l3 := short_le10 (v := x.vote) b2.1 (by omega)
  have l4 := encP_len hs b3
  unfold encI
  simp only [catL_length, encByte_len]
  split
  · simp; omega
  · rename_i h0
    have l5 := encA_length (ha h0)
    simp only [encIR, catL_length, encTruth_len]
    omega
theorem okIbytes0 : OkIbytes0 := by
  intro x hq hb
  refine vcIbytes0 x ?_
  have h := encI_len hq.1 hq.2 hb
  have s1 := hq.1.1
  have s2 := hq.1.2
  have e : catL [] (encI x) = encI x := rfl
  simp only [true_and, and_true, forall_eq, eq_self, bytesL_bytesAV, isBytes_bytesAV, length_bytesAV, e]
  exact ⟨⟨hq.1, hq.2, isBytes_nil, by omega⟩, by omega⟩
theorem okIparse0 : OkIparse0 := by
  intro xs hq
  refine vcIparse0 xs ?_
  obtain ⟨hb, hl⟩ := hq
  obtain ⟨l, rfl⟩ := hb.get
  simp only [true_and, and_true, forall_eq, eq_self, bytesL_bytesAV, isBytes_bytesAV, length_bytesAV] at hl ⊢
  have e : inEnd (itR l 0) (itE l 0) = iparseE l := rfl
  rw [e]
  refine ⟨hl, cond_prop (fun h => ?_) fun h => ?_⟩
  · have : iparseX l = zI := by unfold iparseX; rw [if_neg (by simpa using h)]
    rw [this]; and_intros <;> first | with_reducible rfl | rfl
  · have h0 : iparseE l = 0 := by simpa using h
    have : iparseX l = itX l 0 := by unfold iparseX; rw [if_pos h0]
    rw [this, h0]; and_intros <;> first | with_reducible rfl | rfl
theorem ctC_small (l : List UInt8) (e : Int) : (ctC l e).foot.length ≤ 900000 ∧ (ctC l e).path.length ≤ 900000 := by
  unfold ctC
  split
  · exact ⟨vFoot_len _ _ _, vPath_len _ _ _⟩
  · exact ⟨by decide, by decide⟩
def itVn (l : List UInt8) (e : Int) : InstP := ⟨idR l e, idS l e, itSt l e, balV (it1 l e).1 (it1 l e).2, balV (it3 l e).1 (it3 l e).2, inTruthV (it4 l e).1 (it4 l e).2, ctC (it5 l e).1 (it5 l e).2, itA (it6 l e).1 (it6 l e).2⟩
theorem it_right {l : List UInt8} {e : Int} (h : rightI (itV l e) = true) : itE l e = (it8 l e).2 := by unfold itE; rw [if_pos h]
theorem it_wrong {l : List UInt8} {e : Int} (h : rightI (itV l e) = false) : itE l e = inFail (it8 l e).2 10 := by unfold itE; rw [if_neg (by simp [h])]
theorem itX_ok {l : List UInt8} {e : Int} (h : itE l e = 0) : itX l e = itV l e := by unfold itX; rw [if_pos h]
theorem itX_no {l : List UInt8} {e : Int} (h : ¬ itE l e = 0) : itX l e = zI := by unfold itX; rw [if_neg h]
theorem it1_1 (l : List UInt8) (e : Int) : (it1 l e).1 = idRest l e := by unfold it1; with_reducible rfl
theorem it1_2 (l : List UInt8) (e : Int) : (it1 l e).2 = idErr l e := by unfold it1; with_reducible rfl
theorem it2_1 (l : List UInt8) (e : Int) : (it2 l e).1 = shRest (it1 l e).1 (it1 l e).2 4294967295 := by unfold it2; with_reducible rfl
theorem it2_2 (l : List UInt8) (e : Int) : (it2 l e).2 = balE (it1 l e).1 (it1 l e).2 := by unfold it2; with_reducible rfl
theorem itSt_1 (l : List UInt8) (e : Int) : itSt l e = inByteV (it2 l e).1 (it2 l e).2 := by unfold itSt; with_reducible rfl
theorem it3_1 (l : List UInt8) (e : Int) : (it3 l e).1 = tkRest (it2 l e).1 (it2 l e).2 1 := by unfold it3; with_reducible rfl
theorem it4_1 (l : List UInt8) (e : Int) : (it4 l e).1 = shRest (it3 l e).1 (it3 l e).2 4294967295 := by unfold it4; with_reducible rfl
theorem it4_2 (l : List UInt8) (e : Int) : (it4 l e).2 = balE (it3 l e).1 (it3 l e).2 := by unfold it4; with_reducible rfl
theorem it5_1 (l : List UInt8) (e : Int) : (it5 l e).1 = tkRest (it4 l e).1 (it4 l e).2 1 := by unfold it5; with_reducible rfl
theorem it5_2 (l : List UInt8) (e : Int) : (it5 l e).2 = inTruthE (it4 l e).1 (it4 l e).2 := by unfold it5; with_reducible rfl
theorem it6_1 (l : List UInt8) (e : Int) : (it6 l e).1 = ctR (it5 l e).1 (it5 l e).2 := by unfold it6; with_reducible rfl
theorem it6_2 (l : List UInt8) (e : Int) : (it6 l e).2 = ctE (it5 l e).1 (it5 l e).2 := by unfold it6; with_reducible rfl
theorem okItake0 : OkItake0 := by
  intro xs e hq
  refine vcItake0 xs e ?_
  obtain ⟨l, rfl⟩ := hq.get
  have wb : ∀ l e, IntKind.i64.wrap (inByteV l e) = inByteV l e := byW
  simp only [true_and, and_true, forall_eq, eq_self, bytesL_bytesAV, isBytes_bytesAV, length_bytesAV, wb]
  simp only [← it1_1, ← it1_2, ← it2_1, ← it2_2, ← itSt_1, ← it3_1]
  refine cond_prop (fun h => cond_prop (fun h0 => ?_) fun h0 => ?_) fun h => cond_prop (fun h0 => ?_) fun h0 => ?_
  · have g0 : ¬ itSt l e = 0 := by intro hz; simp at h0; exact h0 hz
    have e3 : (it3 l e).2 = inFail (tkErr (it2 l e).1.length (it2 l e).2 1) 22 := by
      unfold it3
      rw [if_pos (of_decide_eq_true h)]
    rw [← e3]
    simp only [← it4_1, ← it4_2, ← it5_1, ← it5_2, ← it6_1, ← it6_2]
    have hV : itV l e = itVn l e := if_neg g0
    have h8 : it8 l e = atS (it6 l e).1 (it6 l e).2 7 := if_neg g0
    have R : itR l e = (atS (it6 l e).1 (it6 l e).2 7).1 := by unfold itR; rw [h8]
    simp only [itVn, itA] at hV
    simp only [newI]
    rw [← hV]
    refine ⟨by rw [hV]; exact ctC_small _ _, cond_prop (fun g => ?_) fun g => ?_⟩
    · have E := it_wrong (l := l) (e := e) (by rw [Bool.not_eq_true'] at g; exact g)
      rw [h8] at E
      rw [← E]
      refine cond_prop (fun g2 => ?_) fun g2 => ?_
      · rw [R, itX_no (of_decide_eq_true g2)]
        and_intros <;> first | with_reducible rfl | rfl
      · rw [R, itX_ok (Decidable.not_not.1 (of_decide_eq_false g2)), hV]
        and_intros <;> first | with_reducible rfl | rfl
    · have E := it_right (l := l) (e := e) (by rw [Bool.not_eq_false'] at g; exact g)
      rw [h8] at E
      rw [← E]
      refine cond_prop (fun g2 => ?_) fun g2 => ?_
      · rw [R, itX_no (of_decide_eq_true g2)]
        and_intros <;> first | with_reducible rfl | rfl
      · rw [R, itX_ok (Decidable.not_not.1 (of_decide_eq_false g2)), hV]
        and_intros <;> first | with_reducible rfl | rfl
  · exfalso
    simp at h h0; omega
  · have g0 : ¬ itSt l e = 0 := by intro hz; simp at h0; exact h0 hz
    have e3 : (it3 l e).2 = tkErr (it2 l e).1.length (it2 l e).2 1 := by
      unfold it3
      rw [if_neg (of_decide_eq_false h)]
    rw [← e3]
    simp only [← it4_1, ← it4_2, ← it5_1, ← it5_2, ← it6_1, ← it6_2]
    have hV : itV l e = itVn l e := if_neg g0
    have h8 : it8 l e = atS (it6 l e).1 (it6 l e).2 7 := if_neg g0
    have R : itR l e = (atS (it6 l e).1 (it6 l e).2 7).1 := by unfold itR; rw [h8]
    simp only [itVn, itA] at hV
    simp only [newI]
    rw [← hV]
    refine ⟨by rw [hV]; exact ctC_small _ _, cond_prop (fun g => ?_) fun g => ?_⟩
    · have E := it_wrong (l := l) (e := e) (by rw [Bool.not_eq_true'] at g; exact g)
      rw [h8] at E
      rw [← E]
      refine cond_prop (fun g2 => ?_) fun g2 => ?_
      · rw [R, itX_no (of_decide_eq_true g2)]
        and_intros <;> first | with_reducible rfl | rfl
      · rw [R, itX_ok (Decidable.not_not.1 (of_decide_eq_false g2)), hV]
        and_intros <;> first | with_reducible rfl | rfl
    · have E := it_right (l := l) (e := e) (by rw [Bool.not_eq_false'] at g; exact g)
      rw [h8] at E
      rw [← E]
      refine cond_prop (fun g2 => ?_) fun g2 => ?_
      · rw [R, itX_no (of_decide_eq_true g2)]
        and_intros <;> first | with_reducible rfl | rfl
      · rw [R, itX_ok (Decidable.not_not.1 (of_decide_eq_false g2)), hV]
        and_intros <;> first | with_reducible rfl | rfl
  · have g0 : itSt l e = 0 := by simp at h0; exact h0
    have e3 : (it3 l e).2 = tkErr (it2 l e).1.length (it2 l e).2 1 := by
      unfold it3
      rw [if_neg (of_decide_eq_false h)]
    rw [← e3]
    simp only [g0]
    have hV : itV l e = ⟨idR l e, idS l e, 0, balV (it1 l e).1 (it1 l e).2, 0, false, zC, zA0⟩ := if_pos g0
    have h8 : it8 l e = it3 l e := if_pos g0
    have R : itR l e = (it3 l e).1 := by unfold itR; rw [h8]
    simp only [zC, zA0] at hV
    simp only [newI, zC, zA0]
    rw [← hV]
    refine ⟨by rw [hV]; exact ⟨Nat.zero_le _, Nat.zero_le _⟩, cond_prop (fun g => ?_) fun g => ?_⟩
    · have E := it_wrong (l := l) (e := e) (by rw [Bool.not_eq_true'] at g; exact g)
      rw [h8] at E
      rw [← E]
      refine cond_prop (fun g2 => ?_) fun g2 => ?_
      · rw [R, itX_no (of_decide_eq_true g2)]
        and_intros <;> first | with_reducible rfl | rfl
      · rw [R, itX_ok (Decidable.not_not.1 (of_decide_eq_false g2)), hV]
        and_intros <;> first | with_reducible rfl | rfl
    · have E := it_right (l := l) (e := e) (by rw [Bool.not_eq_false'] at g; exact g)
      rw [h8] at E
      rw [← E]
      refine cond_prop (fun g2 => ?_) fun g2 => ?_
      · rw [R, itX_no (of_decide_eq_true g2)]
        and_intros <;> first | with_reducible rfl | rfl
      · rw [R, itX_ok (Decidable.not_not.1 (of_decide_eq_false g2)), hV]
        and_intros <;> first | with_reducible rfl | rfl
end Go.Proofs.YtfoabkkkdcicgaaGreatDoor
/- The contracts are met. -/
namespace Go.Proofs.YtfoabkkkdcicgaaGreatDoor
set_option linter.unusedVariables false
set_option linter.unusedSimpArgs false
open Go.RowKit
theorem sndIput : Sound Tryz.prog (lookΓ gamIput) := sound_of _ fun p hp => by
  simp only [gamIput, List.mem_cons, List.not_mem_nil, or_false] at hp
  rcases hp with rfl | rfl | rfl | rfl | rfl | rfl
  · exact meetsIdPut.orNil
  · exact meetsBalPut.orNil
  · exact meetsOutByte.orNil
  · exact meetsOutTruth.orNil
  · exact meetsCput.orNil
  · exact meetsAttPut.orNil
set_option maxHeartbeats 4000000 in
theorem meetsIput : Meets Tryz.prog 37 iputF := by
  refine meets_of_awp (Γ := lookΓ gamIput) (L := fun _ _ => none) sndIput mixedOrders Tryz.func37 rfl Tryz.call37 ?_
  intro args q r hF hq ho
  unfold iputF at hF
  split at hF
  · split at hF
    · rename_i x hzx
      obtain rfl := instOf_some hzx
      split at hF
      · rename_i hte
        subst hte
        cases hF
        exact ⟨by simp only [List.length_cons, List.length_nil]; decide, okIput0 _ _ _ _ hq (⟨okay_u32 (argA 0 3 ho rfl rfl), okay_u32 (argA 0 4 ho rfl rfl), okay_u64 (argA 0 7 ho rfl rfl), okay_u64 (argA 0 9 ho rfl rfl), okay_u64 (argA 0 12 ho rfl rfl)⟩)⟩
      · cases hF
    · cases hF
  · cases hF
theorem sndItake : Sound Tryz.prog (lookΓ gamItake) := sound_of _ fun p hp => by
  simp only [gamItake, List.mem_cons, List.not_mem_nil, or_false] at hp
  rcases hp with rfl | rfl | rfl | rfl | rfl | rfl | rfl | rfl | rfl | rfl
  · exact meetsTakeID.orNil
  · exact meetsInew.orNil
  · exact meetsTakeBal.orNil
  · exact meetsInByte.orNil
  · exact meetsInFail.orNil
  · exact meetsInTruth.orNil
  · exact meetsCtake.orNil
  · exact meetsAttTake.orNil
  · exact meetsIright.orNil
  · exact meetsInFailed.orNil
set_option maxHeartbeats 4000000 in
theorem meetsItake : Meets Tryz.prog 28 itakeF := by
  refine meets_of_awp (Γ := lookΓ gamItake) (L := fun _ _ => none) sndItake mixedOrders Tryz.func28 rfl Tryz.call28 ?_
  intro args q r hF hq ho
  unfold itakeF at hF
  split at hF
  · cases hF
    exact ⟨by simp only [List.length_cons, List.length_nil]; decide, okItake0 _ _ hq⟩
  · cases hF
theorem sndIbytes : Sound Tryz.prog (lookΓ gamIbytes) := sound_of _ fun p hp => by
  simp only [gamIbytes, List.mem_cons, List.not_mem_nil, or_false] at hp
  rcases hp with rfl | rfl
  · exact meetsIput.orNil
  · exact meetsOutBytes.orNil
set_option maxHeartbeats 4000000 in
theorem meetsIbytes : Meets Tryz.prog 13 ibytesF := by
  refine meets_of_awp (Γ := lookΓ gamIbytes) (L := fun _ _ => none) sndIbytes mixedOrders Tryz.func13 rfl Tryz.call13 ?_
  intro args q r hF hq ho
  unfold ibytesF at hF
  split at hF
  · split at hF
    · rename_i x hzx
      obtain rfl := instOf_some hzx
      cases hF
      exact ⟨by simp only [List.length_cons, List.length_nil]; decide, okIbytes0 _ hq (⟨okay_u32 (argA 0 3 ho rfl rfl), okay_u32 (argA 0 4 ho rfl rfl), okay_u64 (argA 0 7 ho rfl rfl), okay_u64 (argA 0 9 ho rfl rfl), okay_u64 (argA 0 12 ho rfl rfl)⟩)⟩
    · cases hF
  · cases hF
theorem sndIparse : Sound Tryz.prog (lookΓ gamIparse) := sound_of _ fun p hp => by
  simp only [gamIparse, List.mem_cons, List.not_mem_nil, or_false] at hp
  rcases hp with rfl | rfl | rfl
  · exact meetsNewIn.orNil
  · exact meetsItake.orNil
  · exact meetsInEnd.orNil
set_option maxHeartbeats 4000000 in
theorem meetsIparse : Meets Tryz.prog 8 iparseF := by
  refine meets_of_awp (Γ := lookΓ gamIparse) (L := fun _ _ => none) sndIparse mixedOrders Tryz.func8 rfl Tryz.call8 ?_
  intro args q r hF hq ho
  unfold iparseF at hF
  split at hF
  · cases hF
    exact ⟨by simp only [List.length_cons, List.length_nil]; decide, okIparse0 _ hq⟩
  · cases hF
end Go.Proofs.YtfoabkkkdcicgaaGreatDoor
