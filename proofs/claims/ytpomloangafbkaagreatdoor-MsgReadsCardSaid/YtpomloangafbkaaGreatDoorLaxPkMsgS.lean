/- Contracts by content, their conditions, and that they are met: MsgS. -/
import Derived.Test.YtpomloangafbkaaGreatDoorLaxPkAncZ
import Derived.Test.YtpomloangafbkaaGreatDoorInstTP
import Derived.Test.YtpomloangafbkaaGreatDoorLaxPkInstU
/- Contracts by content, and the conditions that their code must meet. -/
namespace Go.Proofs.YtpomloangafbkaaGreatDoor
set_option linter.unusedVariables false
set_option linter.unusedSimpArgs false
open Go.RowKit
def wordsM : List (List UInt8) := [[], [112, 114, 101, 97, 99, 99, 101, 112, 116], [112, 114, 101, 114, 101, 112, 108, 121], [97, 99, 99, 101, 112, 116], [97, 99, 99, 101, 112, 116, 114, 101, 112, 108, 121], [99, 111, 109, 109, 105, 116], [112, 114, 101, 112, 97, 114, 101], [112, 114, 101, 112, 97, 114, 101, 114, 101, 112, 108, 121]]
def wordM (k : Int) : List UInt8 := wordsM.getD k.toNat []
def findW : List (List UInt8) → List UInt8 → Int → Int → Int
  | [], t, k, d => d
  | w :: r, t, k, d => if w = t then k else findW r t (k + 1) d
def kindM (t : List UInt8) : Int := findW wordsM t 0 0
def saidN (k : Int) (ok : Bool) : List UInt8 := if asksK k = true ∨ k = 6 then [97, 115, 107, 115] else if ok then [121, 101, 115] else [110, 111]
def fromTo (a b : Int) : List UInt8 := catL (catL (Lib.itoa a) [62]) (Lib.itoa b)
def restM (m : MsgP) : List (List UInt8) := if m.k = 6 then [] else [ishowV m.x]
def partsM (m : MsgP) : List (List UInt8) := wordM m.k :: fromTo m.src m.dst :: idShowV m.r m.s :: balShowV m.b :: saidN m.k m.ok :: restM m
def mshowV (m : MsgP) : List UInt8 := if rightM m then Lib.join (partsM m) [32] else []
def mshowE (m : MsgP) : Int := if rightM m then 0 else 10
def headM (m : MsgP) : List UInt8 := wordM m.k ++ [32] ++ digL m.src ++ [62] ++ digL m.dst ++ [32] ++ pair6 m.r m.s ++ [32] ++ balT m.b ++ [32] ++ saidN m.k m.ok
abbrev rangeM (m : MsgP) : Prop := (0 ≤ m.b ∧ m.b ≤ 4294967295) ∧ rangeI m.x
def loopKind (t : List UInt8) : LoopInv :=
  { V := Nat
    T := fun i => [(0, .str t), (5, .sl (strsAV wordsM) .no), (6, .int .i64 8), (7, .int .i64 (i : Int))]
    B := fun i => []
    R := fun i => []
    inv := fun i => i ≤ 8 ∧ ∀ j, j < i → wordsM.getD j [] ≠ t
    mu := fun i => 8 - i }
def of11F : Con
  | [.val (.agg zcm)] => (match msgOf zcm with | some m => some (True, ⟨.agg (msgL m), none, none⟩) | _ => none)
  | _ => none
def gamOf11 : List (Nat × Con) := []
def lpOf110 (m : MsgP) : Nat → Option LoopPlan := fun _ => none
def inOf110 (m : MsgP) : Prop := awp [] (lpOf110 m) (lookΓ gamOf11) Tryz.prog Tryz.f18.ntmps 0 (Tryz.f18.body.getD .skip) (entrySt [.val (.agg (msgL m))]) (exitQ Tryz.prog Tryz.f18.results.toList [] ⟨.agg (msgL m), none, none⟩)
def OkOf110 : Prop := ∀ (m : MsgP), True → inOf110 m
def small11F : Con
  | [.val (.agg zcm)] => (match msgOf zcm with | some m => some (maxX m.x, ⟨.bool (smallB m.x 200), none, none⟩) | _ => none)
  | _ => none
def gamSmall11 : List (Nat × Con) := []
def lpSmall110 (m : MsgP) : Nat → Option LoopPlan := fun _ => none
def inSmall110 (m : MsgP) : Prop := awp [] (lpSmall110 m) (lookΓ gamSmall11) Tryz.prog Tryz.f16.ntmps 0 (Tryz.f16.body.getD .skip) (entrySt [.val (.agg (msgL m))]) (exitQ Tryz.prog Tryz.f16.results.toList [] ⟨.bool (smallB m.x 200), none, none⟩)
def OkSmall110 : Prop := ∀ (m : MsgP), maxX m.x → inSmall110 m
def refMF : Con
  | [.val (.agg zcm)] => (match msgOf zcm with | some m => some (smallX m.x, ⟨.bool (rightM m), none, none⟩) | _ => none)
  | _ => none
def gamRefM : List (Nat × Con) := [(30, refIdRightF.orNil), (31, refBalF.orNil), (11, xrightF.orNil)]
def lpRefM0 (m : MsgP) : Nat → Option LoopPlan := fun _ => none
def inRefM0 (m : MsgP) : Prop := awp [] (lpRefM0 m) (lookΓ gamRefM) Tryz.prog Tryz.f19.ntmps 0 (Tryz.f19.body.getD .skip) (entrySt [.val (.agg (msgL m))]) (exitQ Tryz.prog Tryz.f19.results.toList [] ⟨.bool (rightM m), none, none⟩)
def OkRefM0 : Prop := ∀ (m : MsgP), smallX m.x → inRefM0 m
def words11F : Con
  | [] => (some (True, ⟨.sl (strsAV wordsM) .no, none, none⟩))
  | _ => none
def gamWords11 : List (Nat × Con) := []
def lpWords110  : Nat → Option LoopPlan := fun _ => none
def inWords110  : Prop := awp [] (lpWords110) (lookΓ gamWords11) Tryz.prog Tryz.f49.ntmps 0 (Tryz.f49.body.getD .skip) (entrySt []) (exitQ Tryz.prog Tryz.f49.results.toList [] ⟨.sl (strsAV wordsM) .no, none, none⟩)
def OkWords110 : Prop := True → inWords110
def mkindF : Con
  | [.val (.str t)] => (some (True, ⟨.int .i64 (kindM t), none, none⟩))
  | _ => none
def gamMkind : List (Nat × Con) := [(49, words11F.orNil)]
def lpMkind0 (t : List UInt8) : Nat → Option LoopPlan := fun b => bif Nat.beq b 0 then some (.inv [] (loopKind t)) else none
def inMkind0 (t : List UInt8) : Prop := awp [] (lpMkind0 t) (lookΓ gamMkind) Tryz.prog Tryz.f53.ntmps 0 (Tryz.f53.body.getD .skip) (entrySt [.val (.str t)]) (exitQ Tryz.prog Tryz.f53.results.toList [] ⟨.int .i64 (kindM t), none, none⟩)
def OkMkind0 : Prop := ∀ (t : List UInt8), True → inMkind0 t
def saidF : Con
  | [.val (.agg zcm)] => (match msgOf zcm with | some m => some (True, ⟨.str (saidN m.k m.ok), none, none⟩) | _ => none)
  | _ => none
def gamSaid : List (Nat × Con) := [(90, asksF.orNil)]
def lpSaid0 (m : MsgP) : Nat → Option LoopPlan := fun _ => none
def inSaid0 (m : MsgP) : Prop := awp [] (lpSaid0 m) (lookΓ gamSaid) Tryz.prog Tryz.f51.ntmps 0 (Tryz.f51.body.getD .skip) (entrySt [.val (.agg (msgL m))]) (exitQ Tryz.prog Tryz.f51.results.toList [] ⟨.str (saidN m.k m.ok), none, none⟩)
def OkSaid0 : Prop := ∀ (m : MsgP), True → inSaid0 m
def digits11F : Con
  | [.val (.int .u64 v)] => (some (True, ⟨.str (digL v), none, none⟩))
  | _ => none
def gamDigits11 : List (Nat × Con) := []
def lpDigits110 (v : Int) : Nat → Option LoopPlan := fun b => bif Nat.beq b 0 then some (.inv [] (loopDig v)) else none
def inDigits110 (v : Int) : Prop := awp [] (lpDigits110 v) (lookΓ gamDigits11) Tryz.prog Tryz.f52.ntmps 0 (Tryz.f52.body.getD .skip) (entrySt [.val (.int .u64 v)]) (exitQ Tryz.prog Tryz.f52.results.toList [] ⟨.str (digL v), none, none⟩)
def OkDigits110 : Prop := ∀ (v : Int), True → (0 ≤ v ∧ v ≤ 18446744073709551615) → inDigits110 v
def head11F : Con
  | [.val (.agg zcm)] => (match msgOf zcm with | some m => some (rightM m = true, ⟨.str (headM m), none, none⟩) | _ => none)
  | _ => none
def gamHead11 : List (Nat × Con) := [(52, digits11F.orNil)]
def lpHead110 (m : MsgP) : Nat → Option LoopPlan := fun _ => none
def inHead110 (m : MsgP) : Prop := awp [] (lpHead110 m) (lookΓ gamHead11) Tryz.prog Tryz.f20.ntmps 0 (Tryz.f20.body.getD .skip) (entrySt [.val (.agg (msgL m))]) (exitQ Tryz.prog Tryz.f20.results.toList [] ⟨.str (headM m), none, none⟩)
def OkHead110 : Prop := ∀ (m : MsgP), rightM m = true → (0 ≤ m.b ∧ m.b ≤ 4294967295) → inHead110 m
def mshowF : Con
  | [.val (.agg zcm)] => (match msgOf zcm with | some m => some (smallX m.x, ⟨.tup [.str (mshowV m), .int .i64 (mshowE m)], none, none⟩) | _ => none)
  | _ => none
def gamMshow : List (Nat × Con) := [(48, mrightF.orNil), (25, idShowF.orNil), (26, balShowF.orNil), (49, words11F.orNil), (50, itoaF.orNil), (51, saidF.orNil), (9, ishowF.orNil), (28, joinSF.orNil)]
def lpMshow0 (m : MsgP) : Nat → Option LoopPlan := fun _ => none
def inMshow0 (m : MsgP) : Prop := awp [] (lpMshow0 m) (lookΓ gamMshow) Tryz.prog Tryz.f17.ntmps 0 (Tryz.f17.body.getD .skip) (entrySt [.val (.agg (msgL m))]) (exitQ Tryz.prog Tryz.f17.results.toList [] ⟨.tup [.str (mshowV m), .int .i64 (mshowE m)], none, none⟩)
def OkMshow0 : Prop := ∀ (m : MsgP), smallX m.x → (rangeM m) → inMshow0 m
def inHeadI1 (m : MsgP) : Prop := inHead110 { m with k := 1 }
def inHeadI2 (m : MsgP) : Prop := inHead110 { m with k := 2 }
def inHeadI3 (m : MsgP) : Prop := inHead110 { m with k := 3 }
def inHeadI4 (m : MsgP) : Prop := inHead110 { m with k := 4 }
def inHeadI5 (m : MsgP) : Prop := inHead110 { m with k := 5 }
def inHeadI6 (m : MsgP) : Prop := inHead110 { m with k := 6 }
def inHeadI7 (m : MsgP) : Prop := inHead110 { m with k := 7 }
end Go.Proofs.YtpomloangafbkaaGreatDoor
/- What the verification conditions come to: printed by a program of ours (wip/lax/ex/Norm.lean). -/
namespace Go.Proofs.YtpomloangafbkaaGreatDoor
set_option linter.unusedVariables false
open Go.RowKit
set_option maxRecDepth 100000
theorem vcOf110 (m : MsgP) (h : (tt ∧ T1 ∧ T1 ∧ tt ∧ T1 ∧ tt ∧ T1 ∧ tt ∧ tt ∧ T1 ∧ tt ∧ T1 ∧ tt ∧ tt ∧ T1 ∧ tt ∧ T1 ∧ tt ∧ T1 ∧ tt ∧ T1 ∧ tt ∧ T1 ∧ tt ∧ T1 ∧ tt ∧ T1 ∧ T1 ∧ tt ∧ T1 ∧ T1 ∧ tt ∧ T1 ∧ tt ∧ T1 ∧ tt ∧ T1 ∧ tt ∧ T1 ∧ tt ∧ T1 ∧ tt ∧ T1 ∧ T1 ∧ tt ∧ T1 ∧ T1 ∧ tt ∧ tt ∧ T1 ∧ tt ∧ T1 ∧ tt ∧ T1 ∧ tt ∧ T1 ∧ tt ∧ T1 ∧ tt ∧ T1 ∧ tt ∧ tt ∧ T1 ∧ tt ∧ tt ∧ tt ∧ (m.k = m.k ∧ m.src = m.src ∧ m.dst = m.dst ∧ m.r = m.r ∧ m.s = m.s ∧ m.b = m.b ∧ m.ok = m.ok ∧ m.x.r = m.x.r ∧ m.x.sl = m.x.sl ∧ m.x.st = m.x.st ∧ m.x.bal = m.x.bal ∧ m.x.vote = m.x.vote ∧ m.x.same = m.x.same ∧ m.x.c.k = m.x.c.k ∧ m.x.c.num = m.x.c.num ∧ m.x.c.foot = m.x.c.foot ∧ m.x.c.rq = m.x.c.rq ∧ m.x.c.path = m.x.c.path ∧ m.x.c.mode = m.x.c.mode ∧ m.x.c.n = m.x.c.n ∧ m.x.c.time = m.x.c.time ∧ m.x.a.s = m.x.a.s ∧ m.x.a.d0 = m.x.a.d0 ∧ m.x.a.d1 = m.x.a.d1 ∧ m.x.a.d2 = m.x.a.d2 ∧ m.x.a.d3 = m.x.a.d3 ∧ m.x.a.d4 = m.x.a.d4 ∧ m.x.a.d5 = m.x.a.d5 ∧ m.x.a.d6 = m.x.a.d6 ∧ True) ∧ tt)) : inOf110 m :=
  Eq.mp (show _ = _ by kernel_rfl) h
theorem vcSmall110 (m : MsgP) (h : (tt ∧ T1 ∧ T1 ∧ tt ∧ T1 ∧ T1 ∧ T1 ∧ tt ∧ T1 ∧ T1 ∧ T1 ∧ (bif (decide (((List.length m.x.c.path) : Int) < 200)) then (T1 ∧ T1 ∧ T1 ∧ T1 ∧ tt ∧ T1 ∧ T1 ∧ T1 ∧ T1 ∧ tt ∧ tt ∧ ((smallB m.x 200) = (decide (((List.length m.x.c.foot) : Int) < 200)) ∧ True) ∧ tt) else (false = false ∧ T1 ∧ tt ∧ tt ∧ ((smallB m.x 200) = false ∧ True) ∧ tt)))) : inSmall110 m :=
  Eq.mp (show _ = _ by kernel_rfl) h
theorem vcRefM0 (m : MsgP) (h : let q0 := (rightM m); let q1 := ((Int.toNat m.k) * 1); let w0_x := (q0 = false ∧ True); let w1_x := (tt ∧ tt ∧ T1 ∧ tt ∧ tt ∧ w0_x ∧ tt); let w2_x := (false = false ∧ T1 ∧ tt ∧ tt ∧ w0_x ∧ tt); let w3_x := (tt ∧ T1 ∧ tt ∧ tt ∧ w0_x ∧ tt); (tt ∧ T1 ∧ T1 ∧ tt ∧ T1 ∧ tt ∧ T1 ∧ T1 ∧ (bif (decide (m.k < 1)) then (tt ∧ T1 ∧ tt ∧ T1 ∧ tt ∧ T1 ∧ tt ∧ T1 ∧ tt ∧ T1 ∧ tt ∧ T1 ∧ tt ∧ T1 ∧ tt ∧ tt ∧ T1 ∧ tt ∧ tt ∧ w0_x ∧ tt) else (T1 ∧ tt ∧ T1 ∧ T1 ∧ T1 ∧ (bif (decide ((7 : Int) < m.k)) then (tt ∧ T1 ∧ tt ∧ T1 ∧ tt ∧ T1 ∧ tt ∧ T1 ∧ tt ∧ T1 ∧ tt ∧ T1 ∧ tt ∧ tt ∧ T1 ∧ tt ∧ tt ∧ w0_x ∧ tt) else (T1 ∧ tt ∧ T1 ∧ T1 ∧ T1 ∧ (bif (decide (m.src < 0)) then (tt ∧ T1 ∧ tt ∧ T1 ∧ tt ∧ T1 ∧ tt ∧ T1 ∧ tt ∧ T1 ∧ tt ∧ tt ∧ T1 ∧ tt ∧ tt ∧ w0_x ∧ tt) else (T1 ∧ tt ∧ T1 ∧ T1 ∧ T1 ∧ (bif (decide ((6 : Int) < m.src)) then (tt ∧ T1 ∧ tt ∧ T1 ∧ tt ∧ T1 ∧ tt ∧ T1 ∧ tt ∧ tt ∧ T1 ∧ tt ∧ tt ∧ w0_x ∧ tt) else (T1 ∧ tt ∧ T1 ∧ T1 ∧ T1 ∧ (bif (decide (m.dst < 0)) then (tt ∧ T1 ∧ tt ∧ T1 ∧ tt ∧ T1 ∧ tt ∧ tt ∧ T1 ∧ tt ∧ tt ∧ w0_x ∧ tt) else (T1 ∧ tt ∧ T1 ∧ T1 ∧ T1 ∧ (bif (decide ((6 : Int) < m.dst)) then (tt ∧ T1 ∧ tt ∧ T1 ∧ tt ∧ tt ∧ T1 ∧ tt ∧ tt ∧ w0_x ∧ tt) else (T1 ∧ tt ∧ T1 ∧ tt ∧ T1 ∧ T1 ∧ T1 ∧ (bif (m.src == m.dst) then (tt ∧ T1 ∧ tt ∧ tt ∧ T1 ∧ tt ∧ tt ∧ w0_x ∧ tt) else (T1 ∧ tt ∧ (T1 ∧ True) ∧ T1 ∧ T1 ∧ T1 ∧ (bif (Bool.not (rightId m.r m.s)) then w1_x else (T1 ∧ tt ∧ (T1 ∧ True) ∧ T1 ∧ T1 ∧ (bif (Bool.not (balOK m.b)) then w3_x else (tt ∧ T1 ∧ tt ∧ T1 ∧ (bif (m.k == 6) then (tt ∧ T1 ∧ tt ∧ T1 ∧ T1 ∧ (bif (Bool.not m.ok) then (T1 ∧ tt ∧ T1 ∧ T1 ∧ T1 ∧ T1 ∧ tt ∧ tt ∧ (q0 = (Bool.and (m.x.r == 0) (Bool.and (m.x.sl == 0) (Bool.and (m.x.st == 0) (Bool.and (m.x.bal == 0) (Bool.and (m.x.vote == 0) (Bool.and (@BEq.beq.{0} Bool (@instBEqOfDecidableEq.{0} Bool instDecidableEqBool) m.x.same false) (Bool.and (m.x.c.k == 0) (Bool.and (m.x.c.num == 0) (Bool.and (@BEq.beq.{0} (List UInt8) (@List.instBEq.{0} UInt8 (@instBEqOfDecidableEq.{0} UInt8 instDecidableEqUInt8)) m.x.c.foot (@List.nil.{0} UInt8)) (Bool.and (m.x.c.rq == 0) (Bool.and (@BEq.beq.{0} (List UInt8) (@List.instBEq.{0} UInt8 (@instBEqOfDecidableEq.{0} UInt8 instDecidableEqUInt8)) m.x.c.path (@List.nil.{0} UInt8)) (Bool.and (m.x.c.mode == 0) (Bool.and (m.x.c.n == 0) (Bool.and (m.x.c.time == 0) (Bool.and (m.x.a.s == 0) (Bool.and (m.x.a.d0 == 0) (Bool.and (m.x.a.d1 == 0) (Bool.and (m.x.a.d2 == 0) (Bool.and (m.x.a.d3 == 0) (Bool.and (m.x.a.d4 == 0) (Bool.and (m.x.a.d5 == 0) (Bool.and (m.x.a.d6 == 0) true)))))))))))))))))))))) ∧ True) ∧ tt) else w2_x)) else (tt ∧ T1 ∧ tt ∧ (T1 ∧ (smallX m.x)) ∧ T1 ∧ T1 ∧ (bif (Bool.not (rightI m.x)) then w1_x else (T1 ∧ T1 ∧ tt ∧ T1 ∧ tt ∧ T1 ∧ T1 ∧ (bif (Bool.not (Bool.and (m.x.r == m.r) (Bool.and (m.x.sl == m.s) true))) then w3_x else (tt ∧ T1 ∧ tt ∧ T1 ∧ T1 ∧ (bif (m.k == 2) then (tt ∧ T1 ∧ tt ∧ tt ∧ T1 ∧ tt ∧ tt ∧ (q0 = true ∧ True) ∧ tt) else (T1 ∧ tt ∧ T1 ∧ T1 ∧ T1 ∧ (bif (m.k == 4) then (tt ∧ tt ∧ T1 ∧ tt ∧ tt ∧ (q0 = true ∧ True) ∧ tt) else (T1 ∧ tt ∧ T1 ∧ T1 ∧ (bif (m.k == 7) then (tt ∧ T1 ∧ tt ∧ tt ∧ (q0 = true ∧ True) ∧ tt) else (tt ∧ T1 ∧ T1 ∧ tt ∧ ((0 : Int) ≤ m.k ∧ m.k < 6 ∧ (q1 + 1) ≤ 6) ∧ T1 ∧ tt ∧ T1 ∧ tt ∧ T1 ∧ T1 ∧ (bif (Bool.not m.ok) then (T1 ∧ T1 ∧ tt ∧ T1 ∧ T1 ∧ T1 ∧ T1 ∧ (bif (m.x.st == (@cond.{1} Int (Nat.beq q1 0) (0 : Int) (@cond.{1} Int (Nat.beq q1 1) (1 : Int) (@cond.{1} Int (Nat.beq q1 2) (0 : Int) (@cond.{1} Int (Nat.beq q1 3) (2 : Int) (@cond.{1} Int (Nat.beq q1 4) (0 : Int) (3 : Int))))))) then (T1 ∧ T1 ∧ tt ∧ T1 ∧ tt ∧ T1 ∧ T1 ∧ T1 ∧ (bif (m.x.bal == m.b) then (T1 ∧ T1 ∧ tt ∧ T1 ∧ tt ∧ T1 ∧ T1 ∧ T1 ∧ (bif (m.x.vote == m.b) then (T1 ∧ T1 ∧ tt ∧ T1 ∧ T1 ∧ T1 ∧ tt ∧ tt ∧ (q0 = (Bool.not m.x.same) ∧ True) ∧ tt) else w2_x)) else (false = false ∧ T1 ∧ false = false ∧ T1 ∧ tt ∧ tt ∧ w0_x ∧ tt))) else (false = false ∧ T1 ∧ false = false ∧ T1 ∧ false = false ∧ T1 ∧ tt ∧ tt ∧ w0_x ∧ tt))) else (false = false ∧ T1 ∧ false = false ∧ T1 ∧ false = false ∧ T1 ∧ false = false ∧ T1 ∧ tt ∧ tt ∧ w0_x ∧ tt)))))))))))))))))))))))))))))))))) : inRefM0 m :=
  Eq.mp (show _ = _ by kernel_rfl) h
theorem vcWords110 (h : (tt ∧ T1 ∧ tt ∧ T1 ∧ T1 ∧ tt ∧ tt ∧ ((strsAV wordsM) = [(AV.str []), (AV.str [(112 : UInt8), 114, 101, 97, 99, 99, 101, 112, 116]), (AV.str [(112 : UInt8), 114, 101, 114, 101, 112, 108, 121]), (AV.str [(97 : UInt8), 99, 99, 101, 112, 116]), (AV.str [(97 : UInt8), 99, 99, 101, 112, 116, 114, 101, 112, 108, 121]), (AV.str [(99 : UInt8), 111, 109, 109, 105, 116]), (AV.str [(112 : UInt8), 114, 101, 112, 97, 114, 101]), (AV.str [(112 : UInt8), 114, 101, 112, 97, 114, 101, 114, 101, 112, 108, 121])] ∧ True) ∧ tt)) : inWords110 :=
  Eq.mp (show _ = _ by kernel_rfl) h
theorem vcMkind0 (t : (List UInt8)) (h : let q0 := (strsAV wordsM); (tt ∧ T1 ∧ tt ∧ (T1 ∧ True) ∧ ∀ v0 : (List AV), (v0 = q0) → T1 ∧ T1 ∧ (@Exists.{1} (loopKind t).V (fun (v2 : Nat) => ((((AV.str t) = (AV.str t) ∧ (AV.sl v0 Own.no) = (AV.sl q0 Own.no) ∧ (AV.int IntKind.i64 ((List.length v0) : Int)) = (AV.int IntKind.i64 8) ∧ (AV.int IntKind.i64 0) = (AV.int IntKind.i64 (v2 : Int)) ∧ True) ∧ T1 ∧ T1 ∧ tt ∧ tt) ∧ v2 ≤ 8 ∧ ∀ v3 : Nat, (v3 < v2) → (@Ne.{1} (List UInt8) (@List.getD.{0} (List UInt8) wordsM v3 (@List.nil.{0} UInt8)) t)))) ∧ ∀ v2 : Nat, (v2 ≤ 8 ∧ ∀ v3 : Nat, (v3 < v2) → (@Ne.{1} (List UInt8) (@List.getD.{0} (List UInt8) wordsM v3 (@List.nil.{0} UInt8)) t)) → tt ∧ T1 ∧ (bif (decide ((v2 : Int) < 8)) then (tt ∧ T1 ∧ ((0 : Int) ≤ (v2 : Int) ∧ (v2 : Int) < 8 ∧ (okElem 1 q0 (Int.toNat (v2 : Int)))) ∧ (okRead [Kd.str] (elemAt q0 (Int.toNat (v2 : Int))) 0) ∧ T1 ∧ T1 ∧ tt ∧ T1 ∧ T1 ∧ T1 ∧ (bif (@BEq.beq.{0} (List UInt8) (@List.instBEq.{0} UInt8 (@instBEqOfDecidableEq.{0} UInt8 instDecidableEqUInt8)) (rdStr (elemAt q0 (Int.toNat (v2 : Int))) 0) t) then (tt ∧ T1 ∧ T1 ∧ tt ∧ tt ∧ ((kindM t) = (v2 : Int) ∧ True) ∧ tt) else (tt ∧ T1 ∧ T1 ∧ (@Exists.{1} (loopKind t).V (fun (v4 : Nat) => ((((AV.str t) = (AV.str t) ∧ (AV.sl q0 Own.no) = (AV.sl q0 Own.no) ∧ (AV.int IntKind.i64 8) = (AV.int IntKind.i64 8) ∧ (AV.int IntKind.i64 (IntKind.wrap IntKind.i64 ((v2 : Int) + (1 : Int)))) = (AV.int IntKind.i64 (v4 : Int)) ∧ True) ∧ T1 ∧ T1 ∧ tt ∧ tt) ∧ (v4 ≤ 8 ∧ ∀ v5 : Nat, (v5 < v4) → (@Ne.{1} (List UInt8) (@List.getD.{0} (List UInt8) wordsM v5 (@List.nil.{0} UInt8)) t)) ∧ (8 - v4) < (8 - v2))))))) else (tt ∧ T1 ∧ tt ∧ tt ∧ ((kindM t) = 0 ∧ True) ∧ tt)))) : inMkind0 t :=
  Eq.mp (show _ = _ by kernel_rfl) h
theorem vcSaid0 (m : MsgP) (h : let w0_x := ((saidN m.k m.ok) = [(97 : UInt8), 115, 107, 115] ∧ True); (tt ∧ T1 ∧ T1 ∧ tt ∧ T1 ∧ tt ∧ (T1 ∧ True) ∧ T1 ∧ (bif (asksK m.k) then (tt ∧ T1 ∧ tt ∧ T1 ∧ tt ∧ tt ∧ w0_x ∧ tt) else (T1 ∧ tt ∧ T1 ∧ T1 ∧ T1 ∧ (bif (m.k == 6) then (tt ∧ T1 ∧ tt ∧ tt ∧ w0_x ∧ tt) else (tt ∧ T1 ∧ tt ∧ T1 ∧ (bif m.ok then (tt ∧ T1 ∧ tt ∧ tt ∧ ((saidN m.k m.ok) = [(121 : UInt8), 101, 115] ∧ True) ∧ tt) else (tt ∧ T1 ∧ tt ∧ tt ∧ ((saidN m.k m.ok) = [(110 : UInt8), 111] ∧ True) ∧ tt)))))))) : inSaid0 m :=
  Eq.mp (show _ = _ by kernel_rfl) h
theorem vcDigits110 (v : Int) (h : (tt ∧ T1 ∧ tt ∧ T1 ∧ (@Exists.{1} (loopDig v).V (fun (v0 : (@Prod.{0, 0} Int (List UInt8))) => ((((AV.int IntKind.u64 v) = (AV.int IntKind.u64 v0.1) ∧ (AV.str []) = (AV.str v0.2) ∧ True) ∧ T1 ∧ T1 ∧ tt ∧ tt) ∧ (0 : Int) ≤ v0.1 ∧ v0.1 ≤ v ∧ (digL v) = (@List.append.{0} UInt8 (digL v0.1) v0.2)))) ∧ ∀ v0 : (@Prod.{0, 0} Int (List UInt8)), ((0 : Int) ≤ v0.1 ∧ v0.1 ≤ v ∧ (digL v) = (@List.append.{0} UInt8 (digL v0.1) v0.2)) → tt ∧ T1 ∧ (@Ne.{1} Int (10 : Int) (0 : Int)) ∧ T1 ∧ T1 ∧ T1 ∧ (isBytes [(AV.int IntKind.u8 (IntKind.wrap IntKind.u8 (IntKind.wrap IntKind.u64 ((48 : Int) + (Int.tmod v0.1 10)))))]) ∧ T1 ∧ ((List.length (bytesL [(AV.int IntKind.u8 (IntKind.wrap IntKind.u8 (IntKind.wrap IntKind.u64 ((48 : Int) + (Int.tmod v0.1 10)))))])) + (List.length v0.2)) ≤ 9223372036854775807 ∧ T1 ∧ tt ∧ T1 ∧ (@Ne.{1} Int (10 : Int) (0 : Int)) ∧ T1 ∧ tt ∧ T1 ∧ T1 ∧ (bif ((IntKind.wrap IntKind.u64 (Int.tdiv v0.1 10)) == 0) then (tt ∧ T1 ∧ T1 ∧ tt ∧ tt ∧ ((digL v) = (@catL UInt8 (bytesL [(AV.int IntKind.u8 (IntKind.wrap IntKind.u8 (IntKind.wrap IntKind.u64 ((48 : Int) + (Int.tmod v0.1 10)))))]) v0.2) ∧ True) ∧ tt) else (@Exists.{1} (loopDig v).V (fun (v2 : (@Prod.{0, 0} Int (List UInt8))) => ((((AV.int IntKind.u64 (IntKind.wrap IntKind.u64 (Int.tdiv v0.1 10))) = (AV.int IntKind.u64 v2.1) ∧ (AV.str (@catL UInt8 (bytesL [(AV.int IntKind.u8 (IntKind.wrap IntKind.u8 (IntKind.wrap IntKind.u64 ((48 : Int) + (Int.tmod v0.1 10)))))]) v0.2)) = (AV.str v2.2) ∧ True) ∧ T1 ∧ T1 ∧ tt ∧ tt) ∧ ((0 : Int) ≤ v2.1 ∧ v2.1 ≤ v ∧ (digL v) = (@List.append.{0} UInt8 (digL v2.1) v2.2)) ∧ (Int.toNat v2.1) < (Int.toNat v0.1))))))) : inDigits110 v :=
  Eq.mp (show _ = _ by kernel_rfl) h
theorem vcMshow0 (m : MsgP) (h : let q0 := (Int.toNat m.k); (tt ∧ T1 ∧ T1 ∧ T1 ∧ tt ∧ tt ∧ (T1 ∧ (smallX m.x)) ∧ T1 ∧ (bif (Bool.not (rightM m)) then (tt ∧ T1 ∧ T1 ∧ tt ∧ tt ∧ ((mshowV m) = [] ∧ (mshowE m) = 10 ∧ True) ∧ tt) else (tt ∧ T1 ∧ tt ∧ (T1 ∧ True) ∧ ∀ v0 : (List UInt8), (v0 = (idShowV m.r m.s)) → ∀ v2 : Int, (v2 = (idShowE m.r m.s)) → T1 ∧ T1 ∧ T1 ∧ T1 ∧ T1 ∧ tt ∧ T1 ∧ tt ∧ (T1 ∧ True) ∧ ∀ v4 : (List UInt8), (v4 = (balShowV m.b)) → ∀ v6 : Int, (v6 = (balShowE m.b)) → T1 ∧ T1 ∧ T1 ∧ T1 ∧ T1 ∧ tt ∧ (T1 ∧ True) ∧ ∀ v8 : (List AV), (v8 = (strsAV wordsM)) → T1 ∧ tt ∧ ((0 : Int) ≤ m.k ∧ m.k < ((List.length v8) : Int) ∧ (okElem 1 v8 q0)) ∧ (okRead [Kd.str] (elemAt v8 q0) 0) ∧ T1 ∧ tt ∧ (T1 ∧ True) ∧ ∀ v10 : (List UInt8), (v10 = (Go.Lib.itoa m.src)) → ((List.length v10) + 1) ≤ 9223372036854775807 ∧ T1 ∧ tt ∧ (T1 ∧ True) ∧ ∀ v12 : (List UInt8), (v12 = (Go.Lib.itoa m.dst)) → ((List.length (@catL UInt8 v10 [(62 : UInt8)])) + (List.length v12)) ≤ 9223372036854775807 ∧ T1 ∧ T1 ∧ tt ∧ (T1 ∧ True) ∧ ∀ v14 : (List UInt8), let w0_14 := [(AV.str (rdStr (elemAt v8 q0) 0)), (AV.str (@catL UInt8 (@catL UInt8 v10 [(62 : UInt8)]) v12)), (AV.str v0), (AV.str v4), (AV.str v14)]; (v14 = (saidN m.k m.ok)) → T1 ∧ T1 ∧ tt ∧ tt ∧ T1 ∧ tt ∧ T1 ∧ (bif (m.k != 6) then (tt ∧ T1 ∧ tt ∧ (T1 ∧ (smallX m.x)) ∧ ∀ v16 : (List UInt8), let w1_16 := (@catL AV w0_14 [(AV.str v16)]); (v16 = (ishowV m.x)) → ∀ v18 : Int, (v18 = (ishowE m.x)) → T1 ∧ T1 ∧ T1 ∧ T1 ∧ T1 ∧ tt ∧ T1 ∧ T1 ∧ T1 ∧ (@Eq.{1} Nat 5 5 ∧ 96 ≤ 140737488355328 ∧ 6 ≤ 9223372036854775807 ∧ (okWidth 1 w0_14) ∧ (okWidth 1 [(AV.str v16)])) ∧ T1 ∧ tt ∧ T1 ∧ (T1 ∧ (isStrs w1_16) ∧ (List.length (Go.Lib.join (strsL w1_16) [(32 : UInt8)])) ≤ 140737488355328 ∧ (List.length w1_16) ≤ 140737488355328) ∧ ∀ v20 : (List UInt8), (v20 = (Go.Lib.join (strsL w1_16) [(32 : UInt8)])) → T1 ∧ T1 ∧ tt ∧ tt ∧ ((mshowV m) = v20 ∧ (mshowE m) = 0 ∧ True) ∧ tt) else (tt ∧ T1 ∧ (T1 ∧ (isStrs w0_14) ∧ (List.length (Go.Lib.join (strsL w0_14) [(32 : UInt8)])) ≤ 140737488355328 ∧ 5 ≤ 140737488355328) ∧ ∀ v16 : (List UInt8), (v16 = (Go.Lib.join (strsL w0_14) [(32 : UInt8)])) → T1 ∧ T1 ∧ tt ∧ tt ∧ ((mshowV m) = v16 ∧ (mshowE m) = 0 ∧ True) ∧ tt)))))) : inMshow0 m :=
  Eq.mp (show _ = _ by kernel_rfl) h
theorem vcHeadI1 (m : MsgP) (h : (tt ∧ T1 ∧ T1 ∧ tt ∧ T1 ∧ T1 ∧ tt ∧ ((0 : Int) ≤ (1 : Int) ∧ (1 : Int) < (8 : Int) ∧ 2 ≤ 8) ∧ T1 ∧ tt ∧ T1 ∧ T1 ∧ tt ∧ T1 ∧ (T1 ∧ True) ∧ ∀ v0 : (List UInt8), let w2_0 := (@catL UInt8 (@catL UInt8 [(32 : UInt8)] v0) [(62 : UInt8)]); (v0 = (digL (IntKind.wrap IntKind.u64 m.src))) → (1 + (List.length v0)) ≤ 9223372036854775807 ∧ ((List.length (@catL UInt8 [(32 : UInt8)] v0)) + 1) ≤ 9223372036854775807 ∧ T1 ∧ tt ∧ T1 ∧ (T1 ∧ True) ∧ ∀ v2 : (List UInt8), let w4_2 := (@catL UInt8 (@catL UInt8 w2_0 v2) [(32 : UInt8)]); (v2 = (digL (IntKind.wrap IntKind.u64 m.dst))) → ((List.length w2_0) + (List.length v2)) ≤ 9223372036854775807 ∧ ((List.length (@catL UInt8 w2_0 v2)) + 1) ≤ 9223372036854775807 ∧ T1 ∧ T1 ∧ tt ∧ T1 ∧ (T1 ∧ True) ∧ ∀ v4 : (List UInt8), let w0_4 := (@catL UInt8 (@catL UInt8 w4_2 v4) [(46 : UInt8)]); (v4 = (digL (IntKind.wrap IntKind.u64 m.r))) → ((List.length w4_2) + (List.length v4)) ≤ 9223372036854775807 ∧ ((List.length (@catL UInt8 w4_2 v4)) + 1) ≤ 9223372036854775807 ∧ T1 ∧ T1 ∧ tt ∧ T1 ∧ (T1 ∧ True) ∧ ∀ v6 : (List UInt8), let w5_6 := (@catL UInt8 (@catL UInt8 w0_4 v6) [(32 : UInt8)]); (v6 = (digL (IntKind.wrap IntKind.u64 m.s))) → ((List.length w0_4) + (List.length v6)) ≤ 9223372036854775807 ∧ ((List.length (@catL UInt8 w0_4 v6)) + 1) ≤ 9223372036854775807 ∧ T1 ∧ tt ∧ T1 ∧ (@Ne.{1} Int (8 : Int) (0 : Int)) ∧ (T1 ∧ True) ∧ ∀ v8 : (List UInt8), let w1_8 := (@catL UInt8 (@catL UInt8 w5_6 v8) [(46 : UInt8)]); (v8 = (digL (IntKind.wrap IntKind.u64 (Int.tdiv (IntKind.wrap IntKind.u64 m.b) 8)))) → ((List.length w5_6) + (List.length v8)) ≤ 9223372036854775807 ∧ ((List.length (@catL UInt8 w5_6 v8)) + 1) ≤ 9223372036854775807 ∧ T1 ∧ tt ∧ T1 ∧ (@Ne.{1} Int (8 : Int) (0 : Int)) ∧ (T1 ∧ True) ∧ ∀ v10 : (List UInt8), let w3_10 := (@catL UInt8 [(112 : UInt8), 114, 101, 97, 99, 99, 101, 112, 116] (@catL UInt8 w1_8 v10)); (v10 = (digL (Int.tmod (IntKind.wrap IntKind.u64 m.b) 8))) → ((List.length w1_8) + (List.length v10)) ≤ 9223372036854775807 ∧ (9 + (List.length (@catL UInt8 w1_8 v10))) ≤ 9223372036854775807 ∧ T1 ∧ tt ∧ tt ∧ T1 ∧ tt ∧ T1 ∧ T1 ∧ T1 ∧ tt ∧ T1 ∧ T1 ∧ T1 ∧ T1 ∧ tt ∧ T1 ∧ T1 ∧ tt ∧ T1 ∧ ((List.length w3_10) + 5) ≤ 9223372036854775807 ∧ T1 ∧ tt ∧ tt ∧ ((headM (MsgP.mk 1 m.src m.dst m.r m.s m.b m.ok m.x)) = (@catL UInt8 w3_10 [(32 : UInt8), 97, 115, 107, 115]) ∧ True) ∧ tt)) : inHeadI1 m :=
  Eq.mp (show _ = _ by kernel_rfl) h
theorem vcHeadI2 (m : MsgP) (h : let w6_x := (headM (MsgP.mk 2 m.src m.dst m.r m.s m.b m.ok m.x)); (tt ∧ T1 ∧ T1 ∧ tt ∧ T1 ∧ T1 ∧ tt ∧ ((0 : Int) ≤ (2 : Int) ∧ (2 : Int) < (8 : Int) ∧ 3 ≤ 8) ∧ T1 ∧ tt ∧ T1 ∧ T1 ∧ tt ∧ T1 ∧ (T1 ∧ True) ∧ ∀ v0 : (List UInt8), let w3_0 := (@catL UInt8 (@catL UInt8 [(32 : UInt8)] v0) [(62 : UInt8)]); (v0 = (digL (IntKind.wrap IntKind.u64 m.src))) → (1 + (List.length v0)) ≤ 9223372036854775807 ∧ ((List.length (@catL UInt8 [(32 : UInt8)] v0)) + 1) ≤ 9223372036854775807 ∧ T1 ∧ tt ∧ T1 ∧ (T1 ∧ True) ∧ ∀ v2 : (List UInt8), let w2_2 := (@catL UInt8 (@catL UInt8 w3_0 v2) [(32 : UInt8)]); (v2 = (digL (IntKind.wrap IntKind.u64 m.dst))) → ((List.length w3_0) + (List.length v2)) ≤ 9223372036854775807 ∧ ((List.length (@catL UInt8 w3_0 v2)) + 1) ≤ 9223372036854775807 ∧ T1 ∧ T1 ∧ tt ∧ T1 ∧ (T1 ∧ True) ∧ ∀ v4 : (List UInt8), let w4_4 := (@catL UInt8 (@catL UInt8 w2_2 v4) [(46 : UInt8)]); (v4 = (digL (IntKind.wrap IntKind.u64 m.r))) → ((List.length w2_2) + (List.length v4)) ≤ 9223372036854775807 ∧ ((List.length (@catL UInt8 w2_2 v4)) + 1) ≤ 9223372036854775807 ∧ T1 ∧ T1 ∧ tt ∧ T1 ∧ (T1 ∧ True) ∧ ∀ v6 : (List UInt8), let w0_6 := (@catL UInt8 (@catL UInt8 w4_4 v6) [(32 : UInt8)]); (v6 = (digL (IntKind.wrap IntKind.u64 m.s))) → ((List.length w4_4) + (List.length v6)) ≤ 9223372036854775807 ∧ ((List.length (@catL UInt8 w4_4 v6)) + 1) ≤ 9223372036854775807 ∧ T1 ∧ tt ∧ T1 ∧ (@Ne.{1} Int (8 : Int) (0 : Int)) ∧ (T1 ∧ True) ∧ ∀ v8 : (List UInt8), let w5_8 := (@catL UInt8 (@catL UInt8 w0_6 v8) [(46 : UInt8)]); (v8 = (digL (IntKind.wrap IntKind.u64 (Int.tdiv (IntKind.wrap IntKind.u64 m.b) 8)))) → ((List.length w0_6) + (List.length v8)) ≤ 9223372036854775807 ∧ ((List.length (@catL UInt8 w0_6 v8)) + 1) ≤ 9223372036854775807 ∧ T1 ∧ tt ∧ T1 ∧ (@Ne.{1} Int (8 : Int) (0 : Int)) ∧ (T1 ∧ True) ∧ ∀ v10 : (List UInt8), let w1_10 := (@catL UInt8 [(112 : UInt8), 114, 101, 114, 101, 112, 108, 121] (@catL UInt8 w5_8 v10)); (v10 = (digL (Int.tmod (IntKind.wrap IntKind.u64 m.b) 8))) → ((List.length w5_8) + (List.length v10)) ≤ 9223372036854775807 ∧ (8 + (List.length (@catL UInt8 w5_8 v10))) ≤ 9223372036854775807 ∧ T1 ∧ tt ∧ tt ∧ T1 ∧ tt ∧ T1 ∧ T1 ∧ false = false ∧ T1 ∧ false = false ∧ tt ∧ T1 ∧ tt ∧ (bif m.ok then (tt ∧ T1 ∧ ((List.length w1_10) + 4) ≤ 9223372036854775807 ∧ T1 ∧ tt ∧ tt ∧ (w6_x = (@catL UInt8 w1_10 [(32 : UInt8), 121, 101, 115]) ∧ True) ∧ tt) else (tt ∧ T1 ∧ ((List.length w1_10) + 3) ≤ 9223372036854775807 ∧ T1 ∧ tt ∧ tt ∧ (w6_x = (@catL UInt8 w1_10 [(32 : UInt8), 110, 111]) ∧ True) ∧ tt)))) : inHeadI2 m :=
  Eq.mp (show _ = _ by kernel_rfl) h
theorem vcHeadI3 (m : MsgP) (h : (tt ∧ T1 ∧ T1 ∧ tt ∧ T1 ∧ T1 ∧ tt ∧ ((0 : Int) ≤ (3 : Int) ∧ (3 : Int) < (8 : Int) ∧ 4 ≤ 8) ∧ T1 ∧ tt ∧ T1 ∧ T1 ∧ tt ∧ T1 ∧ (T1 ∧ True) ∧ ∀ v0 : (List UInt8), let w2_0 := (@catL UInt8 (@catL UInt8 [(32 : UInt8)] v0) [(62 : UInt8)]); (v0 = (digL (IntKind.wrap IntKind.u64 m.src))) → (1 + (List.length v0)) ≤ 9223372036854775807 ∧ ((List.length (@catL UInt8 [(32 : UInt8)] v0)) + 1) ≤ 9223372036854775807 ∧ T1 ∧ tt ∧ T1 ∧ (T1 ∧ True) ∧ ∀ v2 : (List UInt8), let w4_2 := (@catL UInt8 (@catL UInt8 w2_0 v2) [(32 : UInt8)]); (v2 = (digL (IntKind.wrap IntKind.u64 m.dst))) → ((List.length w2_0) + (List.length v2)) ≤ 9223372036854775807 ∧ ((List.length (@catL UInt8 w2_0 v2)) + 1) ≤ 9223372036854775807 ∧ T1 ∧ T1 ∧ tt ∧ T1 ∧ (T1 ∧ True) ∧ ∀ v4 : (List UInt8), let w0_4 := (@catL UInt8 (@catL UInt8 w4_2 v4) [(46 : UInt8)]); (v4 = (digL (IntKind.wrap IntKind.u64 m.r))) → ((List.length w4_2) + (List.length v4)) ≤ 9223372036854775807 ∧ ((List.length (@catL UInt8 w4_2 v4)) + 1) ≤ 9223372036854775807 ∧ T1 ∧ T1 ∧ tt ∧ T1 ∧ (T1 ∧ True) ∧ ∀ v6 : (List UInt8), let w5_6 := (@catL UInt8 (@catL UInt8 w0_4 v6) [(32 : UInt8)]); (v6 = (digL (IntKind.wrap IntKind.u64 m.s))) → ((List.length w0_4) + (List.length v6)) ≤ 9223372036854775807 ∧ ((List.length (@catL UInt8 w0_4 v6)) + 1) ≤ 9223372036854775807 ∧ T1 ∧ tt ∧ T1 ∧ (@Ne.{1} Int (8 : Int) (0 : Int)) ∧ (T1 ∧ True) ∧ ∀ v8 : (List UInt8), let w1_8 := (@catL UInt8 (@catL UInt8 w5_6 v8) [(46 : UInt8)]); (v8 = (digL (IntKind.wrap IntKind.u64 (Int.tdiv (IntKind.wrap IntKind.u64 m.b) 8)))) → ((List.length w5_6) + (List.length v8)) ≤ 9223372036854775807 ∧ ((List.length (@catL UInt8 w5_6 v8)) + 1) ≤ 9223372036854775807 ∧ T1 ∧ tt ∧ T1 ∧ (@Ne.{1} Int (8 : Int) (0 : Int)) ∧ (T1 ∧ True) ∧ ∀ v10 : (List UInt8), let w3_10 := (@catL UInt8 [(97 : UInt8), 99, 99, 101, 112, 116] (@catL UInt8 w1_8 v10)); (v10 = (digL (Int.tmod (IntKind.wrap IntKind.u64 m.b) 8))) → ((List.length w1_8) + (List.length v10)) ≤ 9223372036854775807 ∧ (6 + (List.length (@catL UInt8 w1_8 v10))) ≤ 9223372036854775807 ∧ T1 ∧ tt ∧ tt ∧ T1 ∧ tt ∧ T1 ∧ T1 ∧ T1 ∧ tt ∧ T1 ∧ T1 ∧ T1 ∧ T1 ∧ tt ∧ T1 ∧ T1 ∧ tt ∧ T1 ∧ ((List.length w3_10) + 5) ≤ 9223372036854775807 ∧ T1 ∧ tt ∧ tt ∧ ((headM (MsgP.mk 3 m.src m.dst m.r m.s m.b m.ok m.x)) = (@catL UInt8 w3_10 [(32 : UInt8), 97, 115, 107, 115]) ∧ True) ∧ tt)) : inHeadI3 m :=
  Eq.mp (show _ = _ by kernel_rfl) h
theorem vcHeadI4 (m : MsgP) (h : let w6_x := (headM (MsgP.mk 4 m.src m.dst m.r m.s m.b m.ok m.x)); (tt ∧ T1 ∧ T1 ∧ tt ∧ T1 ∧ T1 ∧ tt ∧ ((0 : Int) ≤ (4 : Int) ∧ (4 : Int) < (8 : Int) ∧ 5 ≤ 8) ∧ T1 ∧ tt ∧ T1 ∧ T1 ∧ tt ∧ T1 ∧ (T1 ∧ True) ∧ ∀ v0 : (List UInt8), let w3_0 := (@catL UInt8 (@catL UInt8 [(32 : UInt8)] v0) [(62 : UInt8)]); (v0 = (digL (IntKind.wrap IntKind.u64 m.src))) → (1 + (List.length v0)) ≤ 9223372036854775807 ∧ ((List.length (@catL UInt8 [(32 : UInt8)] v0)) + 1) ≤ 9223372036854775807 ∧ T1 ∧ tt ∧ T1 ∧ (T1 ∧ True) ∧ ∀ v2 : (List UInt8), let w2_2 := (@catL UInt8 (@catL UInt8 w3_0 v2) [(32 : UInt8)]); (v2 = (digL (IntKind.wrap IntKind.u64 m.dst))) → ((List.length w3_0) + (List.length v2)) ≤ 9223372036854775807 ∧ ((List.length (@catL UInt8 w3_0 v2)) + 1) ≤ 9223372036854775807 ∧ T1 ∧ T1 ∧ tt ∧ T1 ∧ (T1 ∧ True) ∧ ∀ v4 : (List UInt8), let w4_4 := (@catL UInt8 (@catL UInt8 w2_2 v4) [(46 : UInt8)]); (v4 = (digL (IntKind.wrap IntKind.u64 m.r))) → ((List.length w2_2) + (List.length v4)) ≤ 9223372036854775807 ∧ ((List.length (@catL UInt8 w2_2 v4)) + 1) ≤ 9223372036854775807 ∧ T1 ∧ T1 ∧ tt ∧ T1 ∧ (T1 ∧ True) ∧ ∀ v6 : (List UInt8), let w0_6 := (@catL UInt8 (@catL UInt8 w4_4 v6) [(32 : UInt8)]); (v6 = (digL (IntKind.wrap IntKind.u64 m.s))) → ((List.length w4_4) + (List.length v6)) ≤ 9223372036854775807 ∧ ((List.length (@catL UInt8 w4_4 v6)) + 1) ≤ 9223372036854775807 ∧ T1 ∧ tt ∧ T1 ∧ (@Ne.{1} Int (8 : Int) (0 : Int)) ∧ (T1 ∧ True) ∧ ∀ v8 : (List UInt8), let w5_8 := (@catL UInt8 (@catL UInt8 w0_6 v8) [(46 : UInt8)]); (v8 = (digL (IntKind.wrap IntKind.u64 (Int.tdiv (IntKind.wrap IntKind.u64 m.b) 8)))) → ((List.length w0_6) + (List.length v8)) ≤ 9223372036854775807 ∧ ((List.length (@catL UInt8 w0_6 v8)) + 1) ≤ 9223372036854775807 ∧ T1 ∧ tt ∧ T1 ∧ (@Ne.{1} Int (8 : Int) (0 : Int)) ∧ (T1 ∧ True) ∧ ∀ v10 : (List UInt8), let w1_10 := (@catL UInt8 [(97 : UInt8), 99, 99, 101, 112, 116, 114, 101, 112, 108, 121] (@catL UInt8 w5_8 v10)); (v10 = (digL (Int.tmod (IntKind.wrap IntKind.u64 m.b) 8))) → ((List.length w5_8) + (List.length v10)) ≤ 9223372036854775807 ∧ (11 + (List.length (@catL UInt8 w5_8 v10))) ≤ 9223372036854775807 ∧ T1 ∧ tt ∧ tt ∧ T1 ∧ tt ∧ T1 ∧ T1 ∧ T1 ∧ tt ∧ T1 ∧ T1 ∧ T1 ∧ false = false ∧ tt ∧ T1 ∧ tt ∧ (bif m.ok then (tt ∧ T1 ∧ ((List.length w1_10) + 4) ≤ 9223372036854775807 ∧ T1 ∧ tt ∧ tt ∧ (w6_x = (@catL UInt8 w1_10 [(32 : UInt8), 121, 101, 115]) ∧ True) ∧ tt) else (tt ∧ T1 ∧ ((List.length w1_10) + 3) ≤ 9223372036854775807 ∧ T1 ∧ tt ∧ tt ∧ (w6_x = (@catL UInt8 w1_10 [(32 : UInt8), 110, 111]) ∧ True) ∧ tt)))) : inHeadI4 m :=
  Eq.mp (show _ = _ by kernel_rfl) h
theorem vcHeadI5 (m : MsgP) (h : (tt ∧ T1 ∧ T1 ∧ tt ∧ T1 ∧ T1 ∧ tt ∧ ((0 : Int) ≤ (5 : Int) ∧ (5 : Int) < (8 : Int) ∧ 6 ≤ 8) ∧ T1 ∧ tt ∧ T1 ∧ T1 ∧ tt ∧ T1 ∧ (T1 ∧ True) ∧ ∀ v0 : (List UInt8), let w2_0 := (@catL UInt8 (@catL UInt8 [(32 : UInt8)] v0) [(62 : UInt8)]); (v0 = (digL (IntKind.wrap IntKind.u64 m.src))) → (1 + (List.length v0)) ≤ 9223372036854775807 ∧ ((List.length (@catL UInt8 [(32 : UInt8)] v0)) + 1) ≤ 9223372036854775807 ∧ T1 ∧ tt ∧ T1 ∧ (T1 ∧ True) ∧ ∀ v2 : (List UInt8), let w4_2 := (@catL UInt8 (@catL UInt8 w2_0 v2) [(32 : UInt8)]); (v2 = (digL (IntKind.wrap IntKind.u64 m.dst))) → ((List.length w2_0) + (List.length v2)) ≤ 9223372036854775807 ∧ ((List.length (@catL UInt8 w2_0 v2)) + 1) ≤ 9223372036854775807 ∧ T1 ∧ T1 ∧ tt ∧ T1 ∧ (T1 ∧ True) ∧ ∀ v4 : (List UInt8), let w0_4 := (@catL UInt8 (@catL UInt8 w4_2 v4) [(46 : UInt8)]); (v4 = (digL (IntKind.wrap IntKind.u64 m.r))) → ((List.length w4_2) + (List.length v4)) ≤ 9223372036854775807 ∧ ((List.length (@catL UInt8 w4_2 v4)) + 1) ≤ 9223372036854775807 ∧ T1 ∧ T1 ∧ tt ∧ T1 ∧ (T1 ∧ True) ∧ ∀ v6 : (List UInt8), let w5_6 := (@catL UInt8 (@catL UInt8 w0_4 v6) [(32 : UInt8)]); (v6 = (digL (IntKind.wrap IntKind.u64 m.s))) → ((List.length w0_4) + (List.length v6)) ≤ 9223372036854775807 ∧ ((List.length (@catL UInt8 w0_4 v6)) + 1) ≤ 9223372036854775807 ∧ T1 ∧ tt ∧ T1 ∧ (@Ne.{1} Int (8 : Int) (0 : Int)) ∧ (T1 ∧ True) ∧ ∀ v8 : (List UInt8), let w1_8 := (@catL UInt8 (@catL UInt8 w5_6 v8) [(46 : UInt8)]); (v8 = (digL (IntKind.wrap IntKind.u64 (Int.tdiv (IntKind.wrap IntKind.u64 m.b) 8)))) → ((List.length w5_6) + (List.length v8)) ≤ 9223372036854775807 ∧ ((List.length (@catL UInt8 w5_6 v8)) + 1) ≤ 9223372036854775807 ∧ T1 ∧ tt ∧ T1 ∧ (@Ne.{1} Int (8 : Int) (0 : Int)) ∧ (T1 ∧ True) ∧ ∀ v10 : (List UInt8), let w3_10 := (@catL UInt8 [(99 : UInt8), 111, 109, 109, 105, 116] (@catL UInt8 w1_8 v10)); (v10 = (digL (Int.tmod (IntKind.wrap IntKind.u64 m.b) 8))) → ((List.length w1_8) + (List.length v10)) ≤ 9223372036854775807 ∧ (6 + (List.length (@catL UInt8 w1_8 v10))) ≤ 9223372036854775807 ∧ T1 ∧ tt ∧ tt ∧ T1 ∧ tt ∧ T1 ∧ T1 ∧ T1 ∧ tt ∧ T1 ∧ T1 ∧ T1 ∧ T1 ∧ tt ∧ T1 ∧ T1 ∧ tt ∧ T1 ∧ ((List.length w3_10) + 5) ≤ 9223372036854775807 ∧ T1 ∧ tt ∧ tt ∧ ((headM (MsgP.mk 5 m.src m.dst m.r m.s m.b m.ok m.x)) = (@catL UInt8 w3_10 [(32 : UInt8), 97, 115, 107, 115]) ∧ True) ∧ tt)) : inHeadI5 m :=
  Eq.mp (show _ = _ by kernel_rfl) h
theorem vcHeadI6 (m : MsgP) (h : (tt ∧ T1 ∧ T1 ∧ tt ∧ T1 ∧ T1 ∧ tt ∧ ((0 : Int) ≤ (6 : Int) ∧ (6 : Int) < (8 : Int) ∧ 7 ≤ 8) ∧ T1 ∧ tt ∧ T1 ∧ T1 ∧ tt ∧ T1 ∧ (T1 ∧ True) ∧ ∀ v0 : (List UInt8), let w2_0 := (@catL UInt8 (@catL UInt8 [(32 : UInt8)] v0) [(62 : UInt8)]); (v0 = (digL (IntKind.wrap IntKind.u64 m.src))) → (1 + (List.length v0)) ≤ 9223372036854775807 ∧ ((List.length (@catL UInt8 [(32 : UInt8)] v0)) + 1) ≤ 9223372036854775807 ∧ T1 ∧ tt ∧ T1 ∧ (T1 ∧ True) ∧ ∀ v2 : (List UInt8), let w4_2 := (@catL UInt8 (@catL UInt8 w2_0 v2) [(32 : UInt8)]); (v2 = (digL (IntKind.wrap IntKind.u64 m.dst))) → ((List.length w2_0) + (List.length v2)) ≤ 9223372036854775807 ∧ ((List.length (@catL UInt8 w2_0 v2)) + 1) ≤ 9223372036854775807 ∧ T1 ∧ T1 ∧ tt ∧ T1 ∧ (T1 ∧ True) ∧ ∀ v4 : (List UInt8), let w0_4 := (@catL UInt8 (@catL UInt8 w4_2 v4) [(46 : UInt8)]); (v4 = (digL (IntKind.wrap IntKind.u64 m.r))) → ((List.length w4_2) + (List.length v4)) ≤ 9223372036854775807 ∧ ((List.length (@catL UInt8 w4_2 v4)) + 1) ≤ 9223372036854775807 ∧ T1 ∧ T1 ∧ tt ∧ T1 ∧ (T1 ∧ True) ∧ ∀ v6 : (List UInt8), let w5_6 := (@catL UInt8 (@catL UInt8 w0_4 v6) [(32 : UInt8)]); (v6 = (digL (IntKind.wrap IntKind.u64 m.s))) → ((List.length w0_4) + (List.length v6)) ≤ 9223372036854775807 ∧ ((List.length (@catL UInt8 w0_4 v6)) + 1) ≤ 9223372036854775807 ∧ T1 ∧ tt ∧ T1 ∧ (@Ne.{1} Int (8 : Int) (0 : Int)) ∧ (T1 ∧ True) ∧ ∀ v8 : (List UInt8), let w1_8 := (@catL UInt8 (@catL UInt8 w5_6 v8) [(46 : UInt8)]); (v8 = (digL (IntKind.wrap IntKind.u64 (Int.tdiv (IntKind.wrap IntKind.u64 m.b) 8)))) → ((List.length w5_6) + (List.length v8)) ≤ 9223372036854775807 ∧ ((List.length (@catL UInt8 w5_6 v8)) + 1) ≤ 9223372036854775807 ∧ T1 ∧ tt ∧ T1 ∧ (@Ne.{1} Int (8 : Int) (0 : Int)) ∧ (T1 ∧ True) ∧ ∀ v10 : (List UInt8), let w3_10 := (@catL UInt8 [(112 : UInt8), 114, 101, 112, 97, 114, 101] (@catL UInt8 w1_8 v10)); (v10 = (digL (Int.tmod (IntKind.wrap IntKind.u64 m.b) 8))) → ((List.length w1_8) + (List.length v10)) ≤ 9223372036854775807 ∧ (7 + (List.length (@catL UInt8 w1_8 v10))) ≤ 9223372036854775807 ∧ T1 ∧ tt ∧ tt ∧ T1 ∧ tt ∧ T1 ∧ T1 ∧ T1 ∧ tt ∧ T1 ∧ T1 ∧ T1 ∧ T1 ∧ tt ∧ T1 ∧ T1 ∧ tt ∧ T1 ∧ ((List.length w3_10) + 5) ≤ 9223372036854775807 ∧ T1 ∧ tt ∧ tt ∧ ((headM (MsgP.mk 6 m.src m.dst m.r m.s m.b m.ok m.x)) = (@catL UInt8 w3_10 [(32 : UInt8), 97, 115, 107, 115]) ∧ True) ∧ tt)) : inHeadI6 m :=
  Eq.mp (show _ = _ by kernel_rfl) h
theorem vcHeadI7 (m : MsgP) (h : let w6_x := (headM (MsgP.mk 7 m.src m.dst m.r m.s m.b m.ok m.x)); (tt ∧ T1 ∧ T1 ∧ tt ∧ T1 ∧ T1 ∧ tt ∧ ((0 : Int) ≤ (7 : Int) ∧ (7 : Int) < (8 : Int) ∧ 8 ≤ 8) ∧ T1 ∧ tt ∧ T1 ∧ T1 ∧ tt ∧ T1 ∧ (T1 ∧ True) ∧ ∀ v0 : (List UInt8), let w3_0 := (@catL UInt8 (@catL UInt8 [(32 : UInt8)] v0) [(62 : UInt8)]); (v0 = (digL (IntKind.wrap IntKind.u64 m.src))) → (1 + (List.length v0)) ≤ 9223372036854775807 ∧ ((List.length (@catL UInt8 [(32 : UInt8)] v0)) + 1) ≤ 9223372036854775807 ∧ T1 ∧ tt ∧ T1 ∧ (T1 ∧ True) ∧ ∀ v2 : (List UInt8), let w2_2 := (@catL UInt8 (@catL UInt8 w3_0 v2) [(32 : UInt8)]); (v2 = (digL (IntKind.wrap IntKind.u64 m.dst))) → ((List.length w3_0) + (List.length v2)) ≤ 9223372036854775807 ∧ ((List.length (@catL UInt8 w3_0 v2)) + 1) ≤ 9223372036854775807 ∧ T1 ∧ T1 ∧ tt ∧ T1 ∧ (T1 ∧ True) ∧ ∀ v4 : (List UInt8), let w4_4 := (@catL UInt8 (@catL UInt8 w2_2 v4) [(46 : UInt8)]); (v4 = (digL (IntKind.wrap IntKind.u64 m.r))) → ((List.length w2_2) + (List.length v4)) ≤ 9223372036854775807 ∧ ((List.length (@catL UInt8 w2_2 v4)) + 1) ≤ 9223372036854775807 ∧ T1 ∧ T1 ∧ tt ∧ T1 ∧ (T1 ∧ True) ∧ ∀ v6 : (List UInt8), let w0_6 := (@catL UInt8 (@catL UInt8 w4_4 v6) [(32 : UInt8)]); (v6 = (digL (IntKind.wrap IntKind.u64 m.s))) → ((List.length w4_4) + (List.length v6)) ≤ 9223372036854775807 ∧ ((List.length (@catL UInt8 w4_4 v6)) + 1) ≤ 9223372036854775807 ∧ T1 ∧ tt ∧ T1 ∧ (@Ne.{1} Int (8 : Int) (0 : Int)) ∧ (T1 ∧ True) ∧ ∀ v8 : (List UInt8), let w5_8 := (@catL UInt8 (@catL UInt8 w0_6 v8) [(46 : UInt8)]); (v8 = (digL (IntKind.wrap IntKind.u64 (Int.tdiv (IntKind.wrap IntKind.u64 m.b) 8)))) → ((List.length w0_6) + (List.length v8)) ≤ 9223372036854775807 ∧ ((List.length (@catL UInt8 w0_6 v8)) + 1) ≤ 9223372036854775807 ∧ T1 ∧ tt ∧ T1 ∧ (@Ne.{1} Int (8 : Int) (0 : Int)) ∧ (T1 ∧ True) ∧ ∀ v10 : (List UInt8), let w1_10 := (@catL UInt8 [(112 : UInt8), 114, 101, 112, 97, 114, 101, 114, 101, 112, 108, 121] (@catL UInt8 w5_8 v10)); (v10 = (digL (Int.tmod (IntKind.wrap IntKind.u64 m.b) 8))) → ((List.length w5_8) + (List.length v10)) ≤ 9223372036854775807 ∧ (12 + (List.length (@catL UInt8 w5_8 v10))) ≤ 9223372036854775807 ∧ T1 ∧ tt ∧ tt ∧ T1 ∧ tt ∧ T1 ∧ T1 ∧ T1 ∧ tt ∧ T1 ∧ T1 ∧ T1 ∧ T1 ∧ tt ∧ T1 ∧ T1 ∧ tt ∧ T1 ∧ tt ∧ (bif m.ok then (tt ∧ T1 ∧ ((List.length w1_10) + 4) ≤ 9223372036854775807 ∧ T1 ∧ tt ∧ tt ∧ (w6_x = (@catL UInt8 w1_10 [(32 : UInt8), 121, 101, 115]) ∧ True) ∧ tt) else (tt ∧ T1 ∧ ((List.length w1_10) + 3) ≤ 9223372036854775807 ∧ T1 ∧ tt ∧ tt ∧ (w6_x = (@catL UInt8 w1_10 [(32 : UInt8), 110, 111]) ∧ True) ∧ tt)))) : inHeadI7 m :=
  Eq.mp (show _ = _ by kernel_rfl) h
end Go.Proofs.YtpomloangafbkaaGreatDoor
/- Messages' texts: the conditions hold. -/
namespace Go.Proofs.YtpomloangafbkaaGreatDoor
set_option linter.unusedVariables false
set_option linter.unusedSimpArgs false
open Go.RowKit
set_option maxRecDepth 100000
theorem okOf110 : OkOf110 := by
  intro m hq
  refine vcOf110 m ?_
  simp only [true_and, and_true, forall_eq, eq_self]
theorem okSmall110 : OkSmall110 := by
  intro m hq
  refine vcSmall110 m ?_
  simp only [true_and, and_true, forall_eq, eq_self]
  refine cond_prop (fun h => ?_) fun h => ?_
  all_goals (unfold smallB; rw [Bool.eq_iff_iff]; simp at h ⊢; omega)
theorem rightM_no {m : MsgP} (h : ¬ (1 ≤ m.k ∧ m.k ≤ 7 ∧ repOK m.src = true ∧ repOK m.dst = true ∧ m.src ≠ m.dst ∧ rightId m.r m.s = true ∧ balOK m.b = true)) : rightM m = false := by
  unfold rightM; rw [if_neg h]
theorem rightM_yes {m : MsgP} (h : 1 ≤ m.k ∧ m.k ≤ 7 ∧ repOK m.src = true ∧ repOK m.dst = true ∧ m.src ≠ m.dst ∧ rightId m.r m.s = true ∧ balOK m.b = true) :
    rightM m = if m.k = 6 then !m.ok && eqI m.x zI else if rightI m.x = true ∧ m.x.r = m.r ∧ m.x.sl = m.s then !asksK m.k || (!m.ok && eqI m.x (valueI m.k m.b m.x)) else false := by
  unfold rightM; rw [if_pos h]
theorem eqI_value (k b : Int) (x : InstP) : eqI x (valueI k b x) = ((x.st == statusK k) && ((x.bal == b) && ((x.vote == b) && !x.same))) := by
  obtain ⟨r, sl, st, bal, vote, same, ⟨k, num, foot, rq, path, mode, n, time⟩, ⟨s, d0, d1, d2, d3, d4, d5, d6⟩⟩ := x
  simp only [eqI, valueI, instL, sameCells, AV.same, beq_self_eq_true, Bool.true_and, Bool.and_true]
  cases same <;> rfl
theorem okRefM0 : OkRefM0 := by
  intro m hq
  refine vcRefM0 m ?_
  simp only [true_and, and_true, forall_eq, eq_self]
  have nk : ∀ r, repOK r = true → 0 ≤ r ∧ r < 7 := fun r h => by simpa [repOK] using h
  have no := @rightM_no m
  refine cond_prop (fun h => no fun g => by have := of_decide_eq_true h; omega) fun h1 => ?_
  refine cond_prop (fun h => no fun g => by have := of_decide_eq_true h; omega) fun h2 => ?_
  refine cond_prop (fun h => no fun g => by have := of_decide_eq_true h; have := nk _ g.2.2.1; omega) fun h3 => ?_
  refine cond_prop (fun h => no fun g => by have := of_decide_eq_true h; have := nk _ g.2.2.1; omega) fun h4 => ?_
  refine cond_prop (fun h => no fun g => by have := of_decide_eq_true h; have := nk _ g.2.2.2.1; omega) fun h5 => ?_
  refine cond_prop (fun h => no fun g => by have := of_decide_eq_true h; have := nk _ g.2.2.2.1; omega) fun h6 => ?_
  refine cond_prop (fun h => no fun g => g.2.2.2.2.1 (by simpa using h)) fun h7 => ?_
  refine cond_prop (fun h => no fun g => by rw [g.2.2.2.2.2.1] at h; cases h) fun h8 => ?_
  refine cond_prop (fun h => no fun g => by rw [g.2.2.2.2.2.2] at h; cases h) fun h9 => ?_
  have b1 := of_decide_eq_false h1
  have b2 := of_decide_eq_false h2
  have b3 := of_decide_eq_false h3
  have b4 := of_decide_eq_false h4
  have b5 := of_decide_eq_false h5
  have b6 := of_decide_eq_false h6
  have hy := rightM_yes (m := m) ⟨by omega, by omega, by simp [repOK]; omega, by simp [repOK]; omega, by simpa using h7, by simpa using h8, by simpa using h9⟩
  refine cond_prop (fun hk => ?_) fun hk => ?_
  · have hk' : m.k = 6 := by simpa using hk
    rw [hy, if_pos hk']
    cases ho : m.ok with
    | true => rfl
    | false => rfl
  · have hk' : m.k ≠ 6 := by simpa using hk
    rw [if_neg hk'] at hy
    refine ⟨hq, cond_prop (fun h => ?_) fun h => cond_prop (fun g => ?_) fun g => ?_⟩
    · rw [hy, if_neg]
      intro g; rw [g.1] at h; cases h
    · rw [hy, if_neg]
      intro g'; rw [g'.2.1, g'.2.2] at g; simp at g
    · rw [if_pos ⟨by simpa using h, by simpa using g⟩, eqI_value] at hy
      refine cond_prop (fun e => ?_) fun e2 => cond_prop (fun e => ?_) fun e4 => cond_prop (fun e => ?_) fun e7 => ?_
      · have : m.k = 2 := by simpa using e
        rw [hy, this]; rfl
      · have : m.k = 4 := by simpa using e
        rw [hy, this]; rfl
      · have : m.k = 7 := by simpa using e
        rw [hy, this]; rfl
      · have e2' : m.k ≠ 2 := by simpa using e2
        have e4' : m.k ≠ 4 := by simpa using e4
        have e7' : m.k ≠ 7 := by simpa using e7
        have h3 : m.k = 1 ∨ m.k = 3 ∨ m.k = 5 := by omega
        refine ⟨⟨by omega, by omega, by omega⟩, ?_⟩
        rw [hy]
        rcases h3 with h3 | h3 | h3
        all_goals
          rw [h3]
          cases m.ok with
          | true => rfl
          | false =>
            refine cond_prop (fun _ => ?_) fun hx => by cases hx
            refine cond_prop (fun c1 => cond_prop (fun c2 => cond_prop (fun c3 => ?_) fun c3 => ?_) fun c2 => ?_) fun c1 => ?_
            · first | (have c1' : (m.x.st == statusK 1) = true := c1; simp only [c1', c2, c3]; rfl) | (have c1' : (m.x.st == statusK 3) = true := c1; simp only [c1', c2, c3]; rfl) | (have c1' : (m.x.st == statusK 5) = true := c1; simp only [c1', c2, c3]; rfl)
            · simp only [c3, Bool.false_and, Bool.and_false]; rfl
            · simp only [c2, Bool.false_and, Bool.and_false]; rfl
            · first | (have c1' : (m.x.st == statusK 1) = false := c1; simp only [c1', Bool.false_and, Bool.and_false]; rfl) | (have c1' : (m.x.st == statusK 3) = false := c1; simp only [c1', Bool.false_and, Bool.and_false]; rfl) | (have c1' : (m.x.st == statusK 5) = false := c1; simp only [c1', Bool.false_and, Bool.and_false]; rfl)
theorem rightM_parts {m : MsgP} (h : rightM m = true) : 1 ≤ m.k ∧ m.k ≤ 7 ∧ repOK m.src = true ∧ repOK m.dst = true ∧ m.src ≠ m.dst ∧ rightId m.r m.s = true ∧ balOK m.b = true ∧ (m.k = 6 → m.ok = false ∧ eqI m.x zI = true) ∧ (m.k ≠ 6 → rightI m.x = true ∧ m.x.r = m.r ∧ m.x.sl = m.s) := by
  unfold rightM at h
  split at h
  · rename_i h0
    obtain ⟨a1, a2, a3, a4, a5, a6, a7⟩ := h0
    refine ⟨a1, a2, a3, a4, a5, a6, a7, fun hk => ?_, fun hk => ?_⟩
    · rw [if_pos hk] at h
      simpa using h
    · rw [if_neg hk] at h
      split at h
      · rename_i h1; exact h1
      · cases h
  · cases h
theorem eqI_zI {x : InstP} (h : eqI x zI = true) : x = zI := by
  obtain ⟨r, sl, st, bal, vote, same, ⟨k, num, foot, rq, path, mode, n, time⟩, ⟨s, d0, d1, d2, d3, d4, d5, d6⟩⟩ := x
  simp [eqI, zI, zC, zA0, instL, sameCells, AV.same] at h ⊢
  obtain ⟨h1, h2, h3, h4, h5, h6, h7, h8, h9, h10, h11, h12, h13, h14, h15⟩ := h
  exact ⟨h1, h2, h3, h4, h5, h6, ⟨h7, h8, h9, h10, h11, h12, h13, h14⟩, h15⟩
theorem okDigits110 : OkDigits110 := by
  intro v hq hv
  refine vcDigits110 v ?_
  simp only [true_and, and_true, forall_eq, eq_self]
  refine ⟨⟨((v, []) : Int × List UInt8), ⟨rfl, rfl⟩, hv.1, Int.le_refl _, by simp⟩, ?_⟩
  rintro ⟨x, l⟩ ⟨p1, p2, p3⟩
  simp only at p1 p2 p3 ⊢
  obtain ⟨s1, s2, s3⟩ := digL_step p1 (by omega)
  have hl := digL_len v hv.2
  rw [p3] at hl
  simp only [List.append_eq, List.length_append] at hl
  rw [s1, s3]
  refine ⟨by decide, s2, by simp; omega, by decide, cond_prop (fun h => ?_) fun h => ?_⟩
  · have h' : x / 10 = 0 := by simpa using h
    have hx : x.toNat < 10 := by omega
    rw [p3]
    have : digL x = [UInt8.ofNat (48 + x.toNat % 10)] := by
      unfold digL
      rw [Lib.decDigits, dif_pos hx, Nat.mod_eq_of_lt hx]
    rw [this]; rfl
  · have h' : x / 10 ≠ 0 := by simpa using h
    have hx : ¬ x.toNat < 10 := by omega
    refine ⟨((x / 10, UInt8.ofNat (48 + x.toNat % 10) :: l) : Int × List UInt8), ⟨rfl, rfl⟩, ⟨by show 0 ≤ x / 10; omega, by show x / 10 ≤ v; omega, ?_⟩, by show (x / 10).toNat < x.toNat; omega⟩
    have : digL x = digL (x / 10) ++ [UInt8.ofNat (48 + x.toNat % 10)] := by
      unfold digL
      rw [Lib.decDigits, dif_neg hx, show (x / 10).toNat = x.toNat / 10 by omega]
    show digL v = digL (x / 10) ++ (UInt8.ofNat (48 + x.toNat % 10) :: l)
    rw [p3, this]
    simp
theorem okWords110 : OkWords110 := by
  intro hq
  refine vcWords110 ?_
  simp only [true_and, and_true, eq_self]
  rfl
theorem find_at (t : List UInt8) (d : Int) : ∀ (ws : List (List UInt8)) (k : Int) (i : Nat), i < ws.length → (∀ j, j < i → ws.getD j [] ≠ t) → ws.getD i [] = t → findW ws t k d = k + i
  | [], k, i, h, _, _ => by simp at h
  | w :: r, k, 0, _, _, e => by
    have e' : w = t := e
    unfold findW; rw [if_pos e']; omega
  | w :: r, k, i + 1, h, g, e => by
    have h0 : w ≠ t := g 0 (by omega)
    unfold findW
    rw [if_neg h0, find_at t d r (k + 1) i (by simpa using h) (fun j hj => g (j + 1) (by omega)) e]
    omega
theorem find_no (t : List UInt8) (d : Int) : ∀ (ws : List (List UInt8)) (k : Int), (∀ j, j < ws.length → ws.getD j [] ≠ t) → findW ws t k d = d
  | [], k, _ => rfl
  | w :: r, k, g => by
    have h0 : w ≠ t := g 0 (by simp)
    unfold findW
    rw [if_neg h0, find_no t d r (k + 1) fun j hj => g (j + 1) (by simpa using hj)]
theorem okMkind0 : OkMkind0 := by
  intro t hq
  refine vcMkind0 t ?_
  simp only [true_and, and_true, forall_eq, eq_self]
  refine ⟨⟨(0 : Nat), ⟨rfl, rfl⟩, by omega, fun j h => by omega⟩, ?_⟩
  rintro i ⟨hi, hg⟩
  refine cond_prop (fun g => ?_) fun g => ?_
  · have hi' : i < wordsM.length := by show i < 8; have := of_decide_eq_true g; omega
    have hi4 : i < 8 := hi'
    have eI : (Int.toNat (i : Int)) = i := by omega
    rw [eI, rdStr_strs hi', wrap_i64 (n := (i : Int) + 1) (by omega) (by omega)]
    refine ⟨⟨by omega, by omega, okElem_strs hi'⟩, okRead_strs hi', cond_prop (fun g2 => ?_) fun g2 => ?_⟩
    · have := find_at t 0 wordsM 0 i hi' hg (beq_iff_eq.1 g2)
      unfold kindM; omega
    · refine ⟨(i + 1 : Nat), rfl, ⟨by omega, fun j hj => ?_⟩, by omega⟩
      by_cases h : j = i
      · subst h
        intro e
        rw [e] at g2; simp at g2
      · exact hg j (by omega)
  · have hi' : i = 8 := by have := of_decide_eq_false g; omega
    subst hi'
    exact find_no t 0 wordsM 0 hg
theorem okSaid0 : OkSaid0 := by
  intro m hq
  refine vcSaid0 m ?_
  simp only [true_and, and_true, forall_eq, eq_self]
  refine cond_prop (fun h => ?_) fun h => cond_prop (fun g => ?_) fun g => cond_prop (fun o => ?_) fun o => ?_
  · unfold saidN; rw [if_pos (.inl h)]
  · unfold saidN; rw [if_pos (.inr (by simpa using g))]
  · unfold saidN; rw [if_neg (by rw [h]; simpa using g), if_pos o]
  · unfold saidN; rw [if_neg (by rw [h]; simpa using g), if_neg (by rw [o]; simp)]
theorem rep_range {r : Int} (h : repOK r = true) : 0 ≤ r ∧ r < 7 := by simpa [repOK] using h
set_option maxHeartbeats 1000000 in
theorem headI1 (m : MsgP) (hq : rightM { m with k := 1 } = true) (hb : 0 ≤ m.b ∧ m.b ≤ 4294967295) : inHeadI1 m := by
  refine vcHeadI1 m ?_
  obtain ⟨_, _, a3, a4, _, a6, _⟩ := rightM_parts hq
  have r1 : 0 ≤ m.src ∧ m.src < 7 := rep_range a3
  have r2 : 0 ≤ m.dst ∧ m.dst < 7 := rep_range a4
  obtain ⟨s0, s1, s2, s3⟩ := rightId_facts a6
  have s0 : 0 ≤ m.r := s0
  have s1 : m.r ≤ 6 := s1
  have s2 : 0 ≤ m.s := s2
  have s3 : m.s < 1024 := s3
  have wb : IntKind.u64.wrap m.b = m.b := wrap_u64 hb.1 (by omega)
  have e1 : m.b.tdiv 8 = m.b / 8 := Int.tdiv_eq_ediv_of_nonneg hb.1
  have e2 : m.b.tmod 8 = m.b % 8 := Int.tmod_eq_emod_of_nonneg hb.1
  have w8 : IntKind.u64.wrap (m.b / 8) = m.b / 8 := wrap_u64 (by omega) (by omega)
  have i1 := digL_len m.src (by omega)
  have i2 := digL_len m.dst (by omega)
  have i3 := digL_len m.r (by omega)
  have i4 := digL_len m.s (by omega)
  have i5 := digL_len (m.b / 8) (by omega)
  have i6 := digL_len (m.b % 8) (by omega)
  have x1 : IntKind.u64.wrap m.src = m.src := wrap_u64 (by omega) (by omega)
  have x2 : IntKind.u64.wrap m.dst = m.dst := wrap_u64 (by omega) (by omega)
  have x3 : IntKind.u64.wrap m.r = m.r := wrap_u64 (by omega) (by omega)
  have x4 : IntKind.u64.wrap m.s = m.s := wrap_u64 (by omega) (by omega)
  simp only [true_and, and_true, forall_eq, eq_self, wb, e1, e2, w8, x1, x2, x3, x4, catL_length, List.length_cons, List.length_nil]
  have k1 : ∀ ok, saidN 1 ok = [97, 115, 107, 115] := by decide
  and_intros
  all_goals first | omega | decide | skip
  simp [headM, wordM, wordsM, k1, balT, pair6, catL, List.append_assoc]
set_option maxHeartbeats 1000000 in
theorem headI2 (m : MsgP) (hq : rightM { m with k := 2 } = true) (hb : 0 ≤ m.b ∧ m.b ≤ 4294967295) : inHeadI2 m := by
  refine vcHeadI2 m ?_
  obtain ⟨_, _, a3, a4, _, a6, _⟩ := rightM_parts hq
  have r1 : 0 ≤ m.src ∧ m.src < 7 := rep_range a3
  have r2 : 0 ≤ m.dst ∧ m.dst < 7 := rep_range a4
  obtain ⟨s0, s1, s2, s3⟩ := rightId_facts a6
  have s0 : 0 ≤ m.r := s0
  have s1 : m.r ≤ 6 := s1
  have s2 : 0 ≤ m.s := s2
  have s3 : m.s < 1024 := s3
  have wb : IntKind.u64.wrap m.b = m.b := wrap_u64 hb.1 (by omega)
  have e1 : m.b.tdiv 8 = m.b / 8 := Int.tdiv_eq_ediv_of_nonneg hb.1
  have e2 : m.b.tmod 8 = m.b % 8 := Int.tmod_eq_emod_of_nonneg hb.1
  have w8 : IntKind.u64.wrap (m.b / 8) = m.b / 8 := wrap_u64 (by omega) (by omega)
  have i1 := digL_len m.src (by omega)
  have i2 := digL_len m.dst (by omega)
  have i3 := digL_len m.r (by omega)
  have i4 := digL_len m.s (by omega)
  have i5 := digL_len (m.b / 8) (by omega)
  have i6 := digL_len (m.b % 8) (by omega)
  have x1 : IntKind.u64.wrap m.src = m.src := wrap_u64 (by omega) (by omega)
  have x2 : IntKind.u64.wrap m.dst = m.dst := wrap_u64 (by omega) (by omega)
  have x3 : IntKind.u64.wrap m.r = m.r := wrap_u64 (by omega) (by omega)
  have x4 : IntKind.u64.wrap m.s = m.s := wrap_u64 (by omega) (by omega)
  simp only [true_and, and_true, forall_eq, eq_self, wb, e1, e2, w8, x1, x2, x3, x4, catL_length, List.length_cons, List.length_nil]
  have fin : ∀ b, m.ok = b → headM (MsgP.mk 2 m.src m.dst m.r m.s m.b m.ok m.x) = headM (MsgP.mk 2 m.src m.dst m.r m.s m.b b m.x) := fun b h => by rw [h]
  have k1 : saidN 2 true = [121, 101, 115] := by decide
  have k2 : saidN 2 false = [110, 111] := by decide
  and_intros
  all_goals first | omega | decide | skip
  refine cond_prop (fun h => ⟨by omega, ?_⟩) fun h => ⟨by omega, ?_⟩
  all_goals
    rw [fin _ h]
    simp [headM, wordM, wordsM, k1, k2, balT, pair6, catL, List.append_assoc]
set_option maxHeartbeats 1000000 in
theorem headI3 (m : MsgP) (hq : rightM { m with k := 3 } = true) (hb : 0 ≤ m.b ∧ m.b ≤ 4294967295) : inHeadI3 m := by
  refine vcHeadI3 m ?_
  obtain ⟨_, _, a3, a4, _, a6, _⟩ := rightM_parts hq
  have r1 : 0 ≤ m.src ∧ m.src < 7 := rep_range a3
  have r2 : 0 ≤ m.dst ∧ m.dst < 7 := rep_range a4
  obtain ⟨s0, s1, s2, s3⟩ := rightId_facts a6
  have s0 : 0 ≤ m.r := s0
  have s1 : m.r ≤ 6 := s1
  have s2 : 0 ≤ m.s := s2
  have s3 : m.s < 1024 := s3
  have wb : IntKind.u64.wrap m.b = m.b := wrap_u64 hb.1 (by omega)
  have e1 : m.b.tdiv 8 = m.b / 8 := Int.tdiv_eq_ediv_of_nonneg hb.1
  have e2 : m.b.tmod 8 = m.b % 8 := Int.tmod_eq_emod_of_nonneg hb.1
  have w8 : IntKind.u64.wrap (m.b / 8) = m.b / 8 := wrap_u64 (by omega) (by omega)
  have i1 := digL_len m.src (by omega)
  have i2 := digL_len m.dst (by omega)
  have i3 := digL_len m.r (by omega)
  have i4 := digL_len m.s (by omega)
  have i5 := digL_len (m.b / 8) (by omega)
  have i6 := digL_len (m.b % 8) (by omega)
  have x1 : IntKind.u64.wrap m.src = m.src := wrap_u64 (by omega) (by omega)
  have x2 : IntKind.u64.wrap m.dst = m.dst := wrap_u64 (by omega) (by omega)
  have x3 : IntKind.u64.wrap m.r = m.r := wrap_u64 (by omega) (by omega)
  have x4 : IntKind.u64.wrap m.s = m.s := wrap_u64 (by omega) (by omega)
  simp only [true_and, and_true, forall_eq, eq_self, wb, e1, e2, w8, x1, x2, x3, x4, catL_length, List.length_cons, List.length_nil]
  have k1 : ∀ ok, saidN 3 ok = [97, 115, 107, 115] := by decide
  and_intros
  all_goals first | omega | decide | skip
  simp [headM, wordM, wordsM, k1, balT, pair6, catL, List.append_assoc]
set_option maxHeartbeats 1000000 in
theorem headI4 (m : MsgP) (hq : rightM { m with k := 4 } = true) (hb : 0 ≤ m.b ∧ m.b ≤ 4294967295) : inHeadI4 m := by
  refine vcHeadI4 m ?_
  obtain ⟨_, _, a3, a4, _, a6, _⟩ := rightM_parts hq
  have r1 : 0 ≤ m.src ∧ m.src < 7 := rep_range a3
  have r2 : 0 ≤ m.dst ∧ m.dst < 7 := rep_range a4
  obtain ⟨s0, s1, s2, s3⟩ := rightId_facts a6
  have s0 : 0 ≤ m.r := s0
  have s1 : m.r ≤ 6 := s1
  have s2 : 0 ≤ m.s := s2
  have s3 : m.s < 1024 := s3
  have wb : IntKind.u64.wrap m.b = m.b := wrap_u64 hb.1 (by omega)
  have e1 : m.b.tdiv 8 = m.b / 8 := Int.tdiv_eq_ediv_of_nonneg hb.1
  have e2 : m.b.tmod 8 = m.b % 8 := Int.tmod_eq_emod_of_nonneg hb.1
  have w8 : IntKind.u64.wrap (m.b / 8) = m.b / 8 := wrap_u64 (by omega) (by omega)
  have i1 := digL_len m.src (by omega)
  have i2 := digL_len m.dst (by omega)
  have i3 := digL_len m.r (by omega)
  have i4 := digL_len m.s (by omega)
  have i5 := digL_len (m.b / 8) (by omega)
  have i6 := digL_len (m.b % 8) (by omega)
  have x1 : IntKind.u64.wrap m.src = m.src := wrap_u64 (by omega) (by omega)
  have x2 : IntKind.u64.wrap m.dst = m.dst := wrap_u64 (by omega) (by omega)
  have x3 : IntKind.u64.wrap m.r = m.r := wrap_u64 (by omega) (by omega)
  have x4 : IntKind.u64.wrap m.s = m.s := wrap_u64 (by omega) (by omega)
  simp only [true_and, and_true, forall_eq, eq_self, wb, e1, e2, w8, x1, x2, x3, x4, catL_length, List.length_cons, List.length_nil]
  have fin : ∀ b, m.ok = b → headM (MsgP.mk 4 m.src m.dst m.r m.s m.b m.ok m.x) = headM (MsgP.mk 4 m.src m.dst m.r m.s m.b b m.x) := fun b h => by rw [h]
  have k1 : saidN 4 true = [121, 101, 115] := by decide
  have k2 : saidN 4 false = [110, 111] := by decide
  and_intros
  all_goals first | omega | decide | skip
  refine cond_prop (fun h => ⟨by omega, ?_⟩) fun h => ⟨by omega, ?_⟩
  all_goals
    rw [fin _ h]
    simp [headM, wordM, wordsM, k1, k2, balT, pair6, catL, List.append_assoc]
set_option maxHeartbeats 1000000 in
theorem headI5 (m : MsgP) (hq : rightM { m with k := 5 } = true) (hb : 0 ≤ m.b ∧ m.b ≤ 4294967295) : inHeadI5 m := by
  refine vcHeadI5 m ?_
  obtain ⟨_, _, a3, a4, _, a6, _⟩ := rightM_parts hq
  have r1 : 0 ≤ m.src ∧ m.src < 7 := rep_range a3
  have r2 : 0 ≤ m.dst ∧ m.dst < 7 := rep_range a4
  obtain ⟨s0, s1, s2, s3⟩ := rightId_facts a6
  have s0 : 0 ≤ m.r := s0
  have s1 : m.r ≤ 6 := s1
  have s2 : 0 ≤ m.s := s2
  have s3 : m.s < 1024 := s3
  have wb : IntKind.u64.wrap m.b = m.b := wrap_u64 hb.1 (by omega)
  have e1 : m.b.tdiv 8 = m.b / 8 := Int.tdiv_eq_ediv_of_nonneg hb.1
  have e2 : m.b.tmod 8 = m.b % 8 := Int.tmod_eq_emod_of_nonneg hb.1
  have w8 : IntKind.u64.wrap (m.b / 8) = m.b / 8 := wrap_u64 (by omega) (by omega)
  have i1 := digL_len m.src (by omega)
  have i2 := digL_len m.dst (by omega)
  have i3 := digL_len m.r (by omega)
  have i4 := digL_len m.s (by omega)
  have i5 := digL_len (m.b / 8) (by omega)
  have i6 := digL_len (m.b % 8) (by omega)
  have x1 : IntKind.u64.wrap m.src = m.src := wrap_u64 (by omega) (by omega)
  have x2 : IntKind.u64.wrap m.dst = m.dst := wrap_u64 (by omega) (by omega)
  have x3 : IntKind.u64.wrap m.r = m.r := wrap_u64 (by omega) (by omega)
  have x4 : IntKind.u64.wrap m.s = m.s := wrap_u64 (by omega) (by omega)
  simp only [true_and, and_true, forall_eq, eq_self, wb, e1, e2, w8, x1, x2, x3, x4, catL_length, List.length_cons, List.length_nil]
  have k1 : ∀ ok, saidN 5 ok = [97, 115, 107, 115] := by decide
  and_intros
  all_goals first | omega | decide | skip
  simp [headM, wordM, wordsM, k1, balT, pair6, catL, List.append_assoc]
set_option maxHeartbeats 1000000 in
theorem headI6 (m : MsgP) (hq : rightM { m with k := 6 } = true) (hb : 0 ≤ m.b ∧ m.b ≤ 4294967295) : inHeadI6 m := by
  refine vcHeadI6 m ?_
  obtain ⟨_, _, a3, a4, _, a6, _⟩ := rightM_parts hq
  have r1 : 0 ≤ m.src ∧ m.src < 7 := rep_range a3
  have r2 : 0 ≤ m.dst ∧ m.dst < 7 := rep_range a4
  obtain ⟨s0, s1, s2, s3⟩ := rightId_facts a6
  have s0 : 0 ≤ m.r := s0
  have s1 : m.r ≤ 6 := s1
  have s2 : 0 ≤ m.s := s2
  have s3 : m.s < 1024 := s3
  have wb : IntKind.u64.wrap m.b = m.b := wrap_u64 hb.1 (by omega)
  have e1 : m.b.tdiv 8 = m.b / 8 := Int.tdiv_eq_ediv_of_nonneg hb.1
  have e2 : m.b.tmod 8 = m.b % 8 := Int.tmod_eq_emod_of_nonneg hb.1
  have w8 : IntKind.u64.wrap (m.b / 8) = m.b / 8 := wrap_u64 (by omega) (by omega)
  have i1 := digL_len m.src (by omega)
  have i2 := digL_len m.dst (by omega)
  have i3 := digL_len m.r (by omega)
  have i4 := digL_len m.s (by omega)
  have i5 := digL_len (m.b / 8) (by omega)
  have i6 := digL_len (m.b % 8) (by omega)
  have x1 : IntKind.u64.wrap m.src = m.src := wrap_u64 (by omega) (by omega)
  have x2 : IntKind.u64.wrap m.dst = m.dst := wrap_u64 (by omega) (by omega)
  have x3 : IntKind.u64.wrap m.r = m.r := wrap_u64 (by omega) (by omega)
  have x4 : IntKind.u64.wrap m.s = m.s := wrap_u64 (by omega) (by omega)
  simp only [true_and, and_true, forall_eq, eq_self, wb, e1, e2, w8, x1, x2, x3, x4, catL_length, List.length_cons, List.length_nil]
  have k1 : ∀ ok, saidN 6 ok = [97, 115, 107, 115] := by decide
  and_intros
  all_goals first | omega | decide | skip
  simp [headM, wordM, wordsM, k1, balT, pair6, catL, List.append_assoc]
set_option maxHeartbeats 1000000 in
theorem headI7 (m : MsgP) (hq : rightM { m with k := 7 } = true) (hb : 0 ≤ m.b ∧ m.b ≤ 4294967295) : inHeadI7 m := by
  refine vcHeadI7 m ?_
  obtain ⟨_, _, a3, a4, _, a6, _⟩ := rightM_parts hq
  have r1 : 0 ≤ m.src ∧ m.src < 7 := rep_range a3
  have r2 : 0 ≤ m.dst ∧ m.dst < 7 := rep_range a4
  obtain ⟨s0, s1, s2, s3⟩ := rightId_facts a6
  have s0 : 0 ≤ m.r := s0
  have s1 : m.r ≤ 6 := s1
  have s2 : 0 ≤ m.s := s2
  have s3 : m.s < 1024 := s3
  have wb : IntKind.u64.wrap m.b = m.b := wrap_u64 hb.1 (by omega)
  have e1 : m.b.tdiv 8 = m.b / 8 := Int.tdiv_eq_ediv_of_nonneg hb.1
  have e2 : m.b.tmod 8 = m.b % 8 := Int.tmod_eq_emod_of_nonneg hb.1
  have w8 : IntKind.u64.wrap (m.b / 8) = m.b / 8 := wrap_u64 (by omega) (by omega)
  have i1 := digL_len m.src (by omega)
  have i2 := digL_len m.dst (by omega)
  have i3 := digL_len m.r (by omega)
  have i4 := digL_len m.s (by omega)
  have i5 := digL_len (m.b / 8) (by omega)
  have i6 := digL_len (m.b % 8) (by omega)
  have x1 : IntKind.u64.wrap m.src = m.src := wrap_u64 (by omega) (by omega)
  have x2 : IntKind.u64.wrap m.dst = m.dst := wrap_u64 (by omega) (by omega)
  have x3 : IntKind.u64.wrap m.r = m.r := wrap_u64 (by omega) (by omega)
  have x4 : IntKind.u64.wrap m.s = m.s := wrap_u64 (by omega) (by omega)
  simp only [true_and, and_true, forall_eq, eq_self, wb, e1, e2, w8, x1, x2, x3, x4, catL_length, List.length_cons, List.length_nil]
  have fin : ∀ b, m.ok = b → headM (MsgP.mk 7 m.src m.dst m.r m.s m.b m.ok m.x) = headM (MsgP.mk 7 m.src m.dst m.r m.s m.b b m.x) := fun b h => by rw [h]
  have k1 : saidN 7 true = [121, 101, 115] := by decide
  have k2 : saidN 7 false = [110, 111] := by decide
  and_intros
  all_goals first | omega | decide | skip
  refine cond_prop (fun h => ⟨by omega, ?_⟩) fun h => ⟨by omega, ?_⟩
  all_goals
    rw [fin _ h]
    simp [headM, wordM, wordsM, k1, k2, balT, pair6, catL, List.append_assoc]
theorem okHead110 : OkHead110 := by
  intro m hq hb
  obtain ⟨a1, a2, _⟩ := rightM_parts hq
  have hc : m.k = 1 ∨ m.k = 2 ∨ m.k = 3 ∨ m.k = 4 ∨ m.k = 5 ∨ m.k = 6 ∨ m.k = 7 := by omega
  obtain ⟨k, src, dst, r, s, b, ok, x⟩ := m
  simp only at hc
  rcases hc with rfl | rfl | rfl | rfl | rfl | rfl | rfl
  · exact headI1 ⟨1, src, dst, r, s, b, ok, x⟩ hq hb
  · exact headI2 ⟨2, src, dst, r, s, b, ok, x⟩ hq hb
  · exact headI3 ⟨3, src, dst, r, s, b, ok, x⟩ hq hb
  · exact headI4 ⟨4, src, dst, r, s, b, ok, x⟩ hq hb
  · exact headI5 ⟨5, src, dst, r, s, b, ok, x⟩ hq hb
  · exact headI6 ⟨6, src, dst, r, s, b, ok, x⟩ hq hb
  · exact headI7 ⟨7, src, dst, r, s, b, ok, x⟩ hq hb
theorem mparts_no {m : MsgP} (h : m.k = 6) : partsM m = [wordM m.k, fromTo m.src m.dst, idShowV m.r m.s, balShowV m.b, saidN m.k m.ok] := by unfold partsM restM; rw [if_pos h]
theorem mparts_yes {m : MsgP} (h : m.k ≠ 6) : partsM m = [wordM m.k, fromTo m.src m.dst, idShowV m.r m.s, balShowV m.b, saidN m.k m.ok, ishowV m.x] := by unfold partsM restM; rw [if_neg h]
theorem wordM_len (k : Int) : (wordM k).length ≤ 12 := by
  unfold wordM
  generalize k.toNat = n
  match n with
  | 0 => decide
  | 1 => decide
  | 2 => decide
  | 3 => decide
  | 4 => decide
  | 5 => decide
  | 6 => decide
  | 7 => decide
  | n + 8 => simp [wordsM]
theorem saidN_len (k : Int) (ok : Bool) : (saidN k ok).length ≤ 4 := by
  unfold saidN
  split
  · decide
  · split <;> decide
theorem fromTo_dig {a b : Int} (ha : 0 ≤ a) (hb : 0 ≤ b) : fromTo a b = digL a ++ 62 :: digL b := by
  unfold fromTo; rw [itoa_dig ha, itoa_dig hb]; simp [catL]
theorem show_idM {r n : Int} (h : rightId r n = true) : idShowV r n = pair6 r n ∧ (idShowV r n).length ≤ 100 := by
  obtain ⟨r0, r1, r2, r3⟩ := rightId_facts h
  have e : idShowV r n = pairL r n := by unfold idShowV; rw [if_pos h]
  rw [e]
  exact ⟨pair_dig r0 r2, pair_len r0 r2 (by omega) (by omega)⟩
theorem mparts_len {m : MsgP} (h : rightM m = true) (hb : rangeM m) : ∀ y ∈ partsM m, y.length ≤ 7100 := by
  obtain ⟨a1, a2, a3, a4, a5, a6, a7, a8, a9⟩ := rightM_parts h
  have r1 := rep_range a3
  have r2 := rep_range a4
  have i1 := (show_idM a6).2
  have i2 := (show_bal hb.1.1 hb.1.2 a7).2
  have i3 := wordM_len m.k
  have i4 := saidN_len m.k m.ok
  have i5 : (fromTo m.src m.dst).length ≤ 50 := by
    rw [fromTo_dig r1.1 r2.1]
    have := digL_len m.src (by omega)
    have := digL_len m.dst (by omega)
    simp; omega
  by_cases h0 : m.k = 6
  · rw [mparts_no h0]
    intro y hy
    simp only [List.mem_cons, List.not_mem_nil, or_false] at hy
    rcases hy with rfl | rfl | rfl | rfl | rfl <;> omega
  · rw [mparts_yes h0]
    have i6 := ishow_len (a9 h0).1 hb.2
    intro y hy
    simp only [List.mem_cons, List.not_mem_nil, or_false] at hy
    rcases hy with rfl | rfl | rfl | rfl | rfl | rfl <;> omega
theorem mparts_join {m : MsgP} (h : rightM m = true) (hb : rangeM m) : (Lib.join (partsM m) [32]).length ≤ 50000 := by
  have h1 := join_lens 32 7100 (wordM m.k) (fromTo m.src m.dst :: idShowV m.r m.s :: balShowV m.b :: saidN m.k m.ok :: restM m) (mparts_len h hb)
  have h2 : (restM m).length ≤ 1 := by unfold restM; split <;> simp
  have h3 : (7100 + 1) * ((fromTo m.src m.dst :: idShowV m.r m.s :: balShowV m.b :: saidN m.k m.ok :: restM m).length + 1) ≤ 7101 * 6 := Nat.mul_le_mul_left _ (by simp; omega)
  show (Lib.join (wordM m.k :: fromTo m.src m.dst :: idShowV m.r m.s :: balShowV m.b :: saidN m.k m.ok :: restM m) [32]).length ≤ 50000
  omega
theorem okMshow0 : OkMshow0 := by
  intro m hq hb
  refine vcMshow0 m ?_
  simp only [true_and, and_true, forall_eq, eq_self]
  refine ⟨hq, cond_prop (fun h => ?_) fun h => ?_⟩
  · have h' : rightM m = false := by simpa using h
    simp [mshowV, mshowE, h']
  · have h' : rightM m = true := by simpa using h
    obtain ⟨a1, a2, a3, a4, a5, a6, a7, a8, a9⟩ := rightM_parts h'
    have r1 := rep_range a3
    have r2 := rep_range a4
    have j1 := itoa_len m.src (by omega) (by omega)
    have j2 := itoa_len m.dst (by omega) (by omega)
    have hi : m.k.toNat < wordsM.length := by show _ < 8; omega
    have hj := mparts_join h' hb
    have e1 : mshowV m = Lib.join (partsM m) [32] := by unfold mshowV; rw [if_pos h']
    have e2 : mshowE m = 0 := by unfold mshowE; rw [if_pos h']
    have ew : wordsM.getD m.k.toNat [] = wordM m.k := rfl
    have e4 : wordsM.length = 8 := rfl
    have ef : catL (catL (Lib.itoa m.src) [62]) (Lib.itoa m.dst) = fromTo m.src m.dst := rfl
    have hc : (catL (Lib.itoa m.src) [62]).length ≤ 30 := by simp [catL]; omega
    rw [rdStr_strs hi, ew, length_strsAV, e1, e2, e4, ef]
    refine ⟨⟨by omega, by omega, okElem_strs hi⟩, okRead_strs hi, by omega, by omega, cond_prop (fun g => ?_) fun g => ?_⟩
    · have g' : m.k ≠ 6 := by simpa using g
      rw [mparts_yes g'] at hj ⊢
      have e3 : catL ([AV.str (wordM m.k), AV.str (fromTo m.src m.dst), AV.str (idShowV m.r m.s), AV.str (balShowV m.b), AV.str (saidN m.k m.ok)] : List AV) [AV.str (ishowV m.x)] = strsAV [wordM m.k, fromTo m.src m.dst, idShowV m.r m.s, balShowV m.b, saidN m.k m.ok, ishowV m.x] := rfl
      rw [e3, strsL_strsAV]
      exact ⟨hq, ⟨by omega, by omega, okWidth_strs [_, _, _, _, _], okWidth_strs [_]⟩, ⟨isStrs_strsAV _, by omega, by rw [length_strsAV]; simp⟩, rfl, rfl⟩
    · have g' : m.k = 6 := by simpa using g
      rw [mparts_no g'] at hj ⊢
      have e3 : ([AV.str (wordM m.k), AV.str (fromTo m.src m.dst), AV.str (idShowV m.r m.s), AV.str (balShowV m.b), AV.str (saidN m.k m.ok)] : List AV) = strsAV [wordM m.k, fromTo m.src m.dst, idShowV m.r m.s, balShowV m.b, saidN m.k m.ok] := rfl
      rw [e3, strsL_strsAV]
      exact ⟨⟨isStrs_strsAV _, by omega, by omega⟩, rfl, rfl⟩
end Go.Proofs.YtpomloangafbkaaGreatDoor
/- The contracts are met. -/
namespace Go.Proofs.YtpomloangafbkaaGreatDoor
set_option linter.unusedVariables false
set_option linter.unusedSimpArgs false
open Go.RowKit
theorem sndOf11 : Sound Tryz.prog (lookΓ gamOf11) := sound_of _ fun p hp => by
  simp [gamOf11] at hp
set_option maxHeartbeats 4000000 in
theorem meetsOf11 : Meets Tryz.prog 18 of11F := by
  refine meets_of_awp (Γ := lookΓ gamOf11) (L := fun _ _ => none) sndOf11 mixedOrders Tryz.func18 rfl Tryz.call18 ?_
  intro args q r hF hq ho
  unfold of11F at hF
  split at hF
  · split at hF
    · rename_i m hzm
      obtain rfl := msgOf_some hzm
      cases hF
      exact ⟨by simp only [List.length_cons, List.length_nil]; decide, okOf110 _ hq⟩
    · cases hF
  · cases hF
theorem sndSmall11 : Sound Tryz.prog (lookΓ gamSmall11) := sound_of _ fun p hp => by
  simp [gamSmall11] at hp
set_option maxHeartbeats 4000000 in
theorem meetsSmall11 : Meets Tryz.prog 16 small11F := by
  refine meets_of_awp (Γ := lookΓ gamSmall11) (L := fun _ _ => none) sndSmall11 mixedOrders Tryz.func16 rfl Tryz.call16 ?_
  intro args q r hF hq ho
  unfold small11F at hF
  split at hF
  · split at hF
    · rename_i m hzm
      obtain rfl := msgOf_some hzm
      cases hF
      exact ⟨by simp only [List.length_cons, List.length_nil]; decide, okSmall110 _ hq⟩
    · cases hF
  · cases hF
theorem sndRefM : Sound Tryz.prog (lookΓ gamRefM) := sound_of _ fun p hp => by
  simp only [gamRefM, List.mem_cons, List.not_mem_nil, or_false] at hp
  rcases hp with rfl | rfl | rfl
  · exact meetsRefIdRight.orNil
  · exact meetsRefBal.orNil
  · exact meetsXright.orNil
set_option maxHeartbeats 4000000 in
theorem meetsRefM : Meets Tryz.prog 19 refMF := by
  refine meets_of_awp (Γ := lookΓ gamRefM) (L := fun _ _ => none) sndRefM mixedOrders Tryz.func19 rfl Tryz.call19 ?_
  intro args q r hF hq ho
  unfold refMF at hF
  split at hF
  · split at hF
    · rename_i m hzm
      obtain rfl := msgOf_some hzm
      cases hF
      exact ⟨by simp only [List.length_cons, List.length_nil]; decide, okRefM0 _ hq⟩
    · cases hF
  · cases hF
theorem sndWords11 : Sound Tryz.prog (lookΓ gamWords11) := sound_of _ fun p hp => by
  simp [gamWords11] at hp
set_option maxHeartbeats 4000000 in
theorem meetsWords11 : Meets Tryz.prog 49 words11F := by
  refine meets_of_awp (Γ := lookΓ gamWords11) (L := fun _ _ => none) sndWords11 mixedOrders Tryz.func49 rfl Tryz.call49 ?_
  intro args q r hF hq ho
  unfold words11F at hF
  split at hF
  · cases hF
    exact ⟨by simp only [List.length_cons, List.length_nil]; decide, okWords110 hq⟩
  · cases hF
theorem sndMkind : Sound Tryz.prog (lookΓ gamMkind) := sound_of _ fun p hp => by
  simp only [gamMkind, List.mem_cons, List.not_mem_nil, or_false] at hp
  subst hp
  exact meetsWords11.orNil
set_option maxHeartbeats 4000000 in
theorem meetsMkind : Meets Tryz.prog 53 mkindF := by
  refine meets_of_awp (Γ := lookΓ gamMkind) (L := fun args => match args with | [.val (.str t)] => lpMkind0 t | _ => fun _ => none) sndMkind mixedOrders Tryz.func53 rfl Tryz.call53 ?_
  intro args q r hF hq ho
  unfold mkindF at hF
  split at hF
  · cases hF
    exact ⟨by simp only [List.length_cons, List.length_nil]; decide, okMkind0 _ hq⟩
  · cases hF
theorem sndSaid : Sound Tryz.prog (lookΓ gamSaid) := sound_of _ fun p hp => by
  simp only [gamSaid, List.mem_cons, List.not_mem_nil, or_false] at hp
  subst hp
  exact meetsAsks.orNil
set_option maxHeartbeats 4000000 in
theorem meetsSaid : Meets Tryz.prog 51 saidF := by
  refine meets_of_awp (Γ := lookΓ gamSaid) (L := fun _ _ => none) sndSaid mixedOrders Tryz.func51 rfl Tryz.call51 ?_
  intro args q r hF hq ho
  unfold saidF at hF
  split at hF
  · split at hF
    · rename_i m hzm
      obtain rfl := msgOf_some hzm
      cases hF
      exact ⟨by simp only [List.length_cons, List.length_nil]; decide, okSaid0 _ hq⟩
    · cases hF
  · cases hF
theorem sndDigits11 : Sound Tryz.prog (lookΓ gamDigits11) := sound_of _ fun p hp => by
  simp [gamDigits11] at hp
set_option maxHeartbeats 4000000 in
theorem meetsDigits11 : Meets Tryz.prog 52 digits11F := by
  refine meets_of_awp (Γ := lookΓ gamDigits11) (L := fun args => match args with | [.val (.int .u64 v)] => lpDigits110 v | _ => fun _ => none) sndDigits11 mixedOrders Tryz.func52 rfl Tryz.call52 ?_
  intro args q r hF hq ho
  unfold digits11F at hF
  split at hF
  · cases hF
    exact ⟨by simp only [List.length_cons, List.length_nil]; decide, okDigits110 _ hq (okay_u64 (argI 0 ho rfl rfl))⟩
  · cases hF
theorem sndHead11 : Sound Tryz.prog (lookΓ gamHead11) := sound_of _ fun p hp => by
  simp only [gamHead11, List.mem_cons, List.not_mem_nil, or_false] at hp
  subst hp
  exact meetsDigits11.orNil
set_option maxHeartbeats 4000000 in
theorem meetsHead11 : Meets Tryz.prog 20 head11F := by
  refine meets_of_awp (Γ := lookΓ gamHead11) (L := fun _ _ => none) sndHead11 mixedOrders Tryz.func20 rfl Tryz.call20 ?_
  intro args q r hF hq ho
  unfold head11F at hF
  split at hF
  · split at hF
    · rename_i m hzm
      obtain rfl := msgOf_some hzm
      cases hF
      exact ⟨by simp only [List.length_cons, List.length_nil]; decide, okHead110 _ hq (okay_u32 (argA 0 5 ho rfl rfl))⟩
    · cases hF
  · cases hF
theorem sndMshow : Sound Tryz.prog (lookΓ gamMshow) := sound_of _ fun p hp => by
  simp only [gamMshow, List.mem_cons, List.not_mem_nil, or_false] at hp
  rcases hp with rfl | rfl | rfl | rfl | rfl | rfl | rfl | rfl
  · exact meetsMright.orNil
  · exact meetsIdShow.orNil
  · exact meetsBalShow.orNil
  · exact meetsWords11.orNil
  · exact meetsItoa.orNil
  · exact meetsSaid.orNil
  · exact meetsIshow.orNil
  · exact meetsJoinS.orNil
set_option maxHeartbeats 4000000 in
theorem meetsMshow : Meets Tryz.prog 17 mshowF := by
  refine meets_of_awp (Γ := lookΓ gamMshow) (L := fun _ _ => none) sndMshow mixedOrders Tryz.func17 rfl Tryz.call17 ?_
  intro args q r hF hq ho
  unfold mshowF at hF
  split at hF
  · split at hF
    · rename_i m hzm
      obtain rfl := msgOf_some hzm
      cases hF
      exact ⟨by simp only [List.length_cons, List.length_nil]; decide, okMshow0 _ hq (⟨okay_u32 (argA 0 5 ho rfl rfl), okay_u32 (argA 0 10 ho rfl rfl), okay_u32 (argA 0 11 ho rfl rfl), okay_u64 (argA 0 14 ho rfl rfl), okay_u64 (argA 0 16 ho rfl rfl), okay_u64 (argA 0 19 ho rfl rfl)⟩)⟩
    · cases hF
  · cases hF
end Go.Proofs.YtpomloangafbkaaGreatDoor
