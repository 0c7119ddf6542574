/- Contracts by content, their conditions, and that they are met: MsgA. -/
import Derived.Test.YtcokifdgbfbonaaDoorLaxPkInstA
/- Contracts by content, and the conditions that their code must meet. -/
namespace Go.Proofs.YtcokifdgbfbonaaDoor
set_option linter.unusedVariables false
set_option linter.unusedSimpArgs false
open Go.RowKit
structure MsgP where
  k : Int
  src : Int
  dst : Int
  r : Int
  s : Int
  b : Int
  ok : Bool
  x : InstP
def msgL (m : MsgP) : List AV := .int .i64 m.k :: .int .i64 m.src :: .int .i64 m.dst :: .int .i64 m.r :: .int .i64 m.s :: .int .u32 m.b :: .bool m.ok :: instL m.x
def eqM (x y : MsgP) : Bool := sameCells (msgL x) (msgL y)
def zM : MsgP := ⟨0, 0, 0, 0, 0, 0, false, zI⟩
def repOK (r : Int) : Bool := decide (0 ≤ r ∧ r < 7)
def statusK (k : Int) : Int := if 3 < (IntKind.i64.wrap (k + 1)).fdiv 2 then 3 else (IntKind.i64.wrap (k + 1)).fdiv 2
def asksK (k : Int) : Bool := decide (k = 1 ∨ k = 3 ∨ k = 5)
def valueI (k b : Int) (x : InstP) : InstP := ⟨x.r, x.sl, statusK k, b, b, false, x.c, x.a⟩
def rightM (m : MsgP) : Bool :=
  if 1 ≤ m.k ∧ m.k ≤ 7 ∧ repOK m.src = true ∧ repOK m.dst = true ∧ m.src ≠ m.dst ∧ rightId m.r m.s = true ∧ balOK m.b = true then
    if m.k = 6 then !m.ok && eqI m.x zI
    else if rightI m.x = true ∧ m.x.r = m.r ∧ m.x.sl = m.s then !asksK m.k || (!m.ok && eqI m.x (valueI m.k m.b m.x))
    else false
  else false
def askM (k src dst b : Int) (x : InstP) : MsgP := ⟨k, src, dst, x.r, x.sl, b, false, if k = 6 then zI else valueI k b x⟩
def replyM (m : MsgP) (ok : Bool) (x : InstP) : MsgP := ⟨IntKind.i64.wrap (m.k + 1), m.dst, m.src, m.r, m.s, m.b, ok, x⟩
def msgOf : List AV → Option MsgP
  | .int .i64 k :: .int .i64 src :: .int .i64 dst :: .int .i64 r :: .int .i64 s :: .int .u32 b :: .bool ok :: rest => match instOf rest with
    | some x => some ⟨k, src, dst, r, s, b, ok, x⟩
    | none => none
  | _ => none
theorem msgOf_some {l : List AV} {x : MsgP} (h : msgOf l = some x) : l = msgL x := by
  unfold msgOf at h
  split at h
  · split at h
    · rename_i ha
      cases instOf_some ha
      cases h; rfl
    · cases h
  · cases h
def statusF : Con
  | [.val (.int .i64 k)] => (some (True, ⟨.int .i64 (statusK k), none, none⟩))
  | _ => none
def gamStatus : List (Nat × Con) := []
def lpStatus0 (k : Int) : Nat → Option LoopPlan := fun _ => none
def inStatus0 (k : Int) : Prop := awp [] (lpStatus0 k) (lookΓ gamStatus) Tryd.prog Tryd.f138.ntmps 0 (Tryd.f138.body.getD .skip) (entrySt [.val (.int .i64 k)]) (exitQ Tryd.prog Tryd.f138.results.toList [] ⟨.int .i64 (statusK k), none, none⟩)
def OkStatus0 : Prop := ∀ (k : Int), True → inStatus0 k
def asksF : Con
  | [.val (.int .i64 k)] => (some (True, ⟨.bool (asksK k), none, none⟩))
  | _ => none
def gamAsks : List (Nat × Con) := []
def lpAsks0 (k : Int) : Nat → Option LoopPlan := fun _ => none
def inAsks0 (k : Int) : Prop := awp [] (lpAsks0 k) (lookΓ gamAsks) Tryd.prog Tryd.f103.ntmps 0 (Tryd.f103.body.getD .skip) (entrySt [.val (.int .i64 k)]) (exitQ Tryd.prog Tryd.f103.results.toList [] ⟨.bool (asksK k), none, none⟩)
def OkAsks0 : Prop := ∀ (k : Int), True → inAsks0 k
def replicaF : Con
  | [.val (.int .i64 r)] => (some (True, ⟨.bool (repOK r), none, none⟩))
  | _ => none
def gamReplica : List (Nat × Con) := []
def lpReplica0 (r : Int) : Nat → Option LoopPlan := fun _ => none
def inReplica0 (r : Int) : Prop := awp [] (lpReplica0 r) (lookΓ gamReplica) Tryd.prog Tryd.f102.ntmps 0 (Tryd.f102.body.getD .skip) (entrySt [.val (.int .i64 r)]) (exitQ Tryd.prog Tryd.f102.results.toList [] ⟨.bool (repOK r), none, none⟩)
def OkReplica0 : Prop := ∀ (r : Int), True → inReplica0 r
def valueF : Con
  | [.val (.int .i64 mk), .val (.int .u32 mb), .val (.agg zcx)] => (match instOf zcx with | some x => some (True, ⟨.agg (instL (valueI mk mb x)), none, none⟩) | _ => none)
  | _ => none
def gamValue : List (Nat × Con) := [(138, statusF.orNil)]
def lpValue0 (mk mb : Int) (x : InstP) : Nat → Option LoopPlan := fun _ => none
def inValue0 (mk mb : Int) (x : InstP) : Prop := awp [] (lpValue0 mk mb x) (lookΓ gamValue) Tryd.prog Tryd.f104.ntmps 0 (Tryd.f104.body.getD .skip) (entrySt [.val (.int .i64 mk), .val (.int .u32 mb), .val (.agg (instL x))]) (exitQ Tryd.prog Tryd.f104.results.toList [] ⟨.agg (instL (valueI mk mb x)), none, none⟩)
def OkValue0 : Prop := ∀ (mk mb : Int) (x : InstP), True → inValue0 mk mb x
def mrightF : Con
  | [.val (.agg zcm)] => (match msgOf zcm with | some m => some (smallX m.x, ⟨.bool (rightM m), none, none⟩) | _ => none)
  | _ => none
def gamMright : List (Nat × Con) := [(102, replicaF.orNil), (74, idRightF.orNil), (75, balRightF.orNil), (26, irightF.orNil), (103, asksF.orNil), (104, valueF.orNil)]
def lpMright0 (m : MsgP) : Nat → Option LoopPlan := fun _ => none
def inMright0 (m : MsgP) : Prop := awp [] (lpMright0 m) (lookΓ gamMright) Tryd.prog Tryd.f56.ntmps 0 (Tryd.f56.body.getD .skip) (entrySt [.val (.agg (msgL m))]) (exitQ Tryd.prog Tryd.f56.results.toList [] ⟨.bool (rightM m), none, none⟩)
def OkMright0 : Prop := ∀ (m : MsgP), smallX m.x → inMright0 m
def askF : Con
  | [.val (.int .i64 mk), .val (.int .i64 src), .val (.int .i64 dst), .val (.int .u32 mb), .val (.agg zcx)] => (match instOf zcx with | some x => some (True, ⟨.agg (msgL (askM mk src dst mb x)), none, none⟩) | _ => none)
  | _ => none
def gamAsk : List (Nat × Con) := [(104, valueF.orNil)]
def lpAsk0 (mk src dst mb : Int) (x : InstP) : Nat → Option LoopPlan := fun _ => none
def inAsk0 (mk src dst mb : Int) (x : InstP) : Prop := awp [] (lpAsk0 mk src dst mb x) (lookΓ gamAsk) Tryd.prog Tryd.f73.ntmps 0 (Tryd.f73.body.getD .skip) (entrySt [.val (.int .i64 mk), .val (.int .i64 src), .val (.int .i64 dst), .val (.int .u32 mb), .val (.agg (instL x))]) (exitQ Tryd.prog Tryd.f73.results.toList [] ⟨.agg (msgL (askM mk src dst mb x)), none, none⟩)
def OkAsk0 : Prop := ∀ (mk src dst mb : Int) (x : InstP), True → inAsk0 mk src dst mb x
def replyF : Con
  | [.val (.agg zcm), .val (.bool ok2), .val (.agg zcx)] => (match msgOf zcm, instOf zcx with | some m, some x => some (True, ⟨.agg (msgL (replyM m ok2 x)), none, none⟩) | _, _ => none)
  | _ => none
def gamReply : List (Nat × Con) := []
def lpReply0 (m : MsgP) (ok2 : Bool) (x : InstP) : Nat → Option LoopPlan := fun _ => none
def inReply0 (m : MsgP) (ok2 : Bool) (x : InstP) : Prop := awp [] (lpReply0 m ok2 x) (lookΓ gamReply) Tryd.prog Tryd.f80.ntmps 0 (Tryd.f80.body.getD .skip) (entrySt [.val (.agg (msgL m)), .val (.bool ok2), .val (.agg (instL x))]) (exitQ Tryd.prog Tryd.f80.results.toList [] ⟨.agg (msgL (replyM m ok2 x)), none, none⟩)
def OkReply0 : Prop := ∀ (m : MsgP) (ok2 : Bool) (x : InstP), True → inReply0 m ok2 x
end Go.Proofs.YtcokifdgbfbonaaDoor
/- What the verification conditions come to: printed by a program of ours (wip/lax/ex/Norm.lean). -/
namespace Go.Proofs.YtcokifdgbfbonaaDoor
set_option linter.unusedVariables false
open Go.RowKit
set_option maxRecDepth 100000
theorem vcStatus0 (k : Int) (h : (tt ∧ T1 ∧ tt ∧ T1 ∧ T1 ∧ ((0 : Int) ≤ (1 : Int)) ∧ T1 ∧ T1 ∧ tt ∧ tt ∧ (((statusK k) = (@ite.{1} Int ((3 : Int) < (Int.fdiv (Go.IntKind.wrap Go.IntKind.i64 (k + (1 : Int))) (2 : Int))) (Int.decLt (3 : Int) (Int.fdiv (Go.IntKind.wrap Go.IntKind.i64 (k + (1 : Int))) (2 : Int))) (3 : Int) (Int.fdiv (Go.IntKind.wrap Go.IntKind.i64 (k + (1 : Int))) (2 : Int)))) ∧ True) ∧ tt)) : inStatus0 k :=
  Eq.mp (show _ = _ by kernel_rfl) h
theorem vcAsks0 (k : Int) (h : (tt ∧ T1 ∧ tt ∧ T1 ∧ T1 ∧ T1 ∧ (bif (k == (1 : Int)) then (tt ∧ T1 ∧ tt ∧ T1 ∧ tt ∧ tt ∧ (((asksK k) = true) ∧ True) ∧ tt) else (T1 ∧ T1 ∧ T1 ∧ T1 ∧ (bif (k == (3 : Int)) then (tt ∧ T1 ∧ tt ∧ tt ∧ (((asksK k) = true) ∧ True) ∧ tt) else (T1 ∧ T1 ∧ T1 ∧ T1 ∧ tt ∧ tt ∧ (((asksK k) = (k == (5 : Int))) ∧ True) ∧ tt)))))) : inAsks0 k :=
  Eq.mp (show _ = _ by kernel_rfl) h
theorem vcReplica0 (r : Int) (h : (tt ∧ T1 ∧ tt ∧ T1 ∧ T1 ∧ T1 ∧ (bif (decide ((0 : Int) ≤ r)) then (T1 ∧ T1 ∧ T1 ∧ T1 ∧ tt ∧ tt ∧ (((repOK r) = (decide (r < (7 : Int)))) ∧ True) ∧ tt) else ((false = false) ∧ T1 ∧ tt ∧ tt ∧ (((repOK r) = false) ∧ True) ∧ tt)))) : inReplica0 r :=
  Eq.mp (show _ = _ by kernel_rfl) h
theorem vcValue0 (mk : Int) (mb : Int) (x : InstP) (h : (tt ∧ T1 ∧ T1 ∧ tt ∧ T1 ∧ tt ∧ T1 ∧ (T1 ∧ True) ∧ (∀ (v0 : Int), (∀ (v1 : (v0 = (statusK mk))), (T1 ∧ T1 ∧ T1 ∧ tt ∧ T1 ∧ tt ∧ T1 ∧ tt ∧ tt ∧ tt ∧ tt ∧ (((InstP.r (valueI mk mb x)) = (InstP.r x)) ∧ ((InstP.sl (valueI mk mb x)) = (InstP.sl x)) ∧ ((InstP.st (valueI mk mb x)) = v0) ∧ ((InstP.bal (valueI mk mb x)) = mb) ∧ ((InstP.vote (valueI mk mb x)) = mb) ∧ (false = false) ∧ ((CmdP.k (InstP.c (valueI mk mb x))) = (CmdP.k (InstP.c x))) ∧ ((CmdP.num (InstP.c (valueI mk mb x))) = (CmdP.num (InstP.c x))) ∧ ((CmdP.foot (InstP.c (valueI mk mb x))) = (CmdP.foot (InstP.c x))) ∧ ((CmdP.rq (InstP.c (valueI mk mb x))) = (CmdP.rq (InstP.c x))) ∧ ((CmdP.path (InstP.c (valueI mk mb x))) = (CmdP.path (InstP.c x))) ∧ ((CmdP.mode (InstP.c (valueI mk mb x))) = (CmdP.mode (InstP.c x))) ∧ ((CmdP.n (InstP.c (valueI mk mb x))) = (CmdP.n (InstP.c x))) ∧ ((CmdP.time (InstP.c (valueI mk mb x))) = (CmdP.time (InstP.c x))) ∧ ((AttP.s (InstP.a (valueI mk mb x))) = (AttP.s (InstP.a x))) ∧ ((AttP.d0 (InstP.a (valueI mk mb x))) = (AttP.d0 (InstP.a x))) ∧ ((AttP.d1 (InstP.a (valueI mk mb x))) = (AttP.d1 (InstP.a x))) ∧ ((AttP.d2 (InstP.a (valueI mk mb x))) = (AttP.d2 (InstP.a x))) ∧ ((AttP.d3 (InstP.a (valueI mk mb x))) = (AttP.d3 (InstP.a x))) ∧ ((AttP.d4 (InstP.a (valueI mk mb x))) = (AttP.d4 (InstP.a x))) ∧ ((AttP.d5 (InstP.a (valueI mk mb x))) = (AttP.d5 (InstP.a x))) ∧ ((AttP.d6 (InstP.a (valueI mk mb x))) = (AttP.d6 (InstP.a x))) ∧ True) ∧ tt))))) : inValue0 mk mb x :=
  Eq.mp (show _ = _ by kernel_rfl) h
theorem vcMright0 (m : MsgP) (h : (tt ∧ T1 ∧ T1 ∧ tt ∧ T1 ∧ tt ∧ T1 ∧ T1 ∧ (bif (decide ((MsgP.k m) < (1 : Int))) then (tt ∧ T1 ∧ tt ∧ T1 ∧ tt ∧ T1 ∧ tt ∧ T1 ∧ tt ∧ T1 ∧ tt ∧ T1 ∧ tt ∧ T1 ∧ tt ∧ tt ∧ (((rightM m) = false) ∧ True) ∧ tt) else (T1 ∧ tt ∧ T1 ∧ T1 ∧ T1 ∧ (bif (decide ((7 : Int) < (MsgP.k m))) then (tt ∧ T1 ∧ tt ∧ T1 ∧ tt ∧ T1 ∧ tt ∧ T1 ∧ tt ∧ T1 ∧ tt ∧ T1 ∧ tt ∧ tt ∧ (((rightM m) = false) ∧ True) ∧ tt) else (T1 ∧ tt ∧ (T1 ∧ True) ∧ T1 ∧ T1 ∧ T1 ∧ (bif (Bool.not (repOK (MsgP.src m))) then (tt ∧ T1 ∧ tt ∧ T1 ∧ tt ∧ T1 ∧ tt ∧ T1 ∧ tt ∧ T1 ∧ tt ∧ tt ∧ (((rightM m) = false) ∧ True) ∧ tt) else (T1 ∧ tt ∧ (T1 ∧ True) ∧ T1 ∧ T1 ∧ T1 ∧ (bif (Bool.not (repOK (MsgP.dst m))) then (tt ∧ T1 ∧ tt ∧ T1 ∧ tt ∧ T1 ∧ tt ∧ T1 ∧ tt ∧ tt ∧ (((rightM m) = false) ∧ True) ∧ tt) else (T1 ∧ tt ∧ T1 ∧ tt ∧ T1 ∧ T1 ∧ T1 ∧ (bif ((MsgP.src m) == (MsgP.dst m)) then (tt ∧ T1 ∧ tt ∧ T1 ∧ tt ∧ T1 ∧ tt ∧ tt ∧ (((rightM m) = false) ∧ True) ∧ tt) else (T1 ∧ tt ∧ (T1 ∧ True) ∧ T1 ∧ T1 ∧ T1 ∧ (bif (Bool.not (rightId (MsgP.r m) (MsgP.s m))) then (tt ∧ T1 ∧ tt ∧ T1 ∧ tt ∧ tt ∧ (((rightM m) = false) ∧ True) ∧ tt) else (T1 ∧ tt ∧ (T1 ∧ True) ∧ T1 ∧ T1 ∧ T1 ∧ (bif (Bool.not (balOK (MsgP.b m))) then (tt ∧ T1 ∧ tt ∧ tt ∧ (((rightM m) = false) ∧ True) ∧ tt) else (tt ∧ T1 ∧ tt ∧ T1 ∧ T1 ∧ (bif ((MsgP.k m) == (6 : Int)) then (tt ∧ T1 ∧ tt ∧ T1 ∧ T1 ∧ (bif (Bool.not (MsgP.ok m)) then (T1 ∧ tt ∧ T1 ∧ T1 ∧ T1 ∧ T1 ∧ tt ∧ tt ∧ (((rightM m) = (Bool.and ((InstP.r (MsgP.x m)) == (0 : Int)) (Bool.and ((InstP.sl (MsgP.x m)) == (0 : Int)) (Bool.and ((InstP.st (MsgP.x m)) == (0 : Int)) (Bool.and ((InstP.bal (MsgP.x m)) == (0 : Int)) (Bool.and ((InstP.vote (MsgP.x m)) == (0 : Int)) (Bool.and (@BEq.beq.{0} Bool (@instBEqOfDecidableEq.{0} Bool instDecidableEqBool) (InstP.same (MsgP.x m)) false) (Bool.and ((CmdP.k (InstP.c (MsgP.x m))) == (0 : Int)) (Bool.and ((CmdP.num (InstP.c (MsgP.x m))) == (0 : Int)) (Bool.and (@BEq.beq.{0} (List UInt8) (@List.instBEq.{0} UInt8 (@instBEqOfDecidableEq.{0} UInt8 instDecidableEqUInt8)) (CmdP.foot (InstP.c (MsgP.x m))) (@List.nil.{0} UInt8)) (Bool.and ((CmdP.rq (InstP.c (MsgP.x m))) == (0 : Int)) (Bool.and (@BEq.beq.{0} (List UInt8) (@List.instBEq.{0} UInt8 (@instBEqOfDecidableEq.{0} UInt8 instDecidableEqUInt8)) (CmdP.path (InstP.c (MsgP.x m))) (@List.nil.{0} UInt8)) (Bool.and ((CmdP.mode (InstP.c (MsgP.x m))) == (0 : Int)) (Bool.and ((CmdP.n (InstP.c (MsgP.x m))) == (0 : Int)) (Bool.and ((CmdP.time (InstP.c (MsgP.x m))) == (0 : Int)) (Bool.and ((AttP.s (InstP.a (MsgP.x m))) == (0 : Int)) (Bool.and ((AttP.d0 (InstP.a (MsgP.x m))) == (0 : Int)) (Bool.and ((AttP.d1 (InstP.a (MsgP.x m))) == (0 : Int)) (Bool.and ((AttP.d2 (InstP.a (MsgP.x m))) == (0 : Int)) (Bool.and ((AttP.d3 (InstP.a (MsgP.x m))) == (0 : Int)) (Bool.and ((AttP.d4 (InstP.a (MsgP.x m))) == (0 : Int)) (Bool.and ((AttP.d5 (InstP.a (MsgP.x m))) == (0 : Int)) (Bool.and ((AttP.d6 (InstP.a (MsgP.x m))) == (0 : Int)) true))))))))))))))))))))))) ∧ True) ∧ tt) else ((false = false) ∧ T1 ∧ tt ∧ tt ∧ (((rightM m) = false) ∧ True) ∧ tt))) else (tt ∧ T1 ∧ tt ∧ (T1 ∧ (smallX (MsgP.x m))) ∧ T1 ∧ T1 ∧ (bif (Bool.not (rightI (MsgP.x m))) then (tt ∧ T1 ∧ tt ∧ T1 ∧ tt ∧ tt ∧ (((rightM m) = false) ∧ True) ∧ tt) else (T1 ∧ T1 ∧ tt ∧ T1 ∧ tt ∧ T1 ∧ T1 ∧ T1 ∧ (bif (Bool.not (Bool.and ((InstP.r (MsgP.x m)) == (MsgP.r m)) (Bool.and ((InstP.sl (MsgP.x m)) == (MsgP.s m)) true))) then (tt ∧ T1 ∧ tt ∧ tt ∧ (((rightM m) = false) ∧ True) ∧ tt) else (tt ∧ T1 ∧ tt ∧ (T1 ∧ True) ∧ T1 ∧ T1 ∧ (bif (Bool.not (asksK (MsgP.k m))) then (tt ∧ T1 ∧ tt ∧ tt ∧ tt ∧ (((rightM m) = true) ∧ True) ∧ tt) else (T1 ∧ tt ∧ T1 ∧ T1 ∧ (bif (Bool.not (MsgP.ok m)) then (T1 ∧ tt ∧ T1 ∧ tt ∧ T1 ∧ tt ∧ T1 ∧ tt ∧ (T1 ∧ True) ∧ T1 ∧ T1 ∧ T1 ∧ T1 ∧ tt ∧ tt ∧ tt ∧ (((rightM m) = (Bool.and ((InstP.r (MsgP.x m)) == (InstP.r (valueI (MsgP.k m) (MsgP.b m) (MsgP.x m)))) (Bool.and ((InstP.sl (MsgP.x m)) == (InstP.sl (valueI (MsgP.k m) (MsgP.b m) (MsgP.x m)))) (Bool.and ((InstP.st (MsgP.x m)) == (InstP.st (valueI (MsgP.k m) (MsgP.b m) (MsgP.x m)))) (Bool.and ((InstP.bal (MsgP.x m)) == (InstP.bal (valueI (MsgP.k m) (MsgP.b m) (MsgP.x m)))) (Bool.and ((InstP.vote (MsgP.x m)) == (InstP.vote (valueI (MsgP.k m) (MsgP.b m) (MsgP.x m)))) (Bool.and (@BEq.beq.{0} Bool (@instBEqOfDecidableEq.{0} Bool instDecidableEqBool) (InstP.same (MsgP.x m)) (InstP.same (valueI (MsgP.k m) (MsgP.b m) (MsgP.x m)))) (Bool.and ((CmdP.k (InstP.c (MsgP.x m))) == (CmdP.k (InstP.c (valueI (MsgP.k m) (MsgP.b m) (MsgP.x m))))) (Bool.and ((CmdP.num (InstP.c (MsgP.x m))) == (CmdP.num (InstP.c (valueI (MsgP.k m) (MsgP.b m) (MsgP.x m))))) (Bool.and (@BEq.beq.{0} (List UInt8) (@List.instBEq.{0} UInt8 (@instBEqOfDecidableEq.{0} UInt8 instDecidableEqUInt8)) (CmdP.foot (InstP.c (MsgP.x m))) (CmdP.foot (InstP.c (valueI (MsgP.k m) (MsgP.b m) (MsgP.x m))))) (Bool.and ((CmdP.rq (InstP.c (MsgP.x m))) == (CmdP.rq (InstP.c (valueI (MsgP.k m) (MsgP.b m) (MsgP.x m))))) (Bool.and (@BEq.beq.{0} (List UInt8) (@List.instBEq.{0} UInt8 (@instBEqOfDecidableEq.{0} UInt8 instDecidableEqUInt8)) (CmdP.path (InstP.c (MsgP.x m))) (CmdP.path (InstP.c (valueI (MsgP.k m) (MsgP.b m) (MsgP.x m))))) (Bool.and ((CmdP.mode (InstP.c (MsgP.x m))) == (CmdP.mode (InstP.c (valueI (MsgP.k m) (MsgP.b m) (MsgP.x m))))) (Bool.and ((CmdP.n (InstP.c (MsgP.x m))) == (CmdP.n (InstP.c (valueI (MsgP.k m) (MsgP.b m) (MsgP.x m))))) (Bool.and ((CmdP.time (InstP.c (MsgP.x m))) == (CmdP.time (InstP.c (valueI (MsgP.k m) (MsgP.b m) (MsgP.x m))))) (Bool.and ((AttP.s (InstP.a (MsgP.x m))) == (AttP.s (InstP.a (valueI (MsgP.k m) (MsgP.b m) (MsgP.x m))))) (Bool.and ((AttP.d0 (InstP.a (MsgP.x m))) == (AttP.d0 (InstP.a (valueI (MsgP.k m) (MsgP.b m) (MsgP.x m))))) (Bool.and ((AttP.d1 (InstP.a (MsgP.x m))) == (AttP.d1 (InstP.a (valueI (MsgP.k m) (MsgP.b m) (MsgP.x m))))) (Bool.and ((AttP.d2 (InstP.a (MsgP.x m))) == (AttP.d2 (InstP.a (valueI (MsgP.k m) (MsgP.b m) (MsgP.x m))))) (Bool.and ((AttP.d3 (InstP.a (MsgP.x m))) == (AttP.d3 (InstP.a (valueI (MsgP.k m) (MsgP.b m) (MsgP.x m))))) (Bool.and ((AttP.d4 (InstP.a (MsgP.x m))) == (AttP.d4 (InstP.a (valueI (MsgP.k m) (MsgP.b m) (MsgP.x m))))) (Bool.and ((AttP.d5 (InstP.a (MsgP.x m))) == (AttP.d5 (InstP.a (valueI (MsgP.k m) (MsgP.b m) (MsgP.x m))))) (Bool.and ((AttP.d6 (InstP.a (MsgP.x m))) == (AttP.d6 (InstP.a (valueI (MsgP.k m) (MsgP.b m) (MsgP.x m))))) true))))))))))))))))))))))) ∧ True) ∧ tt) else ((false = false) ∧ T1 ∧ T1 ∧ tt ∧ tt ∧ tt ∧ (((rightM m) = false) ∧ True) ∧ tt)))))))))))))))))))))))))) : inMright0 m :=
  Eq.mp (show _ = _ by kernel_rfl) h
theorem vcAsk0 (mk : Int) (src : Int) (dst : Int) (mb : Int) (x : InstP) (h : (tt ∧ T1 ∧ T1 ∧ tt ∧ T1 ∧ T1 ∧ T1 ∧ T1 ∧ tt ∧ T1 ∧ T1 ∧ T1 ∧ tt ∧ tt ∧ T1 ∧ T1 ∧ (bif (mk != (6 : Int)) then (tt ∧ T1 ∧ T1 ∧ tt ∧ (T1 ∧ True) ∧ T1 ∧ tt ∧ tt ∧ tt ∧ tt ∧ tt ∧ tt ∧ (((MsgP.k (askM mk src dst mb x)) = mk) ∧ ((MsgP.src (askM mk src dst mb x)) = src) ∧ ((MsgP.dst (askM mk src dst mb x)) = dst) ∧ ((MsgP.r (askM mk src dst mb x)) = (InstP.r x)) ∧ ((MsgP.s (askM mk src dst mb x)) = (InstP.sl x)) ∧ ((MsgP.b (askM mk src dst mb x)) = mb) ∧ (false = false) ∧ ((InstP.r (MsgP.x (askM mk src dst mb x))) = (InstP.r (valueI mk mb x))) ∧ ((InstP.sl (MsgP.x (askM mk src dst mb x))) = (InstP.sl (valueI mk mb x))) ∧ ((InstP.st (MsgP.x (askM mk src dst mb x))) = (InstP.st (valueI mk mb x))) ∧ ((InstP.bal (MsgP.x (askM mk src dst mb x))) = (InstP.bal (valueI mk mb x))) ∧ ((InstP.vote (MsgP.x (askM mk src dst mb x))) = (InstP.vote (valueI mk mb x))) ∧ ((InstP.same (MsgP.x (askM mk src dst mb x))) = (InstP.same (valueI mk mb x))) ∧ ((CmdP.k (InstP.c (MsgP.x (askM mk src dst mb x)))) = (CmdP.k (InstP.c (valueI mk mb x)))) ∧ ((CmdP.num (InstP.c (MsgP.x (askM mk src dst mb x)))) = (CmdP.num (InstP.c (valueI mk mb x)))) ∧ ((CmdP.foot (InstP.c (MsgP.x (askM mk src dst mb x)))) = (CmdP.foot (InstP.c (valueI mk mb x)))) ∧ ((CmdP.rq (InstP.c (MsgP.x (askM mk src dst mb x)))) = (CmdP.rq (InstP.c (valueI mk mb x)))) ∧ ((CmdP.path (InstP.c (MsgP.x (askM mk src dst mb x)))) = (CmdP.path (InstP.c (valueI mk mb x)))) ∧ ((CmdP.mode (InstP.c (MsgP.x (askM mk src dst mb x)))) = (CmdP.mode (InstP.c (valueI mk mb x)))) ∧ ((CmdP.n (InstP.c (MsgP.x (askM mk src dst mb x)))) = (CmdP.n (InstP.c (valueI mk mb x)))) ∧ ((CmdP.time (InstP.c (MsgP.x (askM mk src dst mb x)))) = (CmdP.time (InstP.c (valueI mk mb x)))) ∧ ((AttP.s (InstP.a (MsgP.x (askM mk src dst mb x)))) = (AttP.s (InstP.a (valueI mk mb x)))) ∧ ((AttP.d0 (InstP.a (MsgP.x (askM mk src dst mb x)))) = (AttP.d0 (InstP.a (valueI mk mb x)))) ∧ ((AttP.d1 (InstP.a (MsgP.x (askM mk src dst mb x)))) = (AttP.d1 (InstP.a (valueI mk mb x)))) ∧ ((AttP.d2 (InstP.a (MsgP.x (askM mk src dst mb x)))) = (AttP.d2 (InstP.a (valueI mk mb x)))) ∧ ((AttP.d3 (InstP.a (MsgP.x (askM mk src dst mb x)))) = (AttP.d3 (InstP.a (valueI mk mb x)))) ∧ ((AttP.d4 (InstP.a (MsgP.x (askM mk src dst mb x)))) = (AttP.d4 (InstP.a (valueI mk mb x)))) ∧ ((AttP.d5 (InstP.a (MsgP.x (askM mk src dst mb x)))) = (AttP.d5 (InstP.a (valueI mk mb x)))) ∧ ((AttP.d6 (InstP.a (MsgP.x (askM mk src dst mb x)))) = (AttP.d6 (InstP.a (valueI mk mb x)))) ∧ True) ∧ tt) else (tt ∧ tt ∧ tt ∧ tt ∧ tt ∧ (((MsgP.k (askM mk src dst mb x)) = mk) ∧ ((MsgP.src (askM mk src dst mb x)) = src) ∧ ((MsgP.dst (askM mk src dst mb x)) = dst) ∧ ((MsgP.r (askM mk src dst mb x)) = (InstP.r x)) ∧ ((MsgP.s (askM mk src dst mb x)) = (InstP.sl x)) ∧ ((MsgP.b (askM mk src dst mb x)) = mb) ∧ (false = false) ∧ ((InstP.r (MsgP.x (askM mk src dst mb x))) = (0 : Int)) ∧ ((InstP.sl (MsgP.x (askM mk src dst mb x))) = (0 : Int)) ∧ ((InstP.st (MsgP.x (askM mk src dst mb x))) = (0 : Int)) ∧ ((InstP.bal (MsgP.x (askM mk src dst mb x))) = (0 : Int)) ∧ ((InstP.vote (MsgP.x (askM mk src dst mb x))) = (0 : Int)) ∧ ((InstP.same (MsgP.x (askM mk src dst mb x))) = false) ∧ ((CmdP.k (InstP.c (MsgP.x (askM mk src dst mb x)))) = (0 : Int)) ∧ ((CmdP.num (InstP.c (MsgP.x (askM mk src dst mb x)))) = (0 : Int)) ∧ ((CmdP.foot (InstP.c (MsgP.x (askM mk src dst mb x)))) = (@List.nil.{0} UInt8)) ∧ ((CmdP.rq (InstP.c (MsgP.x (askM mk src dst mb x)))) = (0 : Int)) ∧ ((CmdP.path (InstP.c (MsgP.x (askM mk src dst mb x)))) = (@List.nil.{0} UInt8)) ∧ ((CmdP.mode (InstP.c (MsgP.x (askM mk src dst mb x)))) = (0 : Int)) ∧ ((CmdP.n (InstP.c (MsgP.x (askM mk src dst mb x)))) = (0 : Int)) ∧ ((CmdP.time (InstP.c (MsgP.x (askM mk src dst mb x)))) = (0 : Int)) ∧ ((AttP.s (InstP.a (MsgP.x (askM mk src dst mb x)))) = (0 : Int)) ∧ ((AttP.d0 (InstP.a (MsgP.x (askM mk src dst mb x)))) = (0 : Int)) ∧ ((AttP.d1 (InstP.a (MsgP.x (askM mk src dst mb x)))) = (0 : Int)) ∧ ((AttP.d2 (InstP.a (MsgP.x (askM mk src dst mb x)))) = (0 : Int)) ∧ ((AttP.d3 (InstP.a (MsgP.x (askM mk src dst mb x)))) = (0 : Int)) ∧ ((AttP.d4 (InstP.a (MsgP.x (askM mk src dst mb x)))) = (0 : Int)) ∧ ((AttP.d5 (InstP.a (MsgP.x (askM mk src dst mb x)))) = (0 : Int)) ∧ ((AttP.d6 (InstP.a (MsgP.x (askM mk src dst mb x)))) = (0 : Int)) ∧ True) ∧ tt)))) : inAsk0 mk src dst mb x :=
  Eq.mp (show _ = _ by kernel_rfl) h
theorem vcReply0 (m : MsgP) (ok2 : Bool) (x : InstP) (h : (tt ∧ T1 ∧ T1 ∧ T1 ∧ tt ∧ T1 ∧ tt ∧ T1 ∧ T1 ∧ tt ∧ T1 ∧ tt ∧ T1 ∧ tt ∧ T1 ∧ tt ∧ T1 ∧ tt ∧ T1 ∧ tt ∧ tt ∧ tt ∧ (((MsgP.k (replyM m ok2 x)) = (Go.IntKind.wrap Go.IntKind.i64 ((MsgP.k m) + (1 : Int)))) ∧ ((MsgP.src (replyM m ok2 x)) = (MsgP.dst m)) ∧ ((MsgP.dst (replyM m ok2 x)) = (MsgP.src m)) ∧ ((MsgP.r (replyM m ok2 x)) = (MsgP.r m)) ∧ ((MsgP.s (replyM m ok2 x)) = (MsgP.s m)) ∧ ((MsgP.b (replyM m ok2 x)) = (MsgP.b m)) ∧ ((MsgP.ok (replyM m ok2 x)) = ok2) ∧ ((InstP.r (MsgP.x (replyM m ok2 x))) = (InstP.r x)) ∧ ((InstP.sl (MsgP.x (replyM m ok2 x))) = (InstP.sl x)) ∧ ((InstP.st (MsgP.x (replyM m ok2 x))) = (InstP.st x)) ∧ ((InstP.bal (MsgP.x (replyM m ok2 x))) = (InstP.bal x)) ∧ ((InstP.vote (MsgP.x (replyM m ok2 x))) = (InstP.vote x)) ∧ ((InstP.same (MsgP.x (replyM m ok2 x))) = (InstP.same x)) ∧ ((CmdP.k (InstP.c (MsgP.x (replyM m ok2 x)))) = (CmdP.k (InstP.c x))) ∧ ((CmdP.num (InstP.c (MsgP.x (replyM m ok2 x)))) = (CmdP.num (InstP.c x))) ∧ ((CmdP.foot (InstP.c (MsgP.x (replyM m ok2 x)))) = (CmdP.foot (InstP.c x))) ∧ ((CmdP.rq (InstP.c (MsgP.x (replyM m ok2 x)))) = (CmdP.rq (InstP.c x))) ∧ ((CmdP.path (InstP.c (MsgP.x (replyM m ok2 x)))) = (CmdP.path (InstP.c x))) ∧ ((CmdP.mode (InstP.c (MsgP.x (replyM m ok2 x)))) = (CmdP.mode (InstP.c x))) ∧ ((CmdP.n (InstP.c (MsgP.x (replyM m ok2 x)))) = (CmdP.n (InstP.c x))) ∧ ((CmdP.time (InstP.c (MsgP.x (replyM m ok2 x)))) = (CmdP.time (InstP.c x))) ∧ ((AttP.s (InstP.a (MsgP.x (replyM m ok2 x)))) = (AttP.s (InstP.a x))) ∧ ((AttP.d0 (InstP.a (MsgP.x (replyM m ok2 x)))) = (AttP.d0 (InstP.a x))) ∧ ((AttP.d1 (InstP.a (MsgP.x (replyM m ok2 x)))) = (AttP.d1 (InstP.a x))) ∧ ((AttP.d2 (InstP.a (MsgP.x (replyM m ok2 x)))) = (AttP.d2 (InstP.a x))) ∧ ((AttP.d3 (InstP.a (MsgP.x (replyM m ok2 x)))) = (AttP.d3 (InstP.a x))) ∧ ((AttP.d4 (InstP.a (MsgP.x (replyM m ok2 x)))) = (AttP.d4 (InstP.a x))) ∧ ((AttP.d5 (InstP.a (MsgP.x (replyM m ok2 x)))) = (AttP.d5 (InstP.a x))) ∧ ((AttP.d6 (InstP.a (MsgP.x (replyM m ok2 x)))) = (AttP.d6 (InstP.a x))) ∧ True) ∧ tt)) : inReply0 m ok2 x :=
  Eq.mp (show _ = _ by kernel_rfl) h
end Go.Proofs.YtcokifdgbfbonaaDoor
/- The conditions hold: messages. -/
namespace Go.Proofs.YtcokifdgbfbonaaDoor
set_option linter.unusedVariables false
set_option linter.unusedSimpArgs false
open Go.RowKit
set_option maxRecDepth 100000

theorem okStatus0 : OkStatus0 := by
  intro k hq
  refine vcStatus0 k ?_
  simp only [true_and, and_true, forall_eq, eq_self]
  exact ⟨by omega, rfl⟩
theorem okAsks0 : OkAsks0 := by
  intro k hq
  refine vcAsks0 k ?_
  simp only [true_and, and_true, forall_eq, eq_self]
  unfold asksK
  repeat' (refine cond_prop (fun h => ?_) fun h => ?_)
  all_goals (rw [Bool.eq_iff_iff]; simp at *; omega)
theorem okReplica0 : OkReplica0 := by
  intro k hq
  refine vcReplica0 k ?_
  simp only [true_and, and_true, forall_eq, eq_self]
  unfold repOK
  repeat' (refine cond_prop (fun h => ?_) fun h => ?_)
  all_goals (rw [Bool.eq_iff_iff]; simp at *; omega)
theorem okValue0 : OkValue0 := by
  intro mk mb x hq
  refine vcValue0 mk mb x ?_
  simp [valueI]
theorem okAsk0 : OkAsk0 := by
  intro mk src dst mb x hq
  refine vcAsk0 mk src dst mb x ?_
  simp only [true_and, and_true, forall_eq, eq_self]
  refine cond_prop (fun h => ?_) fun h => ?_
  · have h' : mk ≠ 6 := by simpa using h
    simp [askM, h']
  · have h' : mk = 6 := by simpa using h
    simp [askM, h', zI, zC, zA0]
theorem okReply0 : OkReply0 := by
  intro m ok x hq
  refine vcReply0 m ok x ?_
  simp [replyM]
theorem okMright0 : OkMright0 := by
  intro m hq
  refine vcMright0 m ?_
  simp only [true_and, and_true, forall_eq, eq_self, hq]
  refine cond_prop (fun h => ?_) fun h1 => cond_prop (fun h => ?_) fun h2 => cond_prop (fun h => ?_) fun h3 => cond_prop (fun h => ?_) fun h4 => cond_prop (fun h => ?_) fun h5 => cond_prop (fun h => ?_) fun h6 => cond_prop (fun h => ?_) fun h7 => ?_
  all_goals simp only [decide_eq_true_eq, decide_eq_false_iff_not, Bool.not_eq_true', Bool.not_eq_false', beq_iff_eq, beq_eq_false_iff_ne, ne_eq] at *
  · unfold rightM; rw [if_neg (by omega)]
  · unfold rightM; rw [if_neg (by omega)]
  · unfold rightM; rw [if_neg (by simp [h])]
  · unfold rightM; rw [if_neg (by simp [h])]
  · unfold rightM; rw [if_neg (by simp [h])]
  · unfold rightM; rw [if_neg (by simp [h])]
  · unfold rightM; rw [if_neg (by simp [h])]
  have e : rightM m = if m.k = 6 then !m.ok && eqI m.x zI
    else if rightI m.x = true ∧ m.x.r = m.r ∧ m.x.sl = m.s then !asksK m.k || (!m.ok && eqI m.x (valueI m.k m.b m.x)) else false := by
    unfold rightM; rw [if_pos ⟨by omega, by omega, h3, h4, h5, h6, h7⟩]
  rw [e]
  refine cond_prop (fun h => ?_) fun h8 => ?_
  · simp only [beq_iff_eq] at h
    rw [if_pos h]
    refine cond_prop (fun g => ?_) fun g => ?_
    · rw [g]; rfl
    · rw [g]; rfl
  · simp only [beq_eq_false_iff_ne, ne_eq] at h8
    rw [if_neg h8]
    refine cond_prop (fun g => ?_) fun g => cond_prop (fun g2 => ?_) fun g2 => ?_
    · simp at g; rw [if_neg (by simp [g])]
    · simp at g g2; rw [if_neg (by rintro ⟨_, a, b⟩; rcases g2 with g2 | g2 <;> contradiction)]
    · simp at g g2
      rw [if_pos ⟨g, g2.1, g2.2⟩]
      refine cond_prop (fun h => ?_) fun h => ?_
      · simp at h; simp [h]
      · simp at h
        refine cond_prop (fun g3 => ?_) fun g3 => ?_
        · simp only [h, Bool.not_true, Bool.false_or]
          rw [g3]; rfl
        · simp only [h, Bool.not_true, Bool.false_or]
          rw [g3]; rfl
end Go.Proofs.YtcokifdgbfbonaaDoor
/- The contracts are met. -/
namespace Go.Proofs.YtcokifdgbfbonaaDoor
set_option linter.unusedVariables false
set_option linter.unusedSimpArgs false
open Go.RowKit
theorem sndStatus : Sound Tryd.prog (lookΓ gamStatus) := sound_of _ fun p hp => by
  simp [gamStatus] at hp
set_option maxHeartbeats 4000000 in
theorem meetsStatus : Meets Tryd.prog 138 statusF := by
  refine meets_of_awp (Γ := lookΓ gamStatus) (L := fun _ _ => none) sndStatus mixedOrders Tryd.func138 rfl Tryd.call138 ?_
  intro args q r hF hq ho
  unfold statusF at hF
  split at hF
  · cases hF
    exact ⟨by simp only [List.length_cons, List.length_nil]; decide, okStatus0 _ hq⟩
  · cases hF
theorem sndAsks : Sound Tryd.prog (lookΓ gamAsks) := sound_of _ fun p hp => by
  simp [gamAsks] at hp
set_option maxHeartbeats 4000000 in
theorem meetsAsks : Meets Tryd.prog 103 asksF := by
  refine meets_of_awp (Γ := lookΓ gamAsks) (L := fun _ _ => none) sndAsks mixedOrders Tryd.func103 rfl Tryd.call103 ?_
  intro args q r hF hq ho
  unfold asksF at hF
  split at hF
  · cases hF
    exact ⟨by simp only [List.length_cons, List.length_nil]; decide, okAsks0 _ hq⟩
  · cases hF
theorem sndReplica : Sound Tryd.prog (lookΓ gamReplica) := sound_of _ fun p hp => by
  simp [gamReplica] at hp
set_option maxHeartbeats 4000000 in
theorem meetsReplica : Meets Tryd.prog 102 replicaF := by
  refine meets_of_awp (Γ := lookΓ gamReplica) (L := fun _ _ => none) sndReplica mixedOrders Tryd.func102 rfl Tryd.call102 ?_
  intro args q r hF hq ho
  unfold replicaF at hF
  split at hF
  · cases hF
    exact ⟨by simp only [List.length_cons, List.length_nil]; decide, okReplica0 _ hq⟩
  · cases hF
theorem sndValue : Sound Tryd.prog (lookΓ gamValue) := sound_of _ fun p hp => by
  simp only [gamValue, List.mem_cons, List.not_mem_nil, or_false] at hp
  subst hp
  exact meetsStatus.orNil
set_option maxHeartbeats 4000000 in
theorem meetsValue : Meets Tryd.prog 104 valueF := by
  refine meets_of_awp (Γ := lookΓ gamValue) (L := fun _ _ => none) sndValue mixedOrders Tryd.func104 rfl Tryd.call104 ?_
  intro args q r hF hq ho
  unfold valueF at hF
  split at hF
  · split at hF
    · rename_i x hzx
      obtain rfl := instOf_some hzx
      cases hF
      exact ⟨by simp only [List.length_cons, List.length_nil]; decide, okValue0 _ _ _ hq⟩
    · cases hF
  · cases hF
theorem sndMright : Sound Tryd.prog (lookΓ gamMright) := sound_of _ fun p hp => by
  simp only [gamMright, List.mem_cons, List.not_mem_nil, or_false] at hp
  rcases hp with rfl | rfl | rfl | rfl | rfl | rfl
  · exact meetsReplica.orNil
  · exact meetsIdRight.orNil
  · exact meetsBalRight.orNil
  · exact meetsIright.orNil
  · exact meetsAsks.orNil
  · exact meetsValue.orNil
set_option maxHeartbeats 4000000 in
theorem meetsMright : Meets Tryd.prog 56 mrightF := by
  refine meets_of_awp (Γ := lookΓ gamMright) (L := fun _ _ => none) sndMright mixedOrders Tryd.func56 rfl Tryd.call56 ?_
  intro args q r hF hq ho
  unfold mrightF at hF
  split at hF
  · split at hF
    · rename_i m hzm
      obtain rfl := msgOf_some hzm
      cases hF
      exact ⟨by simp only [List.length_cons, List.length_nil]; decide, okMright0 _ hq⟩
    · cases hF
  · cases hF
theorem sndAsk : Sound Tryd.prog (lookΓ gamAsk) := sound_of _ fun p hp => by
  simp only [gamAsk, List.mem_cons, List.not_mem_nil, or_false] at hp
  subst hp
  exact meetsValue.orNil
set_option maxHeartbeats 4000000 in
theorem meetsAsk : Meets Tryd.prog 73 askF := by
  refine meets_of_awp (Γ := lookΓ gamAsk) (L := fun _ _ => none) sndAsk mixedOrders Tryd.func73 rfl Tryd.call73 ?_
  intro args q r hF hq ho
  unfold askF at hF
  split at hF
  · split at hF
    · rename_i x hzx
      obtain rfl := instOf_some hzx
      cases hF
      exact ⟨by simp only [List.length_cons, List.length_nil]; decide, okAsk0 _ _ _ _ _ hq⟩
    · cases hF
  · cases hF
theorem sndReply : Sound Tryd.prog (lookΓ gamReply) := sound_of _ fun p hp => by
  simp [gamReply] at hp
set_option maxHeartbeats 4000000 in
theorem meetsReply : Meets Tryd.prog 80 replyF := by
  refine meets_of_awp (Γ := lookΓ gamReply) (L := fun _ _ => none) sndReply mixedOrders Tryd.func80 rfl Tryd.call80 ?_
  intro args q r hF hq ho
  unfold replyF at hF
  split at hF
  · split at hF
    · rename_i m x hzm hzx
      obtain rfl := msgOf_some hzm
      obtain rfl := instOf_some hzx
      cases hF
      exact ⟨by simp only [List.length_cons, List.length_nil]; decide, okReply0 _ _ _ hq⟩
    · cases hF
  · cases hF
end Go.Proofs.YtcokifdgbfbonaaDoor
