/- Contracts by content, their conditions, and that they are met: MsgA. -/
import Derived.Test.YtddilmocngedjaaDoorLaxPkInstA
/- Contracts by content, and the conditions that their code must meet. -/
namespace Go.Proofs.YtddilmocngedjaaDoor
set_option linter.unusedVariables false
set_option linter.unusedSimpArgs false
open Go.RowKit
structure MsgP where
  k : Int
  src : Int
  dst : Int
  r : Int
  s : Int
  b : Int
  ok : Bool
  x : InstP
def msgL (m : MsgP) : List AV := .int .i64 m.k :: .int .i64 m.src :: .int .i64 m.dst :: .int .i64 m.r :: .int .i64 m.s :: .int .u32 m.b :: .bool m.ok :: instL m.x
def eqM (x y : MsgP) : Bool := sameCells (msgL x) (msgL y)
def zM : MsgP := ⟨0, 0, 0, 0, 0, 0, false, zI⟩
def repOK (r : Int) : Bool := decide (0 ≤ r ∧ r < 7)
def statusK (k : Int) : Int := if 3 < (IntKind.i64.wrap (k + 1)).fdiv 2 then 3 else (IntKind.i64.wrap (k + 1)).fdiv 2
def asksK (k : Int) : Bool := decide (k = 1 ∨ k = 3 ∨ k = 5)
def valueI (k b : Int) (x : InstP) : InstP := ⟨x.r, x.sl, statusK k, b, b, false, x.c, x.a⟩
def rightM (m : MsgP) : Bool :=
  if 1 ≤ m.k ∧ m.k ≤ 7 ∧ repOK m.src = true ∧ repOK m.dst = true ∧ m.src ≠ m.dst ∧ rightId m.r m.s = true ∧ balOK m.b = true then
    if m.k = 6 then !m.ok && eqI m.x zI
    else if rightI m.x = true ∧ m.x.r = m.r ∧ m.x.sl = m.s then !asksK m.k || (!m.ok && eqI m.x (valueI m.k m.b m.x))
    else false
  else false
def askM (k src dst b : Int) (x : InstP) : MsgP := ⟨k, src, dst, x.r, x.sl, b, false, if k = 6 then zI else valueI k b x⟩
def replyM (m : MsgP) (ok : Bool) (x : InstP) : MsgP := ⟨IntKind.i64.wrap (m.k + 1), m.dst, m.src, m.r, m.s, m.b, ok, x⟩
def msgOf : List AV → Option MsgP
  | .int .i64 k :: .int .i64 src :: .int .i64 dst :: .int .i64 r :: .int .i64 s :: .int .u32 b :: .bool ok :: rest => match instOf rest with
    | some x => some ⟨k, src, dst, r, s, b, ok, x⟩
    | none => none
  | _ => none
theorem msgOf_some {l : List AV} {x : MsgP} (h : msgOf l = some x) : l = msgL x := by
  unfold msgOf at h
  split at h
  · split at h
    · rename_i ha
      cases instOf_some ha
      cases h; rfl
    · cases h
  · cases h
def statusF : Con
  | [.val (.int .i64 k)] => (some (True, ⟨.int .i64 (statusK k), none, none⟩))
  | _ => none
def gamStatus : List (Nat × Con) := []
def lpStatus0 (k : Int) : Nat → Option LoopPlan := fun _ => none
def inStatus0 (k : Int) : Prop := awp [] (lpStatus0 k) (lookΓ gamStatus) Tryd.prog Tryd.f81.ntmps 0 (Tryd.f81.body.getD .skip) (entrySt [.val (.int .i64 k)]) (exitQ Tryd.prog Tryd.f81.results.toList [] ⟨.int .i64 (statusK k), none, none⟩)
def OkStatus0 : Prop := ∀ (k : Int), True → inStatus0 k
def asksF : Con
  | [.val (.int .i64 k)] => (some (True, ⟨.bool (asksK k), none, none⟩))
  | _ => none
def gamAsks : List (Nat × Con) := []
def lpAsks0 (k : Int) : Nat → Option LoopPlan := fun _ => none
def inAsks0 (k : Int) : Prop := awp [] (lpAsks0 k) (lookΓ gamAsks) Tryd.prog Tryd.f49.ntmps 0 (Tryd.f49.body.getD .skip) (entrySt [.val (.int .i64 k)]) (exitQ Tryd.prog Tryd.f49.results.toList [] ⟨.bool (asksK k), none, none⟩)
def OkAsks0 : Prop := ∀ (k : Int), True → inAsks0 k
def replicaF : Con
  | [.val (.int .i64 r)] => (some (True, ⟨.bool (repOK r), none, none⟩))
  | _ => none
def gamReplica : List (Nat × Con) := []
def lpReplica0 (r : Int) : Nat → Option LoopPlan := fun _ => none
def inReplica0 (r : Int) : Prop := awp [] (lpReplica0 r) (lookΓ gamReplica) Tryd.prog Tryd.f48.ntmps 0 (Tryd.f48.body.getD .skip) (entrySt [.val (.int .i64 r)]) (exitQ Tryd.prog Tryd.f48.results.toList [] ⟨.bool (repOK r), none, none⟩)
def OkReplica0 : Prop := ∀ (r : Int), True → inReplica0 r
def valueF : Con
  | [.val (.int .i64 mk), .val (.int .u32 mb), .val (.agg zcx)] => (match instOf zcx with | some x => some (True, ⟨.agg (instL (valueI mk mb x)), none, none⟩) | _ => none)
  | _ => none
def gamValue : List (Nat × Con) := [(81, statusF.orNil)]
def lpValue0 (mk mb : Int) (x : InstP) : Nat → Option LoopPlan := fun _ => none
def inValue0 (mk mb : Int) (x : InstP) : Prop := awp [] (lpValue0 mk mb x) (lookΓ gamValue) Tryd.prog Tryd.f50.ntmps 0 (Tryd.f50.body.getD .skip) (entrySt [.val (.int .i64 mk), .val (.int .u32 mb), .val (.agg (instL x))]) (exitQ Tryd.prog Tryd.f50.results.toList [] ⟨.agg (instL (valueI mk mb x)), none, none⟩)
def OkValue0 : Prop := ∀ (mk mb : Int) (x : InstP), True → inValue0 mk mb x
def mrightF : Con
  | [.val (.agg zcm)] => (match msgOf zcm with | some m => some (smallX m.x, ⟨.bool (rightM m), none, none⟩) | _ => none)
  | _ => none
def gamMright : List (Nat × Con) := [(48, replicaF.orNil), (44, idRightF.orNil), (45, balRightF.orNil), (22, irightF.orNil), (49, asksF.orNil), (50, valueF.orNil)]
def lpMright0 (m : MsgP) : Nat → Option LoopPlan := fun _ => none
def inMright0 (m : MsgP) : Prop := awp [] (lpMright0 m) (lookΓ gamMright) Tryd.prog Tryd.f23.ntmps 0 (Tryd.f23.body.getD .skip) (entrySt [.val (.agg (msgL m))]) (exitQ Tryd.prog Tryd.f23.results.toList [] ⟨.bool (rightM m), none, none⟩)
def OkMright0 : Prop := ∀ (m : MsgP), smallX m.x → inMright0 m
def askF : Con
  | [.val (.int .i64 mk), .val (.int .i64 src), .val (.int .i64 dst), .val (.int .u32 mb), .val (.agg zcx)] => (match instOf zcx with | some x => some (True, ⟨.agg (msgL (askM mk src dst mb x)), none, none⟩) | _ => none)
  | _ => none
def gamAsk : List (Nat × Con) := [(50, valueF.orNil)]
def lpAsk0 (mk src dst mb : Int) (x : InstP) : Nat → Option LoopPlan := fun _ => none
def inAsk0 (mk src dst mb : Int) (x : InstP) : Prop := awp [] (lpAsk0 mk src dst mb x) (lookΓ gamAsk) Tryd.prog Tryd.f43.ntmps 0 (Tryd.f43.body.getD .skip) (entrySt [.val (.int .i64 mk), .val (.int .i64 src), .val (.int .i64 dst), .val (.int .u32 mb), .val (.agg (instL x))]) (exitQ Tryd.prog Tryd.f43.results.toList [] ⟨.agg (msgL (askM mk src dst mb x)), none, none⟩)
def OkAsk0 : Prop := ∀ (mk src dst mb : Int) (x : InstP), True → inAsk0 mk src dst mb x
def replyF : Con
  | [.val (.agg zcm), .val (.bool ok2), .val (.agg zcx)] => (match msgOf zcm, instOf zcx with | some m, some x => some (True, ⟨.agg (msgL (replyM m ok2 x)), none, none⟩) | _, _ => none)
  | _ => none
def gamReply : List (Nat × Con) := []
def lpReply0 (m : MsgP) (ok2 : Bool) (x : InstP) : Nat → Option LoopPlan := fun _ => none
def inReply0 (m : MsgP) (ok2 : Bool) (x : InstP) : Prop := awp [] (lpReply0 m ok2 x) (lookΓ gamReply) Tryd.prog Tryd.f54.ntmps 0 (Tryd.f54.body.getD .skip) (entrySt [.val (.agg (msgL m)), .val (.bool ok2), .val (.agg (instL x))]) (exitQ Tryd.prog Tryd.f54.results.toList [] ⟨.agg (msgL (replyM m ok2 x)), none, none⟩)
def OkReply0 : Prop := ∀ (m : MsgP) (ok2 : Bool) (x : InstP), True → inReply0 m ok2 x
end Go.Proofs.YtddilmocngedjaaDoor
/- What the verification conditions come to: printed by a program of ours (wip/lax/ex/Norm.lean). -/
namespace Go.Proofs.YtddilmocngedjaaDoor
set_option linter.unusedVariables false
open Go.RowKit
set_option maxRecDepth 100000
theorem vcStatus0 (k : Int) (h : let w0_x := (Int.fdiv (IntKind.wrap IntKind.i64 (k + (1 : Int))) 2); (tt ∧ T1 ∧ tt ∧ T1 ∧ T1 ∧ (0 : Int) ≤ (1 : Int) ∧ T1 ∧ T1 ∧ tt ∧ tt ∧ ((statusK k) = (@ite.{1} Int ((3 : Int) < w0_x) (Int.decLt 3 w0_x) (3 : Int) w0_x) ∧ True) ∧ tt)) : inStatus0 k :=
  Eq.mp (show _ = _ by kernel_rfl) h
theorem vcAsks0 (k : Int) (h : (tt ∧ T1 ∧ tt ∧ T1 ∧ T1 ∧ T1 ∧ (bif (k == 1) then (tt ∧ T1 ∧ tt ∧ T1 ∧ tt ∧ tt ∧ ((asksK k) = true ∧ True) ∧ tt) else (T1 ∧ T1 ∧ T1 ∧ T1 ∧ (bif (k == 3) then (tt ∧ T1 ∧ tt ∧ tt ∧ ((asksK k) = true ∧ True) ∧ tt) else (T1 ∧ T1 ∧ T1 ∧ T1 ∧ tt ∧ tt ∧ ((asksK k) = (k == 5) ∧ True) ∧ tt)))))) : inAsks0 k :=
  Eq.mp (show _ = _ by kernel_rfl) h
theorem vcReplica0 (r : Int) (h : (tt ∧ T1 ∧ tt ∧ T1 ∧ T1 ∧ T1 ∧ (bif (decide ((0 : Int) ≤ r)) then (T1 ∧ T1 ∧ T1 ∧ T1 ∧ tt ∧ tt ∧ ((repOK r) = (decide (r < 7)) ∧ True) ∧ tt) else (false = false ∧ T1 ∧ tt ∧ tt ∧ ((repOK r) = false ∧ True) ∧ tt)))) : inReplica0 r :=
  Eq.mp (show _ = _ by kernel_rfl) h
theorem vcValue0 (mk : Int) (mb : Int) (x : InstP) (h : let q0 := (valueI mk mb x); (tt ∧ T1 ∧ T1 ∧ tt ∧ T1 ∧ tt ∧ T1 ∧ (T1 ∧ True) ∧ ∀ v0 : Int, (v0 = (statusK mk)) → T1 ∧ T1 ∧ T1 ∧ tt ∧ T1 ∧ tt ∧ T1 ∧ tt ∧ tt ∧ tt ∧ tt ∧ (q0.r = x.r ∧ q0.sl = x.sl ∧ q0.st = v0 ∧ q0.bal = mb ∧ q0.vote = mb ∧ false = false ∧ q0.c.k = x.c.k ∧ q0.c.num = x.c.num ∧ q0.c.foot = x.c.foot ∧ q0.c.rq = x.c.rq ∧ q0.c.path = x.c.path ∧ q0.c.mode = x.c.mode ∧ q0.c.n = x.c.n ∧ q0.c.time = x.c.time ∧ q0.a.s = x.a.s ∧ q0.a.d0 = x.a.d0 ∧ q0.a.d1 = x.a.d1 ∧ q0.a.d2 = x.a.d2 ∧ q0.a.d3 = x.a.d3 ∧ q0.a.d4 = x.a.d4 ∧ q0.a.d5 = x.a.d5 ∧ q0.a.d6 = x.a.d6 ∧ True) ∧ tt)) : inValue0 mk mb x :=
  Eq.mp (show _ = _ by kernel_rfl) h
theorem vcMright0 (m : MsgP) (h : let q0 := (valueI m.k m.b m.x); let q1 := (rightM m); let w0_x := (q1 = false ∧ True); let w1_x := (tt ∧ T1 ∧ tt ∧ T1 ∧ tt ∧ tt ∧ w0_x ∧ tt); let w2_x := (tt ∧ T1 ∧ tt ∧ tt ∧ w0_x ∧ tt); (tt ∧ T1 ∧ T1 ∧ tt ∧ T1 ∧ tt ∧ T1 ∧ T1 ∧ (bif (decide (m.k < 1)) then (tt ∧ T1 ∧ tt ∧ T1 ∧ tt ∧ T1 ∧ tt ∧ T1 ∧ tt ∧ T1 ∧ tt ∧ T1 ∧ tt ∧ T1 ∧ tt ∧ tt ∧ w0_x ∧ tt) else (T1 ∧ tt ∧ T1 ∧ T1 ∧ T1 ∧ (bif (decide ((7 : Int) < m.k)) then (tt ∧ T1 ∧ tt ∧ T1 ∧ tt ∧ T1 ∧ tt ∧ T1 ∧ tt ∧ T1 ∧ tt ∧ T1 ∧ tt ∧ tt ∧ w0_x ∧ tt) else (T1 ∧ tt ∧ (T1 ∧ True) ∧ T1 ∧ T1 ∧ T1 ∧ (bif (Bool.not (repOK m.src)) then (tt ∧ T1 ∧ tt ∧ T1 ∧ tt ∧ T1 ∧ tt ∧ T1 ∧ tt ∧ T1 ∧ tt ∧ tt ∧ w0_x ∧ tt) else (T1 ∧ tt ∧ (T1 ∧ True) ∧ T1 ∧ T1 ∧ T1 ∧ (bif (Bool.not (repOK m.dst)) then (tt ∧ T1 ∧ tt ∧ T1 ∧ tt ∧ T1 ∧ tt ∧ T1 ∧ tt ∧ tt ∧ w0_x ∧ tt) else (T1 ∧ tt ∧ T1 ∧ tt ∧ T1 ∧ T1 ∧ T1 ∧ (bif (m.src == m.dst) then (tt ∧ T1 ∧ tt ∧ T1 ∧ tt ∧ T1 ∧ tt ∧ tt ∧ w0_x ∧ tt) else (T1 ∧ tt ∧ (T1 ∧ True) ∧ T1 ∧ T1 ∧ T1 ∧ (bif (Bool.not (rightId m.r m.s)) then w1_x else (T1 ∧ tt ∧ (T1 ∧ True) ∧ T1 ∧ T1 ∧ T1 ∧ (bif (Bool.not (balOK m.b)) then w2_x else (tt ∧ T1 ∧ tt ∧ T1 ∧ T1 ∧ (bif (m.k == 6) then (tt ∧ T1 ∧ tt ∧ T1 ∧ T1 ∧ (bif (Bool.not m.ok) then (T1 ∧ tt ∧ T1 ∧ T1 ∧ T1 ∧ T1 ∧ tt ∧ tt ∧ (q1 = (Bool.and (m.x.r == 0) (Bool.and (m.x.sl == 0) (Bool.and (m.x.st == 0) (Bool.and (m.x.bal == 0) (Bool.and (m.x.vote == 0) (Bool.and (@BEq.beq.{0} Bool (@instBEqOfDecidableEq.{0} Bool instDecidableEqBool) m.x.same false) (Bool.and (m.x.c.k == 0) (Bool.and (m.x.c.num == 0) (Bool.and (@BEq.beq.{0} (List UInt8) (@List.instBEq.{0} UInt8 (@instBEqOfDecidableEq.{0} UInt8 instDecidableEqUInt8)) m.x.c.foot (@List.nil.{0} UInt8)) (Bool.and (m.x.c.rq == 0) (Bool.and (@BEq.beq.{0} (List UInt8) (@List.instBEq.{0} UInt8 (@instBEqOfDecidableEq.{0} UInt8 instDecidableEqUInt8)) m.x.c.path (@List.nil.{0} UInt8)) (Bool.and (m.x.c.mode == 0) (Bool.and (m.x.c.n == 0) (Bool.and (m.x.c.time == 0) (Bool.and (m.x.a.s == 0) (Bool.and (m.x.a.d0 == 0) (Bool.and (m.x.a.d1 == 0) (Bool.and (m.x.a.d2 == 0) (Bool.and (m.x.a.d3 == 0) (Bool.and (m.x.a.d4 == 0) (Bool.and (m.x.a.d5 == 0) (Bool.and (m.x.a.d6 == 0) true)))))))))))))))))))))) ∧ True) ∧ tt) else (false = false ∧ T1 ∧ tt ∧ tt ∧ w0_x ∧ tt))) else (tt ∧ T1 ∧ tt ∧ (T1 ∧ (smallX m.x)) ∧ T1 ∧ T1 ∧ (bif (Bool.not (rightI m.x)) then w1_x else (T1 ∧ T1 ∧ tt ∧ T1 ∧ tt ∧ T1 ∧ T1 ∧ T1 ∧ (bif (Bool.not (Bool.and (m.x.r == m.r) (Bool.and (m.x.sl == m.s) true))) then w2_x else (tt ∧ T1 ∧ tt ∧ (T1 ∧ True) ∧ T1 ∧ T1 ∧ (bif (Bool.not (asksK m.k)) then (tt ∧ T1 ∧ tt ∧ tt ∧ tt ∧ (q1 = true ∧ True) ∧ tt) else (T1 ∧ tt ∧ T1 ∧ T1 ∧ (bif (Bool.not m.ok) then (T1 ∧ tt ∧ T1 ∧ tt ∧ T1 ∧ tt ∧ T1 ∧ tt ∧ (T1 ∧ True) ∧ T1 ∧ T1 ∧ T1 ∧ T1 ∧ tt ∧ tt ∧ tt ∧ (q1 = (Bool.and (m.x.r == q0.r) (Bool.and (m.x.sl == q0.sl) (Bool.and (m.x.st == q0.st) (Bool.and (m.x.bal == q0.bal) (Bool.and (m.x.vote == q0.vote) (Bool.and (@BEq.beq.{0} Bool (@instBEqOfDecidableEq.{0} Bool instDecidableEqBool) m.x.same q0.same) (Bool.and (m.x.c.k == q0.c.k) (Bool.and (m.x.c.num == q0.c.num) (Bool.and (@BEq.beq.{0} (List UInt8) (@List.instBEq.{0} UInt8 (@instBEqOfDecidableEq.{0} UInt8 instDecidableEqUInt8)) m.x.c.foot q0.c.foot) (Bool.and (m.x.c.rq == q0.c.rq) (Bool.and (@BEq.beq.{0} (List UInt8) (@List.instBEq.{0} UInt8 (@instBEqOfDecidableEq.{0} UInt8 instDecidableEqUInt8)) m.x.c.path q0.c.path) (Bool.and (m.x.c.mode == q0.c.mode) (Bool.and (m.x.c.n == q0.c.n) (Bool.and (m.x.c.time == q0.c.time) (Bool.and (m.x.a.s == q0.a.s) (Bool.and (m.x.a.d0 == q0.a.d0) (Bool.and (m.x.a.d1 == q0.a.d1) (Bool.and (m.x.a.d2 == q0.a.d2) (Bool.and (m.x.a.d3 == q0.a.d3) (Bool.and (m.x.a.d4 == q0.a.d4) (Bool.and (m.x.a.d5 == q0.a.d5) (Bool.and (m.x.a.d6 == q0.a.d6) true)))))))))))))))))))))) ∧ True) ∧ tt) else (false = false ∧ T1 ∧ T1 ∧ tt ∧ tt ∧ tt ∧ w0_x ∧ tt)))))))))))))))))))))))))) : inMright0 m :=
  Eq.mp (show _ = _ by kernel_rfl) h
theorem vcAsk0 (mk : Int) (src : Int) (dst : Int) (mb : Int) (x : InstP) (h : let q0 := (askM mk src dst mb x); let q1 := (valueI mk mb x); (tt ∧ T1 ∧ T1 ∧ tt ∧ T1 ∧ T1 ∧ T1 ∧ T1 ∧ tt ∧ T1 ∧ T1 ∧ T1 ∧ tt ∧ tt ∧ T1 ∧ T1 ∧ (bif (mk != 6) then (tt ∧ T1 ∧ T1 ∧ tt ∧ (T1 ∧ True) ∧ T1 ∧ tt ∧ tt ∧ tt ∧ tt ∧ tt ∧ tt ∧ (q0.k = mk ∧ q0.src = src ∧ q0.dst = dst ∧ q0.r = x.r ∧ q0.s = x.sl ∧ q0.b = mb ∧ false = false ∧ q0.x.r = q1.r ∧ q0.x.sl = q1.sl ∧ q0.x.st = q1.st ∧ q0.x.bal = q1.bal ∧ q0.x.vote = q1.vote ∧ q0.x.same = q1.same ∧ q0.x.c.k = q1.c.k ∧ q0.x.c.num = q1.c.num ∧ q0.x.c.foot = q1.c.foot ∧ q0.x.c.rq = q1.c.rq ∧ q0.x.c.path = q1.c.path ∧ q0.x.c.mode = q1.c.mode ∧ q0.x.c.n = q1.c.n ∧ q0.x.c.time = q1.c.time ∧ q0.x.a.s = q1.a.s ∧ q0.x.a.d0 = q1.a.d0 ∧ q0.x.a.d1 = q1.a.d1 ∧ q0.x.a.d2 = q1.a.d2 ∧ q0.x.a.d3 = q1.a.d3 ∧ q0.x.a.d4 = q1.a.d4 ∧ q0.x.a.d5 = q1.a.d5 ∧ q0.x.a.d6 = q1.a.d6 ∧ True) ∧ tt) else (tt ∧ tt ∧ tt ∧ tt ∧ tt ∧ (q0.k = mk ∧ q0.src = src ∧ q0.dst = dst ∧ q0.r = x.r ∧ q0.s = x.sl ∧ q0.b = mb ∧ false = false ∧ q0.x.r = 0 ∧ q0.x.sl = 0 ∧ q0.x.st = 0 ∧ q0.x.bal = 0 ∧ q0.x.vote = 0 ∧ q0.x.same = false ∧ q0.x.c.k = 0 ∧ q0.x.c.num = 0 ∧ q0.x.c.foot = [] ∧ q0.x.c.rq = 0 ∧ q0.x.c.path = [] ∧ q0.x.c.mode = 0 ∧ q0.x.c.n = 0 ∧ q0.x.c.time = 0 ∧ q0.x.a.s = 0 ∧ q0.x.a.d0 = 0 ∧ q0.x.a.d1 = 0 ∧ q0.x.a.d2 = 0 ∧ q0.x.a.d3 = 0 ∧ q0.x.a.d4 = 0 ∧ q0.x.a.d5 = 0 ∧ q0.x.a.d6 = 0 ∧ True) ∧ tt)))) : inAsk0 mk src dst mb x :=
  Eq.mp (show _ = _ by kernel_rfl) h
theorem vcReply0 (m : MsgP) (ok2 : Bool) (x : InstP) (h : let q0 := (replyM m ok2 x); (tt ∧ T1 ∧ T1 ∧ T1 ∧ tt ∧ T1 ∧ tt ∧ T1 ∧ T1 ∧ tt ∧ T1 ∧ tt ∧ T1 ∧ tt ∧ T1 ∧ tt ∧ T1 ∧ tt ∧ T1 ∧ tt ∧ tt ∧ tt ∧ (q0.k = (IntKind.wrap IntKind.i64 (m.k + (1 : Int))) ∧ q0.src = m.dst ∧ q0.dst = m.src ∧ q0.r = m.r ∧ q0.s = m.s ∧ q0.b = m.b ∧ q0.ok = ok2 ∧ q0.x.r = x.r ∧ q0.x.sl = x.sl ∧ q0.x.st = x.st ∧ q0.x.bal = x.bal ∧ q0.x.vote = x.vote ∧ q0.x.same = x.same ∧ q0.x.c.k = x.c.k ∧ q0.x.c.num = x.c.num ∧ q0.x.c.foot = x.c.foot ∧ q0.x.c.rq = x.c.rq ∧ q0.x.c.path = x.c.path ∧ q0.x.c.mode = x.c.mode ∧ q0.x.c.n = x.c.n ∧ q0.x.c.time = x.c.time ∧ q0.x.a.s = x.a.s ∧ q0.x.a.d0 = x.a.d0 ∧ q0.x.a.d1 = x.a.d1 ∧ q0.x.a.d2 = x.a.d2 ∧ q0.x.a.d3 = x.a.d3 ∧ q0.x.a.d4 = x.a.d4 ∧ q0.x.a.d5 = x.a.d5 ∧ q0.x.a.d6 = x.a.d6 ∧ True) ∧ tt)) : inReply0 m ok2 x :=
  Eq.mp (show _ = _ by kernel_rfl) h
end Go.Proofs.YtddilmocngedjaaDoor
/- The conditions hold: messages. -/
namespace Go.Proofs.YtddilmocngedjaaDoor
set_option linter.unusedVariables false
set_option linter.unusedSimpArgs false
open Go.RowKit
set_option maxRecDepth 100000

theorem okStatus0 : OkStatus0 := by
  intro k hq
  refine vcStatus0 k ?_
  simp only [true_and, and_true, forall_eq, eq_self]
  exact ⟨by omega, rfl⟩
theorem okAsks0 : OkAsks0 := by
  intro k hq
  refine vcAsks0 k ?_
  simp only [true_and, and_true, forall_eq, eq_self]
  unfold asksK
  repeat' (refine cond_prop (fun h => ?_) fun h => ?_)
  all_goals (rw [Bool.eq_iff_iff]; simp at *; omega)
theorem okReplica0 : OkReplica0 := by
  intro k hq
  refine vcReplica0 k ?_
  simp only [true_and, and_true, forall_eq, eq_self]
  unfold repOK
  repeat' (refine cond_prop (fun h => ?_) fun h => ?_)
  all_goals (rw [Bool.eq_iff_iff]; simp at *; omega)
theorem okValue0 : OkValue0 := by
  intro mk mb x hq
  refine vcValue0 mk mb x ?_
  simp [valueI]
theorem okAsk0 : OkAsk0 := by
  intro mk src dst mb x hq
  refine vcAsk0 mk src dst mb x ?_
  simp only [true_and, and_true, forall_eq, eq_self]
  refine cond_prop (fun h => ?_) fun h => ?_
  · have h' : mk ≠ 6 := by simpa using h
    simp [askM, h']
  · have h' : mk = 6 := by simpa using h
    simp [askM, h', zI, zC, zA0]
theorem okReply0 : OkReply0 := by
  intro m ok x hq
  refine vcReply0 m ok x ?_
  simp [replyM]
theorem okMright0 : OkMright0 := by
  intro m hq
  refine vcMright0 m ?_
  simp only [true_and, and_true, forall_eq, eq_self, hq]
  refine cond_prop (fun h => ?_) fun h1 => cond_prop (fun h => ?_) fun h2 => cond_prop (fun h => ?_) fun h3 => cond_prop (fun h => ?_) fun h4 => cond_prop (fun h => ?_) fun h5 => cond_prop (fun h => ?_) fun h6 => cond_prop (fun h => ?_) fun h7 => ?_
  all_goals simp only [decide_eq_true_eq, decide_eq_false_iff_not, Bool.not_eq_true', Bool.not_eq_false', beq_iff_eq, beq_eq_false_iff_ne, ne_eq] at *
  · unfold rightM; rw [if_neg (by omega)]
  · unfold rightM; rw [if_neg (by omega)]
  · unfold rightM; rw [if_neg (by simp [h])]
  · unfold rightM; rw [if_neg (by simp [h])]
  · unfold rightM; rw [if_neg (by simp [h])]
  · unfold rightM; rw [if_neg (by simp [h])]
  · unfold rightM; rw [if_neg (by simp [h])]
  have e : rightM m = if m.k = 6 then !m.ok && eqI m.x zI
    else if rightI m.x = true ∧ m.x.r = m.r ∧ m.x.sl = m.s then !asksK m.k || (!m.ok && eqI m.x (valueI m.k m.b m.x)) else false := by
    unfold rightM; rw [if_pos ⟨by omega, by omega, h3, h4, h5, h6, h7⟩]
  rw [e]
  refine cond_prop (fun h => ?_) fun h8 => ?_
  · simp only [beq_iff_eq] at h
    rw [if_pos h]
    refine cond_prop (fun g => ?_) fun g => ?_
    · rw [g]; rfl
    · rw [g]; rfl
  · simp only [beq_eq_false_iff_ne, ne_eq] at h8
    rw [if_neg h8]
    refine cond_prop (fun g => ?_) fun g => cond_prop (fun g2 => ?_) fun g2 => ?_
    · simp at g; rw [if_neg (by simp [g])]
    · simp at g g2; rw [if_neg (by rintro ⟨_, a, b⟩; rcases g2 with g2 | g2 <;> contradiction)]
    · simp at g g2
      rw [if_pos ⟨g, g2.1, g2.2⟩]
      refine cond_prop (fun h => ?_) fun h => ?_
      · simp at h; simp [h]
      · simp at h
        refine cond_prop (fun g3 => ?_) fun g3 => ?_
        · simp only [h, Bool.not_true, Bool.false_or]
          rw [g3]; rfl
        · simp only [h, Bool.not_true, Bool.false_or]
          rw [g3]; rfl
end Go.Proofs.YtddilmocngedjaaDoor
/- The contracts are met. -/
namespace Go.Proofs.YtddilmocngedjaaDoor
set_option linter.unusedVariables false
set_option linter.unusedSimpArgs false
open Go.RowKit
theorem sndStatus : Sound Tryd.prog (lookΓ gamStatus) := sound_of _ fun p hp => by
  simp [gamStatus] at hp
set_option maxHeartbeats 4000000 in
theorem meetsStatus : Meets Tryd.prog 81 statusF := by
  refine meets_of_awp (Γ := lookΓ gamStatus) (L := fun _ _ => none) sndStatus mixedOrders Tryd.func81 rfl Tryd.call81 ?_
  intro args q r hF hq ho
  unfold statusF at hF
  split at hF
  · cases hF
    exact ⟨by simp only [List.length_cons, List.length_nil]; decide, okStatus0 _ hq⟩
  · cases hF
theorem sndAsks : Sound Tryd.prog (lookΓ gamAsks) := sound_of _ fun p hp => by
  simp [gamAsks] at hp
set_option maxHeartbeats 4000000 in
theorem meetsAsks : Meets Tryd.prog 49 asksF := by
  refine meets_of_awp (Γ := lookΓ gamAsks) (L := fun _ _ => none) sndAsks mixedOrders Tryd.func49 rfl Tryd.call49 ?_
  intro args q r hF hq ho
  unfold asksF at hF
  split at hF
  · cases hF
    exact ⟨by simp only [List.length_cons, List.length_nil]; decide, okAsks0 _ hq⟩
  · cases hF
theorem sndReplica : Sound Tryd.prog (lookΓ gamReplica) := sound_of _ fun p hp => by
  simp [gamReplica] at hp
set_option maxHeartbeats 4000000 in
theorem meetsReplica : Meets Tryd.prog 48 replicaF := by
  refine meets_of_awp (Γ := lookΓ gamReplica) (L := fun _ _ => none) sndReplica mixedOrders Tryd.func48 rfl Tryd.call48 ?_
  intro args q r hF hq ho
  unfold replicaF at hF
  split at hF
  · cases hF
    exact ⟨by simp only [List.length_cons, List.length_nil]; decide, okReplica0 _ hq⟩
  · cases hF
theorem sndValue : Sound Tryd.prog (lookΓ gamValue) := sound_of _ fun p hp => by
  simp only [gamValue, List.mem_cons, List.not_mem_nil, or_false] at hp
  subst hp
  exact meetsStatus.orNil
set_option maxHeartbeats 4000000 in
theorem meetsValue : Meets Tryd.prog 50 valueF := by
  refine meets_of_awp (Γ := lookΓ gamValue) (L := fun _ _ => none) sndValue mixedOrders Tryd.func50 rfl Tryd.call50 ?_
  intro args q r hF hq ho
  unfold valueF at hF
  split at hF
  · split at hF
    · rename_i x hzx
      obtain rfl := instOf_some hzx
      cases hF
      exact ⟨by simp only [List.length_cons, List.length_nil]; decide, okValue0 _ _ _ hq⟩
    · cases hF
  · cases hF
theorem sndMright : Sound Tryd.prog (lookΓ gamMright) := sound_of _ fun p hp => by
  simp only [gamMright, List.mem_cons, List.not_mem_nil, or_false] at hp
  rcases hp with rfl | rfl | rfl | rfl | rfl | rfl
  · exact meetsReplica.orNil
  · exact meetsIdRight.orNil
  · exact meetsBalRight.orNil
  · exact meetsIright.orNil
  · exact meetsAsks.orNil
  · exact meetsValue.orNil
set_option maxHeartbeats 4000000 in
theorem meetsMright : Meets Tryd.prog 23 mrightF := by
  refine meets_of_awp (Γ := lookΓ gamMright) (L := fun _ _ => none) sndMright mixedOrders Tryd.func23 rfl Tryd.call23 ?_
  intro args q r hF hq ho
  unfold mrightF at hF
  split at hF
  · split at hF
    · rename_i m hzm
      obtain rfl := msgOf_some hzm
      cases hF
      exact ⟨by simp only [List.length_cons, List.length_nil]; decide, okMright0 _ hq⟩
    · cases hF
  · cases hF
theorem sndAsk : Sound Tryd.prog (lookΓ gamAsk) := sound_of _ fun p hp => by
  simp only [gamAsk, List.mem_cons, List.not_mem_nil, or_false] at hp
  subst hp
  exact meetsValue.orNil
set_option maxHeartbeats 4000000 in
theorem meetsAsk : Meets Tryd.prog 43 askF := by
  refine meets_of_awp (Γ := lookΓ gamAsk) (L := fun _ _ => none) sndAsk mixedOrders Tryd.func43 rfl Tryd.call43 ?_
  intro args q r hF hq ho
  unfold askF at hF
  split at hF
  · split at hF
    · rename_i x hzx
      obtain rfl := instOf_some hzx
      cases hF
      exact ⟨by simp only [List.length_cons, List.length_nil]; decide, okAsk0 _ _ _ _ _ hq⟩
    · cases hF
  · cases hF
theorem sndReply : Sound Tryd.prog (lookΓ gamReply) := sound_of _ fun p hp => by
  simp [gamReply] at hp
set_option maxHeartbeats 4000000 in
theorem meetsReply : Meets Tryd.prog 54 replyF := by
  refine meets_of_awp (Γ := lookΓ gamReply) (L := fun _ _ => none) sndReply mixedOrders Tryd.func54 rfl Tryd.call54 ?_
  intro args q r hF hq ho
  unfold replyF at hF
  split at hF
  · split at hF
    · rename_i m x hzm hzx
      obtain rfl := msgOf_some hzm
      obtain rfl := instOf_some hzx
      cases hF
      exact ⟨by simp only [List.length_cons, List.length_nil]; decide, okReply0 _ _ _ hq⟩
    · cases hF
  · cases hF
end Go.Proofs.YtddilmocngedjaaDoor
