/- Contracts by content, their conditions, and that they are met: InstA. -/
import Derived.Test.YtcokifdgbfbonaaDoorLaxPkCmdA
import Derived.Test.YtcokifdgbfbonaaDoorLaxPkIoA
/- Contracts by content, and the conditions that their code must meet. -/
namespace Go.Proofs.YtcokifdgbfbonaaDoor
set_option linter.unusedVariables false
set_option linter.unusedSimpArgs false
open Go.RowKit
structure AttP where
  s : Int
  d0 : Int
  d1 : Int
  d2 : Int
  d3 : Int
  d4 : Int
  d5 : Int
  d6 : Int
structure InstP where
  r : Int
  sl : Int
  st : Int
  bal : Int
  vote : Int
  same : Bool
  c : CmdP
  a : AttP
def attL (a : AttP) : List AV := [.int .i64 a.s, .int .i64 a.d0, .int .i64 a.d1, .int .i64 a.d2, .int .i64 a.d3, .int .i64 a.d4, .int .i64 a.d5, .int .i64 a.d6]
def instL (x : InstP) : List AV := [.int .i64 x.r, .int .i64 x.sl, .int .i64 x.st, .int .u32 x.bal, .int .u32 x.vote, .bool x.same, .int .i64 x.c.k, .int .u64 x.c.num, .str x.c.foot, .int .u64 x.c.rq, .str x.c.path, .int .i64 x.c.mode, .int .u64 x.c.n, .int .i64 x.c.time, .int .i64 x.a.s, .int .i64 x.a.d0, .int .i64 x.a.d1, .int .i64 x.a.d2, .int .i64 x.a.d3, .int .i64 x.a.d4, .int .i64 x.a.d5, .int .i64 x.a.d6]
def eqA (a b : AttP) : Bool := sameCells (attL a) (attL b)
def eqI (x y : InstP) : Bool := sameCells (instL x) (instL y)
def zA0 : AttP := ⟨0, 0, 0, 0, 0, 0, 0, 0⟩
def zI : InstP := ⟨0, 0, 0, 0, 0, false, zC, zA0⟩
def alikeI (x y : InstP) : Bool := eqC x.c y.c && eqA x.a y.a
def ownsI (x : InstP) : Bool := ownsB x.a.s x.a.d0 x.a.d1 x.a.d2 x.a.d3 x.a.d4 x.a.d5 x.a.d6 x.r x.sl
def smallX (x : InstP) : Prop := x.c.foot.length ≤ 2900000 ∧ x.c.path.length ≤ 2900000
abbrev maxX (x : InstP) : Prop := x.c.foot.length ≤ 9223372036854775807 ∧ x.c.path.length ≤ 9223372036854775807
def smallB (x : InstP) (m : Nat) : Bool := decide (x.c.path.length < m) && decide (x.c.foot.length < m)
def newI (r sl : Int) : InstP := ⟨r, sl, 0, 0, 0, false, zC, zA0⟩
def attOf : List AV → Option AttP
  | [.int .i64 s, .int .i64 d0, .int .i64 d1, .int .i64 d2, .int .i64 d3, .int .i64 d4, .int .i64 d5, .int .i64 d6] => some ⟨s, d0, d1, d2, d3, d4, d5, d6⟩
  | _ => none
def instOf : List AV → Option InstP
  | .int .i64 r :: .int .i64 sl :: .int .i64 st :: .int .u32 bal :: .int .u32 vote :: .bool same :: .int .i64 k :: .int .u64 num :: .str foot :: .int .u64 rq :: .str path :: .int .i64 mode :: .int .u64 n :: .int .i64 time :: rest => match attOf rest with
    | some a => some ⟨r, sl, st, bal, vote, same, ⟨k, num, foot, rq, path, mode, n, time⟩, a⟩
    | none => none
  | _ => none
theorem attOf_some {l : List AV} {x : AttP} (h : attOf l = some x) : l = attL x := by
  unfold attOf at h
  split at h
  · cases h; rfl
  · cases h
theorem instOf_some {l : List AV} {x : InstP} (h : instOf l = some x) : l = instL x := by
  unfold instOf at h
  split at h
  · split at h
    · rename_i ha
      cases attOf_some ha
      cases h; rfl
    · cases h
  · cases h
def rightI (x : InstP) : Bool :=
  if rightId x.r x.sl && balOK x.bal && balOK x.vote && decide (x.vote ≤ x.bal) then
    if x.st = 0 then eqI x ⟨x.r, x.sl, 0, x.bal, 0, false, zC, zA0⟩
    else if x.st < 0 ∨ 3 < x.st ∨ (x.same = true ∧ (x.st ≠ 1 ∨ x.vote ≠ 0)) then false
    else rightC x.c && ownsI x
  else false
def followsI (x o : InstP) : Bool :=
  if x.r = o.r ∧ x.sl = o.sl ∧ rightI x = true ∧ rightI o = true ∧ o.bal ≤ x.bal then
    if o.st = 3 then decide (x.st = 3) && alikeI x o
    else if x.st = 3 then true
    else if x.vote ≠ o.vote then decide (o.vote < x.vote)
    else if x.st ≠ o.st then decide (o.st < x.st)
    else alikeI x o && (x.same == o.same)
  else false
def irightF : Con
  | [.val (.agg zcx)] => (match instOf zcx with | some x => some (smallX x, ⟨.bool (rightI x), none, none⟩) | _ => none)
  | _ => none
def gamIright : List (Nat × Con) := [(74, idRightF.orNil), (75, balRightF.orNil), (69, crightF.orNil), (76, attOwnsF.orNil)]
def lpIright0 (x : InstP) : Nat → Option LoopPlan := fun _ => none
def inIright0 (x : InstP) : Prop := awp [] (lpIright0 x) (lookΓ gamIright) Tryd.prog Tryd.f26.ntmps 0 (Tryd.f26.body.getD .skip) (entrySt [.val (.agg (instL x))]) (exitQ Tryd.prog Tryd.f26.results.toList [] ⟨.bool (rightI x), none, none⟩)
def OkIright0 : Prop := ∀ (x : InstP), smallX x → inIright0 x
def alikeF : Con
  | [.val (.agg zcx), .val (.agg zcy)] => (match instOf zcx, instOf zcy with | some x, some y => some (True, ⟨.bool (alikeI x y), none, none⟩) | _, _ => none)
  | _ => none
def gamAlike : List (Nat × Con) := []
def lpAlike0 (x y : InstP) : Nat → Option LoopPlan := fun _ => none
def inAlike0 (x y : InstP) : Prop := awp [] (lpAlike0 x y) (lookΓ gamAlike) Tryd.prog Tryd.f34.ntmps 0 (Tryd.f34.body.getD .skip) (entrySt [.val (.agg (instL x)), .val (.agg (instL y))]) (exitQ Tryd.prog Tryd.f34.results.toList [] ⟨.bool (alikeI x y), none, none⟩)
def OkAlike0 : Prop := ∀ (x y : InstP), True → inAlike0 x y
def followsF : Con
  | [.val (.agg zcx), .val (.agg zcy)] => (match instOf zcx, instOf zcy with | some x, some y => some (smallX x ∧ smallX y, ⟨.bool (followsI x y), none, none⟩) | _, _ => none)
  | _ => none
def gamFollows : List (Nat × Con) := [(26, irightF.orNil), (34, alikeF.orNil)]
def lpFollows0 (x y : InstP) : Nat → Option LoopPlan := fun _ => none
def inFollows0 (x y : InstP) : Prop := awp [] (lpFollows0 x y) (lookΓ gamFollows) Tryd.prog Tryd.f33.ntmps 0 (Tryd.f33.body.getD .skip) (entrySt [.val (.agg (instL x)), .val (.agg (instL y))]) (exitQ Tryd.prog Tryd.f33.results.toList [] ⟨.bool (followsI x y), none, none⟩)
def OkFollows0 : Prop := ∀ (x y : InstP), smallX x ∧ smallX y → inFollows0 x y
def inewF : Con
  | [.val (.agg [.int .i64 r, .int .i64 sl])] => (some (True, ⟨.agg (instL (newI r sl)), none, none⟩))
  | _ => none
def gamInew : List (Nat × Con) := []
def lpInew0 (r sl : Int) : Nat → Option LoopPlan := fun _ => none
def inInew0 (r sl : Int) : Prop := awp [] (lpInew0 r sl) (lookΓ gamInew) Tryd.prog Tryd.f43.ntmps 0 (Tryd.f43.body.getD .skip) (entrySt [.val (.agg [.int .i64 r, .int .i64 sl])]) (exitQ Tryd.prog Tryd.f43.results.toList [] ⟨.agg (instL (newI r sl)), none, none⟩)
def OkInew0 : Prop := ∀ (r sl : Int), True → inInew0 r sl
end Go.Proofs.YtcokifdgbfbonaaDoor
/- What the verification conditions come to: printed by a program of ours (wip/lax/ex/Norm.lean). -/
namespace Go.Proofs.YtcokifdgbfbonaaDoor
set_option linter.unusedVariables false
open Go.RowKit
set_option maxRecDepth 100000
theorem vcIright0 (x : InstP) (h : (tt ∧ T1 ∧ T1 ∧ tt ∧ T1 ∧ tt ∧ (T1 ∧ True) ∧ T1 ∧ T1 ∧ (bif (Bool.not (rightId (InstP.r x) (InstP.sl x))) then (tt ∧ T1 ∧ tt ∧ T1 ∧ tt ∧ T1 ∧ tt ∧ T1 ∧ tt ∧ tt ∧ (((rightI x) = false) ∧ True) ∧ tt) else (T1 ∧ tt ∧ (T1 ∧ True) ∧ T1 ∧ T1 ∧ T1 ∧ (bif (Bool.not (balOK (InstP.bal x))) then (tt ∧ T1 ∧ tt ∧ T1 ∧ tt ∧ T1 ∧ tt ∧ tt ∧ (((rightI x) = false) ∧ True) ∧ tt) else (T1 ∧ tt ∧ (T1 ∧ True) ∧ T1 ∧ T1 ∧ T1 ∧ (bif (Bool.not (balOK (InstP.vote x))) then (tt ∧ T1 ∧ tt ∧ T1 ∧ tt ∧ tt ∧ (((rightI x) = false) ∧ True) ∧ tt) else (T1 ∧ tt ∧ T1 ∧ tt ∧ T1 ∧ T1 ∧ T1 ∧ (bif (decide ((InstP.bal x) < (InstP.vote x))) then (tt ∧ T1 ∧ tt ∧ tt ∧ (((rightI x) = false) ∧ True) ∧ tt) else (tt ∧ T1 ∧ tt ∧ T1 ∧ T1 ∧ (bif ((InstP.st x) == (0 : Int)) then (tt ∧ tt ∧ T1 ∧ tt ∧ T1 ∧ tt ∧ T1 ∧ T1 ∧ T1 ∧ tt ∧ tt ∧ (((rightI x) = (Bool.and ((InstP.r x) == (InstP.r x)) (Bool.and ((InstP.sl x) == (InstP.sl x)) (Bool.and ((InstP.st x) == (0 : Int)) (Bool.and ((InstP.bal x) == (InstP.bal x)) (Bool.and ((InstP.vote x) == (0 : Int)) (Bool.and (@BEq.beq.{0} Bool (@instBEqOfDecidableEq.{0} Bool instDecidableEqBool) (InstP.same x) false) (Bool.and ((CmdP.k (InstP.c x)) == (0 : Int)) (Bool.and ((CmdP.num (InstP.c x)) == (0 : Int)) (Bool.and (@BEq.beq.{0} (List UInt8) (@List.instBEq.{0} UInt8 (@instBEqOfDecidableEq.{0} UInt8 instDecidableEqUInt8)) (CmdP.foot (InstP.c x)) (@List.nil.{0} UInt8)) (Bool.and ((CmdP.rq (InstP.c x)) == (0 : Int)) (Bool.and (@BEq.beq.{0} (List UInt8) (@List.instBEq.{0} UInt8 (@instBEqOfDecidableEq.{0} UInt8 instDecidableEqUInt8)) (CmdP.path (InstP.c x)) (@List.nil.{0} UInt8)) (Bool.and ((CmdP.mode (InstP.c x)) == (0 : Int)) (Bool.and ((CmdP.n (InstP.c x)) == (0 : Int)) (Bool.and ((CmdP.time (InstP.c x)) == (0 : Int)) (Bool.and ((AttP.s (InstP.a x)) == (0 : Int)) (Bool.and ((AttP.d0 (InstP.a x)) == (0 : Int)) (Bool.and ((AttP.d1 (InstP.a x)) == (0 : Int)) (Bool.and ((AttP.d2 (InstP.a x)) == (0 : Int)) (Bool.and ((AttP.d3 (InstP.a x)) == (0 : Int)) (Bool.and ((AttP.d4 (InstP.a x)) == (0 : Int)) (Bool.and ((AttP.d5 (InstP.a x)) == (0 : Int)) (Bool.and ((AttP.d6 (InstP.a x)) == (0 : Int)) true))))))))))))))))))))))) ∧ True) ∧ tt) else (tt ∧ T1 ∧ tt ∧ T1 ∧ T1 ∧ (bif (decide ((InstP.st x) < (0 : Int))) then (tt ∧ T1 ∧ tt ∧ T1 ∧ tt ∧ T1 ∧ tt ∧ tt ∧ (((rightI x) = false) ∧ True) ∧ tt) else (T1 ∧ tt ∧ T1 ∧ T1 ∧ T1 ∧ (bif (decide ((3 : Int) < (InstP.st x))) then (tt ∧ T1 ∧ tt ∧ T1 ∧ tt ∧ tt ∧ (((rightI x) = false) ∧ True) ∧ tt) else (T1 ∧ tt ∧ T1 ∧ (bif (InstP.same x) then (T1 ∧ tt ∧ T1 ∧ T1 ∧ (bif ((InstP.st x) != (1 : Int)) then (tt ∧ T1 ∧ T1 ∧ T1 ∧ tt ∧ T1 ∧ tt ∧ tt ∧ (((rightI x) = false) ∧ True) ∧ tt) else (T1 ∧ tt ∧ T1 ∧ T1 ∧ T1 ∧ T1 ∧ T1 ∧ (bif ((InstP.vote x) != (0 : Int)) then (tt ∧ T1 ∧ tt ∧ tt ∧ (((rightI x) = false) ∧ True) ∧ tt) else (tt ∧ T1 ∧ tt ∧ (T1 ∧ ((List.length (CmdP.foot (InstP.c x))) ≤ 2900000) ∧ ((List.length (CmdP.path (InstP.c x))) ≤ 2900000)) ∧ T1 ∧ (bif (rightC (InstP.c x)) then (T1 ∧ tt ∧ T1 ∧ tt ∧ (T1 ∧ True) ∧ T1 ∧ T1 ∧ tt ∧ tt ∧ (((rightI x) = (ownsB (AttP.s (InstP.a x)) (AttP.d0 (InstP.a x)) (AttP.d1 (InstP.a x)) (AttP.d2 (InstP.a x)) (AttP.d3 (InstP.a x)) (AttP.d4 (InstP.a x)) (AttP.d5 (InstP.a x)) (AttP.d6 (InstP.a x)) (InstP.r x) (InstP.sl x))) ∧ True) ∧ tt) else ((false = false) ∧ T1 ∧ tt ∧ tt ∧ (((rightI x) = false) ∧ True) ∧ tt))))))) else ((false = false) ∧ T1 ∧ T1 ∧ tt ∧ T1 ∧ tt ∧ (T1 ∧ ((List.length (CmdP.foot (InstP.c x))) ≤ 2900000) ∧ ((List.length (CmdP.path (InstP.c x))) ≤ 2900000)) ∧ T1 ∧ (bif (rightC (InstP.c x)) then (T1 ∧ tt ∧ T1 ∧ tt ∧ (T1 ∧ True) ∧ T1 ∧ T1 ∧ tt ∧ tt ∧ (((rightI x) = (ownsB (AttP.s (InstP.a x)) (AttP.d0 (InstP.a x)) (AttP.d1 (InstP.a x)) (AttP.d2 (InstP.a x)) (AttP.d3 (InstP.a x)) (AttP.d4 (InstP.a x)) (AttP.d5 (InstP.a x)) (AttP.d6 (InstP.a x)) (InstP.r x) (InstP.sl x))) ∧ True) ∧ tt) else ((false = false) ∧ T1 ∧ tt ∧ tt ∧ (((rightI x) = false) ∧ True) ∧ tt)))))))))))))))))))) : inIright0 x :=
  Eq.mp (show _ = _ by kernel_rfl) h
theorem vcAlike0 (x : InstP) (y : InstP) (h : (tt ∧ T1 ∧ T1 ∧ T1 ∧ tt ∧ T1 ∧ tt ∧ T1 ∧ tt ∧ T1 ∧ T1 ∧ (bif (Bool.and ((CmdP.k (InstP.c x)) == (CmdP.k (InstP.c y))) (Bool.and ((CmdP.num (InstP.c x)) == (CmdP.num (InstP.c y))) (Bool.and (@BEq.beq.{0} (List UInt8) (@List.instBEq.{0} UInt8 (@instBEqOfDecidableEq.{0} UInt8 instDecidableEqUInt8)) (CmdP.foot (InstP.c x)) (CmdP.foot (InstP.c y))) (Bool.and ((CmdP.rq (InstP.c x)) == (CmdP.rq (InstP.c y))) (Bool.and (@BEq.beq.{0} (List UInt8) (@List.instBEq.{0} UInt8 (@instBEqOfDecidableEq.{0} UInt8 instDecidableEqUInt8)) (CmdP.path (InstP.c x)) (CmdP.path (InstP.c y))) (Bool.and ((CmdP.mode (InstP.c x)) == (CmdP.mode (InstP.c y))) (Bool.and ((CmdP.n (InstP.c x)) == (CmdP.n (InstP.c y))) (Bool.and ((CmdP.time (InstP.c x)) == (CmdP.time (InstP.c y))) true)))))))) then (T1 ∧ tt ∧ T1 ∧ tt ∧ T1 ∧ T1 ∧ T1 ∧ tt ∧ tt ∧ (((alikeI x y) = (Bool.and ((AttP.s (InstP.a x)) == (AttP.s (InstP.a y))) (Bool.and ((AttP.d0 (InstP.a x)) == (AttP.d0 (InstP.a y))) (Bool.and ((AttP.d1 (InstP.a x)) == (AttP.d1 (InstP.a y))) (Bool.and ((AttP.d2 (InstP.a x)) == (AttP.d2 (InstP.a y))) (Bool.and ((AttP.d3 (InstP.a x)) == (AttP.d3 (InstP.a y))) (Bool.and ((AttP.d4 (InstP.a x)) == (AttP.d4 (InstP.a y))) (Bool.and ((AttP.d5 (InstP.a x)) == (AttP.d5 (InstP.a y))) (Bool.and ((AttP.d6 (InstP.a x)) == (AttP.d6 (InstP.a y))) true))))))))) ∧ True) ∧ tt) else ((false = false) ∧ T1 ∧ tt ∧ tt ∧ (((alikeI x y) = false) ∧ True) ∧ tt)))) : inAlike0 x y :=
  Eq.mp (show _ = _ by kernel_rfl) h
theorem vcFollows0 (x : InstP) (y : InstP) (h : (tt ∧ T1 ∧ T1 ∧ T1 ∧ tt ∧ T1 ∧ tt ∧ T1 ∧ tt ∧ T1 ∧ T1 ∧ (bif (Bool.not (Bool.and ((InstP.r x) == (InstP.r y)) (Bool.and ((InstP.sl x) == (InstP.sl y)) true))) then (tt ∧ T1 ∧ tt ∧ T1 ∧ tt ∧ T1 ∧ tt ∧ T1 ∧ tt ∧ tt ∧ (((followsI x y) = false) ∧ True) ∧ tt) else (tt ∧ (T1 ∧ (smallX x)) ∧ T1 ∧ T1 ∧ T1 ∧ (bif (Bool.not (rightI x)) then (tt ∧ T1 ∧ tt ∧ T1 ∧ tt ∧ T1 ∧ tt ∧ tt ∧ (((followsI x y) = false) ∧ True) ∧ tt) else (tt ∧ (T1 ∧ (smallX y)) ∧ T1 ∧ T1 ∧ T1 ∧ (bif (Bool.not (rightI y)) then (tt ∧ T1 ∧ tt ∧ T1 ∧ tt ∧ tt ∧ (((followsI x y) = false) ∧ True) ∧ tt) else (T1 ∧ tt ∧ T1 ∧ tt ∧ T1 ∧ T1 ∧ T1 ∧ (bif (decide ((InstP.bal x) < (InstP.bal y))) then (tt ∧ T1 ∧ tt ∧ tt ∧ (((followsI x y) = false) ∧ True) ∧ tt) else (tt ∧ T1 ∧ tt ∧ T1 ∧ T1 ∧ (bif ((InstP.st y) == (3 : Int)) then (tt ∧ T1 ∧ tt ∧ T1 ∧ T1 ∧ (bif ((InstP.st x) == (3 : Int)) then (tt ∧ tt ∧ (T1 ∧ True) ∧ T1 ∧ T1 ∧ tt ∧ tt ∧ (((followsI x y) = (alikeI x y)) ∧ True) ∧ tt) else ((false = false) ∧ T1 ∧ tt ∧ tt ∧ (((followsI x y) = false) ∧ True) ∧ tt))) else (tt ∧ T1 ∧ tt ∧ T1 ∧ T1 ∧ (bif ((InstP.st x) == (3 : Int)) then (tt ∧ T1 ∧ tt ∧ tt ∧ (((followsI x y) = true) ∧ True) ∧ tt) else (tt ∧ T1 ∧ tt ∧ T1 ∧ tt ∧ T1 ∧ T1 ∧ (bif ((InstP.vote x) != (InstP.vote y)) then (tt ∧ T1 ∧ tt ∧ T1 ∧ tt ∧ T1 ∧ T1 ∧ tt ∧ tt ∧ (((followsI x y) = (decide ((InstP.vote y) < (InstP.vote x)))) ∧ True) ∧ tt) else (tt ∧ T1 ∧ tt ∧ T1 ∧ tt ∧ T1 ∧ T1 ∧ (bif ((InstP.st x) != (InstP.st y)) then (tt ∧ T1 ∧ tt ∧ T1 ∧ tt ∧ T1 ∧ T1 ∧ tt ∧ tt ∧ (((followsI x y) = (decide ((InstP.st y) < (InstP.st x)))) ∧ True) ∧ tt) else (tt ∧ tt ∧ tt ∧ (T1 ∧ True) ∧ T1 ∧ (bif (alikeI x y) then (T1 ∧ tt ∧ T1 ∧ tt ∧ T1 ∧ T1 ∧ T1 ∧ tt ∧ tt ∧ (((followsI x y) = (@BEq.beq.{0} Bool (@instBEqOfDecidableEq.{0} Bool instDecidableEqBool) (InstP.same x) (InstP.same y))) ∧ True) ∧ tt) else ((false = false) ∧ T1 ∧ tt ∧ tt ∧ (((followsI x y) = false) ∧ True) ∧ tt)))))))))))))))))))) : inFollows0 x y :=
  Eq.mp (show _ = _ by kernel_rfl) h
theorem vcInew0 (r : Int) (sl : Int) (h : (tt ∧ T1 ∧ T1 ∧ tt ∧ tt ∧ T1 ∧ tt ∧ tt ∧ tt ∧ (((InstP.r (newI r sl)) = r) ∧ ((InstP.sl (newI r sl)) = sl) ∧ ((InstP.st (newI r sl)) = (0 : Int)) ∧ ((InstP.bal (newI r sl)) = (0 : Int)) ∧ ((InstP.vote (newI r sl)) = (0 : Int)) ∧ (false = false) ∧ ((CmdP.k (InstP.c (newI r sl))) = (0 : Int)) ∧ ((CmdP.num (InstP.c (newI r sl))) = (0 : Int)) ∧ ((CmdP.foot (InstP.c (newI r sl))) = (@List.nil.{0} UInt8)) ∧ ((CmdP.rq (InstP.c (newI r sl))) = (0 : Int)) ∧ ((CmdP.path (InstP.c (newI r sl))) = (@List.nil.{0} UInt8)) ∧ ((CmdP.mode (InstP.c (newI r sl))) = (0 : Int)) ∧ ((CmdP.n (InstP.c (newI r sl))) = (0 : Int)) ∧ ((CmdP.time (InstP.c (newI r sl))) = (0 : Int)) ∧ ((AttP.s (InstP.a (newI r sl))) = (0 : Int)) ∧ ((AttP.d0 (InstP.a (newI r sl))) = (0 : Int)) ∧ ((AttP.d1 (InstP.a (newI r sl))) = (0 : Int)) ∧ ((AttP.d2 (InstP.a (newI r sl))) = (0 : Int)) ∧ ((AttP.d3 (InstP.a (newI r sl))) = (0 : Int)) ∧ ((AttP.d4 (InstP.a (newI r sl))) = (0 : Int)) ∧ ((AttP.d5 (InstP.a (newI r sl))) = (0 : Int)) ∧ ((AttP.d6 (InstP.a (newI r sl))) = (0 : Int)) ∧ True) ∧ tt)) : inInew0 r sl :=
  Eq.mp (show _ = _ by kernel_rfl) h
end Go.Proofs.YtcokifdgbfbonaaDoor
/- The conditions hold: states. -/
namespace Go.Proofs.YtcokifdgbfbonaaDoor
set_option linter.unusedVariables false
set_option linter.unusedSimpArgs false
open Go.RowKit
set_option maxRecDepth 100000

theorem okInew0 : OkInew0 := by
  intro r sl hq
  refine vcInew0 r sl ?_
  simp [newI, zC, zA0]
theorem okAlike0 : OkAlike0 := by
  intro x y hq
  refine vcAlike0 x y ?_
  simp only [true_and, and_true, forall_eq, eq_self]
  unfold alikeI
  refine cond_prop (fun h => ?_) fun h => ?_
  · have : eqC x.c y.c = true := h
    rw [this]; rfl
  · have : eqC x.c y.c = false := h
    rw [this]; rfl
theorem okIright0 : OkIright0 := by
  intro x hq
  refine vcIright0 x ?_
  obtain ⟨r, sl, st, bal, vote, same, ⟨k, num, foot, rq, path, mode, n, time⟩, ⟨aq, da, db, dc, dd, de, df, dg⟩⟩ := x
  simp only [smallX] at hq ⊢
  simp only [true_and, and_true, forall_eq, eq_self, hq.1, hq.2]
  refine cond_prop (fun h => ?_) fun h => cond_prop (fun h' => ?_) fun h' => cond_prop (fun h2 => ?_) fun h2 => cond_prop (fun h3 => ?_) fun h3 => cond_prop (fun h4 => ?_) fun h4 => ?_
  · simp at h; simp [rightI, h]
  · simp at h'; simp [rightI, h']
  · simp at h2; simp [rightI, h2]
  · simp at h3; simp [rightI]; intros; omega
  · simp at h h' h2 h3 h4
    subst h4
    have e : rightI ⟨r, sl, 0, bal, vote, same, ⟨k, num, foot, rq, path, mode, n, time⟩, ⟨aq, da, db, dc, dd, de, df, dg⟩⟩ = eqI ⟨r, sl, 0, bal, vote, same, ⟨k, num, foot, rq, path, mode, n, time⟩, ⟨aq, da, db, dc, dd, de, df, dg⟩⟩ ⟨r, sl, 0, bal, 0, false, zC, zA0⟩ := by
      simp [rightI, h, h', h2, h3]
    rw [e]; rfl
  · simp at h h' h2 h3 h4
    have e : rightI ⟨r, sl, st, bal, vote, same, ⟨k, num, foot, rq, path, mode, n, time⟩, ⟨aq, da, db, dc, dd, de, df, dg⟩⟩ = if st < 0 ∨ 3 < st ∨ (same = true ∧ (st ≠ 1 ∨ vote ≠ 0)) then false else rightC ⟨k, num, foot, rq, path, mode, n, time⟩ && ownsB aq da db dc dd de df dg r sl := by
      simp [rightI, h, h', h2, h3, h4, ownsI]
    rw [e]
    refine cond_prop (fun h5 => ?_) fun h5 => cond_prop (fun h6 => ?_) fun h6 => cond_prop (fun h7 => cond_prop (fun h8 => ?_) fun h8 => cond_prop (fun h9 => ?_) fun h9 => cond_prop (fun h10 => ?_) fun h10 => ?_) fun h7 => cond_prop (fun h10 => ?_) fun h10 => ?_
    all_goals simp at h5
    · simp [h5]
    all_goals simp at h6
    · simp [h6]
    all_goals (try simp at h7)
    all_goals (try simp at h8)
    all_goals (try simp at h9)
    all_goals simp_all
    all_goals (try omega)
theorem okFollows0 : OkFollows0 := by
  intro x y hq
  refine vcFollows0 x y ?_
  simp only [true_and, and_true, forall_eq, eq_self, hq.1, hq.2]
  unfold followsI
  generalize rightI x = R1
  generalize rightI y = R2
  generalize alikeI x y = A
  repeat' (refine cond_prop (fun h => ?_) fun h => ?_)
  all_goals simp_all
  all_goals (try omega)
end Go.Proofs.YtcokifdgbfbonaaDoor
/- The contracts are met. -/
namespace Go.Proofs.YtcokifdgbfbonaaDoor
set_option linter.unusedVariables false
set_option linter.unusedSimpArgs false
open Go.RowKit
theorem sndIright : Sound Tryd.prog (lookΓ gamIright) := sound_of _ fun p hp => by
  simp only [gamIright, List.mem_cons, List.not_mem_nil, or_false] at hp
  rcases hp with rfl | rfl | rfl | rfl
  · exact meetsIdRight.orNil
  · exact meetsBalRight.orNil
  · exact meetsCright.orNil
  · exact meetsAttOwns.orNil
set_option maxHeartbeats 4000000 in
theorem meetsIright : Meets Tryd.prog 26 irightF := by
  refine meets_of_awp (Γ := lookΓ gamIright) (L := fun _ _ => none) sndIright mixedOrders Tryd.func26 rfl Tryd.call26 ?_
  intro args q r hF hq ho
  unfold irightF at hF
  split at hF
  · split at hF
    · rename_i x hzx
      obtain rfl := instOf_some hzx
      cases hF
      exact ⟨by simp only [List.length_cons, List.length_nil]; decide, okIright0 _ hq⟩
    · cases hF
  · cases hF
theorem sndAlike : Sound Tryd.prog (lookΓ gamAlike) := sound_of _ fun p hp => by
  simp [gamAlike] at hp
set_option maxHeartbeats 4000000 in
theorem meetsAlike : Meets Tryd.prog 34 alikeF := by
  refine meets_of_awp (Γ := lookΓ gamAlike) (L := fun _ _ => none) sndAlike mixedOrders Tryd.func34 rfl Tryd.call34 ?_
  intro args q r hF hq ho
  unfold alikeF at hF
  split at hF
  · split at hF
    · rename_i x y hzx hzy
      obtain rfl := instOf_some hzx
      obtain rfl := instOf_some hzy
      cases hF
      exact ⟨by simp only [List.length_cons, List.length_nil]; decide, okAlike0 _ _ hq⟩
    · cases hF
  · cases hF
theorem sndFollows : Sound Tryd.prog (lookΓ gamFollows) := sound_of _ fun p hp => by
  simp only [gamFollows, List.mem_cons, List.not_mem_nil, or_false] at hp
  rcases hp with rfl | rfl
  · exact meetsIright.orNil
  · exact meetsAlike.orNil
set_option maxHeartbeats 4000000 in
theorem meetsFollows : Meets Tryd.prog 33 followsF := by
  refine meets_of_awp (Γ := lookΓ gamFollows) (L := fun _ _ => none) sndFollows mixedOrders Tryd.func33 rfl Tryd.call33 ?_
  intro args q r hF hq ho
  unfold followsF at hF
  split at hF
  · split at hF
    · rename_i x y hzx hzy
      obtain rfl := instOf_some hzx
      obtain rfl := instOf_some hzy
      cases hF
      exact ⟨by simp only [List.length_cons, List.length_nil]; decide, okFollows0 _ _ hq⟩
    · cases hF
  · cases hF
theorem sndInew : Sound Tryd.prog (lookΓ gamInew) := sound_of _ fun p hp => by
  simp [gamInew] at hp
set_option maxHeartbeats 4000000 in
theorem meetsInew : Meets Tryd.prog 43 inewF := by
  refine meets_of_awp (Γ := lookΓ gamInew) (L := fun _ _ => none) sndInew mixedOrders Tryd.func43 rfl Tryd.call43 ?_
  intro args q r hF hq ho
  unfold inewF at hF
  split at hF
  · cases hF
    exact ⟨by simp only [List.length_cons, List.length_nil]; decide, okInew0 _ _ hq⟩
  · cases hF
end Go.Proofs.YtcokifdgbfbonaaDoor
