/- Contracts by content, and the conditions that their code must meet. -/
import Derived.Test.YtcokifdgbfbonaaDoorLaxCmdAMeets
import Derived.Test.YtcokifdgbfbonaaDoorLaxIoAMeets
namespace Go.Proofs.YtcokifdgbfbonaaDoor
set_option linter.unusedVariables false
set_option linter.unusedSimpArgs false
open Go.RowKit
structure AttP where
  s : Int
  d0 : Int
  d1 : Int
  d2 : Int
  d3 : Int
  d4 : Int
  d5 : Int
  d6 : Int
structure InstP where
  r : Int
  sl : Int
  st : Int
  bal : Int
  vote : Int
  same : Bool
  c : CmdP
  a : AttP
def cmdL (c : CmdP) : List AV := [.int .i64 c.k, .int .u64 c.num, .str c.foot, .int .u64 c.rq, .str c.path, .int .i64 c.mode, .int .u64 c.n, .int .i64 c.time]
def attL (a : AttP) : List AV := [.int .i64 a.s, .int .i64 a.d0, .int .i64 a.d1, .int .i64 a.d2, .int .i64 a.d3, .int .i64 a.d4, .int .i64 a.d5, .int .i64 a.d6]
def instL (x : InstP) : List AV := [.int .i64 x.r, .int .i64 x.sl, .int .i64 x.st, .int .u32 x.bal, .int .u32 x.vote, .bool x.same, .int .i64 x.c.k, .int .u64 x.c.num, .str x.c.foot, .int .u64 x.c.rq, .str x.c.path, .int .i64 x.c.mode, .int .u64 x.c.n, .int .i64 x.c.time, .int .i64 x.a.s, .int .i64 x.a.d0, .int .i64 x.a.d1, .int .i64 x.a.d2, .int .i64 x.a.d3, .int .i64 x.a.d4, .int .i64 x.a.d5, .int .i64 x.a.d6]
def eqC (c d : CmdP) : Bool := sameCells (cmdL c) (cmdL d)
def eqA (a b : AttP) : Bool := sameCells (attL a) (attL b)
def eqI (x y : InstP) : Bool := sameCells (instL x) (instL y)
def zC : CmdP := ⟨0, 0, [], 0, [], 0, 0, 0⟩
def zA0 : AttP := ⟨0, 0, 0, 0, 0, 0, 0, 0⟩
def zI : InstP := ⟨0, 0, 0, 0, 0, false, zC, zA0⟩
def alikeI (x y : InstP) : Bool := eqC x.c y.c && eqA x.a y.a
def ownsI (x : InstP) : Bool := ownsB x.a.s x.a.d0 x.a.d1 x.a.d2 x.a.d3 x.a.d4 x.a.d5 x.a.d6 x.r x.sl
def smallX (x : InstP) : Prop := x.c.foot.length ≤ 900000 ∧ x.c.path.length ≤ 900000
abbrev maxX (x : InstP) : Prop := x.c.foot.length ≤ 9223372036854775807 ∧ x.c.path.length ≤ 9223372036854775807
def smallB (x : InstP) (m : Nat) : Bool := decide (x.c.path.length < m) && decide (x.c.foot.length < m)
def newI (r sl : Int) : InstP := ⟨r, sl, 0, 0, 0, false, zC, zA0⟩
def cmdOf : List AV → Option CmdP
  | [.int .i64 k, .int .u64 num, .str foot, .int .u64 rq, .str path, .int .i64 mode, .int .u64 n, .int .i64 time] => some ⟨k, num, foot, rq, path, mode, n, time⟩
  | _ => none
def attOf : List AV → Option AttP
  | [.int .i64 s, .int .i64 d0, .int .i64 d1, .int .i64 d2, .int .i64 d3, .int .i64 d4, .int .i64 d5, .int .i64 d6] => some ⟨s, d0, d1, d2, d3, d4, d5, d6⟩
  | _ => none
def instOf : List AV → Option InstP
  | .int .i64 r :: .int .i64 sl :: .int .i64 st :: .int .u32 bal :: .int .u32 vote :: .bool same :: .int .i64 k :: .int .u64 num :: .str foot :: .int .u64 rq :: .str path :: .int .i64 mode :: .int .u64 n :: .int .i64 time :: rest => match attOf rest with
    | some a => some ⟨r, sl, st, bal, vote, same, ⟨k, num, foot, rq, path, mode, n, time⟩, a⟩
    | none => none
  | _ => none
theorem cmdOf_some {l : List AV} {x : CmdP} (h : cmdOf l = some x) : l = cmdL x := by
  unfold cmdOf at h
  split at h
  · cases h; rfl
  · cases h
theorem attOf_some {l : List AV} {x : AttP} (h : attOf l = some x) : l = attL x := by
  unfold attOf at h
  split at h
  · cases h; rfl
  · cases h
theorem instOf_some {l : List AV} {x : InstP} (h : instOf l = some x) : l = instL x := by
  unfold instOf at h
  split at h
  · split at h
    · rename_i ha
      cases attOf_some ha
      cases h; rfl
    · cases h
  · cases h
def rightI (x : InstP) : Bool :=
  if rightId x.r x.sl && balOK x.bal && balOK x.vote && decide (x.vote ≤ x.bal) then
    if x.st = 0 then eqI x ⟨x.r, x.sl, 0, x.bal, 0, false, zC, zA0⟩
    else if x.st < 0 ∨ 3 < x.st ∨ (x.same = true ∧ (x.st ≠ 1 ∨ x.vote ≠ 0)) then false
    else rightC x.c && ownsI x
  else false
def followsI (x o : InstP) : Bool :=
  if x.r = o.r ∧ x.sl = o.sl ∧ rightI x = true ∧ rightI o = true ∧ o.bal ≤ x.bal then
    if o.st = 3 then decide (x.st = 3) && alikeI x o
    else if x.st = 3 then true
    else if x.vote ≠ o.vote then decide (o.vote < x.vote)
    else if x.st ≠ o.st then decide (o.st < x.st)
    else alikeI x o && (x.same == o.same)
  else false
def irightF : Con
  | [.val (.agg zcx)] => (match instOf zcx with | some x => some (smallX x, ⟨.bool (rightI x), none, none⟩) | _ => none)
  | _ => none
def gamIright : List (Nat × Con) := [(74, idRightF.orNil), (75, balRightF.orNil), (69, crightF.orNil), (76, attOwnsF.orNil)]
def lpIright0 (x : InstP) : Nat → Option LoopPlan := fun _ => none
def inIright0 (x : InstP) : Prop := awp [] (lpIright0 x) (lookΓ gamIright) Tryd.prog Tryd.f26.ntmps 0 (Tryd.f26.body.getD .skip) (entrySt [.val (.agg (instL x))]) (exitQ Tryd.prog Tryd.f26.results.toList [] ⟨.bool (rightI x), none, none⟩)
def OkIright0 : Prop := ∀ (x : InstP), smallX x → inIright0 x
def alikeF : Con
  | [.val (.agg zcx), .val (.agg zcy)] => (match instOf zcx, instOf zcy with | some x, some y => some (True, ⟨.bool (alikeI x y), none, none⟩) | _, _ => none)
  | _ => none
def gamAlike : List (Nat × Con) := []
def lpAlike0 (x y : InstP) : Nat → Option LoopPlan := fun _ => none
def inAlike0 (x y : InstP) : Prop := awp [] (lpAlike0 x y) (lookΓ gamAlike) Tryd.prog Tryd.f34.ntmps 0 (Tryd.f34.body.getD .skip) (entrySt [.val (.agg (instL x)), .val (.agg (instL y))]) (exitQ Tryd.prog Tryd.f34.results.toList [] ⟨.bool (alikeI x y), none, none⟩)
def OkAlike0 : Prop := ∀ (x y : InstP), True → inAlike0 x y
def followsF : Con
  | [.val (.agg zcx), .val (.agg zcy)] => (match instOf zcx, instOf zcy with | some x, some y => some (smallX x ∧ smallX y, ⟨.bool (followsI x y), none, none⟩) | _, _ => none)
  | _ => none
def gamFollows : List (Nat × Con) := [(26, irightF.orNil), (34, alikeF.orNil)]
def lpFollows0 (x y : InstP) : Nat → Option LoopPlan := fun _ => none
def inFollows0 (x y : InstP) : Prop := awp [] (lpFollows0 x y) (lookΓ gamFollows) Tryd.prog Tryd.f33.ntmps 0 (Tryd.f33.body.getD .skip) (entrySt [.val (.agg (instL x)), .val (.agg (instL y))]) (exitQ Tryd.prog Tryd.f33.results.toList [] ⟨.bool (followsI x y), none, none⟩)
def OkFollows0 : Prop := ∀ (x y : InstP), smallX x ∧ smallX y → inFollows0 x y
def inewF : Con
  | [.val (.agg [.int .i64 r, .int .i64 sl])] => (some (True, ⟨.agg (instL (newI r sl)), none, none⟩))
  | _ => none
def gamInew : List (Nat × Con) := []
def lpInew0 (r sl : Int) : Nat → Option LoopPlan := fun _ => none
def inInew0 (r sl : Int) : Prop := awp [] (lpInew0 r sl) (lookΓ gamInew) Tryd.prog Tryd.f43.ntmps 0 (Tryd.f43.body.getD .skip) (entrySt [.val (.agg [.int .i64 r, .int .i64 sl])]) (exitQ Tryd.prog Tryd.f43.results.toList [] ⟨.agg (instL (newI r sl)), none, none⟩)
def OkInew0 : Prop := ∀ (r sl : Int), True → inInew0 r sl
end Go.Proofs.YtcokifdgbfbonaaDoor
