/- Contracts by content, their conditions, and that they are met: Lead. -/
import Derived.Test.YtcokifdgbfbonaaDoorLeadD
/- Contracts by content, and the conditions that their code must meet. -/
namespace Go.Proofs.YtcokifdgbfbonaaDoor
set_option linter.unusedVariables false
set_option linter.unusedSimpArgs false
open Go.RowKit
def repliesF : Con
  | [.val (.int .i64 p)] => (some (1 ≤ p ∧ p ≤ 3, ⟨.int .i64 (repliesK p), none, none⟩))
  | _ => none
def gamReplies : List (Nat × Con) := []
def lpReplies0 (p : Int) : Nat → Option LoopPlan := fun _ => none
def inReplies0 (p : Int) : Prop := awp [] (lpReplies0 p) (lookΓ gamReplies) Tryd.prog Tryd.f98.ntmps 0 (Tryd.f98.body.getD .skip) (entrySt [.val (.int .i64 p)]) (exitQ Tryd.prog Tryd.f98.results.toList [] ⟨.int .i64 (repliesK p), none, none⟩)
def OkReplies0 : Prop := ∀ (p : Int), 1 ≤ p ∧ p ≤ 3 → inReplies0 p
def lnewF : Con
  | [.val (.int .i64 ph), .val (.int .i64 me), .val (.agg zcx)] => (match instOf zcx with | some x => some (True, ⟨.agg (leadL ⟨x.r, x.sl, x.bal, ph, [toldE me x], 0⟩), none, none⟩) | _ => none)
  | _ => none
def gamLnew : List (Nat × Con) := []
def lpLnew0 (ph me : Int) (x : InstP) : Nat → Option LoopPlan := fun _ => none
def inLnew0 (ph me : Int) (x : InstP) : Prop := awp [] (lpLnew0 ph me x) (lookΓ gamLnew) Tryd.prog Tryd.f54.ntmps 0 (Tryd.f54.body.getD .skip) (entrySt [.val (.int .i64 ph), .val (.int .i64 me), .val (.agg (instL x))]) (exitQ Tryd.prog Tryd.f54.results.toList [] ⟨.agg (leadL ⟨x.r, x.sl, x.bal, ph, [toldE me x], 0⟩), none, none⟩)
def OkLnew0 : Prop := ∀ (ph me : Int) (x : InstP), True → inLnew0 ph me x
def countsF : Con
  | [.val (.agg zcl), .val (.agg zcx)] => (match leadOf zcl, instOf zcx with | some l, some x => some (True, ⟨.bool (countsL l x), none, none⟩) | _, _ => none)
  | _ => none
def gamCounts : List (Nat × Con) := []
def lpCounts0 (l : LeadP) (x : InstP) : Nat → Option LoopPlan := fun _ => none
def inCounts0 (l : LeadP) (x : InstP) : Prop := awp [] (lpCounts0 l x) (lookΓ gamCounts) Tryd.prog Tryd.f100.ntmps 0 (Tryd.f100.body.getD .skip) (entrySt [.val (.agg (leadL l)), .val (.agg (instL x))]) (exitQ Tryd.prog Tryd.f100.results.toList [] ⟨.bool (countsL l x), none, none⟩)
def OkCounts0 : Prop := ∀ (l : LeadP) (x : InstP), True → inCounts0 l x
def tcloneF : Con
  | [.val (.sl xs .no)] => (some (xs ≠ [] ∧ xs.length ≤ 1000 ∧ okWidth 23 xs, ⟨.sl xs (.row 0 0 68), none, none⟩))
  | _ => none
def gamTclone : List (Nat × Con) := []
def lpTclone0 (xs : List AV) : Nat → Option LoopPlan := fun _ => none
def inTclone0 (xs : List AV) : Prop := awp [] (lpTclone0 xs) (lookΓ gamTclone) Tryd.prog Tryd.f101.ntmps 0 (Tryd.f101.body.getD .skip) (entrySt [.val (.sl xs .no)]) (exitQ Tryd.prog Tryd.f101.results.toList [] ⟨.sl xs (.row 0 0 68), none, none⟩)
def OkTclone0 : Prop := ∀ (xs : List AV), xs ≠ [] ∧ xs.length ≤ 1000 ∧ okWidth 23 xs → inTclone0 xs
def hearF : Con
  | [.val (.agg zcl), .val (.agg zcm)] => (match leadOf zcl, msgOf zcm with | some l, some m => some (smallX m.x ∧ isTolds l.told ∧ l.told ≠ [] ∧ l.told.length ≤ 100, ⟨.agg (leadL (hearL l m)), none, none⟩) | _, _ => none)
  | _ => none
def gamHear : List (Nat × Con) := [(56, mrightF.orNil), (98, repliesF.orNil), (99, knowsF.orNil), (100, countsF.orNil), (101, tcloneF.orNil)]
def lpHear0 (l : LeadP) (m : MsgP) : Nat → Option LoopPlan := fun _ => none
def inHear0 (l : LeadP) (m : MsgP) : Prop := awp [] (lpHear0 l m) (lookΓ gamHear) Tryd.prog Tryd.f55.ntmps 0 (Tryd.f55.body.getD .skip) (entrySt [.val (.agg (leadL l)), .val (.agg (msgL m))]) (exitQ Tryd.prog Tryd.f55.results.toList [] ⟨.agg (leadL (hearL l m)), none, none⟩)
def OkHear0 : Prop := ∀ (l : LeadP) (m : MsgP), smallX m.x ∧ isTolds l.told ∧ l.told ≠ [] ∧ l.told.length ≤ 100 → inHear0 l m
end Go.Proofs.YtcokifdgbfbonaaDoor
/- What the verification conditions come to: printed by a program of ours (wip/lax/ex/Norm.lean). -/
namespace Go.Proofs.YtcokifdgbfbonaaDoor
set_option linter.unusedVariables false
open Go.RowKit
set_option maxRecDepth 100000
theorem vcReplies0 (p : Int) (h : (tt ∧ T1 ∧ tt ∧ T1 ∧ T1 ∧ (((0 : Int) ≤ p) ∧ (p < (4 : Int)) ∧ ((((Int.toNat p) * 1) + 1) ≤ 4)) ∧ T1 ∧ tt ∧ tt ∧ (((repliesK p) = (@cond.{1} Int (Nat.beq ((Int.toNat p) * 1) 0) (0 : Int) (@cond.{1} Int (Nat.beq ((Int.toNat p) * 1) 1) (2 : Int) (@cond.{1} Int (Nat.beq ((Int.toNat p) * 1) 2) (4 : Int) (7 : Int))))) ∧ True) ∧ tt)) : inReplies0 p :=
  Eq.mp (show _ = _ by kernel_rfl) h
theorem vcLnew0 (ph : Int) (me : Int) (x : InstP) (h : (tt ∧ T1 ∧ T1 ∧ tt ∧ T1 ∧ tt ∧ T1 ∧ tt ∧ T1 ∧ T1 ∧ tt ∧ T1 ∧ T1 ∧ T1 ∧ tt ∧ tt ∧ tt ∧ (((InstP.r x) = (InstP.r x)) ∧ ((InstP.sl x) = (InstP.sl x)) ∧ ((InstP.bal x) = (InstP.bal x)) ∧ (ph = ph) ∧ ([(AV.agg [(AV.int Go.IntKind.i64 me), (AV.int Go.IntKind.i64 (InstP.r x)), (AV.int Go.IntKind.i64 (InstP.sl x)), (AV.int Go.IntKind.i64 (InstP.st x)), (AV.int Go.IntKind.u32 (InstP.bal x)), (AV.int Go.IntKind.u32 (InstP.vote x)), (AV.bool (InstP.same x)), (AV.int Go.IntKind.i64 (CmdP.k (InstP.c x))), (AV.int Go.IntKind.u64 (CmdP.num (InstP.c x))), (AV.str (CmdP.foot (InstP.c x))), (AV.int Go.IntKind.u64 (CmdP.rq (InstP.c x))), (AV.str (CmdP.path (InstP.c x))), (AV.int Go.IntKind.i64 (CmdP.mode (InstP.c x))), (AV.int Go.IntKind.u64 (CmdP.n (InstP.c x))), (AV.int Go.IntKind.i64 (CmdP.time (InstP.c x))), (AV.int Go.IntKind.i64 (AttP.s (InstP.a x))), (AV.int Go.IntKind.i64 (AttP.d0 (InstP.a x))), (AV.int Go.IntKind.i64 (AttP.d1 (InstP.a x))), (AV.int Go.IntKind.i64 (AttP.d2 (InstP.a x))), (AV.int Go.IntKind.i64 (AttP.d3 (InstP.a x))), (AV.int Go.IntKind.i64 (AttP.d4 (InstP.a x))), (AV.int Go.IntKind.i64 (AttP.d5 (InstP.a x))), (AV.int Go.IntKind.i64 (AttP.d6 (InstP.a x)))])] = [(AV.agg [(AV.int Go.IntKind.i64 me), (AV.int Go.IntKind.i64 (InstP.r x)), (AV.int Go.IntKind.i64 (InstP.sl x)), (AV.int Go.IntKind.i64 (InstP.st x)), (AV.int Go.IntKind.u32 (InstP.bal x)), (AV.int Go.IntKind.u32 (InstP.vote x)), (AV.bool (InstP.same x)), (AV.int Go.IntKind.i64 (CmdP.k (InstP.c x))), (AV.int Go.IntKind.u64 (CmdP.num (InstP.c x))), (AV.str (CmdP.foot (InstP.c x))), (AV.int Go.IntKind.u64 (CmdP.rq (InstP.c x))), (AV.str (CmdP.path (InstP.c x))), (AV.int Go.IntKind.i64 (CmdP.mode (InstP.c x))), (AV.int Go.IntKind.u64 (CmdP.n (InstP.c x))), (AV.int Go.IntKind.i64 (CmdP.time (InstP.c x))), (AV.int Go.IntKind.i64 (AttP.s (InstP.a x))), (AV.int Go.IntKind.i64 (AttP.d0 (InstP.a x))), (AV.int Go.IntKind.i64 (AttP.d1 (InstP.a x))), (AV.int Go.IntKind.i64 (AttP.d2 (InstP.a x))), (AV.int Go.IntKind.i64 (AttP.d3 (InstP.a x))), (AV.int Go.IntKind.i64 (AttP.d4 (InstP.a x))), (AV.int Go.IntKind.i64 (AttP.d5 (InstP.a x))), (AV.int Go.IntKind.i64 (AttP.d6 (InstP.a x)))])]) ∧ ((0 : Int) = (0 : Int)) ∧ True) ∧ tt)) : inLnew0 ph me x :=
  Eq.mp (show _ = _ by kernel_rfl) h
theorem vcCounts0 (l : LeadP) (x : InstP) (h : (tt ∧ T1 ∧ T1 ∧ T1 ∧ tt ∧ T1 ∧ tt ∧ T1 ∧ tt ∧ T1 ∧ T1 ∧ (bif ((InstP.bal x) == (LeadP.bal l)) then (T1 ∧ tt ∧ T1 ∧ T1 ∧ (bif ((LeadP.ph l) == (3 : Int)) then (tt ∧ T1 ∧ T1 ∧ tt ∧ tt ∧ (((countsL l x) = true) ∧ True) ∧ tt) else (T1 ∧ tt ∧ T1 ∧ tt ∧ T1 ∧ T1 ∧ (bif ((InstP.vote x) == (LeadP.bal l)) then (T1 ∧ tt ∧ T1 ∧ tt ∧ T1 ∧ T1 ∧ T1 ∧ T1 ∧ T1 ∧ tt ∧ tt ∧ (((countsL l x) = ((InstP.st x) == (LeadP.ph l))) ∧ True) ∧ tt) else ((false = false) ∧ T1 ∧ T1 ∧ T1 ∧ tt ∧ tt ∧ (((countsL l x) = false) ∧ True) ∧ tt))))) else ((false = false) ∧ T1 ∧ tt ∧ tt ∧ (((countsL l x) = false) ∧ True) ∧ tt)))) : inCounts0 l x :=
  Eq.mp (show _ = _ by kernel_rfl) h
theorem vcTclone0 (xs : (@List.{0} AV)) (h : (tt ∧ T1 ∧ tt ∧ T1 ∧ (@Ne.{1} (@List.{0} AV) xs (@List.nil.{0} AV)) ∧ tt ∧ T1 ∧ T1 ∧ ((@Eq.{1} Nat 0 0) ∧ (((0 + (List.length xs)) * 192) ≤ 140737488355328) ∧ ((0 + (List.length xs)) ≤ 9223372036854775807) ∧ (okWidth 23 (@List.nil.{0} AV)) ∧ (okWidth 23 xs)) ∧ T1 ∧ tt ∧ tt ∧ (((0 < 23) ∧ (xs = (@catL AV (@List.nil.{0} AV) xs)) ∧ ((0 + (List.length xs)) = (List.length (@catL AV (@List.nil.{0} AV) xs)))) ∧ True) ∧ tt)) : inTclone0 xs :=
  Eq.mp (show _ = _ by kernel_rfl) h
theorem vcHear0 (l : LeadP) (m : MsgP) (h : (tt ∧ T1 ∧ T1 ∧ T1 ∧ tt ∧ T1 ∧ tt ∧ T1 ∧ T1 ∧ (bif (decide ((LeadP.ph l) < (1 : Int))) then (tt ∧ T1 ∧ tt ∧ T1 ∧ tt ∧ T1 ∧ tt ∧ T1 ∧ tt ∧ T1 ∧ tt ∧ T1 ∧ tt ∧ tt ∧ tt ∧ tt ∧ tt ∧ tt ∧ (((LeadP.r (hearL l m)) = (LeadP.r l)) ∧ ((LeadP.sl (hearL l m)) = (LeadP.sl l)) ∧ ((LeadP.bal (hearL l m)) = (LeadP.bal l)) ∧ ((LeadP.ph (hearL l m)) = (LeadP.ph l)) ∧ ((LeadP.told (hearL l m)) = (LeadP.told l)) ∧ ((LeadP.over (hearL l m)) = (LeadP.over l)) ∧ True) ∧ tt) else (T1 ∧ tt ∧ T1 ∧ T1 ∧ T1 ∧ (bif (decide ((3 : Int) < (LeadP.ph l))) then (tt ∧ T1 ∧ tt ∧ T1 ∧ tt ∧ T1 ∧ tt ∧ T1 ∧ tt ∧ T1 ∧ tt ∧ tt ∧ tt ∧ tt ∧ tt ∧ tt ∧ (((LeadP.r (hearL l m)) = (LeadP.r l)) ∧ ((LeadP.sl (hearL l m)) = (LeadP.sl l)) ∧ ((LeadP.bal (hearL l m)) = (LeadP.bal l)) ∧ ((LeadP.ph (hearL l m)) = (LeadP.ph l)) ∧ ((LeadP.told (hearL l m)) = (LeadP.told l)) ∧ ((LeadP.over (hearL l m)) = (LeadP.over l)) ∧ True) ∧ tt) else (tt ∧ (T1 ∧ (smallX (MsgP.x m))) ∧ T1 ∧ T1 ∧ T1 ∧ (bif (Bool.not (rightM m)) then (tt ∧ T1 ∧ tt ∧ T1 ∧ tt ∧ T1 ∧ tt ∧ T1 ∧ tt ∧ tt ∧ tt ∧ tt ∧ tt ∧ tt ∧ (((LeadP.r (hearL l m)) = (LeadP.r l)) ∧ ((LeadP.sl (hearL l m)) = (LeadP.sl l)) ∧ ((LeadP.bal (hearL l m)) = (LeadP.bal l)) ∧ ((LeadP.ph (hearL l m)) = (LeadP.ph l)) ∧ ((LeadP.told (hearL l m)) = (LeadP.told l)) ∧ ((LeadP.over (hearL l m)) = (LeadP.over l)) ∧ True) ∧ tt) else (T1 ∧ tt ∧ T1 ∧ tt ∧ (T1 ∧ ((1 : Int) ≤ (LeadP.ph l)) ∧ ((LeadP.ph l) ≤ (3 : Int))) ∧ (∀ (v0 : Int), (∀ (v1 : (v0 = (repliesK (LeadP.ph l)))), (T1 ∧ T1 ∧ T1 ∧ (bif ((MsgP.k m) != v0) then (tt ∧ T1 ∧ tt ∧ T1 ∧ tt ∧ T1 ∧ tt ∧ tt ∧ tt ∧ tt ∧ tt ∧ tt ∧ (((LeadP.r (hearL l m)) = (LeadP.r l)) ∧ ((LeadP.sl (hearL l m)) = (LeadP.sl l)) ∧ ((LeadP.bal (hearL l m)) = (LeadP.bal l)) ∧ ((LeadP.ph (hearL l m)) = (LeadP.ph l)) ∧ ((LeadP.told (hearL l m)) = (LeadP.told l)) ∧ ((LeadP.over (hearL l m)) = (LeadP.over l)) ∧ True) ∧ tt) else (T1 ∧ tt ∧ T1 ∧ tt ∧ T1 ∧ T1 ∧ T1 ∧ (bif (Bool.not (Bool.and ((MsgP.r m) == (LeadP.r l)) (Bool.and ((MsgP.s m) == (LeadP.sl l)) true))) then (tt ∧ T1 ∧ tt ∧ T1 ∧ tt ∧ tt ∧ tt ∧ tt ∧ tt ∧ tt ∧ (((LeadP.r (hearL l m)) = (LeadP.r l)) ∧ ((LeadP.sl (hearL l m)) = (LeadP.sl l)) ∧ ((LeadP.bal (hearL l m)) = (LeadP.bal l)) ∧ ((LeadP.ph (hearL l m)) = (LeadP.ph l)) ∧ ((LeadP.told (hearL l m)) = (LeadP.told l)) ∧ ((LeadP.over (hearL l m)) = (LeadP.over l)) ∧ True) ∧ tt) else (T1 ∧ tt ∧ T1 ∧ tt ∧ T1 ∧ T1 ∧ T1 ∧ (bif ((MsgP.b m) != (LeadP.bal l)) then (tt ∧ T1 ∧ tt ∧ tt ∧ tt ∧ tt ∧ tt ∧ tt ∧ (((LeadP.r (hearL l m)) = (LeadP.r l)) ∧ ((LeadP.sl (hearL l m)) = (LeadP.sl l)) ∧ ((LeadP.bal (hearL l m)) = (LeadP.bal l)) ∧ ((LeadP.ph (hearL l m)) = (LeadP.ph l)) ∧ ((LeadP.told (hearL l m)) = (LeadP.told l)) ∧ ((LeadP.over (hearL l m)) = (LeadP.over l)) ∧ True) ∧ tt) else (tt ∧ T1 ∧ tt ∧ (T1 ∧ (isTolds (LeadP.told l)) ∧ (@Ne.{1} (@List.{0} AV) (LeadP.told l) (@List.nil.{0} AV))) ∧ T1 ∧ T1 ∧ tt ∧ (bif (knowsL (LeadP.told l) (MsgP.src m)) then (tt ∧ tt ∧ tt ∧ tt ∧ tt ∧ (((LeadP.r (hearL l m)) = (LeadP.r l)) ∧ ((LeadP.sl (hearL l m)) = (LeadP.sl l)) ∧ ((LeadP.bal (hearL l m)) = (LeadP.bal l)) ∧ ((LeadP.ph (hearL l m)) = (LeadP.ph l)) ∧ ((LeadP.told (hearL l m)) = (LeadP.told l)) ∧ ((LeadP.over (hearL l m)) = (LeadP.over l)) ∧ True) ∧ tt) else (tt ∧ T1 ∧ tt ∧ T1 ∧ T1 ∧ (bif (Bool.not (MsgP.ok m)) then (tt ∧ T1 ∧ tt ∧ T1 ∧ T1 ∧ tt ∧ T1 ∧ T1 ∧ tt ∧ tt ∧ tt ∧ tt ∧ tt ∧ tt ∧ (((LeadP.r (hearL l m)) = (LeadP.r l)) ∧ ((LeadP.sl (hearL l m)) = (LeadP.sl l)) ∧ ((LeadP.bal (hearL l m)) = (LeadP.bal l)) ∧ ((LeadP.ph (hearL l m)) = (LeadP.ph l)) ∧ ((LeadP.told (hearL l m)) = (LeadP.told l)) ∧ ((LeadP.over (hearL l m)) = (@ite.{1} Int ((LeadP.over l) < (InstP.bal (MsgP.x m))) (Int.decLt (LeadP.over l) (InstP.bal (MsgP.x m))) (InstP.bal (MsgP.x m)) (LeadP.over l))) ∧ True) ∧ tt) else (tt ∧ tt ∧ T1 ∧ tt ∧ (T1 ∧ True) ∧ T1 ∧ (bif (countsL l (MsgP.x m)) then (tt ∧ T1 ∧ tt ∧ (T1 ∧ (@Ne.{1} (@List.{0} AV) (LeadP.told l) (@List.nil.{0} AV)) ∧ ((List.length (LeadP.told l)) ≤ 1000) ∧ (okWidth 23 (LeadP.told l))) ∧ (∀ (v2 : (@List.{0} AV)), (∀ (v3 : (v2 = (LeadP.told l))), (∀ (v4 : Nat), (∀ (v5 : (v4 = (List.length (LeadP.told l)))), (T1 ∧ tt ∧ T1 ∧ tt ∧ T1 ∧ T1 ∧ ((v4 = (List.length v2)) ∧ ((((List.length v2) + 1) * 192) ≤ 140737488355328) ∧ (((List.length v2) + 1) ≤ 9223372036854775807) ∧ (okWidth 23 v2) ∧ (okWidth 23 [(AV.agg [(AV.int Go.IntKind.i64 (MsgP.src m)), (AV.int Go.IntKind.i64 (InstP.r (MsgP.x m))), (AV.int Go.IntKind.i64 (InstP.sl (MsgP.x m))), (AV.int Go.IntKind.i64 (InstP.st (MsgP.x m))), (AV.int Go.IntKind.u32 (InstP.bal (MsgP.x m))), (AV.int Go.IntKind.u32 (InstP.vote (MsgP.x m))), (AV.bool (InstP.same (MsgP.x m))), (AV.int Go.IntKind.i64 (CmdP.k (InstP.c (MsgP.x m)))), (AV.int Go.IntKind.u64 (CmdP.num (InstP.c (MsgP.x m)))), (AV.str (CmdP.foot (InstP.c (MsgP.x m)))), (AV.int Go.IntKind.u64 (CmdP.rq (InstP.c (MsgP.x m)))), (AV.str (CmdP.path (InstP.c (MsgP.x m)))), (AV.int Go.IntKind.i64 (CmdP.mode (InstP.c (MsgP.x m)))), (AV.int Go.IntKind.u64 (CmdP.n (InstP.c (MsgP.x m)))), (AV.int Go.IntKind.i64 (CmdP.time (InstP.c (MsgP.x m)))), (AV.int Go.IntKind.i64 (AttP.s (InstP.a (MsgP.x m)))), (AV.int Go.IntKind.i64 (AttP.d0 (InstP.a (MsgP.x m)))), (AV.int Go.IntKind.i64 (AttP.d1 (InstP.a (MsgP.x m)))), (AV.int Go.IntKind.i64 (AttP.d2 (InstP.a (MsgP.x m)))), (AV.int Go.IntKind.i64 (AttP.d3 (InstP.a (MsgP.x m)))), (AV.int Go.IntKind.i64 (AttP.d4 (InstP.a (MsgP.x m)))), (AV.int Go.IntKind.i64 (AttP.d5 (InstP.a (MsgP.x m)))), (AV.int Go.IntKind.i64 (AttP.d6 (InstP.a (MsgP.x m))))])])) ∧ T1 ∧ tt ∧ tt ∧ tt ∧ tt ∧ tt ∧ tt ∧ tt ∧ (((LeadP.r (hearL l m)) = (LeadP.r l)) ∧ ((LeadP.sl (hearL l m)) = (LeadP.sl l)) ∧ ((LeadP.bal (hearL l m)) = (LeadP.bal l)) ∧ ((LeadP.ph (hearL l m)) = (LeadP.ph l)) ∧ ((LeadP.told (hearL l m)) = (@catL AV v2 [(AV.agg [(AV.int Go.IntKind.i64 (MsgP.src m)), (AV.int Go.IntKind.i64 (InstP.r (MsgP.x m))), (AV.int Go.IntKind.i64 (InstP.sl (MsgP.x m))), (AV.int Go.IntKind.i64 (InstP.st (MsgP.x m))), (AV.int Go.IntKind.u32 (InstP.bal (MsgP.x m))), (AV.int Go.IntKind.u32 (InstP.vote (MsgP.x m))), (AV.bool (InstP.same (MsgP.x m))), (AV.int Go.IntKind.i64 (CmdP.k (InstP.c (MsgP.x m)))), (AV.int Go.IntKind.u64 (CmdP.num (InstP.c (MsgP.x m)))), (AV.str (CmdP.foot (InstP.c (MsgP.x m)))), (AV.int Go.IntKind.u64 (CmdP.rq (InstP.c (MsgP.x m)))), (AV.str (CmdP.path (InstP.c (MsgP.x m)))), (AV.int Go.IntKind.i64 (CmdP.mode (InstP.c (MsgP.x m)))), (AV.int Go.IntKind.u64 (CmdP.n (InstP.c (MsgP.x m)))), (AV.int Go.IntKind.i64 (CmdP.time (InstP.c (MsgP.x m)))), (AV.int Go.IntKind.i64 (AttP.s (InstP.a (MsgP.x m)))), (AV.int Go.IntKind.i64 (AttP.d0 (InstP.a (MsgP.x m)))), (AV.int Go.IntKind.i64 (AttP.d1 (InstP.a (MsgP.x m)))), (AV.int Go.IntKind.i64 (AttP.d2 (InstP.a (MsgP.x m)))), (AV.int Go.IntKind.i64 (AttP.d3 (InstP.a (MsgP.x m)))), (AV.int Go.IntKind.i64 (AttP.d4 (InstP.a (MsgP.x m)))), (AV.int Go.IntKind.i64 (AttP.d5 (InstP.a (MsgP.x m)))), (AV.int Go.IntKind.i64 (AttP.d6 (InstP.a (MsgP.x m))))])])) ∧ ((LeadP.over (hearL l m)) = (LeadP.over l)) ∧ True) ∧ tt)))))) else (tt ∧ tt ∧ tt ∧ tt ∧ tt ∧ (((LeadP.r (hearL l m)) = (LeadP.r l)) ∧ ((LeadP.sl (hearL l m)) = (LeadP.sl l)) ∧ ((LeadP.bal (hearL l m)) = (LeadP.bal l)) ∧ ((LeadP.ph (hearL l m)) = (LeadP.ph l)) ∧ ((LeadP.told (hearL l m)) = (LeadP.told l)) ∧ ((LeadP.over (hearL l m)) = (LeadP.over l)) ∧ True) ∧ tt))))))))))))))))))))))) : inHear0 l m :=
  Eq.mp (show _ = _ by kernel_rfl) h
end Go.Proofs.YtcokifdgbfbonaaDoor
/- The conditions hold: what a lead hears. -/
namespace Go.Proofs.YtcokifdgbfbonaaDoor
set_option linter.unusedVariables false
set_option linter.unusedSimpArgs false
open Go.RowKit
set_option maxRecDepth 100000

theorem isTolds_width {xs : List AV} (h : isTolds xs) : okWidth 23 xs := fun x hx => (h x hx).1
theorem okReplies0 : OkReplies0 := by
  intro p hq
  refine vcReplies0 p ?_
  obtain ⟨h1, h2⟩ := hq
  have : p = 1 ∨ p = 2 ∨ p = 3 := by omega
  rcases this with rfl | rfl | rfl <;> decide
theorem okLnew0 : OkLnew0 := by
  intro ph me x hq
  refine vcLnew0 ph me x ?_
  simp only [true_and, and_true, forall_eq, eq_self]
theorem okCounts0 : OkCounts0 := by
  intro l x hq
  refine vcCounts0 l x ?_
  simp only [true_and, and_true, forall_eq, eq_self]
  unfold countsL
  refine cond_prop (fun h => cond_prop (fun h2 => ?_) fun h2 => cond_prop (fun h3 => ?_) fun h3 => ?_) fun h => ?_ <;> simp at * <;> simp [*]
  rw [Bool.eq_iff_iff]; simp
theorem okTclone0 : OkTclone0 := by
  intro xs hq
  obtain ⟨h1, h2, h3⟩ := hq
  refine vcTclone0 xs ?_
  simp only [true_and, and_true, forall_eq, eq_self]
  refine ⟨h1, ⟨by omega, by omega, fun x hx => by simp at hx, h3⟩, by omega, rfl, ?_⟩
  show 0 + xs.length = ([] ++ xs : List AV).length
  simp
theorem hears_iff {l : LeadP} {m : MsgP} : hears l m = true ↔ (1 ≤ l.ph ∧ l.ph ≤ 3) ∧ rightM m = true ∧ (m.k = repliesK l.ph ∧ m.r = l.r ∧ m.s = l.sl ∧ m.b = l.bal) ∧ knowsL l.told m.src = false := by
  unfold hears; simp [and_assoc]
theorem hears_no {l : LeadP} {m : MsgP} (h : hears l m = false) : hearL l m = l := by
  unfold hearL hearTold hearOver
  rw [h]
  simp
theorem okHear0 : OkHear0 := by
  intro l m hq
  obtain ⟨hs, ht, hne, hl⟩ := hq
  refine vcHear0 l m ?_
  simp only [true_and, and_true, forall_eq, eq_self]
  have no : (¬ hears l m = true) → ((hearL l m).r = l.r ∧ (hearL l m).sl = l.sl ∧ (hearL l m).bal = l.bal ∧ (hearL l m).ph = l.ph ∧ (hearL l m).told = l.told ∧ (hearL l m).over = l.over) := by
    intro h
    rw [hears_no (by simpa using h)]
    exact ⟨rfl, rfl, rfl, rfl, rfl, rfl⟩
  refine cond_prop (fun h => no ?_) fun h => cond_prop (fun h2 => no ?_) fun h2 => ⟨hs, cond_prop (fun h3 => no ?_) fun h3 => ⟨⟨by simpa using h, by simpa using h2⟩, cond_prop (fun h4 => no ?_) fun h4 => cond_prop (fun h5 => no ?_) fun h5 => cond_prop (fun h6 => no ?_) fun h6 => ⟨⟨ht, hne⟩, cond_prop (fun h7 => no ?_) fun h7 => ?_⟩⟩⟩
  · rw [hears_iff]; simp at h; omega
  · rw [hears_iff]; simp at h2; omega
  · rw [hears_iff]; simp at h3; rw [h3]; simp
  · rw [hears_iff]; intro hh; simp at h4; exact h4 hh.2.2.1.1
  · rw [hears_iff]; intro hh; simp [hh.2.2.1.2.1, hh.2.2.1.2.2.1] at h5
  · rw [hears_iff]; intro hh; simp at h6; exact h6 hh.2.2.1.2.2.2
  · rw [hears_iff]; intro hh; rw [hh.2.2.2] at h7; cases h7
  have hh : hears l m = true := by
    rw [hears_iff]
    simp at h h2 h3 h4 h5 h6 h7
    exact ⟨⟨h, h2⟩, h3, ⟨h4, h5.1, h5.2, h6⟩, h7⟩
  refine cond_prop (fun h8 => ?_) fun h8 => cond_prop (fun h9 => ?_) fun h9 => ?_
  · have h8' : m.ok = false := by simpa using h8
    refine ⟨rfl, rfl, rfl, rfl, ?_, ?_⟩
    · show hearTold l m = _
      unfold hearTold; simp [h8']
    · show hearOver l m = _
      unfold hearOver; rw [if_pos ⟨hh, h8'⟩]; rfl
  · have h8' : m.ok = true := by simpa using h8
    refine ⟨⟨hne, by omega, isTolds_width ht⟩, ⟨by omega, by omega, isTolds_width ht, fun x hx => by simp at hx; subst hx; rfl⟩, rfl, rfl, rfl, rfl, ?_, ?_⟩
    · show hearTold l m = _
      unfold hearTold; rw [if_pos ⟨hh, h8', h9⟩]; rfl
    · show hearOver l m = _
      unfold hearOver; simp [h8']
  · have h8' : m.ok = true := by simpa using h8
    refine ⟨rfl, rfl, rfl, rfl, ?_, ?_⟩
    · show hearTold l m = _
      unfold hearTold; simp [h9]
    · show hearOver l m = _
      unfold hearOver; simp [h8']
end Go.Proofs.YtcokifdgbfbonaaDoor
/- The contracts are met. -/
namespace Go.Proofs.YtcokifdgbfbonaaDoor
set_option linter.unusedVariables false
set_option linter.unusedSimpArgs false
open Go.RowKit
theorem sndReplies : Sound Tryd.prog (lookΓ gamReplies) := sound_of _ fun p hp => by
  simp [gamReplies] at hp
set_option maxHeartbeats 4000000 in
theorem meetsReplies : Meets Tryd.prog 98 repliesF := by
  refine meets_of_awp (Γ := lookΓ gamReplies) (L := fun _ _ => none) sndReplies mixedOrders Tryd.func98 rfl Tryd.call98 ?_
  intro args q r hF hq ho
  unfold repliesF at hF
  split at hF
  · cases hF
    exact ⟨by simp only [List.length_cons, List.length_nil]; decide, okReplies0 _ hq⟩
  · cases hF
theorem sndLnew : Sound Tryd.prog (lookΓ gamLnew) := sound_of _ fun p hp => by
  simp [gamLnew] at hp
set_option maxHeartbeats 4000000 in
theorem meetsLnew : Meets Tryd.prog 54 lnewF := by
  refine meets_of_awp (Γ := lookΓ gamLnew) (L := fun _ _ => none) sndLnew mixedOrders Tryd.func54 rfl Tryd.call54 ?_
  intro args q r hF hq ho
  unfold lnewF at hF
  split at hF
  · split at hF
    · rename_i x hzx
      obtain rfl := instOf_some hzx
      cases hF
      exact ⟨by simp only [List.length_cons, List.length_nil]; decide, okLnew0 _ _ _ hq⟩
    · cases hF
  · cases hF
theorem sndCounts : Sound Tryd.prog (lookΓ gamCounts) := sound_of _ fun p hp => by
  simp [gamCounts] at hp
set_option maxHeartbeats 4000000 in
theorem meetsCounts : Meets Tryd.prog 100 countsF := by
  refine meets_of_awp (Γ := lookΓ gamCounts) (L := fun _ _ => none) sndCounts mixedOrders Tryd.func100 rfl Tryd.call100 ?_
  intro args q r hF hq ho
  unfold countsF at hF
  split at hF
  · split at hF
    · rename_i l x hzl hzx
      obtain rfl := leadOf_some hzl
      obtain rfl := instOf_some hzx
      cases hF
      exact ⟨by simp only [List.length_cons, List.length_nil]; decide, okCounts0 _ _ hq⟩
    · cases hF
  · cases hF
theorem sndTclone : Sound Tryd.prog (lookΓ gamTclone) := sound_of _ fun p hp => by
  simp [gamTclone] at hp
set_option maxHeartbeats 4000000 in
theorem meetsTclone : Meets Tryd.prog 101 tcloneF := by
  refine meets_of_awp (Γ := lookΓ gamTclone) (L := fun _ _ => none) sndTclone mixedOrders Tryd.func101 rfl Tryd.call101 ?_
  intro args q r hF hq ho
  unfold tcloneF at hF
  split at hF
  · cases hF
    exact ⟨by simp only [List.length_cons, List.length_nil]; decide, okTclone0 _ hq⟩
  · cases hF
theorem sndHear : Sound Tryd.prog (lookΓ gamHear) := sound_of _ fun p hp => by
  simp only [gamHear, List.mem_cons, List.not_mem_nil, or_false] at hp
  rcases hp with rfl | rfl | rfl | rfl | rfl
  · exact meetsMright.orNil
  · exact meetsReplies.orNil
  · exact meetsKnows.orNil
  · exact meetsCounts.orNil
  · exact meetsTclone.orNil
set_option maxHeartbeats 4000000 in
theorem meetsHear : Meets Tryd.prog 55 hearF := by
  refine meets_of_awp (Γ := lookΓ gamHear) (L := fun _ _ => none) sndHear mixedOrders Tryd.func55 rfl Tryd.call55 ?_
  intro args q r hF hq ho
  unfold hearF at hF
  split at hF
  · split at hF
    · rename_i l m hzl hzm
      obtain rfl := leadOf_some hzl
      obtain rfl := msgOf_some hzm
      cases hF
      exact ⟨by simp only [List.length_cons, List.length_nil]; decide, okHear0 _ _ hq⟩
    · cases hF
  · cases hF
end Go.Proofs.YtcokifdgbfbonaaDoor
