/- Contracts by content, their conditions, and that they are met: VoteA. -/
import Derived.Test.YtddilmocngedjaaDoorLaxPkMsgA
/- Contracts by content, and the conditions that their code must meet. -/
namespace Go.Proofs.YtddilmocngedjaaDoor
set_option linter.unusedVariables false
set_option linter.unusedSimpArgs false
open Go.RowKit
def mergeP (a b : AttP) : AttP := ⟨mx a.s b.s, mx a.d0 b.d0, mx a.d1 b.d1, mx a.d2 b.d2, mx a.d3 b.d3, mx a.d4 b.d4, mx a.d5 b.d5, mx a.d6 b.d6⟩
def ownP (a : AttP) (r n : Int) : AttP := ⟨a.s, ow 0 r n a.d0, ow 1 r n a.d1, ow 2 r n a.d2, ow 3 r n a.d3, ow 4 r n a.d4, ow 5 r n a.d5, ow 6 r n a.d6⟩
def rightAP (a : AttP) : Bool := rightA a.s a.d0 a.d1 a.d2 a.d3 a.d4 a.d5 a.d6
def withinP (a b : AttP) : Bool := withinB a.s a.d0 a.d1 a.d2 a.d3 a.d4 a.d5 a.d6 b.s b.d0 b.d1 b.d2 b.d3 b.d4 b.d5 b.d6
def speaksM (m : MsgP) : Bool := if m.k = 5 then true else if m.b = 0 then decide (m.k = 1 ∨ m.k = 3) && decide (m.src = m.r) else decide (m.src = m.b % 8)
def askedK (k : Int) : Bool := decide (k = 1 ∨ k = 3 ∨ k = 5 ∨ k = 6)
def preA (x : InstP) (m : MsgP) (h : AttP) : AttP := ownP (mergeP m.x.a h) x.r x.sl
def preX (x : InstP) (m : MsgP) (h : AttP) : InstP := if x.st ≠ 0 ∧ x.vote = m.b then x else ⟨x.r, x.sl, 1, m.b, m.b, decide (m.b = 0) && eqA (preA x m h) m.x.a, m.x.c, preA x m h⟩
def preOK (x : InstP) (m : MsgP) : Bool := if x.st ≠ 0 ∧ x.vote = m.b then decide (x.st = 1) else true
def acceptX (x : InstP) (m : MsgP) : InstP := if x.st = 2 ∧ x.vote = m.b then x else m.x
def commitX (x : InstP) (m : MsgP) : InstP := if x.st = 3 then x else { m.x with bal := mx x.bal m.b }
def votes (x : InstP) (m : MsgP) : Bool := rightM m && askedK m.k && decide (m.r = x.r ∧ m.s = x.sl) && speaksM m
def voteX (x : InstP) (m : MsgP) (h : AttP) : InstP :=
  if votes x m = false then x else if m.k = 5 then commitX x m else if x.st = 3 then x else if m.b < x.bal then x
  else if m.k = 1 then preX x m h else if m.k = 3 then acceptX x m else { x with bal := m.b }
def voteT (x : InstP) (m : MsgP) : Bool :=
  if votes x m = false then false else if m.k = 5 then false else if x.st = 3 then true else if m.b < x.bal then true
  else if m.k = 1 then preOK x m else true
def voteR (x : InstP) (m : MsgP) (h : AttP) : MsgP :=
  if votes x m = false then zM else if m.k = 5 then zM else if x.st = 3 then askM 5 m.dst m.src m.b x else if m.b < x.bal then replyM m false x
  else if voteT x m then replyM m true (voteX x m h) else zM
def speaksF : Con
  | [.val (.agg zcm)] => (match msgOf zcm with | some m => some (True, ⟨.bool (speaksM m), none, none⟩) | _ => none)
  | _ => none
def gamSpeaks : List (Nat × Con) := [(76, balRepF.orNil)]
def lpSpeaks0 (m : MsgP) : Nat → Option LoopPlan := fun _ => none
def inSpeaks0 (m : MsgP) : Prop := awp [] (lpSpeaks0 m) (lookΓ gamSpeaks) Tryd.prog Tryd.f52.ntmps 0 (Tryd.f52.body.getD .skip) (entrySt [.val (.agg (msgL m))]) (exitQ Tryd.prog Tryd.f52.results.toList [] ⟨.bool (speaksM m), none, none⟩)
def OkSpeaks0 : Prop := ∀ (m : MsgP), True → (0 ≤ m.b ∧ m.b ≤ 4294967295) → inSpeaks0 m
def askedF : Con
  | [.val (.int .i64 k)] => (some (True, ⟨.bool (askedK k), none, none⟩))
  | _ => none
def gamAsked : List (Nat × Con) := []
def lpAsked0 (k : Int) : Nat → Option LoopPlan := fun _ => none
def inAsked0 (k : Int) : Prop := awp [] (lpAsked0 k) (lookΓ gamAsked) Tryd.prog Tryd.f51.ntmps 0 (Tryd.f51.body.getD .skip) (entrySt [.val (.int .i64 k)]) (exitQ Tryd.prog Tryd.f51.results.toList [] ⟨.bool (askedK k), none, none⟩)
def OkAsked0 : Prop := ∀ (k : Int), True → inAsked0 k
def preAcceptF : Con
  | [.val (.agg zcx), .val (.agg zcm), .val (.agg zcah)] => (match instOf zcx, msgOf zcm, attOf zcah with | some x, some m, some ah => some (True, ⟨.tup [.agg (instL (preX x m ah)), .bool (preOK x m)], none, none⟩) | _, _, _ => none)
  | _ => none
def gamPreAccept : List (Nat × Con) := [(82, attMergeF.orNil), (80, attOwnF.orNil)]
def lpPreAccept0 (x : InstP) (m : MsgP) (ah : AttP) : Nat → Option LoopPlan := fun _ => none
def inPreAccept0 (x : InstP) (m : MsgP) (ah : AttP) : Prop := awp [] (lpPreAccept0 x m ah) (lookΓ gamPreAccept) Tryd.prog Tryd.f55.ntmps 0 (Tryd.f55.body.getD .skip) (entrySt [.val (.agg (instL x)), .val (.agg (msgL m)), .val (.agg (attL ah))]) (exitQ Tryd.prog Tryd.f55.results.toList [] ⟨.tup [.agg (instL (preX x m ah)), .bool (preOK x m)], none, none⟩)
def OkPreAccept0 : Prop := ∀ (x : InstP) (m : MsgP) (ah : AttP), True → inPreAccept0 x m ah
def acceptF : Con
  | [.val (.agg zcx), .val (.agg zcm)] => (match instOf zcx, msgOf zcm with | some x, some m => some (True, ⟨.agg (instL (acceptX x m)), none, none⟩) | _, _ => none)
  | _ => none
def gamAccept : List (Nat × Con) := []
def lpAccept0 (x : InstP) (m : MsgP) : Nat → Option LoopPlan := fun _ => none
def inAccept0 (x : InstP) (m : MsgP) : Prop := awp [] (lpAccept0 x m) (lookΓ gamAccept) Tryd.prog Tryd.f56.ntmps 0 (Tryd.f56.body.getD .skip) (entrySt [.val (.agg (instL x)), .val (.agg (msgL m))]) (exitQ Tryd.prog Tryd.f56.results.toList [] ⟨.agg (instL (acceptX x m)), none, none⟩)
def OkAccept0 : Prop := ∀ (x : InstP) (m : MsgP), True → inAccept0 x m
def commitF : Con
  | [.val (.agg zcx), .val (.agg zcm)] => (match instOf zcx, msgOf zcm with | some x, some m => some (True, ⟨.agg (instL (commitX x m)), none, none⟩) | _, _ => none)
  | _ => none
def gamCommit : List (Nat × Con) := []
def lpCommit0 (x : InstP) (m : MsgP) : Nat → Option LoopPlan := fun _ => none
def inCommit0 (x : InstP) (m : MsgP) : Prop := awp [] (lpCommit0 x m) (lookΓ gamCommit) Tryd.prog Tryd.f53.ntmps 0 (Tryd.f53.body.getD .skip) (entrySt [.val (.agg (instL x)), .val (.agg (msgL m))]) (exitQ Tryd.prog Tryd.f53.results.toList [] ⟨.agg (instL (commitX x m)), none, none⟩)
def OkCommit0 : Prop := ∀ (x : InstP) (m : MsgP), True → inCommit0 x m
def voteF : Con
  | [.val (.agg zcx), .val (.agg zcm), .val (.agg zcah)] => (match instOf zcx, msgOf zcm, attOf zcah with | some x, some m, some ah => some (smallX m.x, ⟨.tup [.agg (instL (voteX x m ah)), .agg (msgL (voteR x m ah)), .bool (voteT x m)], none, none⟩) | _, _, _ => none)
  | _ => none
def gamVote : List (Nat × Con) := [(23, mrightF.orNil), (51, askedF.orNil), (52, speaksF.orNil), (53, commitF.orNil), (43, askF.orNil), (54, replyF.orNil), (55, preAcceptF.orNil), (56, acceptF.orNil)]
def lpVote0 (x : InstP) (m : MsgP) (ah : AttP) : Nat → Option LoopPlan := fun _ => none
def inVote0 (x : InstP) (m : MsgP) (ah : AttP) : Prop := awp [] (lpVote0 x m ah) (lookΓ gamVote) Tryd.prog Tryd.f25.ntmps 0 (Tryd.f25.body.getD .skip) (entrySt [.val (.agg (instL x)), .val (.agg (msgL m)), .val (.agg (attL ah))]) (exitQ Tryd.prog Tryd.f25.results.toList [] ⟨.tup [.agg (instL (voteX x m ah)), .agg (msgL (voteR x m ah)), .bool (voteT x m)], none, none⟩)
def OkVote0 : Prop := ∀ (x : InstP) (m : MsgP) (ah : AttP), smallX m.x → inVote0 x m ah
end Go.Proofs.YtddilmocngedjaaDoor
/- What the verification conditions come to: printed by a program of ours (wip/lax/ex/Norm.lean). -/
namespace Go.Proofs.YtddilmocngedjaaDoor
set_option linter.unusedVariables false
open Go.RowKit
set_option maxRecDepth 100000
theorem vcSpeaks0 (m : MsgP) (h : (tt ∧ T1 ∧ T1 ∧ tt ∧ T1 ∧ tt ∧ T1 ∧ T1 ∧ (bif (m.k == 5) then (tt ∧ T1 ∧ tt ∧ tt ∧ ((speaksM m) = true ∧ True) ∧ tt) else (tt ∧ T1 ∧ tt ∧ T1 ∧ T1 ∧ (bif (m.b == 0) then (tt ∧ T1 ∧ tt ∧ T1 ∧ T1 ∧ (bif (m.k == 1) then (tt ∧ T1 ∧ T1 ∧ tt ∧ T1 ∧ T1 ∧ tt ∧ T1 ∧ T1 ∧ T1 ∧ tt ∧ tt ∧ ((speaksM m) = (m.src == m.r) ∧ True) ∧ tt) else (T1 ∧ tt ∧ T1 ∧ T1 ∧ T1 ∧ (bif (m.k == 3) then (T1 ∧ tt ∧ T1 ∧ T1 ∧ tt ∧ T1 ∧ T1 ∧ T1 ∧ tt ∧ tt ∧ ((speaksM m) = (m.src == m.r) ∧ True) ∧ tt) else (false = false ∧ T1 ∧ tt ∧ tt ∧ ((speaksM m) = false ∧ True) ∧ tt))))) else (tt ∧ T1 ∧ tt ∧ T1 ∧ tt ∧ (T1 ∧ True) ∧ ∀ v0 : Int, (v0 = (@HMod.hMod.{0, 0, 0} Int Int Int (@instHMod.{0} Int Int.instMod) m.b (8 : Int))) → T1 ∧ T1 ∧ tt ∧ tt ∧ tt ∧ ((speaksM m) = (m.src == v0) ∧ True) ∧ tt)))))) : inSpeaks0 m :=
  Eq.mp (show _ = _ by kernel_rfl) h
theorem vcAsked0 (k : Int) (h : let q0 := (askedK k); let w0_x := (tt ∧ T1 ∧ tt ∧ tt ∧ (q0 = false ∧ True) ∧ tt); let w1_x := (tt ∧ T1 ∧ tt ∧ tt ∧ (q0 = true ∧ True) ∧ tt); (tt ∧ T1 ∧ tt ∧ T1 ∧ tt ∧ T1 ∧ T1 ∧ (bif (k == 1) then (bif (k == 1) then w1_x else w0_x) else (tt ∧ T1 ∧ T1 ∧ (bif (k == 3) then (bif (k == 3) then w1_x else w0_x) else (tt ∧ T1 ∧ T1 ∧ (bif (k == 5) then (bif (k == 5) then w1_x else w0_x) else (tt ∧ T1 ∧ T1 ∧ (bif (k == 6) then w1_x else w0_x))))))))) : inAsked0 k :=
  Eq.mp (show _ = _ by kernel_rfl) h
theorem vcPreAccept0 (x : InstP) (m : MsgP) (ah : AttP) (h : let q0 := (preX x m ah); let q1 := (ow 0 x.r x.sl (mx m.x.a.d0 ah.d0)); let q2 := (ow 1 x.r x.sl (mx m.x.a.d1 ah.d1)); let q3 := (ow 2 x.r x.sl (mx m.x.a.d2 ah.d2)); let q4 := (ow 3 x.r x.sl (mx m.x.a.d3 ah.d3)); let q5 := (ow 4 x.r x.sl (mx m.x.a.d4 ah.d4)); let q6 := (ow 5 x.r x.sl (mx m.x.a.d5 ah.d5)); let q7 := (ow 6 x.r x.sl (mx m.x.a.d6 ah.d6)); let q8 := (mx m.x.a.s ah.s); let w0_x := (bif (m.b == 0) then (tt ∧ T1 ∧ T1 ∧ tt ∧ T1 ∧ T1 ∧ T1 ∧ T1 ∧ tt ∧ tt ∧ T1 ∧ tt ∧ T1 ∧ tt ∧ tt ∧ tt ∧ (q0.r = x.r ∧ q0.sl = x.sl ∧ q0.st = 1 ∧ q0.bal = m.b ∧ q0.vote = m.b ∧ q0.same = (Bool.and (q8 == m.x.a.s) (Bool.and (q1 == m.x.a.d0) (Bool.and (q2 == m.x.a.d1) (Bool.and (q3 == m.x.a.d2) (Bool.and (q4 == m.x.a.d3) (Bool.and (q5 == m.x.a.d4) (Bool.and (q6 == m.x.a.d5) (Bool.and (q7 == m.x.a.d6) true)))))))) ∧ q0.c.k = m.x.c.k ∧ q0.c.num = m.x.c.num ∧ q0.c.foot = m.x.c.foot ∧ q0.c.rq = m.x.c.rq ∧ q0.c.path = m.x.c.path ∧ q0.c.mode = m.x.c.mode ∧ q0.c.n = m.x.c.n ∧ q0.c.time = m.x.c.time ∧ q0.a.s = q8 ∧ q0.a.d0 = q1 ∧ q0.a.d1 = q2 ∧ q0.a.d2 = q3 ∧ q0.a.d3 = q4 ∧ q0.a.d4 = q5 ∧ q0.a.d5 = q6 ∧ q0.a.d6 = q7 ∧ (preOK x m) = true ∧ True) ∧ tt) else (false = false ∧ T1 ∧ T1 ∧ tt ∧ tt ∧ T1 ∧ tt ∧ T1 ∧ tt ∧ tt ∧ tt ∧ (q0.r = x.r ∧ q0.sl = x.sl ∧ q0.st = 1 ∧ q0.bal = m.b ∧ q0.vote = m.b ∧ q0.same = false ∧ q0.c.k = m.x.c.k ∧ q0.c.num = m.x.c.num ∧ q0.c.foot = m.x.c.foot ∧ q0.c.rq = m.x.c.rq ∧ q0.c.path = m.x.c.path ∧ q0.c.mode = m.x.c.mode ∧ q0.c.n = m.x.c.n ∧ q0.c.time = m.x.c.time ∧ q0.a.s = q8 ∧ q0.a.d0 = q1 ∧ q0.a.d1 = q2 ∧ q0.a.d2 = q3 ∧ q0.a.d3 = q4 ∧ q0.a.d4 = q5 ∧ q0.a.d5 = q6 ∧ q0.a.d6 = q7 ∧ (preOK x m) = true ∧ True) ∧ tt)); (tt ∧ T1 ∧ T1 ∧ T1 ∧ T1 ∧ T1 ∧ tt ∧ T1 ∧ tt ∧ T1 ∧ T1 ∧ (bif (x.st != 0) then (T1 ∧ tt ∧ T1 ∧ tt ∧ T1 ∧ T1 ∧ (bif (x.vote == m.b) then (tt ∧ tt ∧ T1 ∧ tt ∧ T1 ∧ tt ∧ T1 ∧ tt ∧ tt ∧ tt ∧ (q0.r = x.r ∧ q0.sl = x.sl ∧ q0.st = x.st ∧ q0.bal = x.bal ∧ q0.vote = x.vote ∧ q0.same = x.same ∧ q0.c.k = x.c.k ∧ q0.c.num = x.c.num ∧ q0.c.foot = x.c.foot ∧ q0.c.rq = x.c.rq ∧ q0.c.path = x.c.path ∧ q0.c.mode = x.c.mode ∧ q0.c.n = x.c.n ∧ q0.c.time = x.c.time ∧ q0.a.s = x.a.s ∧ q0.a.d0 = x.a.d0 ∧ q0.a.d1 = x.a.d1 ∧ q0.a.d2 = x.a.d2 ∧ q0.a.d3 = x.a.d3 ∧ q0.a.d4 = x.a.d4 ∧ q0.a.d5 = x.a.d5 ∧ q0.a.d6 = x.a.d6 ∧ (preOK x m) = (x.st == 1) ∧ True) ∧ tt) else (tt ∧ T1 ∧ T1 ∧ tt ∧ tt ∧ (T1 ∧ True) ∧ T1 ∧ tt ∧ (T1 ∧ True) ∧ T1 ∧ tt ∧ tt ∧ tt ∧ T1 ∧ tt ∧ T1 ∧ tt ∧ T1 ∧ tt ∧ T1 ∧ tt ∧ T1 ∧ T1 ∧ w0_x))) else (false = false ∧ tt ∧ T1 ∧ T1 ∧ tt ∧ tt ∧ (T1 ∧ True) ∧ T1 ∧ tt ∧ (T1 ∧ True) ∧ T1 ∧ tt ∧ tt ∧ tt ∧ T1 ∧ tt ∧ T1 ∧ tt ∧ T1 ∧ tt ∧ T1 ∧ tt ∧ T1 ∧ T1 ∧ w0_x)))) : inPreAccept0 x m ah :=
  Eq.mp (show _ = _ by kernel_rfl) h
theorem vcAccept0 (x : InstP) (m : MsgP) (h : let q0 := (acceptX x m); let w0_x := (q0.r = m.x.r ∧ q0.sl = m.x.sl ∧ q0.st = m.x.st ∧ q0.bal = m.x.bal ∧ q0.vote = m.x.vote ∧ q0.same = m.x.same ∧ q0.c.k = m.x.c.k ∧ q0.c.num = m.x.c.num ∧ q0.c.foot = m.x.c.foot ∧ q0.c.rq = m.x.c.rq ∧ q0.c.path = m.x.c.path ∧ q0.c.mode = m.x.c.mode ∧ q0.c.n = m.x.c.n ∧ q0.c.time = m.x.c.time ∧ q0.a.s = m.x.a.s ∧ q0.a.d0 = m.x.a.d0 ∧ q0.a.d1 = m.x.a.d1 ∧ q0.a.d2 = m.x.a.d2 ∧ q0.a.d3 = m.x.a.d3 ∧ q0.a.d4 = m.x.a.d4 ∧ q0.a.d5 = m.x.a.d5 ∧ q0.a.d6 = m.x.a.d6 ∧ True); (tt ∧ T1 ∧ T1 ∧ T1 ∧ tt ∧ T1 ∧ tt ∧ T1 ∧ T1 ∧ (bif (x.st == 2) then (T1 ∧ tt ∧ T1 ∧ tt ∧ T1 ∧ T1 ∧ (bif (x.vote == m.b) then (tt ∧ tt ∧ tt ∧ tt ∧ tt ∧ (q0.r = x.r ∧ q0.sl = x.sl ∧ q0.st = x.st ∧ q0.bal = x.bal ∧ q0.vote = x.vote ∧ q0.same = x.same ∧ q0.c.k = x.c.k ∧ q0.c.num = x.c.num ∧ q0.c.foot = x.c.foot ∧ q0.c.rq = x.c.rq ∧ q0.c.path = x.c.path ∧ q0.c.mode = x.c.mode ∧ q0.c.n = x.c.n ∧ q0.c.time = x.c.time ∧ q0.a.s = x.a.s ∧ q0.a.d0 = x.a.d0 ∧ q0.a.d1 = x.a.d1 ∧ q0.a.d2 = x.a.d2 ∧ q0.a.d3 = x.a.d3 ∧ q0.a.d4 = x.a.d4 ∧ q0.a.d5 = x.a.d5 ∧ q0.a.d6 = x.a.d6 ∧ True) ∧ tt) else (tt ∧ T1 ∧ tt ∧ tt ∧ tt ∧ tt ∧ w0_x ∧ tt))) else (false = false ∧ tt ∧ T1 ∧ tt ∧ tt ∧ tt ∧ tt ∧ w0_x ∧ tt)))) : inAccept0 x m :=
  Eq.mp (show _ = _ by kernel_rfl) h
theorem vcCommit0 (x : InstP) (m : MsgP) (h : let q0 := (commitX x m); (tt ∧ T1 ∧ T1 ∧ T1 ∧ tt ∧ T1 ∧ tt ∧ T1 ∧ (bif (x.st == 3) then (tt ∧ tt ∧ tt ∧ tt ∧ tt ∧ (q0.r = x.r ∧ q0.sl = x.sl ∧ q0.st = x.st ∧ q0.bal = x.bal ∧ q0.vote = x.vote ∧ q0.same = x.same ∧ q0.c.k = x.c.k ∧ q0.c.num = x.c.num ∧ q0.c.foot = x.c.foot ∧ q0.c.rq = x.c.rq ∧ q0.c.path = x.c.path ∧ q0.c.mode = x.c.mode ∧ q0.c.n = x.c.n ∧ q0.c.time = x.c.time ∧ q0.a.s = x.a.s ∧ q0.a.d0 = x.a.d0 ∧ q0.a.d1 = x.a.d1 ∧ q0.a.d2 = x.a.d2 ∧ q0.a.d3 = x.a.d3 ∧ q0.a.d4 = x.a.d4 ∧ q0.a.d5 = x.a.d5 ∧ q0.a.d6 = x.a.d6 ∧ True) ∧ tt) else (tt ∧ T1 ∧ tt ∧ T1 ∧ tt ∧ tt ∧ T1 ∧ tt ∧ T1 ∧ tt ∧ T1 ∧ T1 ∧ tt ∧ tt ∧ tt ∧ tt ∧ tt ∧ tt ∧ (q0.r = m.x.r ∧ q0.sl = m.x.sl ∧ q0.st = m.x.st ∧ q0.bal = (@ite.{1} Int (x.bal < m.b) (Int.decLt x.bal m.b) m.b x.bal) ∧ q0.vote = m.x.vote ∧ q0.same = m.x.same ∧ q0.c.k = m.x.c.k ∧ q0.c.num = m.x.c.num ∧ q0.c.foot = m.x.c.foot ∧ q0.c.rq = m.x.c.rq ∧ q0.c.path = m.x.c.path ∧ q0.c.mode = m.x.c.mode ∧ q0.c.n = m.x.c.n ∧ q0.c.time = m.x.c.time ∧ q0.a.s = m.x.a.s ∧ q0.a.d0 = m.x.a.d0 ∧ q0.a.d1 = m.x.a.d1 ∧ q0.a.d2 = m.x.a.d2 ∧ q0.a.d3 = m.x.a.d3 ∧ q0.a.d4 = m.x.a.d4 ∧ q0.a.d5 = m.x.a.d5 ∧ q0.a.d6 = m.x.a.d6 ∧ True) ∧ tt)))) : inCommit0 x m :=
  Eq.mp (show _ = _ by kernel_rfl) h
theorem vcVote0 (x : InstP) (m : MsgP) (ah : AttP) (h : let q0 := (voteR x m ah); let q1 := (voteX x m ah); let q2 := (replyM m true (InstP.mk x.r x.sl x.st m.b x.vote x.same x.c x.a)); let q3 := (preX x m ah); let q4 := (replyM m true (acceptX x m)); let q5 := (askM 5 m.dst m.src m.b x); let q6 := (replyM m false x); let q7 := (replyM m true q3); let q8 := (commitX x m); let q9 := (acceptX x m); let q10 := (voteT x m); let w0_x := (q1.r = x.r ∧ q1.sl = x.sl ∧ q1.st = x.st ∧ q1.bal = x.bal ∧ q1.vote = x.vote ∧ q1.same = x.same ∧ q1.c.k = x.c.k ∧ q1.c.num = x.c.num ∧ q1.c.foot = x.c.foot ∧ q1.c.rq = x.c.rq ∧ q1.c.path = x.c.path ∧ q1.c.mode = x.c.mode ∧ q1.c.n = x.c.n ∧ q1.c.time = x.c.time ∧ q1.a.s = x.a.s ∧ q1.a.d0 = x.a.d0 ∧ q1.a.d1 = x.a.d1 ∧ q1.a.d2 = x.a.d2 ∧ q1.a.d3 = x.a.d3 ∧ q1.a.d4 = x.a.d4 ∧ q1.a.d5 = x.a.d5 ∧ q1.a.d6 = x.a.d6 ∧ q0.k = 0 ∧ q0.src = 0 ∧ q0.dst = 0 ∧ q0.r = 0 ∧ q0.s = 0 ∧ q0.b = 0 ∧ q0.ok = false ∧ q0.x.r = 0 ∧ q0.x.sl = 0 ∧ q0.x.st = 0 ∧ q0.x.bal = 0 ∧ q0.x.vote = 0 ∧ q0.x.same = false ∧ q0.x.c.k = 0 ∧ q0.x.c.num = 0 ∧ q0.x.c.foot = [] ∧ q0.x.c.rq = 0 ∧ q0.x.c.path = [] ∧ q0.x.c.mode = 0 ∧ q0.x.c.n = 0 ∧ q0.x.c.time = 0 ∧ q0.x.a.s = 0 ∧ q0.x.a.d0 = 0 ∧ q0.x.a.d1 = 0 ∧ q0.x.a.d2 = 0 ∧ q0.x.a.d3 = 0 ∧ q0.x.a.d4 = 0 ∧ q0.x.a.d5 = 0 ∧ q0.x.a.d6 = 0 ∧ q10 = false ∧ True); (tt ∧ T1 ∧ T1 ∧ T1 ∧ T1 ∧ T1 ∧ T1 ∧ tt ∧ tt ∧ (T1 ∧ (smallX m.x)) ∧ T1 ∧ T1 ∧ (bif (Bool.not (rightM m)) then (tt ∧ T1 ∧ tt ∧ T1 ∧ tt ∧ T1 ∧ tt ∧ tt ∧ T1 ∧ tt ∧ tt ∧ T1 ∧ tt ∧ tt ∧ w0_x ∧ tt) else (T1 ∧ tt ∧ (T1 ∧ True) ∧ T1 ∧ T1 ∧ T1 ∧ (bif (Bool.not (askedK m.k)) then (tt ∧ T1 ∧ tt ∧ T1 ∧ tt ∧ tt ∧ T1 ∧ tt ∧ tt ∧ T1 ∧ tt ∧ tt ∧ w0_x ∧ tt) else (T1 ∧ tt ∧ T1 ∧ tt ∧ T1 ∧ T1 ∧ T1 ∧ (bif (Bool.not (Bool.and (m.r == x.r) (Bool.and (m.s == x.sl) true))) then (tt ∧ T1 ∧ tt ∧ tt ∧ T1 ∧ tt ∧ tt ∧ T1 ∧ tt ∧ tt ∧ w0_x ∧ tt) else (tt ∧ (T1 ∧ True) ∧ T1 ∧ T1 ∧ T1 ∧ (bif (Bool.not (speaksM m)) then (tt ∧ tt ∧ T1 ∧ tt ∧ tt ∧ T1 ∧ tt ∧ tt ∧ w0_x ∧ tt) else (tt ∧ T1 ∧ tt ∧ T1 ∧ T1 ∧ (bif (m.k == 5) then (tt ∧ tt ∧ tt ∧ (T1 ∧ True) ∧ T1 ∧ tt ∧ tt ∧ T1 ∧ tt ∧ tt ∧ (q1.r = q8.r ∧ q1.sl = q8.sl ∧ q1.st = q8.st ∧ q1.bal = q8.bal ∧ q1.vote = q8.vote ∧ q1.same = q8.same ∧ q1.c.k = q8.c.k ∧ q1.c.num = q8.c.num ∧ q1.c.foot = q8.c.foot ∧ q1.c.rq = q8.c.rq ∧ q1.c.path = q8.c.path ∧ q1.c.mode = q8.c.mode ∧ q1.c.n = q8.c.n ∧ q1.c.time = q8.c.time ∧ q1.a.s = q8.a.s ∧ q1.a.d0 = q8.a.d0 ∧ q1.a.d1 = q8.a.d1 ∧ q1.a.d2 = q8.a.d2 ∧ q1.a.d3 = q8.a.d3 ∧ q1.a.d4 = q8.a.d4 ∧ q1.a.d5 = q8.a.d5 ∧ q1.a.d6 = q8.a.d6 ∧ q0.k = 0 ∧ q0.src = 0 ∧ q0.dst = 0 ∧ q0.r = 0 ∧ q0.s = 0 ∧ q0.b = 0 ∧ q0.ok = false ∧ q0.x.r = 0 ∧ q0.x.sl = 0 ∧ q0.x.st = 0 ∧ q0.x.bal = 0 ∧ q0.x.vote = 0 ∧ q0.x.same = false ∧ q0.x.c.k = 0 ∧ q0.x.c.num = 0 ∧ q0.x.c.foot = [] ∧ q0.x.c.rq = 0 ∧ q0.x.c.path = [] ∧ q0.x.c.mode = 0 ∧ q0.x.c.n = 0 ∧ q0.x.c.time = 0 ∧ q0.x.a.s = 0 ∧ q0.x.a.d0 = 0 ∧ q0.x.a.d1 = 0 ∧ q0.x.a.d2 = 0 ∧ q0.x.a.d3 = 0 ∧ q0.x.a.d4 = 0 ∧ q0.x.a.d5 = 0 ∧ q0.x.a.d6 = 0 ∧ q10 = false ∧ True) ∧ tt) else (tt ∧ T1 ∧ tt ∧ T1 ∧ T1 ∧ (bif (x.st == 3) then (tt ∧ tt ∧ T1 ∧ tt ∧ T1 ∧ tt ∧ T1 ∧ tt ∧ tt ∧ (T1 ∧ True) ∧ tt ∧ tt ∧ T1 ∧ tt ∧ tt ∧ tt ∧ (q1.r = x.r ∧ q1.sl = x.sl ∧ q1.st = x.st ∧ q1.bal = x.bal ∧ q1.vote = x.vote ∧ q1.same = x.same ∧ q1.c.k = x.c.k ∧ q1.c.num = x.c.num ∧ q1.c.foot = x.c.foot ∧ q1.c.rq = x.c.rq ∧ q1.c.path = x.c.path ∧ q1.c.mode = x.c.mode ∧ q1.c.n = x.c.n ∧ q1.c.time = x.c.time ∧ q1.a.s = x.a.s ∧ q1.a.d0 = x.a.d0 ∧ q1.a.d1 = x.a.d1 ∧ q1.a.d2 = x.a.d2 ∧ q1.a.d3 = x.a.d3 ∧ q1.a.d4 = x.a.d4 ∧ q1.a.d5 = x.a.d5 ∧ q1.a.d6 = x.a.d6 ∧ q0.k = q5.k ∧ q0.src = q5.src ∧ q0.dst = q5.dst ∧ q0.r = q5.r ∧ q0.s = q5.s ∧ q0.b = q5.b ∧ q0.ok = q5.ok ∧ q0.x.r = q5.x.r ∧ q0.x.sl = q5.x.sl ∧ q0.x.st = q5.x.st ∧ q0.x.bal = q5.x.bal ∧ q0.x.vote = q5.x.vote ∧ q0.x.same = q5.x.same ∧ q0.x.c.k = q5.x.c.k ∧ q0.x.c.num = q5.x.c.num ∧ q0.x.c.foot = q5.x.c.foot ∧ q0.x.c.rq = q5.x.c.rq ∧ q0.x.c.path = q5.x.c.path ∧ q0.x.c.mode = q5.x.c.mode ∧ q0.x.c.n = q5.x.c.n ∧ q0.x.c.time = q5.x.c.time ∧ q0.x.a.s = q5.x.a.s ∧ q0.x.a.d0 = q5.x.a.d0 ∧ q0.x.a.d1 = q5.x.a.d1 ∧ q0.x.a.d2 = q5.x.a.d2 ∧ q0.x.a.d3 = q5.x.a.d3 ∧ q0.x.a.d4 = q5.x.a.d4 ∧ q0.x.a.d5 = q5.x.a.d5 ∧ q0.x.a.d6 = q5.x.a.d6 ∧ q10 = true ∧ True) ∧ tt) else (tt ∧ T1 ∧ tt ∧ T1 ∧ tt ∧ T1 ∧ T1 ∧ (bif (decide (m.b < x.bal)) then (tt ∧ tt ∧ tt ∧ tt ∧ (T1 ∧ True) ∧ tt ∧ tt ∧ T1 ∧ tt ∧ tt ∧ tt ∧ (q1.r = x.r ∧ q1.sl = x.sl ∧ q1.st = x.st ∧ q1.bal = x.bal ∧ q1.vote = x.vote ∧ q1.same = x.same ∧ q1.c.k = x.c.k ∧ q1.c.num = x.c.num ∧ q1.c.foot = x.c.foot ∧ q1.c.rq = x.c.rq ∧ q1.c.path = x.c.path ∧ q1.c.mode = x.c.mode ∧ q1.c.n = x.c.n ∧ q1.c.time = x.c.time ∧ q1.a.s = x.a.s ∧ q1.a.d0 = x.a.d0 ∧ q1.a.d1 = x.a.d1 ∧ q1.a.d2 = x.a.d2 ∧ q1.a.d3 = x.a.d3 ∧ q1.a.d4 = x.a.d4 ∧ q1.a.d5 = x.a.d5 ∧ q1.a.d6 = x.a.d6 ∧ q0.k = q6.k ∧ q0.src = q6.src ∧ q0.dst = q6.dst ∧ q0.r = q6.r ∧ q0.s = q6.s ∧ q0.b = q6.b ∧ q0.ok = q6.ok ∧ q0.x.r = q6.x.r ∧ q0.x.sl = q6.x.sl ∧ q0.x.st = q6.x.st ∧ q0.x.bal = q6.x.bal ∧ q0.x.vote = q6.x.vote ∧ q0.x.same = q6.x.same ∧ q0.x.c.k = q6.x.c.k ∧ q0.x.c.num = q6.x.c.num ∧ q0.x.c.foot = q6.x.c.foot ∧ q0.x.c.rq = q6.x.c.rq ∧ q0.x.c.path = q6.x.c.path ∧ q0.x.c.mode = q6.x.c.mode ∧ q0.x.c.n = q6.x.c.n ∧ q0.x.c.time = q6.x.c.time ∧ q0.x.a.s = q6.x.a.s ∧ q0.x.a.d0 = q6.x.a.d0 ∧ q0.x.a.d1 = q6.x.a.d1 ∧ q0.x.a.d2 = q6.x.a.d2 ∧ q0.x.a.d3 = q6.x.a.d3 ∧ q0.x.a.d4 = q6.x.a.d4 ∧ q0.x.a.d5 = q6.x.a.d5 ∧ q0.x.a.d6 = q6.x.a.d6 ∧ q10 = true ∧ True) ∧ tt) else (tt ∧ tt ∧ tt ∧ T1 ∧ tt ∧ T1 ∧ tt ∧ tt ∧ T1 ∧ T1 ∧ (bif (m.k == 1) then (tt ∧ tt ∧ tt ∧ tt ∧ (T1 ∧ True) ∧ T1 ∧ T1 ∧ T1 ∧ tt ∧ T1 ∧ tt ∧ T1 ∧ T1 ∧ (bif (Bool.not (preOK x m)) then (tt ∧ tt ∧ T1 ∧ tt ∧ tt ∧ T1 ∧ tt ∧ tt ∧ (q1.r = q3.r ∧ q1.sl = q3.sl ∧ q1.st = q3.st ∧ q1.bal = q3.bal ∧ q1.vote = q3.vote ∧ q1.same = q3.same ∧ q1.c.k = q3.c.k ∧ q1.c.num = q3.c.num ∧ q1.c.foot = q3.c.foot ∧ q1.c.rq = q3.c.rq ∧ q1.c.path = q3.c.path ∧ q1.c.mode = q3.c.mode ∧ q1.c.n = q3.c.n ∧ q1.c.time = q3.c.time ∧ q1.a.s = q3.a.s ∧ q1.a.d0 = q3.a.d0 ∧ q1.a.d1 = q3.a.d1 ∧ q1.a.d2 = q3.a.d2 ∧ q1.a.d3 = q3.a.d3 ∧ q1.a.d4 = q3.a.d4 ∧ q1.a.d5 = q3.a.d5 ∧ q1.a.d6 = q3.a.d6 ∧ q0.k = 0 ∧ q0.src = 0 ∧ q0.dst = 0 ∧ q0.r = 0 ∧ q0.s = 0 ∧ q0.b = 0 ∧ q0.ok = false ∧ q0.x.r = 0 ∧ q0.x.sl = 0 ∧ q0.x.st = 0 ∧ q0.x.bal = 0 ∧ q0.x.vote = 0 ∧ q0.x.same = false ∧ q0.x.c.k = 0 ∧ q0.x.c.num = 0 ∧ q0.x.c.foot = [] ∧ q0.x.c.rq = 0 ∧ q0.x.c.path = [] ∧ q0.x.c.mode = 0 ∧ q0.x.c.n = 0 ∧ q0.x.c.time = 0 ∧ q0.x.a.s = 0 ∧ q0.x.a.d0 = 0 ∧ q0.x.a.d1 = 0 ∧ q0.x.a.d2 = 0 ∧ q0.x.a.d3 = 0 ∧ q0.x.a.d4 = 0 ∧ q0.x.a.d5 = 0 ∧ q0.x.a.d6 = 0 ∧ q10 = false ∧ True) ∧ tt) else (tt ∧ tt ∧ tt ∧ tt ∧ (T1 ∧ True) ∧ tt ∧ tt ∧ T1 ∧ tt ∧ tt ∧ tt ∧ (q1.r = q3.r ∧ q1.sl = q3.sl ∧ q1.st = q3.st ∧ q1.bal = q3.bal ∧ q1.vote = q3.vote ∧ q1.same = q3.same ∧ q1.c.k = q3.c.k ∧ q1.c.num = q3.c.num ∧ q1.c.foot = q3.c.foot ∧ q1.c.rq = q3.c.rq ∧ q1.c.path = q3.c.path ∧ q1.c.mode = q3.c.mode ∧ q1.c.n = q3.c.n ∧ q1.c.time = q3.c.time ∧ q1.a.s = q3.a.s ∧ q1.a.d0 = q3.a.d0 ∧ q1.a.d1 = q3.a.d1 ∧ q1.a.d2 = q3.a.d2 ∧ q1.a.d3 = q3.a.d3 ∧ q1.a.d4 = q3.a.d4 ∧ q1.a.d5 = q3.a.d5 ∧ q1.a.d6 = q3.a.d6 ∧ q0.k = q7.k ∧ q0.src = q7.src ∧ q0.dst = q7.dst ∧ q0.r = q7.r ∧ q0.s = q7.s ∧ q0.b = q7.b ∧ q0.ok = q7.ok ∧ q0.x.r = q7.x.r ∧ q0.x.sl = q7.x.sl ∧ q0.x.st = q7.x.st ∧ q0.x.bal = q7.x.bal ∧ q0.x.vote = q7.x.vote ∧ q0.x.same = q7.x.same ∧ q0.x.c.k = q7.x.c.k ∧ q0.x.c.num = q7.x.c.num ∧ q0.x.c.foot = q7.x.c.foot ∧ q0.x.c.rq = q7.x.c.rq ∧ q0.x.c.path = q7.x.c.path ∧ q0.x.c.mode = q7.x.c.mode ∧ q0.x.c.n = q7.x.c.n ∧ q0.x.c.time = q7.x.c.time ∧ q0.x.a.s = q7.x.a.s ∧ q0.x.a.d0 = q7.x.a.d0 ∧ q0.x.a.d1 = q7.x.a.d1 ∧ q0.x.a.d2 = q7.x.a.d2 ∧ q0.x.a.d3 = q7.x.a.d3 ∧ q0.x.a.d4 = q7.x.a.d4 ∧ q0.x.a.d5 = q7.x.a.d5 ∧ q0.x.a.d6 = q7.x.a.d6 ∧ q10 = true ∧ True) ∧ tt))) else (tt ∧ T1 ∧ T1 ∧ (bif (m.k == 3) then (tt ∧ tt ∧ tt ∧ (T1 ∧ True) ∧ tt ∧ tt ∧ T1 ∧ T1 ∧ tt ∧ tt ∧ tt ∧ tt ∧ (T1 ∧ True) ∧ tt ∧ tt ∧ T1 ∧ tt ∧ tt ∧ tt ∧ (q1.r = q9.r ∧ q1.sl = q9.sl ∧ q1.st = q9.st ∧ q1.bal = q9.bal ∧ q1.vote = q9.vote ∧ q1.same = q9.same ∧ q1.c.k = q9.c.k ∧ q1.c.num = q9.c.num ∧ q1.c.foot = q9.c.foot ∧ q1.c.rq = q9.c.rq ∧ q1.c.path = q9.c.path ∧ q1.c.mode = q9.c.mode ∧ q1.c.n = q9.c.n ∧ q1.c.time = q9.c.time ∧ q1.a.s = q9.a.s ∧ q1.a.d0 = q9.a.d0 ∧ q1.a.d1 = q9.a.d1 ∧ q1.a.d2 = q9.a.d2 ∧ q1.a.d3 = q9.a.d3 ∧ q1.a.d4 = q9.a.d4 ∧ q1.a.d5 = q9.a.d5 ∧ q1.a.d6 = q9.a.d6 ∧ q0.k = q4.k ∧ q0.src = q4.src ∧ q0.dst = q4.dst ∧ q0.r = q4.r ∧ q0.s = q4.s ∧ q0.b = q4.b ∧ q0.ok = q4.ok ∧ q0.x.r = q4.x.r ∧ q0.x.sl = q4.x.sl ∧ q0.x.st = q4.x.st ∧ q0.x.bal = q4.x.bal ∧ q0.x.vote = q4.x.vote ∧ q0.x.same = q4.x.same ∧ q0.x.c.k = q4.x.c.k ∧ q0.x.c.num = q4.x.c.num ∧ q0.x.c.foot = q4.x.c.foot ∧ q0.x.c.rq = q4.x.c.rq ∧ q0.x.c.path = q4.x.c.path ∧ q0.x.c.mode = q4.x.c.mode ∧ q0.x.c.n = q4.x.c.n ∧ q0.x.c.time = q4.x.c.time ∧ q0.x.a.s = q4.x.a.s ∧ q0.x.a.d0 = q4.x.a.d0 ∧ q0.x.a.d1 = q4.x.a.d1 ∧ q0.x.a.d2 = q4.x.a.d2 ∧ q0.x.a.d3 = q4.x.a.d3 ∧ q0.x.a.d4 = q4.x.a.d4 ∧ q0.x.a.d5 = q4.x.a.d5 ∧ q0.x.a.d6 = q4.x.a.d6 ∧ q10 = true ∧ True) ∧ tt) else (tt ∧ T1 ∧ tt ∧ T1 ∧ tt ∧ tt ∧ T1 ∧ T1 ∧ tt ∧ tt ∧ tt ∧ tt ∧ (T1 ∧ True) ∧ tt ∧ tt ∧ T1 ∧ tt ∧ tt ∧ tt ∧ (q1.r = x.r ∧ q1.sl = x.sl ∧ q1.st = x.st ∧ q1.bal = m.b ∧ q1.vote = x.vote ∧ q1.same = x.same ∧ q1.c.k = x.c.k ∧ q1.c.num = x.c.num ∧ q1.c.foot = x.c.foot ∧ q1.c.rq = x.c.rq ∧ q1.c.path = x.c.path ∧ q1.c.mode = x.c.mode ∧ q1.c.n = x.c.n ∧ q1.c.time = x.c.time ∧ q1.a.s = x.a.s ∧ q1.a.d0 = x.a.d0 ∧ q1.a.d1 = x.a.d1 ∧ q1.a.d2 = x.a.d2 ∧ q1.a.d3 = x.a.d3 ∧ q1.a.d4 = x.a.d4 ∧ q1.a.d5 = x.a.d5 ∧ q1.a.d6 = x.a.d6 ∧ q0.k = q2.k ∧ q0.src = q2.src ∧ q0.dst = q2.dst ∧ q0.r = q2.r ∧ q0.s = q2.s ∧ q0.b = q2.b ∧ q0.ok = q2.ok ∧ q0.x.r = q2.x.r ∧ q0.x.sl = q2.x.sl ∧ q0.x.st = q2.x.st ∧ q0.x.bal = q2.x.bal ∧ q0.x.vote = q2.x.vote ∧ q0.x.same = q2.x.same ∧ q0.x.c.k = q2.x.c.k ∧ q0.x.c.num = q2.x.c.num ∧ q0.x.c.foot = q2.x.c.foot ∧ q0.x.c.rq = q2.x.c.rq ∧ q0.x.c.path = q2.x.c.path ∧ q0.x.c.mode = q2.x.c.mode ∧ q0.x.c.n = q2.x.c.n ∧ q0.x.c.time = q2.x.c.time ∧ q0.x.a.s = q2.x.a.s ∧ q0.x.a.d0 = q2.x.a.d0 ∧ q0.x.a.d1 = q2.x.a.d1 ∧ q0.x.a.d2 = q2.x.a.d2 ∧ q0.x.a.d3 = q2.x.a.d3 ∧ q0.x.a.d4 = q2.x.a.d4 ∧ q0.x.a.d5 = q2.x.a.d5 ∧ q0.x.a.d6 = q2.x.a.d6 ∧ q10 = true ∧ True) ∧ tt)))))))))))))))))))) : inVote0 x m ah :=
  Eq.mp (show _ = _ by kernel_rfl) h
end Go.Proofs.YtddilmocngedjaaDoor
/- The conditions hold: what a replica does with a message. -/
namespace Go.Proofs.YtddilmocngedjaaDoor
set_option linter.unusedVariables false
set_option linter.unusedSimpArgs false
open Go.RowKit
set_option maxRecDepth 100000

theorem okSpeaks0 : OkSpeaks0 := by
  intro m hq hb
  refine vcSpeaks0 m ?_
  simp only [true_and, and_true, forall_eq, eq_self]
  unfold speaksM
  repeat' (refine cond_prop (fun h => ?_) fun h => ?_)
  all_goals simp at *
  all_goals simp_all
  all_goals first | rfl | (rw [Bool.eq_iff_iff]; simp)
theorem okAsked0 : OkAsked0 := by
  intro k hq
  refine vcAsked0 k ?_
  simp only [true_and, and_true, forall_eq, eq_self]
  unfold askedK
  repeat' (refine cond_prop (fun h => ?_) fun h => ?_)
  all_goals (rw [Bool.eq_iff_iff]; simp at *; omega)
theorem okAccept0 : OkAccept0 := by
  intro x m hq
  refine vcAccept0 x m ?_
  simp only [true_and, and_true, forall_eq, eq_self]
  by_cases h : x.st = 2 ∧ x.vote = m.b
  · have e : acceptX x m = x := if_pos h
    rw [e, h.1, h.2]
    simp
  · have e : acceptX x m = m.x := if_neg h
    rw [e]
    refine cond_prop (fun h1 => cond_prop (fun h2 => ?_) fun h2 => ?_) fun h1 => ?_
    · simp at h1 h2; exact absurd ⟨h1, h2⟩ h
    · and_intros <;> rfl
    · and_intros <;> rfl
theorem okCommit0 : OkCommit0 := by
  intro x m hq
  refine vcCommit0 x m ?_
  simp only [true_and, and_true, forall_eq, eq_self]
  refine cond_prop (fun h => ?_) fun h => ?_
  · have e : commitX x m = x := if_pos (by simpa using h)
    rw [e]
    and_intros <;> rfl
  · have e : commitX x m = { m.x with bal := mx x.bal m.b } := if_neg (by simpa using h)
    rw [e]
    and_intros <;> rfl
theorem okPreAccept0 : OkPreAccept0 := by
  intro x m ah hq
  refine vcPreAccept0 x m ah ?_
  simp only [true_and, and_true, forall_eq, eq_self]
  have ne : ¬ (x.st ≠ 0 ∧ x.vote = m.b) → preX x m ah = ⟨x.r, x.sl, 1, m.b, m.b, decide (m.b = 0) && eqA (preA x m ah) m.x.a, m.x.c, preA x m ah⟩ ∧ preOK x m = true := fun h => ⟨if_neg h, if_neg h⟩
  refine cond_prop (fun h1 => cond_prop (fun h2 => ?_) fun h2 => ?_) fun h1 => ?_
  · have hc : x.st ≠ 0 ∧ x.vote = m.b := by simp at h1 h2; exact ⟨h1, h2⟩
    have e : preX x m ah = x := if_pos hc
    have e2 : preOK x m = decide (x.st = 1) := if_pos hc
    rw [e, e2]
    and_intros <;> rfl
  all_goals
    have hc : ¬ (x.st ≠ 0 ∧ x.vote = m.b) := by simp_all
    rw [(ne hc).1, (ne hc).2]
    refine cond_prop (fun h3 => ?_) fun h3 => ?_
    · have hb : m.b = 0 := by simpa using h3
      rw [decide_eq_true hb]
      and_intros <;> rfl
    · have hb : m.b ≠ 0 := by simpa using h3
      rw [decide_eq_false hb]
      and_intros <;> rfl
theorem okVote0 : OkVote0 := by
  intro x m ah hq
  refine vcVote0 x m ah ?_
  simp only [true_and, and_true, forall_eq, eq_self, hq]
  have no : votes x m = false → voteX x m ah = x ∧ voteR x m ah = zM ∧ voteT x m = false := fun h => ⟨if_pos h, if_pos h, if_pos h⟩
  refine cond_prop (fun h => ?_) fun h1 => cond_prop (fun h => ?_) fun h2 => cond_prop (fun h => ?_) fun h3 => cond_prop (fun h => ?_) fun h4 => ?_
  · have hv : votes x m = false := by simp at h; simp [votes, h]
    obtain ⟨e1, e2, e3⟩ := no hv
    rw [e1, e2, e3]; and_intros <;> rfl
  · have hv : votes x m = false := by simp at h; simp [votes, h]
    obtain ⟨e1, e2, e3⟩ := no hv
    rw [e1, e2, e3]; and_intros <;> rfl
  · have hv : votes x m = false := by simp at h; simp [votes]; intro _ _ a b; rcases h with h | h <;> contradiction
    obtain ⟨e1, e2, e3⟩ := no hv
    rw [e1, e2, e3]; and_intros <;> rfl
  · have hv : votes x m = false := by simp at h; simp [votes, h]
    obtain ⟨e1, e2, e3⟩ := no hv
    rw [e1, e2, e3]; and_intros <;> rfl
  have hv : ¬ votes x m = false := by
    simp at h1 h2 h3 h4; simp [votes, h1, h2, h3, h4]
  refine cond_prop (fun h => ?_) fun h5 => cond_prop (fun h => ?_) fun h6 => cond_prop (fun h => ?_) fun h7 => ?_
  · have e1 : voteX x m ah = commitX x m := by unfold voteX; rw [if_neg hv, if_pos (by simpa using h)]
    have e2 : voteR x m ah = zM := by unfold voteR; rw [if_neg hv, if_pos (by simpa using h)]
    have e3 : voteT x m = false := by unfold voteT; rw [if_neg hv, if_pos (by simpa using h)]
    rw [e1, e2, e3]; and_intros <;> rfl
  all_goals have g5 : ¬ m.k = 5 := by simpa using h5
  · have e1 : voteX x m ah = x := by unfold voteX; rw [if_neg hv, if_neg g5, if_pos (by simpa using h)]
    have e2 : voteR x m ah = askM 5 m.dst m.src m.b x := by unfold voteR; rw [if_neg hv, if_neg g5, if_pos (by simpa using h)]
    have e3 : voteT x m = true := by unfold voteT; rw [if_neg hv, if_neg g5, if_pos (by simpa using h)]
    rw [e1, e2, e3]; and_intros <;> rfl
  all_goals have g6 : ¬ x.st = 3 := by simpa using h6
  · have e1 : voteX x m ah = x := by unfold voteX; rw [if_neg hv, if_neg g5, if_neg g6, if_pos (by simpa using h)]
    have e2 : voteR x m ah = replyM m false x := by unfold voteR; rw [if_neg hv, if_neg g5, if_neg g6, if_pos (by simpa using h)]
    have e3 : voteT x m = true := by unfold voteT; rw [if_neg hv, if_neg g5, if_neg g6, if_pos (by simpa using h)]
    rw [e1, e2, e3]; and_intros <;> rfl
  have g7 : ¬ m.b < x.bal := by simpa using h7
  have f1 : voteX x m ah = if m.k = 1 then preX x m ah else if m.k = 3 then acceptX x m else { x with bal := m.b } := by unfold voteX; rw [if_neg hv, if_neg g5, if_neg g6, if_neg g7]
  have f3 : voteT x m = if m.k = 1 then preOK x m else true := by unfold voteT; rw [if_neg hv, if_neg g5, if_neg g6, if_neg g7]
  have f2 : voteR x m ah = if voteT x m then replyM m true (voteX x m ah) else zM := by unfold voteR; rw [if_neg hv, if_neg g5, if_neg g6, if_neg g7]
  refine cond_prop (fun h => ?_) fun h8 => cond_prop (fun h => ?_) fun h9 => ?_
  · have g8 : m.k = 1 := by simpa using h
    rw [if_pos g8] at f1 f3
    refine cond_prop (fun g => ?_) fun g => ?_
    · have : preOK x m = false := by simpa using g
      rw [f2, f1, f3, this]; and_intros <;> rfl
    · have : preOK x m = true := by simpa using g
      rw [f2, f1, f3, this]; and_intros <;> rfl
  · have g8 : ¬ m.k = 1 := by simpa using h8
    rw [if_neg g8, if_pos (by simpa using h)] at f1
    rw [if_neg g8] at f3
    rw [f2, f1, f3]; and_intros <;> rfl
  · have g8 : ¬ m.k = 1 := by simpa using h8
    rw [if_neg g8, if_neg (by simpa using h9)] at f1
    rw [if_neg g8] at f3
    rw [f2, f1, f3]; and_intros <;> rfl
end Go.Proofs.YtddilmocngedjaaDoor
/- The contracts are met. -/
namespace Go.Proofs.YtddilmocngedjaaDoor
set_option linter.unusedVariables false
set_option linter.unusedSimpArgs false
open Go.RowKit
theorem sndSpeaks : Sound Tryd.prog (lookΓ gamSpeaks) := sound_of _ fun p hp => by
  simp only [gamSpeaks, List.mem_cons, List.not_mem_nil, or_false] at hp
  subst hp
  exact meetsBalRep.orNil
set_option maxHeartbeats 4000000 in
theorem meetsSpeaks : Meets Tryd.prog 52 speaksF := by
  refine meets_of_awp (Γ := lookΓ gamSpeaks) (L := fun _ _ => none) sndSpeaks mixedOrders Tryd.func52 rfl Tryd.call52 ?_
  intro args q r hF hq ho
  unfold speaksF at hF
  split at hF
  · split at hF
    · rename_i m hzm
      obtain rfl := msgOf_some hzm
      cases hF
      exact ⟨by simp only [List.length_cons, List.length_nil]; decide, okSpeaks0 _ hq (okay_u32 (argA 0 5 ho rfl rfl))⟩
    · cases hF
  · cases hF
theorem sndAsked : Sound Tryd.prog (lookΓ gamAsked) := sound_of _ fun p hp => by
  simp [gamAsked] at hp
set_option maxHeartbeats 4000000 in
theorem meetsAsked : Meets Tryd.prog 51 askedF := by
  refine meets_of_awp (Γ := lookΓ gamAsked) (L := fun _ _ => none) sndAsked mixedOrders Tryd.func51 rfl Tryd.call51 ?_
  intro args q r hF hq ho
  unfold askedF at hF
  split at hF
  · cases hF
    exact ⟨by simp only [List.length_cons, List.length_nil]; decide, okAsked0 _ hq⟩
  · cases hF
theorem sndPreAccept : Sound Tryd.prog (lookΓ gamPreAccept) := sound_of _ fun p hp => by
  simp only [gamPreAccept, List.mem_cons, List.not_mem_nil, or_false] at hp
  rcases hp with rfl | rfl
  · exact meetsAttMerge.orNil
  · exact meetsAttOwn.orNil
set_option maxHeartbeats 4000000 in
theorem meetsPreAccept : Meets Tryd.prog 55 preAcceptF := by
  refine meets_of_awp (Γ := lookΓ gamPreAccept) (L := fun _ _ => none) sndPreAccept mixedOrders Tryd.func55 rfl Tryd.call55 ?_
  intro args q r hF hq ho
  unfold preAcceptF at hF
  split at hF
  · split at hF
    · rename_i x m ah hzx hzm hzah
      obtain rfl := instOf_some hzx
      obtain rfl := msgOf_some hzm
      obtain rfl := attOf_some hzah
      cases hF
      exact ⟨by simp only [List.length_cons, List.length_nil]; decide, okPreAccept0 _ _ _ hq⟩
    · cases hF
  · cases hF
theorem sndAccept : Sound Tryd.prog (lookΓ gamAccept) := sound_of _ fun p hp => by
  simp [gamAccept] at hp
set_option maxHeartbeats 4000000 in
theorem meetsAccept : Meets Tryd.prog 56 acceptF := by
  refine meets_of_awp (Γ := lookΓ gamAccept) (L := fun _ _ => none) sndAccept mixedOrders Tryd.func56 rfl Tryd.call56 ?_
  intro args q r hF hq ho
  unfold acceptF at hF
  split at hF
  · split at hF
    · rename_i x m hzx hzm
      obtain rfl := instOf_some hzx
      obtain rfl := msgOf_some hzm
      cases hF
      exact ⟨by simp only [List.length_cons, List.length_nil]; decide, okAccept0 _ _ hq⟩
    · cases hF
  · cases hF
theorem sndCommit : Sound Tryd.prog (lookΓ gamCommit) := sound_of _ fun p hp => by
  simp [gamCommit] at hp
set_option maxHeartbeats 4000000 in
theorem meetsCommit : Meets Tryd.prog 53 commitF := by
  refine meets_of_awp (Γ := lookΓ gamCommit) (L := fun _ _ => none) sndCommit mixedOrders Tryd.func53 rfl Tryd.call53 ?_
  intro args q r hF hq ho
  unfold commitF at hF
  split at hF
  · split at hF
    · rename_i x m hzx hzm
      obtain rfl := instOf_some hzx
      obtain rfl := msgOf_some hzm
      cases hF
      exact ⟨by simp only [List.length_cons, List.length_nil]; decide, okCommit0 _ _ hq⟩
    · cases hF
  · cases hF
theorem sndVote : Sound Tryd.prog (lookΓ gamVote) := sound_of _ fun p hp => by
  simp only [gamVote, List.mem_cons, List.not_mem_nil, or_false] at hp
  rcases hp with rfl | rfl | rfl | rfl | rfl | rfl | rfl | rfl
  · exact meetsMright.orNil
  · exact meetsAsked.orNil
  · exact meetsSpeaks.orNil
  · exact meetsCommit.orNil
  · exact meetsAsk.orNil
  · exact meetsReply.orNil
  · exact meetsPreAccept.orNil
  · exact meetsAccept.orNil
set_option maxHeartbeats 4000000 in
theorem meetsVote : Meets Tryd.prog 25 voteF := by
  refine meets_of_awp (Γ := lookΓ gamVote) (L := fun _ _ => none) sndVote mixedOrders Tryd.func25 rfl Tryd.call25 ?_
  intro args q r hF hq ho
  unfold voteF at hF
  split at hF
  · split at hF
    · rename_i x m ah hzx hzm hzah
      obtain rfl := instOf_some hzx
      obtain rfl := msgOf_some hzm
      obtain rfl := attOf_some hzah
      cases hF
      exact ⟨by simp only [List.length_cons, List.length_nil]; decide, okVote0 _ _ _ hq⟩
    · cases hF
  · cases hF
end Go.Proofs.YtddilmocngedjaaDoor
