/- Contracts by content, their conditions, and that they are met: InstA. -/
import Derived.Test.YtddilmocngedjaaDoorLaxPkCmdA
import Derived.Test.YtddilmocngedjaaDoorLaxPkIoA
/- Contracts by content, and the conditions that their code must meet. -/
namespace Go.Proofs.YtddilmocngedjaaDoor
set_option linter.unusedVariables false
set_option linter.unusedSimpArgs false
open Go.RowKit
structure AttP where
  s : Int
  d0 : Int
  d1 : Int
  d2 : Int
  d3 : Int
  d4 : Int
  d5 : Int
  d6 : Int
structure InstP where
  r : Int
  sl : Int
  st : Int
  bal : Int
  vote : Int
  same : Bool
  c : CmdP
  a : AttP
def attL (a : AttP) : List AV := [.int .i64 a.s, .int .i64 a.d0, .int .i64 a.d1, .int .i64 a.d2, .int .i64 a.d3, .int .i64 a.d4, .int .i64 a.d5, .int .i64 a.d6]
def instL (x : InstP) : List AV := [.int .i64 x.r, .int .i64 x.sl, .int .i64 x.st, .int .u32 x.bal, .int .u32 x.vote, .bool x.same, .int .i64 x.c.k, .int .u64 x.c.num, .str x.c.foot, .int .u64 x.c.rq, .str x.c.path, .int .i64 x.c.mode, .int .u64 x.c.n, .int .i64 x.c.time, .int .i64 x.a.s, .int .i64 x.a.d0, .int .i64 x.a.d1, .int .i64 x.a.d2, .int .i64 x.a.d3, .int .i64 x.a.d4, .int .i64 x.a.d5, .int .i64 x.a.d6]
def eqA (a b : AttP) : Bool := sameCells (attL a) (attL b)
def eqI (x y : InstP) : Bool := sameCells (instL x) (instL y)
def zA0 : AttP := ⟨0, 0, 0, 0, 0, 0, 0, 0⟩
def zI : InstP := ⟨0, 0, 0, 0, 0, false, zC, zA0⟩
def alikeI (x y : InstP) : Bool := eqC x.c y.c && eqA x.a y.a
def ownsI (x : InstP) : Bool := ownsB x.a.s x.a.d0 x.a.d1 x.a.d2 x.a.d3 x.a.d4 x.a.d5 x.a.d6 x.r x.sl
def smallX (x : InstP) : Prop := x.c.foot.length ≤ 900000 ∧ x.c.path.length ≤ 900000
abbrev maxX (x : InstP) : Prop := x.c.foot.length ≤ 9223372036854775807 ∧ x.c.path.length ≤ 9223372036854775807
def smallB (x : InstP) (m : Nat) : Bool := decide (x.c.path.length < m) && decide (x.c.foot.length < m)
def newI (r sl : Int) : InstP := ⟨r, sl, 0, 0, 0, false, zC, zA0⟩
def attOf : List AV → Option AttP
  | [.int .i64 s, .int .i64 d0, .int .i64 d1, .int .i64 d2, .int .i64 d3, .int .i64 d4, .int .i64 d5, .int .i64 d6] => some ⟨s, d0, d1, d2, d3, d4, d5, d6⟩
  | _ => none
def instOf : List AV → Option InstP
  | .int .i64 r :: .int .i64 sl :: .int .i64 st :: .int .u32 bal :: .int .u32 vote :: .bool same :: .int .i64 k :: .int .u64 num :: .str foot :: .int .u64 rq :: .str path :: .int .i64 mode :: .int .u64 n :: .int .i64 time :: rest => match attOf rest with
    | some a => some ⟨r, sl, st, bal, vote, same, ⟨k, num, foot, rq, path, mode, n, time⟩, a⟩
    | none => none
  | _ => none
theorem attOf_some {l : List AV} {x : AttP} (h : attOf l = some x) : l = attL x := by
  unfold attOf at h
  split at h
  · cases h; rfl
  · cases h
theorem instOf_some {l : List AV} {x : InstP} (h : instOf l = some x) : l = instL x := by
  unfold instOf at h
  split at h
  · split at h
    · rename_i ha
      cases attOf_some ha
      cases h; rfl
    · cases h
  · cases h
def rightI (x : InstP) : Bool :=
  if rightId x.r x.sl && balOK x.bal && balOK x.vote && decide (x.vote ≤ x.bal) then
    if x.st = 0 then eqI x ⟨x.r, x.sl, 0, x.bal, 0, false, zC, zA0⟩
    else if x.st < 0 ∨ 3 < x.st ∨ (x.same = true ∧ (x.st ≠ 1 ∨ x.vote ≠ 0)) then false
    else rightC x.c && ownsI x
  else false
def followsI (x o : InstP) : Bool :=
  if x.r = o.r ∧ x.sl = o.sl ∧ rightI x = true ∧ rightI o = true ∧ o.bal ≤ x.bal then
    if o.st = 3 then decide (x.st = 3) && alikeI x o
    else if x.st = 3 then true
    else if x.vote ≠ o.vote then decide (o.vote < x.vote)
    else if x.st ≠ o.st then decide (o.st < x.st)
    else alikeI x o && (x.same == o.same)
  else false
def irightF : Con
  | [.val (.agg zcx)] => (match instOf zcx with | some x => some (smallX x, ⟨.bool (rightI x), none, none⟩) | _ => none)
  | _ => none
def gamIright : List (Nat × Con) := [(44, idRightF.orNil), (45, balRightF.orNil), (46, crightF.orNil), (47, attOwnsF.orNil)]
def lpIright0 (x : InstP) : Nat → Option LoopPlan := fun _ => none
def inIright0 (x : InstP) : Prop := awp [] (lpIright0 x) (lookΓ gamIright) Tryd.prog Tryd.f22.ntmps 0 (Tryd.f22.body.getD .skip) (entrySt [.val (.agg (instL x))]) (exitQ Tryd.prog Tryd.f22.results.toList [] ⟨.bool (rightI x), none, none⟩)
def OkIright0 : Prop := ∀ (x : InstP), smallX x → inIright0 x
def alikeF : Con
  | [.val (.agg zcx), .val (.agg zcy)] => (match instOf zcx, instOf zcy with | some x, some y => some (True, ⟨.bool (alikeI x y), none, none⟩) | _, _ => none)
  | _ => none
def gamAlike : List (Nat × Con) := []
def lpAlike0 (x y : InstP) : Nat → Option LoopPlan := fun _ => none
def inAlike0 (x y : InstP) : Prop := awp [] (lpAlike0 x y) (lookΓ gamAlike) Tryd.prog Tryd.f26.ntmps 0 (Tryd.f26.body.getD .skip) (entrySt [.val (.agg (instL x)), .val (.agg (instL y))]) (exitQ Tryd.prog Tryd.f26.results.toList [] ⟨.bool (alikeI x y), none, none⟩)
def OkAlike0 : Prop := ∀ (x y : InstP), True → inAlike0 x y
def inewF : Con
  | [.val (.agg [.int .i64 r, .int .i64 sl])] => (some (True, ⟨.agg (instL (newI r sl)), none, none⟩))
  | _ => none
def gamInew : List (Nat × Con) := []
def lpInew0 (r sl : Int) : Nat → Option LoopPlan := fun _ => none
def inInew0 (r sl : Int) : Prop := awp [] (lpInew0 r sl) (lookΓ gamInew) Tryd.prog Tryd.f42.ntmps 0 (Tryd.f42.body.getD .skip) (entrySt [.val (.agg [.int .i64 r, .int .i64 sl])]) (exitQ Tryd.prog Tryd.f42.results.toList [] ⟨.agg (instL (newI r sl)), none, none⟩)
def OkInew0 : Prop := ∀ (r sl : Int), True → inInew0 r sl
end Go.Proofs.YtddilmocngedjaaDoor
/- What the verification conditions come to: printed by a program of ours (wip/lax/ex/Norm.lean). -/
namespace Go.Proofs.YtddilmocngedjaaDoor
set_option linter.unusedVariables false
open Go.RowKit
set_option maxRecDepth 100000
theorem vcIright0 (x : InstP) (h : let q0 := (rightI x); let q1 := (ownsB x.a.s x.a.d0 x.a.d1 x.a.d2 x.a.d3 x.a.d4 x.a.d5 x.a.d6 x.r x.sl); let w2_x := (q0 = false ∧ True); let w0_x := (bif (rightC x.c) then (T1 ∧ tt ∧ T1 ∧ tt ∧ (T1 ∧ True) ∧ T1 ∧ T1 ∧ tt ∧ tt ∧ (q0 = q1 ∧ True) ∧ tt) else (false = false ∧ T1 ∧ tt ∧ tt ∧ w2_x ∧ tt)); let w1_x := (tt ∧ T1 ∧ tt ∧ T1 ∧ tt ∧ T1 ∧ tt ∧ tt ∧ w2_x ∧ tt); let w3_x := (tt ∧ T1 ∧ tt ∧ T1 ∧ tt ∧ tt ∧ w2_x ∧ tt); let w4_x := (T1 ∧ (List.length x.c.foot) ≤ 900000 ∧ (List.length x.c.path) ≤ 900000); let w5_x := (tt ∧ T1 ∧ tt ∧ tt ∧ w2_x ∧ tt); (tt ∧ T1 ∧ T1 ∧ tt ∧ T1 ∧ tt ∧ (T1 ∧ True) ∧ T1 ∧ T1 ∧ (bif (Bool.not (rightId x.r x.sl)) then (tt ∧ T1 ∧ tt ∧ T1 ∧ tt ∧ T1 ∧ tt ∧ T1 ∧ tt ∧ tt ∧ w2_x ∧ tt) else (T1 ∧ tt ∧ (T1 ∧ True) ∧ T1 ∧ T1 ∧ T1 ∧ (bif (Bool.not (balOK x.bal)) then w1_x else (T1 ∧ tt ∧ (T1 ∧ True) ∧ T1 ∧ T1 ∧ T1 ∧ (bif (Bool.not (balOK x.vote)) then w3_x else (T1 ∧ tt ∧ T1 ∧ tt ∧ T1 ∧ T1 ∧ T1 ∧ (bif (decide (x.bal < x.vote)) then w5_x else (tt ∧ T1 ∧ tt ∧ T1 ∧ T1 ∧ (bif (x.st == 0) then (tt ∧ tt ∧ T1 ∧ tt ∧ T1 ∧ tt ∧ T1 ∧ T1 ∧ T1 ∧ tt ∧ tt ∧ (q0 = (Bool.and (x.r == x.r) (Bool.and (x.sl == x.sl) (Bool.and (x.st == 0) (Bool.and (x.bal == x.bal) (Bool.and (x.vote == 0) (Bool.and (@BEq.beq.{0} Bool (@instBEqOfDecidableEq.{0} Bool instDecidableEqBool) x.same false) (Bool.and (x.c.k == 0) (Bool.and (x.c.num == 0) (Bool.and (@BEq.beq.{0} (List UInt8) (@List.instBEq.{0} UInt8 (@instBEqOfDecidableEq.{0} UInt8 instDecidableEqUInt8)) x.c.foot (@List.nil.{0} UInt8)) (Bool.and (x.c.rq == 0) (Bool.and (@BEq.beq.{0} (List UInt8) (@List.instBEq.{0} UInt8 (@instBEqOfDecidableEq.{0} UInt8 instDecidableEqUInt8)) x.c.path (@List.nil.{0} UInt8)) (Bool.and (x.c.mode == 0) (Bool.and (x.c.n == 0) (Bool.and (x.c.time == 0) (Bool.and (x.a.s == 0) (Bool.and (x.a.d0 == 0) (Bool.and (x.a.d1 == 0) (Bool.and (x.a.d2 == 0) (Bool.and (x.a.d3 == 0) (Bool.and (x.a.d4 == 0) (Bool.and (x.a.d5 == 0) (Bool.and (x.a.d6 == 0) true)))))))))))))))))))))) ∧ True) ∧ tt) else (tt ∧ T1 ∧ tt ∧ T1 ∧ T1 ∧ (bif (decide (x.st < 0)) then w1_x else (T1 ∧ tt ∧ T1 ∧ T1 ∧ T1 ∧ (bif (decide ((3 : Int) < x.st)) then w3_x else (T1 ∧ tt ∧ T1 ∧ (bif x.same then (T1 ∧ tt ∧ T1 ∧ T1 ∧ (bif (x.st != 1) then (tt ∧ T1 ∧ T1 ∧ T1 ∧ tt ∧ T1 ∧ tt ∧ tt ∧ w2_x ∧ tt) else (T1 ∧ tt ∧ T1 ∧ T1 ∧ T1 ∧ T1 ∧ T1 ∧ (bif (x.vote != 0) then w5_x else (tt ∧ T1 ∧ tt ∧ w4_x ∧ T1 ∧ w0_x))))) else (false = false ∧ T1 ∧ T1 ∧ tt ∧ T1 ∧ tt ∧ w4_x ∧ T1 ∧ w0_x)))))))))))))))))) : inIright0 x :=
  Eq.mp (show _ = _ by kernel_rfl) h
theorem vcAlike0 (x : InstP) (y : InstP) (h : (tt ∧ T1 ∧ T1 ∧ T1 ∧ tt ∧ T1 ∧ tt ∧ T1 ∧ tt ∧ T1 ∧ T1 ∧ (bif (Bool.and (x.c.k == y.c.k) (Bool.and (x.c.num == y.c.num) (Bool.and (@BEq.beq.{0} (List UInt8) (@List.instBEq.{0} UInt8 (@instBEqOfDecidableEq.{0} UInt8 instDecidableEqUInt8)) x.c.foot y.c.foot) (Bool.and (x.c.rq == y.c.rq) (Bool.and (@BEq.beq.{0} (List UInt8) (@List.instBEq.{0} UInt8 (@instBEqOfDecidableEq.{0} UInt8 instDecidableEqUInt8)) x.c.path y.c.path) (Bool.and (x.c.mode == y.c.mode) (Bool.and (x.c.n == y.c.n) (Bool.and (x.c.time == y.c.time) true)))))))) then (T1 ∧ tt ∧ T1 ∧ tt ∧ T1 ∧ T1 ∧ T1 ∧ tt ∧ tt ∧ ((alikeI x y) = (Bool.and (x.a.s == y.a.s) (Bool.and (x.a.d0 == y.a.d0) (Bool.and (x.a.d1 == y.a.d1) (Bool.and (x.a.d2 == y.a.d2) (Bool.and (x.a.d3 == y.a.d3) (Bool.and (x.a.d4 == y.a.d4) (Bool.and (x.a.d5 == y.a.d5) (Bool.and (x.a.d6 == y.a.d6) true)))))))) ∧ True) ∧ tt) else (false = false ∧ T1 ∧ tt ∧ tt ∧ ((alikeI x y) = false ∧ True) ∧ tt)))) : inAlike0 x y :=
  Eq.mp (show _ = _ by kernel_rfl) h
theorem vcInew0 (r : Int) (sl : Int) (h : let q0 := (newI r sl); (tt ∧ T1 ∧ T1 ∧ tt ∧ tt ∧ T1 ∧ tt ∧ tt ∧ tt ∧ (q0.r = r ∧ q0.sl = sl ∧ q0.st = 0 ∧ q0.bal = 0 ∧ q0.vote = 0 ∧ false = false ∧ q0.c.k = 0 ∧ q0.c.num = 0 ∧ q0.c.foot = [] ∧ q0.c.rq = 0 ∧ q0.c.path = [] ∧ q0.c.mode = 0 ∧ q0.c.n = 0 ∧ q0.c.time = 0 ∧ q0.a.s = 0 ∧ q0.a.d0 = 0 ∧ q0.a.d1 = 0 ∧ q0.a.d2 = 0 ∧ q0.a.d3 = 0 ∧ q0.a.d4 = 0 ∧ q0.a.d5 = 0 ∧ q0.a.d6 = 0 ∧ True) ∧ tt)) : inInew0 r sl :=
  Eq.mp (show _ = _ by kernel_rfl) h
end Go.Proofs.YtddilmocngedjaaDoor
/- The conditions hold: states. -/
namespace Go.Proofs.YtddilmocngedjaaDoor
set_option linter.unusedVariables false
set_option linter.unusedSimpArgs false
open Go.RowKit
set_option maxRecDepth 100000

theorem okInew0 : OkInew0 := by
  intro r sl hq
  refine vcInew0 r sl ?_
  simp [newI, zC, zA0]
theorem okAlike0 : OkAlike0 := by
  intro x y hq
  refine vcAlike0 x y ?_
  simp only [true_and, and_true, forall_eq, eq_self]
  unfold alikeI
  refine cond_prop (fun h => ?_) fun h => ?_
  · have : eqC x.c y.c = true := h
    rw [this]; rfl
  · have : eqC x.c y.c = false := h
    rw [this]; rfl
theorem okIright0 : OkIright0 := by
  intro x hq
  refine vcIright0 x ?_
  obtain ⟨r, sl, st, bal, vote, same, ⟨k, num, foot, rq, path, mode, n, time⟩, ⟨aq, da, db, dc, dd, de, df, dg⟩⟩ := x
  simp only [smallX] at hq ⊢
  simp only [true_and, and_true, forall_eq, eq_self, hq.1, hq.2]
  refine cond_prop (fun h => ?_) fun h => cond_prop (fun h' => ?_) fun h' => cond_prop (fun h2 => ?_) fun h2 => cond_prop (fun h3 => ?_) fun h3 => cond_prop (fun h4 => ?_) fun h4 => ?_
  · simp at h; simp [rightI, h]
  · simp at h'; simp [rightI, h']
  · simp at h2; simp [rightI, h2]
  · simp at h3; simp [rightI]; intros; omega
  · simp at h h' h2 h3 h4
    subst h4
    have e : rightI ⟨r, sl, 0, bal, vote, same, ⟨k, num, foot, rq, path, mode, n, time⟩, ⟨aq, da, db, dc, dd, de, df, dg⟩⟩ = eqI ⟨r, sl, 0, bal, vote, same, ⟨k, num, foot, rq, path, mode, n, time⟩, ⟨aq, da, db, dc, dd, de, df, dg⟩⟩ ⟨r, sl, 0, bal, 0, false, zC, zA0⟩ := by
      simp [rightI, h, h', h2, h3]
    rw [e]; rfl
  · simp at h h' h2 h3 h4
    have e : rightI ⟨r, sl, st, bal, vote, same, ⟨k, num, foot, rq, path, mode, n, time⟩, ⟨aq, da, db, dc, dd, de, df, dg⟩⟩ = if st < 0 ∨ 3 < st ∨ (same = true ∧ (st ≠ 1 ∨ vote ≠ 0)) then false else rightC ⟨k, num, foot, rq, path, mode, n, time⟩ && ownsB aq da db dc dd de df dg r sl := by
      simp [rightI, h, h', h2, h3, h4, ownsI]
    rw [e]
    refine cond_prop (fun h5 => ?_) fun h5 => cond_prop (fun h6 => ?_) fun h6 => cond_prop (fun h7 => cond_prop (fun h8 => ?_) fun h8 => cond_prop (fun h9 => ?_) fun h9 => cond_prop (fun h10 => ?_) fun h10 => ?_) fun h7 => cond_prop (fun h10 => ?_) fun h10 => ?_
    all_goals simp at h5
    · simp [h5]
    all_goals simp at h6
    · simp [h6]
    all_goals (try simp at h7)
    all_goals (try simp at h8)
    all_goals (try simp at h9)
    all_goals simp_all
    all_goals (try omega)
end Go.Proofs.YtddilmocngedjaaDoor
/- The contracts are met. -/
namespace Go.Proofs.YtddilmocngedjaaDoor
set_option linter.unusedVariables false
set_option linter.unusedSimpArgs false
open Go.RowKit
theorem sndIright : Sound Tryd.prog (lookΓ gamIright) := sound_of _ fun p hp => by
  simp only [gamIright, List.mem_cons, List.not_mem_nil, or_false] at hp
  rcases hp with rfl | rfl | rfl | rfl
  · exact meetsIdRight.orNil
  · exact meetsBalRight.orNil
  · exact meetsCright.orNil
  · exact meetsAttOwns.orNil
set_option maxHeartbeats 4000000 in
theorem meetsIright : Meets Tryd.prog 22 irightF := by
  refine meets_of_awp (Γ := lookΓ gamIright) (L := fun _ _ => none) sndIright mixedOrders Tryd.func22 rfl Tryd.call22 ?_
  intro args q r hF hq ho
  unfold irightF at hF
  split at hF
  · split at hF
    · rename_i x hzx
      obtain rfl := instOf_some hzx
      cases hF
      exact ⟨by simp only [List.length_cons, List.length_nil]; decide, okIright0 _ hq⟩
    · cases hF
  · cases hF
theorem sndAlike : Sound Tryd.prog (lookΓ gamAlike) := sound_of _ fun p hp => by
  simp [gamAlike] at hp
set_option maxHeartbeats 4000000 in
theorem meetsAlike : Meets Tryd.prog 26 alikeF := by
  refine meets_of_awp (Γ := lookΓ gamAlike) (L := fun _ _ => none) sndAlike mixedOrders Tryd.func26 rfl Tryd.call26 ?_
  intro args q r hF hq ho
  unfold alikeF at hF
  split at hF
  · split at hF
    · rename_i x y hzx hzy
      obtain rfl := instOf_some hzx
      obtain rfl := instOf_some hzy
      cases hF
      exact ⟨by simp only [List.length_cons, List.length_nil]; decide, okAlike0 _ _ hq⟩
    · cases hF
  · cases hF
theorem sndInew : Sound Tryd.prog (lookΓ gamInew) := sound_of _ fun p hp => by
  simp [gamInew] at hp
set_option maxHeartbeats 4000000 in
theorem meetsInew : Meets Tryd.prog 42 inewF := by
  refine meets_of_awp (Γ := lookΓ gamInew) (L := fun _ _ => none) sndInew mixedOrders Tryd.func42 rfl Tryd.call42 ?_
  intro args q r hF hq ho
  unfold inewF at hF
  split at hF
  · cases hF
    exact ⟨by simp only [List.length_cons, List.length_nil]; decide, okInew0 _ _ hq⟩
  · cases hF
end Go.Proofs.YtddilmocngedjaaDoor
