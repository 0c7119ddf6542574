/- Contracts by content, their conditions, and that they are met: Disk. -/
import Derived.Test.YtddilmocngedjaaLaxClone
import Derived.Test.YtddilmocngedjaaLaxWrap
/- Contracts by content, and the conditions that their code must meet. -/
namespace Go.Proofs.Ytddilmocngedjaa
set_option linter.unusedVariables false
set_option linter.unusedSimpArgs false
open Go.RowKit
def dkOK (sz : Int) (x0 : List AV) (s0 : Int) (x1 : List AV) (s1 : Int) (ar : Bool) (un : Int) : Prop :=
  0 ≤ sz ∧ sz ≤ 4194304 ∧ isBytes x0 ∧ isBytes x1 ∧ (x0.length : Int) + x1.length ≤ sz ∧ 0 ≤ s0 ∧ s0 ≤ x0.length ∧ 0 ≤ s1 ∧ s1 ≤ x1.length ∧ (ar = true → 0 ≤ un ∧ un ≤ 9223372036854775807)
def isFile (f : Int) : Bool := decide (0 ≤ f) && decide (f < 2)
def mayE (f : Int) (dn : Bool) : Int := if isFile f then (if dn then 40 else 0) else 12
def unitK (ar : Bool) (un : Int) : Bool := !(ar && (un == 0))
def decU (un : Int) : Int := IntKind.i64.wrap (un - 1)
def unU (ar : Bool) (un : Int) : Int := if unitK ar un then decU un else un
def limD (ar : Bool) (un : Int) : Int := if ar then un else -1
def apN (lim : Int) (k : Nat) : Nat := if 0 ≤ lim then min lim.toNat k else k
def unK (un : Int) : Nat → Int
  | 0 => un
  | n + 1 => decU (unK un n)
def apGo (f : Int) (dn : Bool) (sz : Int) (n0 n1 k : Nat) : Bool := decide (mayE f dn = 0) && decide ((k : Int) ≤ sz - n0 - n1)
def apM (f : Int) (dn : Bool) (sz : Int) (n0 n1 : Nat) (lim : Int) (k : Nat) : Nat := if apGo f dn sz n0 n1 k then apN lim k else 0
def apX (g f : Int) (dn : Bool) (sz : Int) (n0 n1 : Nat) (lim : Int) (x ys : List AV) : List AV := if f = g then catL x (ys.take (apM f dn sz n0 n1 lim ys.length)) else x
def apU (f : Int) (dn : Bool) (sz : Int) (n0 n1 : Nat) (lim un : Int) (k : Nat) : Int := unK un (apM f dn sz n0 n1 lim k)
def apD (f : Int) (dn : Bool) (sz : Int) (n0 n1 : Nat) (lim : Int) (k : Nat) : Bool := dn || (apGo f dn sz n0 n1 k && decide (apN lim k < k))
def apE (f : Int) (dn : Bool) (sz : Int) (n0 n1 : Nat) (lim : Int) (k : Nat) : Int :=
  if mayE f dn ≠ 0 then mayE f dn else if apGo f dn sz n0 n1 k then (if apN lim k < k then 40 else 0) else 14
def syGo (f : Int) (dn : Bool) : Bool := decide (mayE f dn = 0)
def syS (g f : Int) (dn ar : Bool) (un : Int) (s : Int) (n : Nat) : Int := if syGo f dn && unitK ar un && decide (f = g) then n else s
def syU (go ar : Bool) (un : Int) : Int := if go then unU ar un else un
def syD (go ar : Bool) (un : Int) (dn : Bool) : Bool := dn || (go && !unitK ar un)
def syE (f : Int) (dn ar : Bool) (un : Int) : Int := if mayE f dn ≠ 0 then mayE f dn else if unitK ar un then 0 else 40
def rd2 (f : Int) (x0 x1 : List AV) : List AV := if f = 0 then x0 else if f = 1 then x1 else []
def rdI (f : Int) (s0 s1 : Int) : Int := if f = 0 then s0 else if f = 1 then s1 else 0
def trGo (f n : Int) (dn : Bool) (x0 x1 : List AV) : Bool := decide (mayE f dn = 0) && decide (0 ≤ n) && decide (n ≤ (rd2 f x0 x1).length)
def trX (g f n : Int) (dn ar : Bool) (un : Int) (x0 x1 x : List AV) : List AV := if trGo f n dn x0 x1 && unitK ar un && decide (f = g) then x.take n.toNat else x
def trS (g f n : Int) (dn ar : Bool) (un : Int) (x0 x1 : List AV) (s : Int) : Int := if trGo f n dn x0 x1 && unitK ar un && decide (f = g) then min s n else s
def trE (f n : Int) (dn ar : Bool) (un : Int) (x0 x1 : List AV) : Int := if mayE f dn ≠ 0 then mayE f dn else if trGo f n dn x0 x1 then (if unitK ar un then 0 else 40) else 12
def armU (n : Int) : Int := if n < 0 then 0 else n
def crS (s : Int) (n : Nat) (k : Int) : Int := s + min (max k 0) (n - s)
def crX (x : List AV) (s k : Int) : List AV := x.take (crS s x.length k).toNat
def apL (g f : Int) (i : Nat) (x ys : List AV) : List AV := if f = g then catL x (ys.take i) else x
def loopApp (f : Int) (sz : Int) (x0 : List AV) (s0 : Int) (x1 : List AV) (s1 : Int) (ar : Bool) (un : Int) (dn : Bool) (ys : List AV) : LoopInv :=
  { V := Nat
    T := fun i => [(0, .ptr 0 0), (1, .int .i64 f), (21, .sl ys .no), (22, .int .i64 (ys.length : Int)), (23, .int .i64 (i : Int))]
    B := fun i => [(0, [.int .i64 sz, .sl (apL 0 f i x0 ys) (.row 0 1 5), .int .i64 s0, .sl (apL 1 f i x1 ys) (.row 0 3 5), .int .i64 s1, .bool ar, .int .i64 (unK un i), .bool false])]
    R := fun i => [((0, 1), (apL 0 f i x0 ys).length), ((0, 3), (apL 1 f i x1 ys).length)]
    inv := fun i => i ≤ ys.length ∧ i ≤ apN (limD ar un) ys.length
    mu := fun i => ys.length - i }
def hasF : Con
  | [.val (.int .i64 f)] => (some (True, ⟨.bool (isFile f), none, none⟩))
  | _ => none
def gamHas : List (Nat × Con) := []
def lpHas0 (f : Int) : Nat → Option LoopPlan := fun _ => none
def inHas0 (f : Int) : Prop := awp [] (lpHas0 f) (lookΓ gamHas) Try.prog Try.f41.ntmps 0 (Try.f41.body.getD .skip) (entrySt [.val (.int .i64 f)]) (exitQ Try.prog Try.f41.results.toList [] ⟨.bool (isFile f), none, none⟩)
def OkHas0 : Prop := ∀ (f : Int), True → inHas0 f
def hasOF : Con
  | [.val (.int .i64 f)] => (some (isFile f = false, ⟨.bool false, none, none⟩))
  | _ => none
def gamHasO : List (Nat × Con) := []
def lpHasO0 (f : Int) : Nat → Option LoopPlan := fun _ => none
def inHasO0 (f : Int) : Prop := awp [] (lpHasO0 f) (lookΓ gamHasO) Try.prog Try.f41.ntmps 0 (Try.f41.body.getD .skip) (entrySt [.val (.int .i64 f)]) (exitQ Try.prog Try.f41.results.toList [] ⟨.bool false, none, none⟩)
def OkHasO0 : Prop := ∀ (f : Int), isFile f = false → inHasO0 f
def mayOF : Con
  | [.box [.int .i64 sz, .sl x0 (.row p q te0), .int .i64 s0, .sl x1 (.row p' q' te1), .int .i64 s1, .bool ar, .int .i64 un, .bool dn], .val (.int .i64 f)] => (if te0 = 5 ∧ te1 = 5 then some (isFile f = false, ⟨.int .i64 12, (some [.int .i64 sz, .sl x0 (.row 0 0 5), .int .i64 s0, .sl x1 (.row 0 0 5), .int .i64 s1, .bool ar, .int .i64 un, .bool dn]), none⟩) else none)
  | [.box [.int .i64 sz, .sl x0 .no, .int .i64 s0, .sl x1 .no, .int .i64 s1, .bool ar, .int .i64 un, .bool dn], .val (.int .i64 f)] => (some (isFile f = false, ⟨.int .i64 12, (some [.int .i64 sz, .sl x0 .no, .int .i64 s0, .sl x1 .no, .int .i64 s1, .bool ar, .int .i64 un, .bool dn]), none⟩))
  | _ => none
def gamMayO : List (Nat × Con) := [(41, hasOF.orNil)]
def lpMayO0 (sz : Int) (x0 : List AV) (s0 : Int) (x1 : List AV) (s1 : Int) (ar : Bool) (un : Int) (dn : Bool) (p q p' q' : Nat) (f : Int) : Nat → Option LoopPlan := fun _ => none
def inMayO0 (sz : Int) (x0 : List AV) (s0 : Int) (x1 : List AV) (s1 : Int) (ar : Bool) (un : Int) (dn : Bool) (p q p' q' : Nat) (f : Int) : Prop := awp [0] (lpMayO0 sz x0 s0 x1 s1 ar un dn p q p' q' f) (lookΓ gamMayO) Try.prog Try.f42.ntmps 0 (Try.f42.body.getD .skip) (entrySt [.box [.int .i64 sz, .sl x0 (.row p q 5), .int .i64 s0, .sl x1 (.row p' q' 5), .int .i64 s1, .bool ar, .int .i64 un, .bool dn], .val (.int .i64 f)]) (exitQ Try.prog Try.f42.results.toList [0] ⟨.int .i64 12, (some [.int .i64 sz, .sl x0 (.row 0 0 5), .int .i64 s0, .sl x1 (.row 0 0 5), .int .i64 s1, .bool ar, .int .i64 un, .bool dn]), none⟩)
def OkMayO0 : Prop := ∀ (sz : Int) (x0 : List AV) (s0 : Int) (x1 : List AV) (s1 : Int) (ar : Bool) (un : Int) (dn : Bool) (p q p' q' : Nat) (f : Int), isFile f = false → inMayO0 sz x0 s0 x1 s1 ar un dn p q p' q' f
def lpMayO1 (sz : Int) (x0 : List AV) (s0 : Int) (x1 : List AV) (s1 : Int) (ar : Bool) (un : Int) (dn : Bool) (f : Int) : Nat → Option LoopPlan := fun _ => none
def inMayO1 (sz : Int) (x0 : List AV) (s0 : Int) (x1 : List AV) (s1 : Int) (ar : Bool) (un : Int) (dn : Bool) (f : Int) : Prop := awp [0] (lpMayO1 sz x0 s0 x1 s1 ar un dn f) (lookΓ gamMayO) Try.prog Try.f42.ntmps 0 (Try.f42.body.getD .skip) (entrySt [.box [.int .i64 sz, .sl x0 .no, .int .i64 s0, .sl x1 .no, .int .i64 s1, .bool ar, .int .i64 un, .bool dn], .val (.int .i64 f)]) (exitQ Try.prog Try.f42.results.toList [0] ⟨.int .i64 12, (some [.int .i64 sz, .sl x0 .no, .int .i64 s0, .sl x1 .no, .int .i64 s1, .bool ar, .int .i64 un, .bool dn]), none⟩)
def OkMayO1 : Prop := ∀ (sz : Int) (x0 : List AV) (s0 : Int) (x1 : List AV) (s1 : Int) (ar : Bool) (un : Int) (dn : Bool) (f : Int), isFile f = false → inMayO1 sz x0 s0 x1 s1 ar un dn f
def mayF : Con
  | [.box [.int .i64 sz, .sl x0 (.row p q te0), .int .i64 s0, .sl x1 (.row p' q' te1), .int .i64 s1, .bool ar, .int .i64 un, .bool dn], .val (.int .i64 f)] => (if te0 = 5 ∧ te1 = 5 then some (True, ⟨.int .i64 (mayE f dn), (some [.int .i64 sz, .sl x0 (.row 0 0 5), .int .i64 s0, .sl x1 (.row 0 0 5), .int .i64 s1, .bool ar, .int .i64 un, .bool dn]), none⟩) else none)
  | [.box [.int .i64 sz, .sl x0 .no, .int .i64 s0, .sl x1 .no, .int .i64 s1, .bool ar, .int .i64 un, .bool dn], .val (.int .i64 f)] => (some (True, ⟨.int .i64 (mayE f dn), (some [.int .i64 sz, .sl x0 .no, .int .i64 s0, .sl x1 .no, .int .i64 s1, .bool ar, .int .i64 un, .bool dn]), none⟩))
  | _ => none
def gamMay : List (Nat × Con) := [(41, hasF.orNil)]
def lpMay0 (sz : Int) (x0 : List AV) (s0 : Int) (x1 : List AV) (s1 : Int) (ar : Bool) (un : Int) (dn : Bool) (p q p' q' : Nat) (f : Int) : Nat → Option LoopPlan := fun _ => none
def inMay0 (sz : Int) (x0 : List AV) (s0 : Int) (x1 : List AV) (s1 : Int) (ar : Bool) (un : Int) (dn : Bool) (p q p' q' : Nat) (f : Int) : Prop := awp [0] (lpMay0 sz x0 s0 x1 s1 ar un dn p q p' q' f) (lookΓ gamMay) Try.prog Try.f42.ntmps 0 (Try.f42.body.getD .skip) (entrySt [.box [.int .i64 sz, .sl x0 (.row p q 5), .int .i64 s0, .sl x1 (.row p' q' 5), .int .i64 s1, .bool ar, .int .i64 un, .bool dn], .val (.int .i64 f)]) (exitQ Try.prog Try.f42.results.toList [0] ⟨.int .i64 (mayE f dn), (some [.int .i64 sz, .sl x0 (.row 0 0 5), .int .i64 s0, .sl x1 (.row 0 0 5), .int .i64 s1, .bool ar, .int .i64 un, .bool dn]), none⟩)
def OkMay0 : Prop := ∀ (sz : Int) (x0 : List AV) (s0 : Int) (x1 : List AV) (s1 : Int) (ar : Bool) (un : Int) (dn : Bool) (p q p' q' : Nat) (f : Int), True → inMay0 sz x0 s0 x1 s1 ar un dn p q p' q' f
def lpMay1 (sz : Int) (x0 : List AV) (s0 : Int) (x1 : List AV) (s1 : Int) (ar : Bool) (un : Int) (dn : Bool) (f : Int) : Nat → Option LoopPlan := fun _ => none
def inMay1 (sz : Int) (x0 : List AV) (s0 : Int) (x1 : List AV) (s1 : Int) (ar : Bool) (un : Int) (dn : Bool) (f : Int) : Prop := awp [0] (lpMay1 sz x0 s0 x1 s1 ar un dn f) (lookΓ gamMay) Try.prog Try.f42.ntmps 0 (Try.f42.body.getD .skip) (entrySt [.box [.int .i64 sz, .sl x0 .no, .int .i64 s0, .sl x1 .no, .int .i64 s1, .bool ar, .int .i64 un, .bool dn], .val (.int .i64 f)]) (exitQ Try.prog Try.f42.results.toList [0] ⟨.int .i64 (mayE f dn), (some [.int .i64 sz, .sl x0 .no, .int .i64 s0, .sl x1 .no, .int .i64 s1, .bool ar, .int .i64 un, .bool dn]), none⟩)
def OkMay1 : Prop := ∀ (sz : Int) (x0 : List AV) (s0 : Int) (x1 : List AV) (s1 : Int) (ar : Bool) (un : Int) (dn : Bool) (f : Int), True → inMay1 sz x0 s0 x1 s1 ar un dn f
def unitF : Con
  | [.box [.int .i64 sz, .sl x0 (.row p q te0), .int .i64 s0, .sl x1 (.row p' q' te1), .int .i64 s1, .bool ar, .int .i64 un, .bool dn]] => (if te0 = 5 ∧ te1 = 5 then some (True, ⟨.bool (unitK ar un), (some [.int .i64 sz, .sl x0 (.row 0 0 5), .int .i64 s0, .sl x1 (.row 0 0 5), .int .i64 s1, .bool ar, .int .i64 (unU ar un), .bool (dn || !unitK ar un)]), none⟩) else none)
  | [.box [.int .i64 sz, .sl x0 .no, .int .i64 s0, .sl x1 .no, .int .i64 s1, .bool ar, .int .i64 un, .bool dn]] => (some (True, ⟨.bool (unitK ar un), (some [.int .i64 sz, .sl x0 .no, .int .i64 s0, .sl x1 .no, .int .i64 s1, .bool ar, .int .i64 (unU ar un), .bool (dn || !unitK ar un)]), none⟩))
  | _ => none
def gamUnit : List (Nat × Con) := []
def lpUnit0 (sz : Int) (x0 : List AV) (s0 : Int) (x1 : List AV) (s1 : Int) (ar : Bool) (un : Int) (dn : Bool) (p q p' q' : Nat) : Nat → Option LoopPlan := fun _ => none
def inUnit0 (sz : Int) (x0 : List AV) (s0 : Int) (x1 : List AV) (s1 : Int) (ar : Bool) (un : Int) (dn : Bool) (p q p' q' : Nat) : Prop := awp [0] (lpUnit0 sz x0 s0 x1 s1 ar un dn p q p' q') (lookΓ gamUnit) Try.prog Try.f43.ntmps 0 (Try.f43.body.getD .skip) (entrySt [.box [.int .i64 sz, .sl x0 (.row p q 5), .int .i64 s0, .sl x1 (.row p' q' 5), .int .i64 s1, .bool ar, .int .i64 un, .bool dn]]) (exitQ Try.prog Try.f43.results.toList [0] ⟨.bool (unitK ar un), (some [.int .i64 sz, .sl x0 (.row 0 0 5), .int .i64 s0, .sl x1 (.row 0 0 5), .int .i64 s1, .bool ar, .int .i64 (unU ar un), .bool (dn || !unitK ar un)]), none⟩)
def OkUnit0 : Prop := ∀ (sz : Int) (x0 : List AV) (s0 : Int) (x1 : List AV) (s1 : Int) (ar : Bool) (un : Int) (dn : Bool) (p q p' q' : Nat), True → inUnit0 sz x0 s0 x1 s1 ar un dn p q p' q'
def lpUnit1 (sz : Int) (x0 : List AV) (s0 : Int) (x1 : List AV) (s1 : Int) (ar : Bool) (un : Int) (dn : Bool) : Nat → Option LoopPlan := fun _ => none
def inUnit1 (sz : Int) (x0 : List AV) (s0 : Int) (x1 : List AV) (s1 : Int) (ar : Bool) (un : Int) (dn : Bool) : Prop := awp [0] (lpUnit1 sz x0 s0 x1 s1 ar un dn) (lookΓ gamUnit) Try.prog Try.f43.ntmps 0 (Try.f43.body.getD .skip) (entrySt [.box [.int .i64 sz, .sl x0 .no, .int .i64 s0, .sl x1 .no, .int .i64 s1, .bool ar, .int .i64 un, .bool dn]]) (exitQ Try.prog Try.f43.results.toList [0] ⟨.bool (unitK ar un), (some [.int .i64 sz, .sl x0 .no, .int .i64 s0, .sl x1 .no, .int .i64 s1, .bool ar, .int .i64 (unU ar un), .bool (dn || !unitK ar un)]), none⟩)
def OkUnit1 : Prop := ∀ (sz : Int) (x0 : List AV) (s0 : Int) (x1 : List AV) (s1 : Int) (ar : Bool) (un : Int) (dn : Bool), True → inUnit1 sz x0 s0 x1 s1 ar un dn
def leftF : Con
  | [.box [.int .i64 sz, .sl x0 (.row p q te0), .int .i64 s0, .sl x1 (.row p' q' te1), .int .i64 s1, .bool ar, .int .i64 un, .bool dn]] => (if te0 = 5 ∧ te1 = 5 then some (dkOK sz x0 s0 x1 s1 ar un, ⟨.int .i64 (sz - x0.length - x1.length), (some [.int .i64 sz, .sl x0 (.row 0 0 5), .int .i64 s0, .sl x1 (.row 0 0 5), .int .i64 s1, .bool ar, .int .i64 un, .bool dn]), none⟩) else none)
  | _ => none
def gamLeft : List (Nat × Con) := []
def lpLeft0 (sz : Int) (x0 : List AV) (s0 : Int) (x1 : List AV) (s1 : Int) (ar : Bool) (un : Int) (dn : Bool) (p q p' q' : Nat) : Nat → Option LoopPlan := fun _ => none
def inLeft0 (sz : Int) (x0 : List AV) (s0 : Int) (x1 : List AV) (s1 : Int) (ar : Bool) (un : Int) (dn : Bool) (p q p' q' : Nat) : Prop := awp [0] (lpLeft0 sz x0 s0 x1 s1 ar un dn p q p' q') (lookΓ gamLeft) Try.prog Try.f44.ntmps 0 (Try.f44.body.getD .skip) (entrySt [.box [.int .i64 sz, .sl x0 (.row p q 5), .int .i64 s0, .sl x1 (.row p' q' 5), .int .i64 s1, .bool ar, .int .i64 un, .bool dn]]) (exitQ Try.prog Try.f44.results.toList [0] ⟨.int .i64 (sz - x0.length - x1.length), (some [.int .i64 sz, .sl x0 (.row 0 0 5), .int .i64 s0, .sl x1 (.row 0 0 5), .int .i64 s1, .bool ar, .int .i64 un, .bool dn]), none⟩)
def OkLeft0 : Prop := ∀ (sz : Int) (x0 : List AV) (s0 : Int) (x1 : List AV) (s1 : Int) (ar : Bool) (un : Int) (dn : Bool) (p q p' q' : Nat), dkOK sz x0 s0 x1 s1 ar un → inLeft0 sz x0 s0 x1 s1 ar un dn p q p' q'
def downF : Con
  | [.box [.int .i64 sz, .sl x0 (.row p q te0), .int .i64 s0, .sl x1 (.row p' q' te1), .int .i64 s1, .bool ar, .int .i64 un, .bool dn]] => (if te0 = 5 ∧ te1 = 5 then some (True, ⟨.bool dn, (some [.int .i64 sz, .sl x0 (.row 0 0 5), .int .i64 s0, .sl x1 (.row 0 0 5), .int .i64 s1, .bool ar, .int .i64 un, .bool dn]), none⟩) else none)
  | [.box [.int .i64 sz, .sl x0 .no, .int .i64 s0, .sl x1 .no, .int .i64 s1, .bool ar, .int .i64 un, .bool dn]] => (some (True, ⟨.bool dn, (some [.int .i64 sz, .sl x0 .no, .int .i64 s0, .sl x1 .no, .int .i64 s1, .bool ar, .int .i64 un, .bool dn]), none⟩))
  | _ => none
def gamDown : List (Nat × Con) := []
def lpDown0 (sz : Int) (x0 : List AV) (s0 : Int) (x1 : List AV) (s1 : Int) (ar : Bool) (un : Int) (dn : Bool) (p q p' q' : Nat) : Nat → Option LoopPlan := fun _ => none
def inDown0 (sz : Int) (x0 : List AV) (s0 : Int) (x1 : List AV) (s1 : Int) (ar : Bool) (un : Int) (dn : Bool) (p q p' q' : Nat) : Prop := awp [0] (lpDown0 sz x0 s0 x1 s1 ar un dn p q p' q') (lookΓ gamDown) Try.prog Try.f20.ntmps 0 (Try.f20.body.getD .skip) (entrySt [.box [.int .i64 sz, .sl x0 (.row p q 5), .int .i64 s0, .sl x1 (.row p' q' 5), .int .i64 s1, .bool ar, .int .i64 un, .bool dn]]) (exitQ Try.prog Try.f20.results.toList [0] ⟨.bool dn, (some [.int .i64 sz, .sl x0 (.row 0 0 5), .int .i64 s0, .sl x1 (.row 0 0 5), .int .i64 s1, .bool ar, .int .i64 un, .bool dn]), none⟩)
def OkDown0 : Prop := ∀ (sz : Int) (x0 : List AV) (s0 : Int) (x1 : List AV) (s1 : Int) (ar : Bool) (un : Int) (dn : Bool) (p q p' q' : Nat), True → inDown0 sz x0 s0 x1 s1 ar un dn p q p' q'
def lpDown1 (sz : Int) (x0 : List AV) (s0 : Int) (x1 : List AV) (s1 : Int) (ar : Bool) (un : Int) (dn : Bool) : Nat → Option LoopPlan := fun _ => none
def inDown1 (sz : Int) (x0 : List AV) (s0 : Int) (x1 : List AV) (s1 : Int) (ar : Bool) (un : Int) (dn : Bool) : Prop := awp [0] (lpDown1 sz x0 s0 x1 s1 ar un dn) (lookΓ gamDown) Try.prog Try.f20.ntmps 0 (Try.f20.body.getD .skip) (entrySt [.box [.int .i64 sz, .sl x0 .no, .int .i64 s0, .sl x1 .no, .int .i64 s1, .bool ar, .int .i64 un, .bool dn]]) (exitQ Try.prog Try.f20.results.toList [0] ⟨.bool dn, (some [.int .i64 sz, .sl x0 .no, .int .i64 s0, .sl x1 .no, .int .i64 s1, .bool ar, .int .i64 un, .bool dn]), none⟩)
def OkDown1 : Prop := ∀ (sz : Int) (x0 : List AV) (s0 : Int) (x1 : List AV) (s1 : Int) (ar : Bool) (un : Int) (dn : Bool), True → inDown1 sz x0 s0 x1 s1 ar un dn
def armF : Con
  | [.box [.int .i64 sz, .sl x0 (.row p q te0), .int .i64 s0, .sl x1 (.row p' q' te1), .int .i64 s1, .bool ar, .int .i64 un, .bool dn], .val (.int .i64 n)] => (if te0 = 5 ∧ te1 = 5 then some (True, ⟨.tup [], (some [.int .i64 sz, .sl x0 (.row 0 0 5), .int .i64 s0, .sl x1 (.row 0 0 5), .int .i64 s1, .bool true, .int .i64 (armU n), .bool dn]), none⟩) else none)
  | _ => none
def gamArm : List (Nat × Con) := []
def lpArm0 (sz : Int) (x0 : List AV) (s0 : Int) (x1 : List AV) (s1 : Int) (ar : Bool) (un : Int) (dn : Bool) (p q p' q' : Nat) (n : Int) : Nat → Option LoopPlan := fun _ => none
def inArm0 (sz : Int) (x0 : List AV) (s0 : Int) (x1 : List AV) (s1 : Int) (ar : Bool) (un : Int) (dn : Bool) (p q p' q' : Nat) (n : Int) : Prop := awp [0] (lpArm0 sz x0 s0 x1 s1 ar un dn p q p' q' n) (lookΓ gamArm) Try.prog Try.f25.ntmps 0 (Try.f25.body.getD .skip) (entrySt [.box [.int .i64 sz, .sl x0 (.row p q 5), .int .i64 s0, .sl x1 (.row p' q' 5), .int .i64 s1, .bool ar, .int .i64 un, .bool dn], .val (.int .i64 n)]) (exitQ Try.prog Try.f25.results.toList [0] ⟨.tup [], (some [.int .i64 sz, .sl x0 (.row 0 0 5), .int .i64 s0, .sl x1 (.row 0 0 5), .int .i64 s1, .bool true, .int .i64 (armU n), .bool dn]), none⟩)
def OkArm0 : Prop := ∀ (sz : Int) (x0 : List AV) (s0 : Int) (x1 : List AV) (s1 : Int) (ar : Bool) (un : Int) (dn : Bool) (p q p' q' : Nat) (n : Int), True → inArm0 sz x0 s0 x1 s1 ar un dn p q p' q' n
def newF : Con
  | [.val (.int .i64 sz)] => (some (1024 ≤ sz ∧ sz ≤ 4194304, ⟨.tup [.ptr 2000 0, .int .i64 0], none, (some [.int .i64 sz, .sl [] (.row 0 0 5), .int .i64 0, .sl [] (.row 0 0 5), .int .i64 0, .bool false, .int .i64 0, .bool false])⟩))
  | _ => none
def gamNew : List (Nat × Con) := []
def lpNew0 (sz : Int) : Nat → Option LoopPlan := fun _ => none
def inNew0 (sz : Int) : Prop := awp [] (lpNew0 sz) (lookΓ gamNew) Try.prog Try.f13.ntmps 0 (Try.f13.body.getD .skip) (entrySt [.val (.int .i64 sz)]) (exitQ Try.prog Try.f13.results.toList [] ⟨.tup [.ptr 2000 0, .int .i64 0], none, (some [.int .i64 sz, .sl [] (.row 0 0 5), .int .i64 0, .sl [] (.row 0 0 5), .int .i64 0, .bool false, .int .i64 0, .bool false])⟩)
def OkNew0 : Prop := ∀ (sz : Int), 1024 ≤ sz ∧ sz ≤ 4194304 → inNew0 sz
def newZF : Con
  | [.val (.int .i64 sz)] => (some (sz < 1024 ∨ 4194304 < sz, ⟨.tup [.nilptr, .int .i64 11], none, none⟩))
  | _ => none
def gamNewZ : List (Nat × Con) := []
def lpNewZ0 (sz : Int) : Nat → Option LoopPlan := fun _ => none
def inNewZ0 (sz : Int) : Prop := awp [] (lpNewZ0 sz) (lookΓ gamNewZ) Try.prog Try.f13.ntmps 0 (Try.f13.body.getD .skip) (entrySt [.val (.int .i64 sz)]) (exitQ Try.prog Try.f13.results.toList [] ⟨.tup [.nilptr, .int .i64 11], none, none⟩)
def OkNewZ0 : Prop := ∀ (sz : Int), sz < 1024 ∨ 4194304 < sz → inNewZ0 sz
def safeIF : Con
  | [.box [.int .i64 sz, .sl x0 (.row p q te0), .int .i64 s0, .sl x1 (.row p' q' te1), .int .i64 s1, .bool ar, .int .i64 un, .bool dn], .val (.int .i64 f)] => (if te0 = 5 ∧ te1 = 5 then some (isFile f = true, ⟨.int .i64 (rdI f s0 s1), (some [.int .i64 sz, .sl x0 (.row 0 0 5), .int .i64 s0, .sl x1 (.row 0 0 5), .int .i64 s1, .bool ar, .int .i64 un, .bool dn]), none⟩) else none)
  | [.box [.int .i64 sz, .sl x0 .no, .int .i64 s0, .sl x1 .no, .int .i64 s1, .bool ar, .int .i64 un, .bool dn], .val (.int .i64 f)] => (some (isFile f = true, ⟨.int .i64 (rdI f s0 s1), (some [.int .i64 sz, .sl x0 .no, .int .i64 s0, .sl x1 .no, .int .i64 s1, .bool ar, .int .i64 un, .bool dn]), none⟩))
  | _ => none
def gamSafeI : List (Nat × Con) := [(41, hasF.orNil)]
def lpSafeI0 (sz : Int) (x0 : List AV) (s0 : Int) (x1 : List AV) (s1 : Int) (ar : Bool) (un : Int) (dn : Bool) (p q p' q' : Nat) (f : Int) : Nat → Option LoopPlan := fun _ => none
def inSafeI0 (sz : Int) (x0 : List AV) (s0 : Int) (x1 : List AV) (s1 : Int) (ar : Bool) (un : Int) (dn : Bool) (p q p' q' : Nat) (f : Int) : Prop := awp [0] (lpSafeI0 sz x0 s0 x1 s1 ar un dn p q p' q' f) (lookΓ gamSafeI) Try.prog Try.f17.ntmps 0 (Try.f17.body.getD .skip) (entrySt [.box [.int .i64 sz, .sl x0 (.row p q 5), .int .i64 s0, .sl x1 (.row p' q' 5), .int .i64 s1, .bool ar, .int .i64 un, .bool dn], .val (.int .i64 f)]) (exitQ Try.prog Try.f17.results.toList [0] ⟨.int .i64 (rdI f s0 s1), (some [.int .i64 sz, .sl x0 (.row 0 0 5), .int .i64 s0, .sl x1 (.row 0 0 5), .int .i64 s1, .bool ar, .int .i64 un, .bool dn]), none⟩)
def OkSafeI0 : Prop := ∀ (sz : Int) (x0 : List AV) (s0 : Int) (x1 : List AV) (s1 : Int) (ar : Bool) (un : Int) (dn : Bool) (p q p' q' : Nat) (f : Int), isFile f = true → inSafeI0 sz x0 s0 x1 s1 ar un dn p q p' q' f
def lpSafeI1 (sz : Int) (x0 : List AV) (s0 : Int) (x1 : List AV) (s1 : Int) (ar : Bool) (un : Int) (dn : Bool) (f : Int) : Nat → Option LoopPlan := fun _ => none
def inSafeI1 (sz : Int) (x0 : List AV) (s0 : Int) (x1 : List AV) (s1 : Int) (ar : Bool) (un : Int) (dn : Bool) (f : Int) : Prop := awp [0] (lpSafeI1 sz x0 s0 x1 s1 ar un dn f) (lookΓ gamSafeI) Try.prog Try.f17.ntmps 0 (Try.f17.body.getD .skip) (entrySt [.box [.int .i64 sz, .sl x0 .no, .int .i64 s0, .sl x1 .no, .int .i64 s1, .bool ar, .int .i64 un, .bool dn], .val (.int .i64 f)]) (exitQ Try.prog Try.f17.results.toList [0] ⟨.int .i64 (rdI f s0 s1), (some [.int .i64 sz, .sl x0 .no, .int .i64 s0, .sl x1 .no, .int .i64 s1, .bool ar, .int .i64 un, .bool dn]), none⟩)
def OkSafeI1 : Prop := ∀ (sz : Int) (x0 : List AV) (s0 : Int) (x1 : List AV) (s1 : Int) (ar : Bool) (un : Int) (dn : Bool) (f : Int), isFile f = true → inSafeI1 sz x0 s0 x1 s1 ar un dn f
def safeOF : Con
  | [.box [.int .i64 sz, .sl x0 (.row p q te0), .int .i64 s0, .sl x1 (.row p' q' te1), .int .i64 s1, .bool ar, .int .i64 un, .bool dn], .val (.int .i64 f)] => (if te0 = 5 ∧ te1 = 5 then some (isFile f = false, ⟨.int .i64 (rdI f s0 s1), (some [.int .i64 sz, .sl x0 (.row 0 0 5), .int .i64 s0, .sl x1 (.row 0 0 5), .int .i64 s1, .bool ar, .int .i64 un, .bool dn]), none⟩) else none)
  | [.box [.int .i64 sz, .sl x0 .no, .int .i64 s0, .sl x1 .no, .int .i64 s1, .bool ar, .int .i64 un, .bool dn], .val (.int .i64 f)] => (some (isFile f = false, ⟨.int .i64 (rdI f s0 s1), (some [.int .i64 sz, .sl x0 .no, .int .i64 s0, .sl x1 .no, .int .i64 s1, .bool ar, .int .i64 un, .bool dn]), none⟩))
  | _ => none
def gamSafeO : List (Nat × Con) := [(41, hasOF.orNil)]
def lpSafeO0 (sz : Int) (x0 : List AV) (s0 : Int) (x1 : List AV) (s1 : Int) (ar : Bool) (un : Int) (dn : Bool) (p q p' q' : Nat) (f : Int) : Nat → Option LoopPlan := fun _ => none
def inSafeO0 (sz : Int) (x0 : List AV) (s0 : Int) (x1 : List AV) (s1 : Int) (ar : Bool) (un : Int) (dn : Bool) (p q p' q' : Nat) (f : Int) : Prop := awp [0] (lpSafeO0 sz x0 s0 x1 s1 ar un dn p q p' q' f) (lookΓ gamSafeO) Try.prog Try.f17.ntmps 0 (Try.f17.body.getD .skip) (entrySt [.box [.int .i64 sz, .sl x0 (.row p q 5), .int .i64 s0, .sl x1 (.row p' q' 5), .int .i64 s1, .bool ar, .int .i64 un, .bool dn], .val (.int .i64 f)]) (exitQ Try.prog Try.f17.results.toList [0] ⟨.int .i64 (rdI f s0 s1), (some [.int .i64 sz, .sl x0 (.row 0 0 5), .int .i64 s0, .sl x1 (.row 0 0 5), .int .i64 s1, .bool ar, .int .i64 un, .bool dn]), none⟩)
def OkSafeO0 : Prop := ∀ (sz : Int) (x0 : List AV) (s0 : Int) (x1 : List AV) (s1 : Int) (ar : Bool) (un : Int) (dn : Bool) (p q p' q' : Nat) (f : Int), isFile f = false → inSafeO0 sz x0 s0 x1 s1 ar un dn p q p' q' f
def lpSafeO1 (sz : Int) (x0 : List AV) (s0 : Int) (x1 : List AV) (s1 : Int) (ar : Bool) (un : Int) (dn : Bool) (f : Int) : Nat → Option LoopPlan := fun _ => none
def inSafeO1 (sz : Int) (x0 : List AV) (s0 : Int) (x1 : List AV) (s1 : Int) (ar : Bool) (un : Int) (dn : Bool) (f : Int) : Prop := awp [0] (lpSafeO1 sz x0 s0 x1 s1 ar un dn f) (lookΓ gamSafeO) Try.prog Try.f17.ntmps 0 (Try.f17.body.getD .skip) (entrySt [.box [.int .i64 sz, .sl x0 .no, .int .i64 s0, .sl x1 .no, .int .i64 s1, .bool ar, .int .i64 un, .bool dn], .val (.int .i64 f)]) (exitQ Try.prog Try.f17.results.toList [0] ⟨.int .i64 (rdI f s0 s1), (some [.int .i64 sz, .sl x0 .no, .int .i64 s0, .sl x1 .no, .int .i64 s1, .bool ar, .int .i64 un, .bool dn]), none⟩)
def OkSafeO1 : Prop := ∀ (sz : Int) (x0 : List AV) (s0 : Int) (x1 : List AV) (s1 : Int) (ar : Bool) (un : Int) (dn : Bool) (f : Int), isFile f = false → inSafeO1 sz x0 s0 x1 s1 ar un dn f
def readIF : Con
  | [.box [.int .i64 sz, .sl x0 (.row p q te0), .int .i64 s0, .sl x1 (.row p' q' te1), .int .i64 s1, .bool ar, .int .i64 un, .bool dn], .val (.int .i64 f)] => (if te0 = 5 ∧ te1 = 5 then some (isFile f = true ∧ isBytes x0 ∧ isBytes x1 ∧ x0.length ≤ 140737488355328 ∧ x1.length ≤ 140737488355328, ⟨.sl (rd2 f x0 x1) .no, (some [.int .i64 sz, .sl x0 (.row 0 0 5), .int .i64 s0, .sl x1 (.row 0 0 5), .int .i64 s1, .bool ar, .int .i64 un, .bool dn]), none⟩) else none)
  | [.box [.int .i64 sz, .sl x0 .no, .int .i64 s0, .sl x1 .no, .int .i64 s1, .bool ar, .int .i64 un, .bool dn], .val (.int .i64 f)] => (some (isFile f = true ∧ isBytes x0 ∧ isBytes x1 ∧ x0.length ≤ 140737488355328 ∧ x1.length ≤ 140737488355328, ⟨.sl (rd2 f x0 x1) .no, (some [.int .i64 sz, .sl x0 .no, .int .i64 s0, .sl x1 .no, .int .i64 s1, .bool ar, .int .i64 un, .bool dn]), none⟩))
  | _ => none
def gamReadI : List (Nat × Con) := [(41, hasF.orNil), (35, cloneF.orNil)]
def lpReadI0 (sz : Int) (x0 : List AV) (s0 : Int) (x1 : List AV) (s1 : Int) (ar : Bool) (un : Int) (dn : Bool) (p q p' q' : Nat) (f : Int) : Nat → Option LoopPlan := fun _ => none
def inReadI0 (sz : Int) (x0 : List AV) (s0 : Int) (x1 : List AV) (s1 : Int) (ar : Bool) (un : Int) (dn : Bool) (p q p' q' : Nat) (f : Int) : Prop := awp [0] (lpReadI0 sz x0 s0 x1 s1 ar un dn p q p' q' f) (lookΓ gamReadI) Try.prog Try.f16.ntmps 0 (Try.f16.body.getD .skip) (entrySt [.box [.int .i64 sz, .sl x0 (.row p q 5), .int .i64 s0, .sl x1 (.row p' q' 5), .int .i64 s1, .bool ar, .int .i64 un, .bool dn], .val (.int .i64 f)]) (exitQ Try.prog Try.f16.results.toList [0] ⟨.sl (rd2 f x0 x1) .no, (some [.int .i64 sz, .sl x0 (.row 0 0 5), .int .i64 s0, .sl x1 (.row 0 0 5), .int .i64 s1, .bool ar, .int .i64 un, .bool dn]), none⟩)
def OkReadI0 : Prop := ∀ (sz : Int) (x0 : List AV) (s0 : Int) (x1 : List AV) (s1 : Int) (ar : Bool) (un : Int) (dn : Bool) (p q p' q' : Nat) (f : Int), isFile f = true ∧ isBytes x0 ∧ isBytes x1 ∧ x0.length ≤ 140737488355328 ∧ x1.length ≤ 140737488355328 → inReadI0 sz x0 s0 x1 s1 ar un dn p q p' q' f
def lpReadI1 (sz : Int) (x0 : List AV) (s0 : Int) (x1 : List AV) (s1 : Int) (ar : Bool) (un : Int) (dn : Bool) (f : Int) : Nat → Option LoopPlan := fun _ => none
def inReadI1 (sz : Int) (x0 : List AV) (s0 : Int) (x1 : List AV) (s1 : Int) (ar : Bool) (un : Int) (dn : Bool) (f : Int) : Prop := awp [0] (lpReadI1 sz x0 s0 x1 s1 ar un dn f) (lookΓ gamReadI) Try.prog Try.f16.ntmps 0 (Try.f16.body.getD .skip) (entrySt [.box [.int .i64 sz, .sl x0 .no, .int .i64 s0, .sl x1 .no, .int .i64 s1, .bool ar, .int .i64 un, .bool dn], .val (.int .i64 f)]) (exitQ Try.prog Try.f16.results.toList [0] ⟨.sl (rd2 f x0 x1) .no, (some [.int .i64 sz, .sl x0 .no, .int .i64 s0, .sl x1 .no, .int .i64 s1, .bool ar, .int .i64 un, .bool dn]), none⟩)
def OkReadI1 : Prop := ∀ (sz : Int) (x0 : List AV) (s0 : Int) (x1 : List AV) (s1 : Int) (ar : Bool) (un : Int) (dn : Bool) (f : Int), isFile f = true ∧ isBytes x0 ∧ isBytes x1 ∧ x0.length ≤ 140737488355328 ∧ x1.length ≤ 140737488355328 → inReadI1 sz x0 s0 x1 s1 ar un dn f
def readOF : Con
  | [.box [.int .i64 sz, .sl x0 (.row p q te0), .int .i64 s0, .sl x1 (.row p' q' te1), .int .i64 s1, .bool ar, .int .i64 un, .bool dn], .val (.int .i64 f)] => (if te0 = 5 ∧ te1 = 5 then some (isFile f = false ∧ isBytes x0 ∧ isBytes x1 ∧ x0.length ≤ 140737488355328 ∧ x1.length ≤ 140737488355328, ⟨.sl (rd2 f x0 x1) .no, (some [.int .i64 sz, .sl x0 (.row 0 0 5), .int .i64 s0, .sl x1 (.row 0 0 5), .int .i64 s1, .bool ar, .int .i64 un, .bool dn]), none⟩) else none)
  | [.box [.int .i64 sz, .sl x0 .no, .int .i64 s0, .sl x1 .no, .int .i64 s1, .bool ar, .int .i64 un, .bool dn], .val (.int .i64 f)] => (some (isFile f = false ∧ isBytes x0 ∧ isBytes x1 ∧ x0.length ≤ 140737488355328 ∧ x1.length ≤ 140737488355328, ⟨.sl (rd2 f x0 x1) .no, (some [.int .i64 sz, .sl x0 .no, .int .i64 s0, .sl x1 .no, .int .i64 s1, .bool ar, .int .i64 un, .bool dn]), none⟩))
  | _ => none
def gamReadO : List (Nat × Con) := [(41, hasOF.orNil)]
def lpReadO0 (sz : Int) (x0 : List AV) (s0 : Int) (x1 : List AV) (s1 : Int) (ar : Bool) (un : Int) (dn : Bool) (p q p' q' : Nat) (f : Int) : Nat → Option LoopPlan := fun _ => none
def inReadO0 (sz : Int) (x0 : List AV) (s0 : Int) (x1 : List AV) (s1 : Int) (ar : Bool) (un : Int) (dn : Bool) (p q p' q' : Nat) (f : Int) : Prop := awp [0] (lpReadO0 sz x0 s0 x1 s1 ar un dn p q p' q' f) (lookΓ gamReadO) Try.prog Try.f16.ntmps 0 (Try.f16.body.getD .skip) (entrySt [.box [.int .i64 sz, .sl x0 (.row p q 5), .int .i64 s0, .sl x1 (.row p' q' 5), .int .i64 s1, .bool ar, .int .i64 un, .bool dn], .val (.int .i64 f)]) (exitQ Try.prog Try.f16.results.toList [0] ⟨.sl (rd2 f x0 x1) .no, (some [.int .i64 sz, .sl x0 (.row 0 0 5), .int .i64 s0, .sl x1 (.row 0 0 5), .int .i64 s1, .bool ar, .int .i64 un, .bool dn]), none⟩)
def OkReadO0 : Prop := ∀ (sz : Int) (x0 : List AV) (s0 : Int) (x1 : List AV) (s1 : Int) (ar : Bool) (un : Int) (dn : Bool) (p q p' q' : Nat) (f : Int), isFile f = false ∧ isBytes x0 ∧ isBytes x1 ∧ x0.length ≤ 140737488355328 ∧ x1.length ≤ 140737488355328 → inReadO0 sz x0 s0 x1 s1 ar un dn p q p' q' f
def lpReadO1 (sz : Int) (x0 : List AV) (s0 : Int) (x1 : List AV) (s1 : Int) (ar : Bool) (un : Int) (dn : Bool) (f : Int) : Nat → Option LoopPlan := fun _ => none
def inReadO1 (sz : Int) (x0 : List AV) (s0 : Int) (x1 : List AV) (s1 : Int) (ar : Bool) (un : Int) (dn : Bool) (f : Int) : Prop := awp [0] (lpReadO1 sz x0 s0 x1 s1 ar un dn f) (lookΓ gamReadO) Try.prog Try.f16.ntmps 0 (Try.f16.body.getD .skip) (entrySt [.box [.int .i64 sz, .sl x0 .no, .int .i64 s0, .sl x1 .no, .int .i64 s1, .bool ar, .int .i64 un, .bool dn], .val (.int .i64 f)]) (exitQ Try.prog Try.f16.results.toList [0] ⟨.sl (rd2 f x0 x1) .no, (some [.int .i64 sz, .sl x0 .no, .int .i64 s0, .sl x1 .no, .int .i64 s1, .bool ar, .int .i64 un, .bool dn]), none⟩)
def OkReadO1 : Prop := ∀ (sz : Int) (x0 : List AV) (s0 : Int) (x1 : List AV) (s1 : Int) (ar : Bool) (un : Int) (dn : Bool) (f : Int), isFile f = false ∧ isBytes x0 ∧ isBytes x1 ∧ x0.length ≤ 140737488355328 ∧ x1.length ≤ 140737488355328 → inReadO1 sz x0 s0 x1 s1 ar un dn f
def syncIF : Con
  | [.box [.int .i64 sz, .sl x0 (.row p q te0), .int .i64 s0, .sl x1 (.row p' q' te1), .int .i64 s1, .bool ar, .int .i64 un, .bool dn], .val (.int .i64 f)] => (if te0 = 5 ∧ te1 = 5 then some (isFile f = true, ⟨.int .i64 (syE f dn ar un), (some [.int .i64 sz, .sl x0 (.row 0 0 5), .int .i64 (syS 0 f dn ar un s0 x0.length), .sl x1 (.row 0 0 5), .int .i64 (syS 1 f dn ar un s1 x1.length), .bool ar, .int .i64 (syU (syGo f dn) ar un), .bool (syD (syGo f dn) ar un dn)]), none⟩) else none)
  | [.box [.int .i64 sz, .sl x0 .no, .int .i64 s0, .sl x1 .no, .int .i64 s1, .bool ar, .int .i64 un, .bool dn], .val (.int .i64 f)] => (some (isFile f = true, ⟨.int .i64 (syE f dn ar un), (some [.int .i64 sz, .sl x0 .no, .int .i64 (syS 0 f dn ar un s0 x0.length), .sl x1 .no, .int .i64 (syS 1 f dn ar un s1 x1.length), .bool ar, .int .i64 (syU (syGo f dn) ar un), .bool (syD (syGo f dn) ar un dn)]), none⟩))
  | _ => none
def gamSyncI : List (Nat × Con) := [(42, mayF.orNil), (43, unitF.orNil)]
def lpSyncI0 (sz : Int) (x0 : List AV) (s0 : Int) (x1 : List AV) (s1 : Int) (ar : Bool) (un : Int) (dn : Bool) (p q p' q' : Nat) (f : Int) : Nat → Option LoopPlan := fun _ => none
def inSyncI0 (sz : Int) (x0 : List AV) (s0 : Int) (x1 : List AV) (s1 : Int) (ar : Bool) (un : Int) (dn : Bool) (p q p' q' : Nat) (f : Int) : Prop := awp [0] (lpSyncI0 sz x0 s0 x1 s1 ar un dn p q p' q' f) (lookΓ gamSyncI) Try.prog Try.f21.ntmps 0 (Try.f21.body.getD .skip) (entrySt [.box [.int .i64 sz, .sl x0 (.row p q 5), .int .i64 s0, .sl x1 (.row p' q' 5), .int .i64 s1, .bool ar, .int .i64 un, .bool dn], .val (.int .i64 f)]) (exitQ Try.prog Try.f21.results.toList [0] ⟨.int .i64 (syE f dn ar un), (some [.int .i64 sz, .sl x0 (.row 0 0 5), .int .i64 (syS 0 f dn ar un s0 x0.length), .sl x1 (.row 0 0 5), .int .i64 (syS 1 f dn ar un s1 x1.length), .bool ar, .int .i64 (syU (syGo f dn) ar un), .bool (syD (syGo f dn) ar un dn)]), none⟩)
def OkSyncI0 : Prop := ∀ (sz : Int) (x0 : List AV) (s0 : Int) (x1 : List AV) (s1 : Int) (ar : Bool) (un : Int) (dn : Bool) (p q p' q' : Nat) (f : Int), isFile f = true → inSyncI0 sz x0 s0 x1 s1 ar un dn p q p' q' f
def lpSyncI1 (sz : Int) (x0 : List AV) (s0 : Int) (x1 : List AV) (s1 : Int) (ar : Bool) (un : Int) (dn : Bool) (f : Int) : Nat → Option LoopPlan := fun _ => none
def inSyncI1 (sz : Int) (x0 : List AV) (s0 : Int) (x1 : List AV) (s1 : Int) (ar : Bool) (un : Int) (dn : Bool) (f : Int) : Prop := awp [0] (lpSyncI1 sz x0 s0 x1 s1 ar un dn f) (lookΓ gamSyncI) Try.prog Try.f21.ntmps 0 (Try.f21.body.getD .skip) (entrySt [.box [.int .i64 sz, .sl x0 .no, .int .i64 s0, .sl x1 .no, .int .i64 s1, .bool ar, .int .i64 un, .bool dn], .val (.int .i64 f)]) (exitQ Try.prog Try.f21.results.toList [0] ⟨.int .i64 (syE f dn ar un), (some [.int .i64 sz, .sl x0 .no, .int .i64 (syS 0 f dn ar un s0 x0.length), .sl x1 .no, .int .i64 (syS 1 f dn ar un s1 x1.length), .bool ar, .int .i64 (syU (syGo f dn) ar un), .bool (syD (syGo f dn) ar un dn)]), none⟩)
def OkSyncI1 : Prop := ∀ (sz : Int) (x0 : List AV) (s0 : Int) (x1 : List AV) (s1 : Int) (ar : Bool) (un : Int) (dn : Bool) (f : Int), isFile f = true → inSyncI1 sz x0 s0 x1 s1 ar un dn f
def syncOF : Con
  | [.box [.int .i64 sz, .sl x0 (.row p q te0), .int .i64 s0, .sl x1 (.row p' q' te1), .int .i64 s1, .bool ar, .int .i64 un, .bool dn], .val (.int .i64 f)] => (if te0 = 5 ∧ te1 = 5 then some (isFile f = false, ⟨.int .i64 (syE f dn ar un), (some [.int .i64 sz, .sl x0 (.row 0 0 5), .int .i64 (syS 0 f dn ar un s0 x0.length), .sl x1 (.row 0 0 5), .int .i64 (syS 1 f dn ar un s1 x1.length), .bool ar, .int .i64 (syU (syGo f dn) ar un), .bool (syD (syGo f dn) ar un dn)]), none⟩) else none)
  | [.box [.int .i64 sz, .sl x0 .no, .int .i64 s0, .sl x1 .no, .int .i64 s1, .bool ar, .int .i64 un, .bool dn], .val (.int .i64 f)] => (some (isFile f = false, ⟨.int .i64 (syE f dn ar un), (some [.int .i64 sz, .sl x0 .no, .int .i64 (syS 0 f dn ar un s0 x0.length), .sl x1 .no, .int .i64 (syS 1 f dn ar un s1 x1.length), .bool ar, .int .i64 (syU (syGo f dn) ar un), .bool (syD (syGo f dn) ar un dn)]), none⟩))
  | _ => none
def gamSyncO : List (Nat × Con) := [(42, mayOF.orNil), (43, unitF.orNil)]
def lpSyncO0 (sz : Int) (x0 : List AV) (s0 : Int) (x1 : List AV) (s1 : Int) (ar : Bool) (un : Int) (dn : Bool) (p q p' q' : Nat) (f : Int) : Nat → Option LoopPlan := fun _ => none
def inSyncO0 (sz : Int) (x0 : List AV) (s0 : Int) (x1 : List AV) (s1 : Int) (ar : Bool) (un : Int) (dn : Bool) (p q p' q' : Nat) (f : Int) : Prop := awp [0] (lpSyncO0 sz x0 s0 x1 s1 ar un dn p q p' q' f) (lookΓ gamSyncO) Try.prog Try.f21.ntmps 0 (Try.f21.body.getD .skip) (entrySt [.box [.int .i64 sz, .sl x0 (.row p q 5), .int .i64 s0, .sl x1 (.row p' q' 5), .int .i64 s1, .bool ar, .int .i64 un, .bool dn], .val (.int .i64 f)]) (exitQ Try.prog Try.f21.results.toList [0] ⟨.int .i64 (syE f dn ar un), (some [.int .i64 sz, .sl x0 (.row 0 0 5), .int .i64 (syS 0 f dn ar un s0 x0.length), .sl x1 (.row 0 0 5), .int .i64 (syS 1 f dn ar un s1 x1.length), .bool ar, .int .i64 (syU (syGo f dn) ar un), .bool (syD (syGo f dn) ar un dn)]), none⟩)
def OkSyncO0 : Prop := ∀ (sz : Int) (x0 : List AV) (s0 : Int) (x1 : List AV) (s1 : Int) (ar : Bool) (un : Int) (dn : Bool) (p q p' q' : Nat) (f : Int), isFile f = false → inSyncO0 sz x0 s0 x1 s1 ar un dn p q p' q' f
def lpSyncO1 (sz : Int) (x0 : List AV) (s0 : Int) (x1 : List AV) (s1 : Int) (ar : Bool) (un : Int) (dn : Bool) (f : Int) : Nat → Option LoopPlan := fun _ => none
def inSyncO1 (sz : Int) (x0 : List AV) (s0 : Int) (x1 : List AV) (s1 : Int) (ar : Bool) (un : Int) (dn : Bool) (f : Int) : Prop := awp [0] (lpSyncO1 sz x0 s0 x1 s1 ar un dn f) (lookΓ gamSyncO) Try.prog Try.f21.ntmps 0 (Try.f21.body.getD .skip) (entrySt [.box [.int .i64 sz, .sl x0 .no, .int .i64 s0, .sl x1 .no, .int .i64 s1, .bool ar, .int .i64 un, .bool dn], .val (.int .i64 f)]) (exitQ Try.prog Try.f21.results.toList [0] ⟨.int .i64 (syE f dn ar un), (some [.int .i64 sz, .sl x0 .no, .int .i64 (syS 0 f dn ar un s0 x0.length), .sl x1 .no, .int .i64 (syS 1 f dn ar un s1 x1.length), .bool ar, .int .i64 (syU (syGo f dn) ar un), .bool (syD (syGo f dn) ar un dn)]), none⟩)
def OkSyncO1 : Prop := ∀ (sz : Int) (x0 : List AV) (s0 : Int) (x1 : List AV) (s1 : Int) (ar : Bool) (un : Int) (dn : Bool) (f : Int), isFile f = false → inSyncO1 sz x0 s0 x1 s1 ar un dn f
def trimIF : Con
  | [.box [.int .i64 sz, .sl x0 (.row p q te0), .int .i64 s0, .sl x1 (.row p' q' te1), .int .i64 s1, .bool ar, .int .i64 un, .bool dn], .val (.int .i64 f), .val (.int .i64 n)] => (if te0 = 5 ∧ te1 = 5 then some (isFile f = true ∧ dkOK sz x0 s0 x1 s1 ar un, ⟨.int .i64 (trE f n dn ar un x0 x1), (some [.int .i64 sz, .sl (trX 0 f n dn ar un x0 x1 x0) (.row 0 0 5), .int .i64 (trS 0 f n dn ar un x0 x1 s0), .sl (trX 1 f n dn ar un x0 x1 x1) (.row 0 0 5), .int .i64 (trS 1 f n dn ar un x0 x1 s1), .bool ar, .int .i64 (syU (trGo f n dn x0 x1) ar un), .bool (syD (trGo f n dn x0 x1) ar un dn)]), none⟩) else none)
  | _ => none
def gamTrimI : List (Nat × Con) := [(42, mayF.orNil), (43, unitF.orNil), (35, cloneF.orNil)]
def lpTrimI0 (sz : Int) (x0 : List AV) (s0 : Int) (x1 : List AV) (s1 : Int) (ar : Bool) (un : Int) (dn : Bool) (p q p' q' : Nat) (f n : Int) : Nat → Option LoopPlan := fun _ => none
def inTrimI0 (sz : Int) (x0 : List AV) (s0 : Int) (x1 : List AV) (s1 : Int) (ar : Bool) (un : Int) (dn : Bool) (p q p' q' : Nat) (f n : Int) : Prop := awp [0] (lpTrimI0 sz x0 s0 x1 s1 ar un dn p q p' q' f n) (lookΓ gamTrimI) Try.prog Try.f24.ntmps 0 (Try.f24.body.getD .skip) (entrySt [.box [.int .i64 sz, .sl x0 (.row p q 5), .int .i64 s0, .sl x1 (.row p' q' 5), .int .i64 s1, .bool ar, .int .i64 un, .bool dn], .val (.int .i64 f), .val (.int .i64 n)]) (exitQ Try.prog Try.f24.results.toList [0] ⟨.int .i64 (trE f n dn ar un x0 x1), (some [.int .i64 sz, .sl (trX 0 f n dn ar un x0 x1 x0) (.row 0 0 5), .int .i64 (trS 0 f n dn ar un x0 x1 s0), .sl (trX 1 f n dn ar un x0 x1 x1) (.row 0 0 5), .int .i64 (trS 1 f n dn ar un x0 x1 s1), .bool ar, .int .i64 (syU (trGo f n dn x0 x1) ar un), .bool (syD (trGo f n dn x0 x1) ar un dn)]), none⟩)
def OkTrimI0 : Prop := ∀ (sz : Int) (x0 : List AV) (s0 : Int) (x1 : List AV) (s1 : Int) (ar : Bool) (un : Int) (dn : Bool) (p q p' q' : Nat) (f n : Int), isFile f = true ∧ dkOK sz x0 s0 x1 s1 ar un → inTrimI0 sz x0 s0 x1 s1 ar un dn p q p' q' f n
def trimOF : Con
  | [.box [.int .i64 sz, .sl x0 (.row p q te0), .int .i64 s0, .sl x1 (.row p' q' te1), .int .i64 s1, .bool ar, .int .i64 un, .bool dn], .val (.int .i64 f), .val (.int .i64 n)] => (if te0 = 5 ∧ te1 = 5 then some (isFile f = false ∧ dkOK sz x0 s0 x1 s1 ar un, ⟨.int .i64 (trE f n dn ar un x0 x1), (some [.int .i64 sz, .sl (trX 0 f n dn ar un x0 x1 x0) (.row 0 0 5), .int .i64 (trS 0 f n dn ar un x0 x1 s0), .sl (trX 1 f n dn ar un x0 x1 x1) (.row 0 0 5), .int .i64 (trS 1 f n dn ar un x0 x1 s1), .bool ar, .int .i64 (syU (trGo f n dn x0 x1) ar un), .bool (syD (trGo f n dn x0 x1) ar un dn)]), none⟩) else none)
  | _ => none
def gamTrimO : List (Nat × Con) := [(42, mayOF.orNil), (43, unitF.orNil), (35, cloneF.orNil)]
def lpTrimO0 (sz : Int) (x0 : List AV) (s0 : Int) (x1 : List AV) (s1 : Int) (ar : Bool) (un : Int) (dn : Bool) (p q p' q' : Nat) (f n : Int) : Nat → Option LoopPlan := fun _ => none
def inTrimO0 (sz : Int) (x0 : List AV) (s0 : Int) (x1 : List AV) (s1 : Int) (ar : Bool) (un : Int) (dn : Bool) (p q p' q' : Nat) (f n : Int) : Prop := awp [0] (lpTrimO0 sz x0 s0 x1 s1 ar un dn p q p' q' f n) (lookΓ gamTrimO) Try.prog Try.f24.ntmps 0 (Try.f24.body.getD .skip) (entrySt [.box [.int .i64 sz, .sl x0 (.row p q 5), .int .i64 s0, .sl x1 (.row p' q' 5), .int .i64 s1, .bool ar, .int .i64 un, .bool dn], .val (.int .i64 f), .val (.int .i64 n)]) (exitQ Try.prog Try.f24.results.toList [0] ⟨.int .i64 (trE f n dn ar un x0 x1), (some [.int .i64 sz, .sl (trX 0 f n dn ar un x0 x1 x0) (.row 0 0 5), .int .i64 (trS 0 f n dn ar un x0 x1 s0), .sl (trX 1 f n dn ar un x0 x1 x1) (.row 0 0 5), .int .i64 (trS 1 f n dn ar un x0 x1 s1), .bool ar, .int .i64 (syU (trGo f n dn x0 x1) ar un), .bool (syD (trGo f n dn x0 x1) ar un dn)]), none⟩)
def OkTrimO0 : Prop := ∀ (sz : Int) (x0 : List AV) (s0 : Int) (x1 : List AV) (s1 : Int) (ar : Bool) (un : Int) (dn : Bool) (p q p' q' : Nat) (f n : Int), isFile f = false ∧ dkOK sz x0 s0 x1 s1 ar un → inTrimO0 sz x0 s0 x1 s1 ar un dn p q p' q' f n
def appIF : Con
  | [.box [.int .i64 sz, .sl x0 (.row p q te0), .int .i64 s0, .sl x1 (.row p' q' te1), .int .i64 s1, .bool ar, .int .i64 un, .bool dn], .val (.int .i64 f), .val (.sl ys .no)] => (if te0 = 5 ∧ te1 = 5 then some (isFile f = true ∧ isBytes ys ∧ dkOK sz x0 s0 x1 s1 ar un, ⟨.int .i64 (apE f dn sz x0.length x1.length (limD ar un) ys.length), (some [.int .i64 sz, .sl (apX 0 f dn sz x0.length x1.length (limD ar un) x0 ys) (.row 0 0 5), .int .i64 s0, .sl (apX 1 f dn sz x0.length x1.length (limD ar un) x1 ys) (.row 0 0 5), .int .i64 s1, .bool ar, .int .i64 (apU f dn sz x0.length x1.length (limD ar un) un ys.length), .bool (apD f dn sz x0.length x1.length (limD ar un) ys.length)]), none⟩) else none)
  | _ => none
def gamAppI : List (Nat × Con) := [(42, mayF.orNil), (44, leftF.orNil), (43, unitF.orNil)]
def lpAppI0 (sz : Int) (x0 : List AV) (s0 : Int) (x1 : List AV) (s1 : Int) (ar : Bool) (un : Int) (dn : Bool) (p q p' q' : Nat) (f : Int) (ys : List AV) : Nat → Option LoopPlan := fun b => bif Nat.beq b 0 then some (.inv [] (loopApp f sz x0 s0 x1 s1 ar un dn ys)) else none
def inAppI0 (sz : Int) (x0 : List AV) (s0 : Int) (x1 : List AV) (s1 : Int) (ar : Bool) (un : Int) (dn : Bool) (p q p' q' : Nat) (f : Int) (ys : List AV) : Prop := awp [0] (lpAppI0 sz x0 s0 x1 s1 ar un dn p q p' q' f ys) (lookΓ gamAppI) Try.prog Try.f26.ntmps 0 (Try.f26.body.getD .skip) (entrySt [.box [.int .i64 sz, .sl x0 (.row p q 5), .int .i64 s0, .sl x1 (.row p' q' 5), .int .i64 s1, .bool ar, .int .i64 un, .bool dn], .val (.int .i64 f), .val (.sl ys .no)]) (exitQ Try.prog Try.f26.results.toList [0] ⟨.int .i64 (apE f dn sz x0.length x1.length (limD ar un) ys.length), (some [.int .i64 sz, .sl (apX 0 f dn sz x0.length x1.length (limD ar un) x0 ys) (.row 0 0 5), .int .i64 s0, .sl (apX 1 f dn sz x0.length x1.length (limD ar un) x1 ys) (.row 0 0 5), .int .i64 s1, .bool ar, .int .i64 (apU f dn sz x0.length x1.length (limD ar un) un ys.length), .bool (apD f dn sz x0.length x1.length (limD ar un) ys.length)]), none⟩)
def OkAppI0 : Prop := ∀ (sz : Int) (x0 : List AV) (s0 : Int) (x1 : List AV) (s1 : Int) (ar : Bool) (un : Int) (dn : Bool) (p q p' q' : Nat) (f : Int) (ys : List AV), isFile f = true ∧ isBytes ys ∧ dkOK sz x0 s0 x1 s1 ar un → inAppI0 sz x0 s0 x1 s1 ar un dn p q p' q' f ys
def appOF : Con
  | [.box [.int .i64 sz, .sl x0 (.row p q te0), .int .i64 s0, .sl x1 (.row p' q' te1), .int .i64 s1, .bool ar, .int .i64 un, .bool dn], .val (.int .i64 f), .val (.sl ys .no)] => (if te0 = 5 ∧ te1 = 5 then some (isFile f = false ∧ isBytes ys ∧ dkOK sz x0 s0 x1 s1 ar un, ⟨.int .i64 (apE f dn sz x0.length x1.length (limD ar un) ys.length), (some [.int .i64 sz, .sl (apX 0 f dn sz x0.length x1.length (limD ar un) x0 ys) (.row 0 0 5), .int .i64 s0, .sl (apX 1 f dn sz x0.length x1.length (limD ar un) x1 ys) (.row 0 0 5), .int .i64 s1, .bool ar, .int .i64 (apU f dn sz x0.length x1.length (limD ar un) un ys.length), .bool (apD f dn sz x0.length x1.length (limD ar un) ys.length)]), none⟩) else none)
  | _ => none
def gamAppO : List (Nat × Con) := [(42, mayOF.orNil), (44, leftF.orNil), (43, unitF.orNil)]
def lpAppO0 (sz : Int) (x0 : List AV) (s0 : Int) (x1 : List AV) (s1 : Int) (ar : Bool) (un : Int) (dn : Bool) (p q p' q' : Nat) (f : Int) (ys : List AV) : Nat → Option LoopPlan := fun _ => none
def inAppO0 (sz : Int) (x0 : List AV) (s0 : Int) (x1 : List AV) (s1 : Int) (ar : Bool) (un : Int) (dn : Bool) (p q p' q' : Nat) (f : Int) (ys : List AV) : Prop := awp [0] (lpAppO0 sz x0 s0 x1 s1 ar un dn p q p' q' f ys) (lookΓ gamAppO) Try.prog Try.f26.ntmps 0 (Try.f26.body.getD .skip) (entrySt [.box [.int .i64 sz, .sl x0 (.row p q 5), .int .i64 s0, .sl x1 (.row p' q' 5), .int .i64 s1, .bool ar, .int .i64 un, .bool dn], .val (.int .i64 f), .val (.sl ys .no)]) (exitQ Try.prog Try.f26.results.toList [0] ⟨.int .i64 (apE f dn sz x0.length x1.length (limD ar un) ys.length), (some [.int .i64 sz, .sl (apX 0 f dn sz x0.length x1.length (limD ar un) x0 ys) (.row 0 0 5), .int .i64 s0, .sl (apX 1 f dn sz x0.length x1.length (limD ar un) x1 ys) (.row 0 0 5), .int .i64 s1, .bool ar, .int .i64 (apU f dn sz x0.length x1.length (limD ar un) un ys.length), .bool (apD f dn sz x0.length x1.length (limD ar un) ys.length)]), none⟩)
def OkAppO0 : Prop := ∀ (sz : Int) (x0 : List AV) (s0 : Int) (x1 : List AV) (s1 : Int) (ar : Bool) (un : Int) (dn : Bool) (p q p' q' : Nat) (f : Int) (ys : List AV), isFile f = false ∧ isBytes ys ∧ dkOK sz x0 s0 x1 s1 ar un → inAppO0 sz x0 s0 x1 s1 ar un dn p q p' q' f ys
def crashNF : Con
  | [.box [.int .i64 sz, .sl x0 (.row p q te0), .int .i64 s0, .sl x1 (.row p' q' te1), .int .i64 s1, .bool ar, .int .i64 un, .bool dn], .val (.agg [.int .i64 k0, .int .i64 k1])] => (if te0 = 5 ∧ te1 = 5 then some (dkOK sz x0 s0 x1 s1 ar un, ⟨.tup [], (some [.int .i64 sz, .sl (crX x0 s0 k0) .no, .int .i64 (crS s0 x0.length k0), .sl (crX x1 s1 k1) .no, .int .i64 (crS s1 x1.length k1), .bool false, .int .i64 0, .bool false]), none⟩) else none)
  | _ => none
def gamCrashN : List (Nat × Con) := []
def lpCrashN0 (sz : Int) (x0 : List AV) (s0 : Int) (x1 : List AV) (s1 : Int) (ar : Bool) (un : Int) (dn : Bool) (p q p' q' : Nat) (k0 k1 : Int) : Nat → Option LoopPlan := fun b => bif Nat.beq b 0 then some (.unroll [] 3) else none
def inCrashN0 (sz : Int) (x0 : List AV) (s0 : Int) (x1 : List AV) (s1 : Int) (ar : Bool) (un : Int) (dn : Bool) (p q p' q' : Nat) (k0 k1 : Int) : Prop := awp [0] (lpCrashN0 sz x0 s0 x1 s1 ar un dn p q p' q' k0 k1) (lookΓ gamCrashN) Try.prog Try.f18.ntmps 0 (Try.f18.body.getD .skip) (entrySt [.box [.int .i64 sz, .sl x0 (.row p q 5), .int .i64 s0, .sl x1 (.row p' q' 5), .int .i64 s1, .bool ar, .int .i64 un, .bool dn], .val (.agg [.int .i64 k0, .int .i64 k1])]) (exitQ Try.prog Try.f18.results.toList [0] ⟨.tup [], (some [.int .i64 sz, .sl (crX x0 s0 k0) .no, .int .i64 (crS s0 x0.length k0), .sl (crX x1 s1 k1) .no, .int .i64 (crS s1 x1.length k1), .bool false, .int .i64 0, .bool false]), none⟩)
def OkCrashN0 : Prop := ∀ (sz : Int) (x0 : List AV) (s0 : Int) (x1 : List AV) (s1 : Int) (ar : Bool) (un : Int) (dn : Bool) (p q p' q' : Nat) (k0 k1 : Int), dkOK sz x0 s0 x1 s1 ar un → inCrashN0 sz x0 s0 x1 s1 ar un dn p q p' q' k0 k1
def inSafeI0K0 (sz : Int) (x0 : List AV) (s0 : Int) (x1 : List AV) (s1 : Int) (ar : Bool) (un : Int) (dn : Bool) (p q p' q' : Nat)  : Prop := inSafeI0 sz x0 s0 x1 s1 ar un dn p q p' q' 0
def inSafeI0K1 (sz : Int) (x0 : List AV) (s0 : Int) (x1 : List AV) (s1 : Int) (ar : Bool) (un : Int) (dn : Bool) (p q p' q' : Nat)  : Prop := inSafeI0 sz x0 s0 x1 s1 ar un dn p q p' q' 1
def inSafeI1K0 (sz : Int) (x0 : List AV) (s0 : Int) (x1 : List AV) (s1 : Int) (ar : Bool) (un : Int) (dn : Bool)  : Prop := inSafeI1 sz x0 s0 x1 s1 ar un dn 0
def inSafeI1K1 (sz : Int) (x0 : List AV) (s0 : Int) (x1 : List AV) (s1 : Int) (ar : Bool) (un : Int) (dn : Bool)  : Prop := inSafeI1 sz x0 s0 x1 s1 ar un dn 1
def inReadI0K0 (sz : Int) (x0 : List AV) (s0 : Int) (x1 : List AV) (s1 : Int) (ar : Bool) (un : Int) (dn : Bool) (p q p' q' : Nat)  : Prop := inReadI0 sz x0 s0 x1 s1 ar un dn p q p' q' 0
def inReadI0K1 (sz : Int) (x0 : List AV) (s0 : Int) (x1 : List AV) (s1 : Int) (ar : Bool) (un : Int) (dn : Bool) (p q p' q' : Nat)  : Prop := inReadI0 sz x0 s0 x1 s1 ar un dn p q p' q' 1
def inReadI1K0 (sz : Int) (x0 : List AV) (s0 : Int) (x1 : List AV) (s1 : Int) (ar : Bool) (un : Int) (dn : Bool)  : Prop := inReadI1 sz x0 s0 x1 s1 ar un dn 0
def inReadI1K1 (sz : Int) (x0 : List AV) (s0 : Int) (x1 : List AV) (s1 : Int) (ar : Bool) (un : Int) (dn : Bool)  : Prop := inReadI1 sz x0 s0 x1 s1 ar un dn 1
def inSyncI0K0 (sz : Int) (x0 : List AV) (s0 : Int) (x1 : List AV) (s1 : Int) (ar : Bool) (un : Int) (dn : Bool) (p q p' q' : Nat)  : Prop := inSyncI0 sz x0 s0 x1 s1 ar un dn p q p' q' 0
def inSyncI0K1 (sz : Int) (x0 : List AV) (s0 : Int) (x1 : List AV) (s1 : Int) (ar : Bool) (un : Int) (dn : Bool) (p q p' q' : Nat)  : Prop := inSyncI0 sz x0 s0 x1 s1 ar un dn p q p' q' 1
def inSyncI1K0 (sz : Int) (x0 : List AV) (s0 : Int) (x1 : List AV) (s1 : Int) (ar : Bool) (un : Int) (dn : Bool)  : Prop := inSyncI1 sz x0 s0 x1 s1 ar un dn 0
def inSyncI1K1 (sz : Int) (x0 : List AV) (s0 : Int) (x1 : List AV) (s1 : Int) (ar : Bool) (un : Int) (dn : Bool)  : Prop := inSyncI1 sz x0 s0 x1 s1 ar un dn 1
def inTrimI0K0 (sz : Int) (x0 : List AV) (s0 : Int) (x1 : List AV) (s1 : Int) (ar : Bool) (un : Int) (dn : Bool) (p q p' q' : Nat) (n : Int) : Prop := inTrimI0 sz x0 s0 x1 s1 ar un dn p q p' q' 0 n
def inTrimI0K1 (sz : Int) (x0 : List AV) (s0 : Int) (x1 : List AV) (s1 : Int) (ar : Bool) (un : Int) (dn : Bool) (p q p' q' : Nat) (n : Int) : Prop := inTrimI0 sz x0 s0 x1 s1 ar un dn p q p' q' 1 n
def inAppI0K0 (sz : Int) (x0 : List AV) (s0 : Int) (x1 : List AV) (s1 : Int) (ar : Bool) (un : Int) (dn : Bool) (p q p' q' : Nat) (ys : List AV) : Prop := inAppI0 sz x0 s0 x1 s1 ar un dn p q p' q' 0 ys
def inAppI0K1 (sz : Int) (x0 : List AV) (s0 : Int) (x1 : List AV) (s1 : Int) (ar : Bool) (un : Int) (dn : Bool) (p q p' q' : Nat) (ys : List AV) : Prop := inAppI0 sz x0 s0 x1 s1 ar un dn p q p' q' 1 ys
end Go.Proofs.Ytddilmocngedjaa
/- What the verification conditions come to: printed by a program of ours (wip/lax/ex/Norm.lean). -/
namespace Go.Proofs.Ytddilmocngedjaa
set_option linter.unusedVariables false
open Go.RowKit
set_option maxRecDepth 100000
theorem vcHas0 (f : Int) (h : (tt ∧ T1 ∧ tt ∧ T1 ∧ T1 ∧ T1 ∧ (bif (decide ((0 : Int) ≤ f)) then (T1 ∧ T1 ∧ T1 ∧ T1 ∧ tt ∧ tt ∧ ((isFile f) = (decide (f < 2)) ∧ True) ∧ tt) else (false = false ∧ T1 ∧ tt ∧ tt ∧ ((isFile f) = false ∧ True) ∧ tt)))) : inHas0 f :=
  Eq.mp (show _ = _ by kernel_rfl) h
theorem vcHasO0 (f : Int) (h : (tt ∧ T1 ∧ tt ∧ T1 ∧ T1 ∧ T1 ∧ (bif (decide ((0 : Int) ≤ f)) then (T1 ∧ T1 ∧ T1 ∧ T1 ∧ tt ∧ tt ∧ (false = (decide (f < 2)) ∧ True) ∧ tt) else (false = false ∧ T1 ∧ tt ∧ tt ∧ (false = false ∧ True) ∧ tt)))) : inHasO0 f :=
  Eq.mp (show _ = _ by kernel_rfl) h
theorem vcMayO0 (sz : Int) (x0 : (List AV)) (s0 : Int) (x1 : (List AV)) (s1 : Int) (ar : Bool) (un : Int) (dn : Bool) (p : Nat) (q : Nat) (p' : Nat) (q' : Nat) (f : Int) (h : (tt ∧ T1 ∧ tt ∧ T1 ∧ (T1 ∧ (isFile f) = false) ∧ T1 ∧ T1 ∧ tt ∧ T1 ∧ tt ∧ tt ∧ (sz = sz ∧ (0 < 1 ∧ x0 = x0 ∧ (List.length x0) = (List.length x0)) ∧ s0 = s0 ∧ (0 < 1 ∧ x1 = x1 ∧ (List.length x1) = (List.length x1)) ∧ s1 = s1 ∧ ar = ar ∧ un = un ∧ dn = dn ∧ (12 : Int) = 12 ∧ True) ∧ tt)) : inMayO0 sz x0 s0 x1 s1 ar un dn p q p' q' f :=
  Eq.mp (show _ = _ by kernel_rfl) h
theorem vcMayO1 (sz : Int) (x0 : (List AV)) (s0 : Int) (x1 : (List AV)) (s1 : Int) (ar : Bool) (un : Int) (dn : Bool) (f : Int) (h : (tt ∧ T1 ∧ tt ∧ T1 ∧ (T1 ∧ (isFile f) = false) ∧ T1 ∧ T1 ∧ tt ∧ T1 ∧ tt ∧ tt ∧ (sz = sz ∧ x0 = x0 ∧ s0 = s0 ∧ x1 = x1 ∧ s1 = s1 ∧ ar = ar ∧ un = un ∧ dn = dn ∧ (12 : Int) = 12 ∧ True) ∧ tt)) : inMayO1 sz x0 s0 x1 s1 ar un dn f :=
  Eq.mp (show _ = _ by kernel_rfl) h
theorem vcMay0 (sz : Int) (x0 : (List AV)) (s0 : Int) (x1 : (List AV)) (s1 : Int) (ar : Bool) (un : Int) (dn : Bool) (p : Nat) (q : Nat) (p' : Nat) (q' : Nat) (f : Int) (h : let q0 := (List.length x0); let q1 := (List.length x1); let w0_x := (0 < 1 ∧ x0 = x0 ∧ q0 = q0); let w1_x := (0 < 1 ∧ x1 = x1 ∧ q1 = q1); (tt ∧ T1 ∧ tt ∧ T1 ∧ (T1 ∧ True) ∧ T1 ∧ T1 ∧ (bif (Bool.not (isFile f)) then (tt ∧ T1 ∧ tt ∧ tt ∧ (sz = sz ∧ w0_x ∧ s0 = s0 ∧ w1_x ∧ s1 = s1 ∧ ar = ar ∧ un = un ∧ dn = dn ∧ (mayE f dn) = 12 ∧ True) ∧ tt) else (tt ∧ T1 ∧ T1 ∧ T1 ∧ tt ∧ T1 ∧ (bif dn then (tt ∧ T1 ∧ tt ∧ tt ∧ (sz = sz ∧ w0_x ∧ s0 = s0 ∧ w1_x ∧ s1 = s1 ∧ ar = ar ∧ un = un ∧ dn = dn ∧ (mayE f dn) = 40 ∧ True) ∧ tt) else (tt ∧ T1 ∧ tt ∧ tt ∧ (sz = sz ∧ w0_x ∧ s0 = s0 ∧ w1_x ∧ s1 = s1 ∧ ar = ar ∧ un = un ∧ dn = dn ∧ (mayE f dn) = 0 ∧ True) ∧ tt)))))) : inMay0 sz x0 s0 x1 s1 ar un dn p q p' q' f :=
  Eq.mp (show _ = _ by kernel_rfl) h
theorem vcMay1 (sz : Int) (x0 : (List AV)) (s0 : Int) (x1 : (List AV)) (s1 : Int) (ar : Bool) (un : Int) (dn : Bool) (f : Int) (h : (tt ∧ T1 ∧ tt ∧ T1 ∧ (T1 ∧ True) ∧ T1 ∧ T1 ∧ (bif (Bool.not (isFile f)) then (tt ∧ T1 ∧ tt ∧ tt ∧ (sz = sz ∧ x0 = x0 ∧ s0 = s0 ∧ x1 = x1 ∧ s1 = s1 ∧ ar = ar ∧ un = un ∧ dn = dn ∧ (mayE f dn) = 12 ∧ True) ∧ tt) else (tt ∧ T1 ∧ T1 ∧ T1 ∧ tt ∧ T1 ∧ (bif dn then (tt ∧ T1 ∧ tt ∧ tt ∧ (sz = sz ∧ x0 = x0 ∧ s0 = s0 ∧ x1 = x1 ∧ s1 = s1 ∧ ar = ar ∧ un = un ∧ dn = dn ∧ (mayE f dn) = 40 ∧ True) ∧ tt) else (tt ∧ T1 ∧ tt ∧ tt ∧ (sz = sz ∧ x0 = x0 ∧ s0 = s0 ∧ x1 = x1 ∧ s1 = s1 ∧ ar = ar ∧ un = un ∧ dn = dn ∧ (mayE f dn) = 0 ∧ True) ∧ tt)))))) : inMay1 sz x0 s0 x1 s1 ar un dn f :=
  Eq.mp (show _ = _ by kernel_rfl) h
theorem vcUnit0 (sz : Int) (x0 : (List AV)) (s0 : Int) (x1 : (List AV)) (s1 : Int) (ar : Bool) (un : Int) (dn : Bool) (p : Nat) (q : Nat) (p' : Nat) (q' : Nat) (h : let q0 := (List.length x0); let q1 := (List.length x1); let q2 := (Bool.or dn (Bool.not (unitK ar un))); let w0_x := (sz = sz ∧ (0 < 1 ∧ x0 = x0 ∧ q0 = q0) ∧ s0 = s0 ∧ (0 < 1 ∧ x1 = x1 ∧ q1 = q1) ∧ s1 = s1 ∧ ar = ar ∧ (unU ar un) = (IntKind.wrap IntKind.i64 (un - (1 : Int))) ∧ q2 = dn ∧ (unitK ar un) = true ∧ True); (tt ∧ T1 ∧ tt ∧ T1 ∧ T1 ∧ T1 ∧ tt ∧ T1 ∧ (bif ar then (T1 ∧ T1 ∧ T1 ∧ tt ∧ T1 ∧ T1 ∧ (bif (un == 0) then (tt ∧ T1 ∧ T1 ∧ T1 ∧ tt ∧ tt ∧ T1 ∧ tt ∧ tt ∧ (sz = sz ∧ (0 < 1 ∧ x0 = x0 ∧ q0 = q0) ∧ s0 = s0 ∧ (0 < 1 ∧ x1 = x1 ∧ q1 = q1) ∧ s1 = s1 ∧ ar = ar ∧ (unU ar un) = un ∧ q2 = true ∧ (unitK ar un) = false ∧ True) ∧ tt) else (tt ∧ T1 ∧ T1 ∧ T1 ∧ tt ∧ T1 ∧ T1 ∧ T1 ∧ tt ∧ tt ∧ T1 ∧ tt ∧ tt ∧ w0_x ∧ tt))) else (false = false ∧ tt ∧ T1 ∧ T1 ∧ T1 ∧ tt ∧ T1 ∧ T1 ∧ T1 ∧ tt ∧ tt ∧ T1 ∧ tt ∧ tt ∧ w0_x ∧ tt)))) : inUnit0 sz x0 s0 x1 s1 ar un dn p q p' q' :=
  Eq.mp (show _ = _ by kernel_rfl) h
theorem vcUnit1 (sz : Int) (x0 : (List AV)) (s0 : Int) (x1 : (List AV)) (s1 : Int) (ar : Bool) (un : Int) (dn : Bool) (h : let q0 := (Bool.or dn (Bool.not (unitK ar un))); let w0_x := (sz = sz ∧ x0 = x0 ∧ s0 = s0 ∧ x1 = x1 ∧ s1 = s1 ∧ ar = ar ∧ (unU ar un) = (IntKind.wrap IntKind.i64 (un - (1 : Int))) ∧ q0 = dn ∧ (unitK ar un) = true ∧ True); (tt ∧ T1 ∧ tt ∧ T1 ∧ T1 ∧ T1 ∧ tt ∧ T1 ∧ (bif ar then (T1 ∧ T1 ∧ T1 ∧ tt ∧ T1 ∧ T1 ∧ (bif (un == 0) then (tt ∧ T1 ∧ T1 ∧ T1 ∧ tt ∧ tt ∧ T1 ∧ tt ∧ tt ∧ (sz = sz ∧ x0 = x0 ∧ s0 = s0 ∧ x1 = x1 ∧ s1 = s1 ∧ ar = ar ∧ (unU ar un) = un ∧ q0 = true ∧ (unitK ar un) = false ∧ True) ∧ tt) else (tt ∧ T1 ∧ T1 ∧ T1 ∧ tt ∧ T1 ∧ T1 ∧ T1 ∧ tt ∧ tt ∧ T1 ∧ tt ∧ tt ∧ w0_x ∧ tt))) else (false = false ∧ tt ∧ T1 ∧ T1 ∧ T1 ∧ tt ∧ T1 ∧ T1 ∧ T1 ∧ tt ∧ tt ∧ T1 ∧ tt ∧ tt ∧ w0_x ∧ tt)))) : inUnit1 sz x0 s0 x1 s1 ar un dn :=
  Eq.mp (show _ = _ by kernel_rfl) h
theorem vcLeft0 (sz : Int) (x0 : (List AV)) (s0 : Int) (x1 : (List AV)) (s1 : Int) (ar : Bool) (un : Int) (dn : Bool) (p : Nat) (q : Nat) (p' : Nat) (q' : Nat) (h : (tt ∧ T1 ∧ tt ∧ T1 ∧ T1 ∧ T1 ∧ tt ∧ T1 ∧ T1 ∧ T1 ∧ ((0 : Int) ≤ (0 : Int) ∧ (0 : Int) < (2 : Int)) ∧ T1 ∧ tt ∧ T1 ∧ T1 ∧ T1 ∧ T1 ∧ T1 ∧ ((0 : Int) ≤ (1 : Int) ∧ (1 : Int) < (2 : Int)) ∧ T1 ∧ tt ∧ T1 ∧ T1 ∧ T1 ∧ tt ∧ tt ∧ tt ∧ (sz = sz ∧ (0 < 1 ∧ x0 = x0 ∧ (List.length x0) = (List.length x0)) ∧ s0 = s0 ∧ (0 < 1 ∧ x1 = x1 ∧ (List.length x1) = (List.length x1)) ∧ s1 = s1 ∧ ar = ar ∧ un = un ∧ dn = dn ∧ ((sz - ((List.length x0) : Int)) - ((List.length x1) : Int)) = (IntKind.wrap IntKind.i64 ((IntKind.wrap IntKind.i64 (sz - ((List.length x0) : Int))) - ((List.length x1) : Int))) ∧ True) ∧ tt)) : inLeft0 sz x0 s0 x1 s1 ar un dn p q p' q' :=
  Eq.mp (show _ = _ by kernel_rfl) h
theorem vcDown0 (sz : Int) (x0 : (List AV)) (s0 : Int) (x1 : (List AV)) (s1 : Int) (ar : Bool) (un : Int) (dn : Bool) (p : Nat) (q : Nat) (p' : Nat) (q' : Nat) (h : (tt ∧ T1 ∧ tt ∧ T1 ∧ T1 ∧ T1 ∧ tt ∧ T1 ∧ tt ∧ tt ∧ (sz = sz ∧ (0 < 1 ∧ x0 = x0 ∧ (List.length x0) = (List.length x0)) ∧ s0 = s0 ∧ (0 < 1 ∧ x1 = x1 ∧ (List.length x1) = (List.length x1)) ∧ s1 = s1 ∧ ar = ar ∧ un = un ∧ dn = dn ∧ dn = dn ∧ True) ∧ tt)) : inDown0 sz x0 s0 x1 s1 ar un dn p q p' q' :=
  Eq.mp (show _ = _ by kernel_rfl) h
theorem vcDown1 (sz : Int) (x0 : (List AV)) (s0 : Int) (x1 : (List AV)) (s1 : Int) (ar : Bool) (un : Int) (dn : Bool) (h : (tt ∧ T1 ∧ tt ∧ T1 ∧ T1 ∧ T1 ∧ tt ∧ T1 ∧ tt ∧ tt ∧ (sz = sz ∧ x0 = x0 ∧ s0 = s0 ∧ x1 = x1 ∧ s1 = s1 ∧ ar = ar ∧ un = un ∧ dn = dn ∧ dn = dn ∧ True) ∧ tt)) : inDown1 sz x0 s0 x1 s1 ar un dn :=
  Eq.mp (show _ = _ by kernel_rfl) h
theorem vcArm0 (sz : Int) (x0 : (List AV)) (s0 : Int) (x1 : (List AV)) (s1 : Int) (ar : Bool) (un : Int) (dn : Bool) (p : Nat) (q : Nat) (p' : Nat) (q' : Nat) (n : Int) (h : (tt ∧ T1 ∧ T1 ∧ T1 ∧ T1 ∧ T1 ∧ T1 ∧ tt ∧ T1 ∧ T1 ∧ tt ∧ tt ∧ tt ∧ (sz = sz ∧ (0 < 1 ∧ x0 = x0 ∧ (List.length x0) = (List.length x0)) ∧ s0 = s0 ∧ (0 < 1 ∧ x1 = x1 ∧ (List.length x1) = (List.length x1)) ∧ s1 = s1 ∧ tt ∧ (armU n) = (@ite.{1} Int (n < 0) (Int.decLt n 0) (0 : Int) n) ∧ dn = dn ∧ True) ∧ tt)) : inArm0 sz x0 s0 x1 s1 ar un dn p q p' q' n :=
  Eq.mp (show _ = _ by kernel_rfl) h
theorem vcNew0 (sz : Int) (h : let w0_x := (0 < 1 ∧ (@List.nil.{0} AV) = [] ∧ @Eq.{1} Nat 0 0); (tt ∧ T1 ∧ T1 ∧ tt ∧ T1 ∧ T1 ∧ T1 ∧ (bif (decide (sz < 1024)) then (tt ∧ tt ∧ T1 ∧ T1 ∧ tt ∧ false = true ∧ False) else (T1 ∧ T1 ∧ T1 ∧ (bif (decide ((4194304 : Int) < sz)) then (tt ∧ T1 ∧ T1 ∧ tt ∧ false = true ∧ False) else (tt ∧ T1 ∧ T1 ∧ T1 ∧ T1 ∧ T1 ∧ tt ∧ tt ∧ (sz = sz ∧ w0_x ∧ (0 : Int) = 0 ∧ w0_x ∧ (0 : Int) = 0 ∧ false = false ∧ (0 : Int) = 0 ∧ false = false ∧ T1 ∧ (0 : Int) = 0 ∧ True) ∧ tt)))))) : inNew0 sz :=
  Eq.mp (show _ = _ by kernel_rfl) h
theorem vcNewZ0 (sz : Int) (h : (tt ∧ T1 ∧ T1 ∧ tt ∧ T1 ∧ T1 ∧ T1 ∧ (bif (decide (sz < 1024)) then (tt ∧ tt ∧ T1 ∧ T1 ∧ tt ∧ tt ∧ (T1 ∧ (11 : Int) = 11 ∧ True) ∧ tt) else (T1 ∧ T1 ∧ T1 ∧ (bif (decide ((4194304 : Int) < sz)) then (tt ∧ T1 ∧ T1 ∧ tt ∧ tt ∧ (T1 ∧ (11 : Int) = 11 ∧ True) ∧ tt) else (tt ∧ T1 ∧ T1 ∧ T1 ∧ T1 ∧ T1 ∧ tt ∧ false = true ∧ (T1 ∧ (11 : Int) = 0 ∧ True) ∧ tt)))))) : inNewZ0 sz :=
  Eq.mp (show _ = _ by kernel_rfl) h
theorem vcSafeO0 (sz : Int) (x0 : (List AV)) (s0 : Int) (x1 : (List AV)) (s1 : Int) (ar : Bool) (un : Int) (dn : Bool) (p : Nat) (q : Nat) (p' : Nat) (q' : Nat) (f : Int) (h : (tt ∧ T1 ∧ tt ∧ T1 ∧ (T1 ∧ (isFile f) = false) ∧ T1 ∧ tt ∧ T1 ∧ tt ∧ tt ∧ (sz = sz ∧ (0 < 1 ∧ x0 = x0 ∧ (List.length x0) = (List.length x0)) ∧ s0 = s0 ∧ (0 < 1 ∧ x1 = x1 ∧ (List.length x1) = (List.length x1)) ∧ s1 = s1 ∧ ar = ar ∧ un = un ∧ dn = dn ∧ (rdI f s0 s1) = 0 ∧ True) ∧ tt)) : inSafeO0 sz x0 s0 x1 s1 ar un dn p q p' q' f :=
  Eq.mp (show _ = _ by kernel_rfl) h
theorem vcSafeO1 (sz : Int) (x0 : (List AV)) (s0 : Int) (x1 : (List AV)) (s1 : Int) (ar : Bool) (un : Int) (dn : Bool) (f : Int) (h : (tt ∧ T1 ∧ tt ∧ T1 ∧ (T1 ∧ (isFile f) = false) ∧ T1 ∧ tt ∧ T1 ∧ tt ∧ tt ∧ (sz = sz ∧ x0 = x0 ∧ s0 = s0 ∧ x1 = x1 ∧ s1 = s1 ∧ ar = ar ∧ un = un ∧ dn = dn ∧ (rdI f s0 s1) = 0 ∧ True) ∧ tt)) : inSafeO1 sz x0 s0 x1 s1 ar un dn f :=
  Eq.mp (show _ = _ by kernel_rfl) h
theorem vcReadO0 (sz : Int) (x0 : (List AV)) (s0 : Int) (x1 : (List AV)) (s1 : Int) (ar : Bool) (un : Int) (dn : Bool) (p : Nat) (q : Nat) (p' : Nat) (q' : Nat) (f : Int) (h : (tt ∧ T1 ∧ tt ∧ T1 ∧ (T1 ∧ (isFile f) = false) ∧ T1 ∧ tt ∧ T1 ∧ tt ∧ tt ∧ (sz = sz ∧ (0 < 1 ∧ x0 = x0 ∧ (List.length x0) = (List.length x0)) ∧ s0 = s0 ∧ (0 < 1 ∧ x1 = x1 ∧ (List.length x1) = (List.length x1)) ∧ s1 = s1 ∧ ar = ar ∧ un = un ∧ dn = dn ∧ (rd2 f x0 x1) = [] ∧ True) ∧ tt)) : inReadO0 sz x0 s0 x1 s1 ar un dn p q p' q' f :=
  Eq.mp (show _ = _ by kernel_rfl) h
theorem vcReadO1 (sz : Int) (x0 : (List AV)) (s0 : Int) (x1 : (List AV)) (s1 : Int) (ar : Bool) (un : Int) (dn : Bool) (f : Int) (h : (tt ∧ T1 ∧ tt ∧ T1 ∧ (T1 ∧ (isFile f) = false) ∧ T1 ∧ tt ∧ T1 ∧ tt ∧ tt ∧ (sz = sz ∧ x0 = x0 ∧ s0 = s0 ∧ x1 = x1 ∧ s1 = s1 ∧ ar = ar ∧ un = un ∧ dn = dn ∧ (rd2 f x0 x1) = [] ∧ True) ∧ tt)) : inReadO1 sz x0 s0 x1 s1 ar un dn f :=
  Eq.mp (show _ = _ by kernel_rfl) h
theorem vcSyncO0 (sz : Int) (x0 : (List AV)) (s0 : Int) (x1 : (List AV)) (s1 : Int) (ar : Bool) (un : Int) (dn : Bool) (p : Nat) (q : Nat) (p' : Nat) (q' : Nat) (f : Int) (h : let q0 := (List.length x0); let q1 := (List.length x1); (tt ∧ T1 ∧ tt ∧ T1 ∧ T1 ∧ ((q0 = q0 ∧ q1 = q1 ∧ True) ∧ (isFile f) = false) ∧ T1 ∧ tt ∧ T1 ∧ T1 ∧ tt ∧ T1 ∧ T1 ∧ tt ∧ tt ∧ (sz = sz ∧ (0 < 1 ∧ x0 = x0 ∧ q0 = q0) ∧ (syS 0 f dn ar un s0 q0) = s0 ∧ (0 < 1 ∧ x1 = x1 ∧ q1 = q1) ∧ (syS 1 f dn ar un s1 q1) = s1 ∧ ar = ar ∧ (syU (syGo f dn) ar un) = un ∧ (syD (syGo f dn) ar un dn) = dn ∧ (syE f dn ar un) = 12 ∧ True) ∧ tt)) : inSyncO0 sz x0 s0 x1 s1 ar un dn p q p' q' f :=
  Eq.mp (show _ = _ by kernel_rfl) h
theorem vcSyncO1 (sz : Int) (x0 : (List AV)) (s0 : Int) (x1 : (List AV)) (s1 : Int) (ar : Bool) (un : Int) (dn : Bool) (f : Int) (h : (tt ∧ T1 ∧ tt ∧ T1 ∧ T1 ∧ (T1 ∧ (isFile f) = false) ∧ T1 ∧ tt ∧ T1 ∧ T1 ∧ tt ∧ T1 ∧ T1 ∧ tt ∧ tt ∧ (sz = sz ∧ x0 = x0 ∧ (syS 0 f dn ar un s0 (List.length x0)) = s0 ∧ x1 = x1 ∧ (syS 1 f dn ar un s1 (List.length x1)) = s1 ∧ ar = ar ∧ (syU (syGo f dn) ar un) = un ∧ (syD (syGo f dn) ar un dn) = dn ∧ (syE f dn ar un) = 12 ∧ True) ∧ tt)) : inSyncO1 sz x0 s0 x1 s1 ar un dn f :=
  Eq.mp (show _ = _ by kernel_rfl) h
theorem vcTrimO0 (sz : Int) (x0 : (List AV)) (s0 : Int) (x1 : (List AV)) (s1 : Int) (ar : Bool) (un : Int) (dn : Bool) (p : Nat) (q : Nat) (p' : Nat) (q' : Nat) (f : Int) (n : Int) (h : (tt ∧ T1 ∧ tt ∧ T1 ∧ T1 ∧ (((List.length x0) = (List.length x0) ∧ (List.length x1) = (List.length x1) ∧ True) ∧ (isFile f) = false) ∧ T1 ∧ tt ∧ T1 ∧ T1 ∧ tt ∧ T1 ∧ T1 ∧ tt ∧ tt ∧ (sz = sz ∧ (0 < 1 ∧ (trX 0 f n dn ar un x0 x1 x0) = x0 ∧ (List.length x0) = (List.length x0)) ∧ (trS 0 f n dn ar un x0 x1 s0) = s0 ∧ (0 < 1 ∧ (trX 1 f n dn ar un x0 x1 x1) = x1 ∧ (List.length x1) = (List.length x1)) ∧ (trS 1 f n dn ar un x0 x1 s1) = s1 ∧ ar = ar ∧ (syU (trGo f n dn x0 x1) ar un) = un ∧ (syD (trGo f n dn x0 x1) ar un dn) = dn ∧ (trE f n dn ar un x0 x1) = 12 ∧ True) ∧ tt)) : inTrimO0 sz x0 s0 x1 s1 ar un dn p q p' q' f n :=
  Eq.mp (show _ = _ by kernel_rfl) h
theorem vcAppO0 (sz : Int) (x0 : (List AV)) (s0 : Int) (x1 : (List AV)) (s1 : Int) (ar : Bool) (un : Int) (dn : Bool) (p : Nat) (q : Nat) (p' : Nat) (q' : Nat) (f : Int) (ys : (List AV)) (h : let q0 := (List.length x0); let q1 := (List.length x1); (tt ∧ T1 ∧ tt ∧ T1 ∧ T1 ∧ ((q0 = q0 ∧ q1 = q1 ∧ True) ∧ (isFile f) = false) ∧ T1 ∧ tt ∧ T1 ∧ T1 ∧ tt ∧ T1 ∧ T1 ∧ tt ∧ tt ∧ (sz = sz ∧ (0 < 1 ∧ (apX 0 f dn sz q0 q1 (limD ar un) x0 ys) = x0 ∧ q0 = q0) ∧ s0 = s0 ∧ (0 < 1 ∧ (apX 1 f dn sz q0 q1 (limD ar un) x1 ys) = x1 ∧ q1 = q1) ∧ s1 = s1 ∧ ar = ar ∧ (apU f dn sz q0 q1 (limD ar un) un (List.length ys)) = un ∧ (apD f dn sz q0 q1 (limD ar un) (List.length ys)) = dn ∧ (apE f dn sz q0 q1 (limD ar un) (List.length ys)) = 12 ∧ True) ∧ tt)) : inAppO0 sz x0 s0 x1 s1 ar un dn p q p' q' f ys :=
  Eq.mp (show _ = _ by kernel_rfl) h
theorem vcCrashN0 (sz : Int) (x0 : (List AV)) (s0 : Int) (x1 : (List AV)) (s1 : Int) (ar : Bool) (un : Int) (dn : Bool) (p : Nat) (q : Nat) (p' : Nat) (q' : Nat) (k0 : Int) (k1 : Int) (h : let q0 := (List.length x0); let q1 := (List.length x1); let q2 := (Int.decLt k0 0); let q3 := (Int.decLt k1 0); let w0_x := (tt ∧ tt); (tt ∧ T1 ∧ tt ∧ tt ∧ T1 ∧ w0_x ∧ tt ∧ T1 ∧ tt ∧ T1 ∧ ((0 : Int) ≤ (0 : Int) ∧ (0 : Int) < (2 : Int) ∧ 1 ≤ 2) ∧ T1 ∧ T1 ∧ tt ∧ T1 ∧ T1 ∧ T1 ∧ T1 ∧ ((0 : Int) ≤ (0 : Int) ∧ (0 : Int) < (2 : Int)) ∧ T1 ∧ tt ∧ T1 ∧ T1 ∧ T1 ∧ tt ∧ T1 ∧ T1 ∧ T1 ∧ T1 ∧ T1 ∧ tt ∧ T1 ∧ T1 ∧ T1 ∧ T1 ∧ tt ∧ T1 ∧ T1 ∧ T1 ∧ T1 ∧ T1 ∧ tt ∧ tt ∧ tt ∧ T1 ∧ T1 ∧ T1 ∧ T1 ∧ tt ∧ T1 ∧ T1 ∧ T1 ∧ tt ∧ (((0 : Int) ≤ (IntKind.wrap IntKind.i64 (s0 + (@ite.{1} Int ((IntKind.wrap IntKind.i64 ((q0 : Int) - s0)) < (@ite.{1} Int (k0 < 0) q2 (0 : Int) k0)) (Int.decLt (IntKind.wrap IntKind.i64 ((q0 : Int) - s0)) (@ite.{1} Int (k0 < 0) q2 (0 : Int) k0)) (IntKind.wrap IntKind.i64 ((q0 : Int) - s0)) (@ite.{1} Int (k0 < 0) q2 (0 : Int) k0)))) ∧ (IntKind.wrap IntKind.i64 (s0 + (@ite.{1} Int ((IntKind.wrap IntKind.i64 ((q0 : Int) - s0)) < (@ite.{1} Int (k0 < 0) q2 (0 : Int) k0)) (Int.decLt (IntKind.wrap IntKind.i64 ((q0 : Int) - s0)) (@ite.{1} Int (k0 < 0) q2 (0 : Int) k0)) (IntKind.wrap IntKind.i64 ((q0 : Int) - s0)) (@ite.{1} Int (k0 < 0) q2 (0 : Int) k0)))) ≤ (q0 : Int)) ∧ (okWidth 1 x0)) ∧ T1 ∧ T1 ∧ tt ∧ tt ∧ tt ∧ T1 ∧ T1 ∧ w0_x ∧ tt ∧ T1 ∧ tt ∧ T1 ∧ ((0 : Int) ≤ (1 : Int) ∧ (1 : Int) < (2 : Int) ∧ 2 ≤ 2) ∧ T1 ∧ T1 ∧ tt ∧ T1 ∧ T1 ∧ T1 ∧ T1 ∧ ((0 : Int) ≤ (1 : Int) ∧ (1 : Int) < (2 : Int)) ∧ T1 ∧ tt ∧ T1 ∧ T1 ∧ T1 ∧ tt ∧ T1 ∧ T1 ∧ T1 ∧ T1 ∧ T1 ∧ tt ∧ T1 ∧ T1 ∧ T1 ∧ T1 ∧ tt ∧ T1 ∧ T1 ∧ T1 ∧ T1 ∧ T1 ∧ tt ∧ tt ∧ tt ∧ T1 ∧ T1 ∧ T1 ∧ T1 ∧ tt ∧ T1 ∧ T1 ∧ T1 ∧ tt ∧ (((0 : Int) ≤ (IntKind.wrap IntKind.i64 (s1 + (@ite.{1} Int ((IntKind.wrap IntKind.i64 ((q1 : Int) - s1)) < (@ite.{1} Int (k1 < 0) q3 (0 : Int) k1)) (Int.decLt (IntKind.wrap IntKind.i64 ((q1 : Int) - s1)) (@ite.{1} Int (k1 < 0) q3 (0 : Int) k1)) (IntKind.wrap IntKind.i64 ((q1 : Int) - s1)) (@ite.{1} Int (k1 < 0) q3 (0 : Int) k1)))) ∧ (IntKind.wrap IntKind.i64 (s1 + (@ite.{1} Int ((IntKind.wrap IntKind.i64 ((q1 : Int) - s1)) < (@ite.{1} Int (k1 < 0) q3 (0 : Int) k1)) (Int.decLt (IntKind.wrap IntKind.i64 ((q1 : Int) - s1)) (@ite.{1} Int (k1 < 0) q3 (0 : Int) k1)) (IntKind.wrap IntKind.i64 ((q1 : Int) - s1)) (@ite.{1} Int (k1 < 0) q3 (0 : Int) k1)))) ≤ (q1 : Int)) ∧ (okWidth 1 x1)) ∧ T1 ∧ T1 ∧ tt ∧ tt ∧ tt ∧ T1 ∧ T1 ∧ w0_x ∧ tt ∧ T1 ∧ tt ∧ T1 ∧ T1 ∧ T1 ∧ T1 ∧ T1 ∧ tt ∧ T1 ∧ T1 ∧ tt ∧ T1 ∧ T1 ∧ tt ∧ tt ∧ tt ∧ (sz = sz ∧ (crX x0 s0 k0) = (@cutL AV x0 0 (Int.toNat (IntKind.wrap IntKind.i64 (s0 + (@ite.{1} Int ((IntKind.wrap IntKind.i64 ((q0 : Int) - s0)) < (@ite.{1} Int (k0 < 0) q2 (0 : Int) k0)) (Int.decLt (IntKind.wrap IntKind.i64 ((q0 : Int) - s0)) (@ite.{1} Int (k0 < 0) q2 (0 : Int) k0)) (IntKind.wrap IntKind.i64 ((q0 : Int) - s0)) (@ite.{1} Int (k0 < 0) q2 (0 : Int) k0)))))) ∧ (crS s0 q0 k0) = (IntKind.wrap IntKind.i64 (s0 + (@ite.{1} Int ((IntKind.wrap IntKind.i64 ((q0 : Int) - s0)) < (@ite.{1} Int (k0 < 0) q2 (0 : Int) k0)) (Int.decLt (IntKind.wrap IntKind.i64 ((q0 : Int) - s0)) (@ite.{1} Int (k0 < 0) q2 (0 : Int) k0)) (IntKind.wrap IntKind.i64 ((q0 : Int) - s0)) (@ite.{1} Int (k0 < 0) q2 (0 : Int) k0)))) ∧ (crX x1 s1 k1) = (@cutL AV x1 0 (Int.toNat (IntKind.wrap IntKind.i64 (s1 + (@ite.{1} Int ((IntKind.wrap IntKind.i64 ((q1 : Int) - s1)) < (@ite.{1} Int (k1 < 0) q3 (0 : Int) k1)) (Int.decLt (IntKind.wrap IntKind.i64 ((q1 : Int) - s1)) (@ite.{1} Int (k1 < 0) q3 (0 : Int) k1)) (IntKind.wrap IntKind.i64 ((q1 : Int) - s1)) (@ite.{1} Int (k1 < 0) q3 (0 : Int) k1)))))) ∧ (crS s1 q1 k1) = (IntKind.wrap IntKind.i64 (s1 + (@ite.{1} Int ((IntKind.wrap IntKind.i64 ((q1 : Int) - s1)) < (@ite.{1} Int (k1 < 0) q3 (0 : Int) k1)) (Int.decLt (IntKind.wrap IntKind.i64 ((q1 : Int) - s1)) (@ite.{1} Int (k1 < 0) q3 (0 : Int) k1)) (IntKind.wrap IntKind.i64 ((q1 : Int) - s1)) (@ite.{1} Int (k1 < 0) q3 (0 : Int) k1)))) ∧ false = false ∧ (0 : Int) = 0 ∧ false = false ∧ True) ∧ tt)) : inCrashN0 sz x0 s0 x1 s1 ar un dn p q p' q' k0 k1 :=
  Eq.mp (show _ = _ by kernel_rfl) h
theorem vcSafeI0K0 (sz : Int) (x0 : (List AV)) (s0 : Int) (x1 : (List AV)) (s1 : Int) (ar : Bool) (un : Int) (dn : Bool) (p : Nat) (q : Nat) (p' : Nat) (q' : Nat) (h : (tt ∧ T1 ∧ tt ∧ T1 ∧ (T1 ∧ True) ∧ T1 ∧ tt ∧ T1 ∧ T1 ∧ T1 ∧ T1 ∧ ((0 : Int) ≤ (0 : Int) ∧ (0 : Int) < (2 : Int)) ∧ T1 ∧ tt ∧ T1 ∧ tt ∧ tt ∧ (sz = sz ∧ (0 < 1 ∧ x0 = x0 ∧ (List.length x0) = (List.length x0)) ∧ s0 = s0 ∧ (0 < 1 ∧ x1 = x1 ∧ (List.length x1) = (List.length x1)) ∧ s1 = s1 ∧ ar = ar ∧ un = un ∧ dn = dn ∧ (rdI 0 s0 s1) = s0 ∧ True) ∧ tt)) : inSafeI0K0 sz x0 s0 x1 s1 ar un dn p q p' q' :=
  Eq.mp (show _ = _ by kernel_rfl) h
theorem vcSafeI0K1 (sz : Int) (x0 : (List AV)) (s0 : Int) (x1 : (List AV)) (s1 : Int) (ar : Bool) (un : Int) (dn : Bool) (p : Nat) (q : Nat) (p' : Nat) (q' : Nat) (h : (tt ∧ T1 ∧ tt ∧ T1 ∧ (T1 ∧ True) ∧ T1 ∧ tt ∧ T1 ∧ T1 ∧ T1 ∧ T1 ∧ ((0 : Int) ≤ (1 : Int) ∧ (1 : Int) < (2 : Int)) ∧ T1 ∧ tt ∧ T1 ∧ tt ∧ tt ∧ (sz = sz ∧ (0 < 1 ∧ x0 = x0 ∧ (List.length x0) = (List.length x0)) ∧ s0 = s0 ∧ (0 < 1 ∧ x1 = x1 ∧ (List.length x1) = (List.length x1)) ∧ s1 = s1 ∧ ar = ar ∧ un = un ∧ dn = dn ∧ (rdI 1 s0 s1) = s1 ∧ True) ∧ tt)) : inSafeI0K1 sz x0 s0 x1 s1 ar un dn p q p' q' :=
  Eq.mp (show _ = _ by kernel_rfl) h
theorem vcSafeI1K0 (sz : Int) (x0 : (List AV)) (s0 : Int) (x1 : (List AV)) (s1 : Int) (ar : Bool) (un : Int) (dn : Bool) (h : (tt ∧ T1 ∧ tt ∧ T1 ∧ (T1 ∧ True) ∧ T1 ∧ tt ∧ T1 ∧ T1 ∧ T1 ∧ T1 ∧ ((0 : Int) ≤ (0 : Int) ∧ (0 : Int) < (2 : Int)) ∧ T1 ∧ tt ∧ T1 ∧ tt ∧ tt ∧ (sz = sz ∧ x0 = x0 ∧ s0 = s0 ∧ x1 = x1 ∧ s1 = s1 ∧ ar = ar ∧ un = un ∧ dn = dn ∧ (rdI 0 s0 s1) = s0 ∧ True) ∧ tt)) : inSafeI1K0 sz x0 s0 x1 s1 ar un dn :=
  Eq.mp (show _ = _ by kernel_rfl) h
theorem vcSafeI1K1 (sz : Int) (x0 : (List AV)) (s0 : Int) (x1 : (List AV)) (s1 : Int) (ar : Bool) (un : Int) (dn : Bool) (h : (tt ∧ T1 ∧ tt ∧ T1 ∧ (T1 ∧ True) ∧ T1 ∧ tt ∧ T1 ∧ T1 ∧ T1 ∧ T1 ∧ ((0 : Int) ≤ (1 : Int) ∧ (1 : Int) < (2 : Int)) ∧ T1 ∧ tt ∧ T1 ∧ tt ∧ tt ∧ (sz = sz ∧ x0 = x0 ∧ s0 = s0 ∧ x1 = x1 ∧ s1 = s1 ∧ ar = ar ∧ un = un ∧ dn = dn ∧ (rdI 1 s0 s1) = s1 ∧ True) ∧ tt)) : inSafeI1K1 sz x0 s0 x1 s1 ar un dn :=
  Eq.mp (show _ = _ by kernel_rfl) h
theorem vcReadI0K0 (sz : Int) (x0 : (List AV)) (s0 : Int) (x1 : (List AV)) (s1 : Int) (ar : Bool) (un : Int) (dn : Bool) (p : Nat) (q : Nat) (p' : Nat) (q' : Nat) (h : (tt ∧ T1 ∧ tt ∧ T1 ∧ (T1 ∧ True) ∧ T1 ∧ tt ∧ T1 ∧ T1 ∧ T1 ∧ T1 ∧ ((0 : Int) ≤ (0 : Int) ∧ (0 : Int) < (2 : Int)) ∧ T1 ∧ tt ∧ (T1 ∧ (isBytes x0) ∧ (List.length x0) ≤ 140737488355328) ∧ ∀ v0 : (List AV), (v0 = x0) → ∀ v2 : Nat, (v2 = (List.length x0)) → T1 ∧ tt ∧ tt ∧ (sz = sz ∧ (0 < 1 ∧ x0 = x0 ∧ (List.length x0) = (List.length x0)) ∧ s0 = s0 ∧ (0 < 1 ∧ x1 = x1 ∧ (List.length x1) = (List.length x1)) ∧ s1 = s1 ∧ ar = ar ∧ un = un ∧ dn = dn ∧ (rd2 0 x0 x1) = v0 ∧ True) ∧ tt)) : inReadI0K0 sz x0 s0 x1 s1 ar un dn p q p' q' :=
  Eq.mp (show _ = _ by kernel_rfl) h
theorem vcReadI0K1 (sz : Int) (x0 : (List AV)) (s0 : Int) (x1 : (List AV)) (s1 : Int) (ar : Bool) (un : Int) (dn : Bool) (p : Nat) (q : Nat) (p' : Nat) (q' : Nat) (h : (tt ∧ T1 ∧ tt ∧ T1 ∧ (T1 ∧ True) ∧ T1 ∧ tt ∧ T1 ∧ T1 ∧ T1 ∧ T1 ∧ ((0 : Int) ≤ (1 : Int) ∧ (1 : Int) < (2 : Int)) ∧ T1 ∧ tt ∧ (T1 ∧ (isBytes x1) ∧ (List.length x1) ≤ 140737488355328) ∧ ∀ v0 : (List AV), (v0 = x1) → ∀ v2 : Nat, (v2 = (List.length x1)) → T1 ∧ tt ∧ tt ∧ (sz = sz ∧ (0 < 1 ∧ x0 = x0 ∧ (List.length x0) = (List.length x0)) ∧ s0 = s0 ∧ (0 < 1 ∧ x1 = x1 ∧ (List.length x1) = (List.length x1)) ∧ s1 = s1 ∧ ar = ar ∧ un = un ∧ dn = dn ∧ (rd2 1 x0 x1) = v0 ∧ True) ∧ tt)) : inReadI0K1 sz x0 s0 x1 s1 ar un dn p q p' q' :=
  Eq.mp (show _ = _ by kernel_rfl) h
theorem vcReadI1K0 (sz : Int) (x0 : (List AV)) (s0 : Int) (x1 : (List AV)) (s1 : Int) (ar : Bool) (un : Int) (dn : Bool) (h : (tt ∧ T1 ∧ tt ∧ T1 ∧ (T1 ∧ True) ∧ T1 ∧ tt ∧ T1 ∧ T1 ∧ T1 ∧ T1 ∧ ((0 : Int) ≤ (0 : Int) ∧ (0 : Int) < (2 : Int)) ∧ T1 ∧ tt ∧ (T1 ∧ (isBytes x0) ∧ (List.length x0) ≤ 140737488355328) ∧ ∀ v0 : (List AV), (v0 = x0) → ∀ v2 : Nat, (v2 = (List.length x0)) → T1 ∧ tt ∧ tt ∧ (sz = sz ∧ x0 = x0 ∧ s0 = s0 ∧ x1 = x1 ∧ s1 = s1 ∧ ar = ar ∧ un = un ∧ dn = dn ∧ (rd2 0 x0 x1) = v0 ∧ True) ∧ tt)) : inReadI1K0 sz x0 s0 x1 s1 ar un dn :=
  Eq.mp (show _ = _ by kernel_rfl) h
theorem vcReadI1K1 (sz : Int) (x0 : (List AV)) (s0 : Int) (x1 : (List AV)) (s1 : Int) (ar : Bool) (un : Int) (dn : Bool) (h : (tt ∧ T1 ∧ tt ∧ T1 ∧ (T1 ∧ True) ∧ T1 ∧ tt ∧ T1 ∧ T1 ∧ T1 ∧ T1 ∧ ((0 : Int) ≤ (1 : Int) ∧ (1 : Int) < (2 : Int)) ∧ T1 ∧ tt ∧ (T1 ∧ (isBytes x1) ∧ (List.length x1) ≤ 140737488355328) ∧ ∀ v0 : (List AV), (v0 = x1) → ∀ v2 : Nat, (v2 = (List.length x1)) → T1 ∧ tt ∧ tt ∧ (sz = sz ∧ x0 = x0 ∧ s0 = s0 ∧ x1 = x1 ∧ s1 = s1 ∧ ar = ar ∧ un = un ∧ dn = dn ∧ (rd2 1 x0 x1) = v0 ∧ True) ∧ tt)) : inReadI1K1 sz x0 s0 x1 s1 ar un dn :=
  Eq.mp (show _ = _ by kernel_rfl) h
theorem vcSyncI0K0 (sz : Int) (x0 : (List AV)) (s0 : Int) (x1 : (List AV)) (s1 : Int) (ar : Bool) (un : Int) (dn : Bool) (p : Nat) (q : Nat) (p' : Nat) (q' : Nat) (h : let q0 := (List.length x0); let q1 := (List.length x1); let w0_x := ((0 : Int) ≤ (0 : Int) ∧ (0 : Int) < (2 : Int)); (tt ∧ T1 ∧ tt ∧ T1 ∧ T1 ∧ ((q0 = q0 ∧ q1 = q1 ∧ True) ∧ True) ∧ T1 ∧ tt ∧ T1 ∧ T1 ∧ (bif ((mayE 0 dn) != 0) then (tt ∧ T1 ∧ T1 ∧ tt ∧ tt ∧ (sz = sz ∧ (0 < 1 ∧ x0 = x0 ∧ q0 = q0) ∧ (syS 0 0 dn ar un s0 q0) = s0 ∧ (0 < 1 ∧ x1 = x1 ∧ q1 = q1) ∧ (syS 1 0 dn ar un s1 q1) = s1 ∧ ar = ar ∧ (syU (syGo 0 dn) ar un) = un ∧ (syD (syGo 0 dn) ar un dn) = dn ∧ (syE 0 dn ar un) = (mayE 0 dn) ∧ True) ∧ tt) else (tt ∧ T1 ∧ ((q0 = q0 ∧ q1 = q1 ∧ True) ∧ True) ∧ ∀ v0 : Int, (v0 = sz) → ∀ v2 : (List AV), (v2 = x0) → ∀ v4 : Int, (v4 = s0) → ∀ v6 : (List AV), (v6 = x1) → ∀ v8 : Int, (v8 = s1) → ∀ v10 : Int, (v10 = (unU ar un)) → ∀ v12 : Nat, (v12 = q0) → ∀ v14 : Nat, (v14 = q1) → T1 ∧ (bif (Bool.not (unitK ar un)) then (tt ∧ T1 ∧ tt ∧ tt ∧ (sz = v0 ∧ (0 < 1 ∧ x0 = v2 ∧ v12 = (List.length v2)) ∧ (syS 0 0 dn ar un s0 q0) = v4 ∧ (0 < 1 ∧ x1 = v6 ∧ v14 = (List.length v6)) ∧ (syS 1 0 dn ar un s1 q1) = v8 ∧ ar = ar ∧ (syU (syGo 0 dn) ar un) = v10 ∧ (syD (syGo 0 dn) ar un dn) = (Bool.or dn (Bool.not (unitK ar un))) ∧ (syE 0 dn ar un) = 40 ∧ True) ∧ tt) else (tt ∧ T1 ∧ T1 ∧ T1 ∧ T1 ∧ T1 ∧ T1 ∧ w0_x ∧ T1 ∧ tt ∧ T1 ∧ T1 ∧ T1 ∧ w0_x ∧ T1 ∧ tt ∧ tt ∧ tt ∧ T1 ∧ tt ∧ tt ∧ (sz = v0 ∧ (0 < 1 ∧ x0 = v2 ∧ v12 = (List.length v2)) ∧ (syS 0 0 dn ar un s0 q0) = ((List.length v2) : Int) ∧ (0 < 1 ∧ x1 = v6 ∧ v14 = (List.length v6)) ∧ (syS 1 0 dn ar un s1 q1) = v8 ∧ ar = ar ∧ (syU (syGo 0 dn) ar un) = v10 ∧ (syD (syGo 0 dn) ar un dn) = (Bool.or dn (Bool.not (unitK ar un))) ∧ (syE 0 dn ar un) = 0 ∧ True) ∧ tt)))))) : inSyncI0K0 sz x0 s0 x1 s1 ar un dn p q p' q' :=
  Eq.mp (show _ = _ by kernel_rfl) h
theorem vcSyncI0K1 (sz : Int) (x0 : (List AV)) (s0 : Int) (x1 : (List AV)) (s1 : Int) (ar : Bool) (un : Int) (dn : Bool) (p : Nat) (q : Nat) (p' : Nat) (q' : Nat) (h : let q0 := (List.length x0); let q1 := (List.length x1); let w0_x := ((0 : Int) ≤ (1 : Int) ∧ (1 : Int) < (2 : Int)); (tt ∧ T1 ∧ tt ∧ T1 ∧ T1 ∧ ((q0 = q0 ∧ q1 = q1 ∧ True) ∧ True) ∧ T1 ∧ tt ∧ T1 ∧ T1 ∧ (bif ((mayE 1 dn) != 0) then (tt ∧ T1 ∧ T1 ∧ tt ∧ tt ∧ (sz = sz ∧ (0 < 1 ∧ x0 = x0 ∧ q0 = q0) ∧ (syS 0 1 dn ar un s0 q0) = s0 ∧ (0 < 1 ∧ x1 = x1 ∧ q1 = q1) ∧ (syS 1 1 dn ar un s1 q1) = s1 ∧ ar = ar ∧ (syU (syGo 1 dn) ar un) = un ∧ (syD (syGo 1 dn) ar un dn) = dn ∧ (syE 1 dn ar un) = (mayE 1 dn) ∧ True) ∧ tt) else (tt ∧ T1 ∧ ((q0 = q0 ∧ q1 = q1 ∧ True) ∧ True) ∧ ∀ v0 : Int, (v0 = sz) → ∀ v2 : (List AV), (v2 = x0) → ∀ v4 : Int, (v4 = s0) → ∀ v6 : (List AV), (v6 = x1) → ∀ v8 : Int, (v8 = s1) → ∀ v10 : Int, (v10 = (unU ar un)) → ∀ v12 : Nat, (v12 = q0) → ∀ v14 : Nat, (v14 = q1) → T1 ∧ (bif (Bool.not (unitK ar un)) then (tt ∧ T1 ∧ tt ∧ tt ∧ (sz = v0 ∧ (0 < 1 ∧ x0 = v2 ∧ v12 = (List.length v2)) ∧ (syS 0 1 dn ar un s0 q0) = v4 ∧ (0 < 1 ∧ x1 = v6 ∧ v14 = (List.length v6)) ∧ (syS 1 1 dn ar un s1 q1) = v8 ∧ ar = ar ∧ (syU (syGo 1 dn) ar un) = v10 ∧ (syD (syGo 1 dn) ar un dn) = (Bool.or dn (Bool.not (unitK ar un))) ∧ (syE 1 dn ar un) = 40 ∧ True) ∧ tt) else (tt ∧ T1 ∧ T1 ∧ T1 ∧ T1 ∧ T1 ∧ T1 ∧ w0_x ∧ T1 ∧ tt ∧ T1 ∧ T1 ∧ T1 ∧ w0_x ∧ T1 ∧ tt ∧ tt ∧ tt ∧ T1 ∧ tt ∧ tt ∧ (sz = v0 ∧ (0 < 1 ∧ x0 = v2 ∧ v12 = (List.length v2)) ∧ (syS 0 1 dn ar un s0 q0) = v4 ∧ (0 < 1 ∧ x1 = v6 ∧ v14 = (List.length v6)) ∧ (syS 1 1 dn ar un s1 q1) = ((List.length v6) : Int) ∧ ar = ar ∧ (syU (syGo 1 dn) ar un) = v10 ∧ (syD (syGo 1 dn) ar un dn) = (Bool.or dn (Bool.not (unitK ar un))) ∧ (syE 1 dn ar un) = 0 ∧ True) ∧ tt)))))) : inSyncI0K1 sz x0 s0 x1 s1 ar un dn p q p' q' :=
  Eq.mp (show _ = _ by kernel_rfl) h
theorem vcSyncI1K0 (sz : Int) (x0 : (List AV)) (s0 : Int) (x1 : (List AV)) (s1 : Int) (ar : Bool) (un : Int) (dn : Bool) (h : let q0 := (syS 0 0 dn ar un s0 (List.length x0)); let q1 := (syS 1 0 dn ar un s1 (List.length x1)); let w0_x := ((0 : Int) ≤ (0 : Int) ∧ (0 : Int) < (2 : Int)); (tt ∧ T1 ∧ tt ∧ T1 ∧ T1 ∧ (T1 ∧ True) ∧ T1 ∧ tt ∧ T1 ∧ T1 ∧ (bif ((mayE 0 dn) != 0) then (tt ∧ T1 ∧ T1 ∧ tt ∧ tt ∧ (sz = sz ∧ x0 = x0 ∧ q0 = s0 ∧ x1 = x1 ∧ q1 = s1 ∧ ar = ar ∧ (syU (syGo 0 dn) ar un) = un ∧ (syD (syGo 0 dn) ar un dn) = dn ∧ (syE 0 dn ar un) = (mayE 0 dn) ∧ True) ∧ tt) else (tt ∧ T1 ∧ (T1 ∧ True) ∧ ∀ v0 : Int, (v0 = sz) → ∀ v2 : (List AV), (v2 = x0) → ∀ v4 : Int, (v4 = s0) → ∀ v6 : (List AV), (v6 = x1) → ∀ v8 : Int, (v8 = s1) → ∀ v10 : Int, (v10 = (unU ar un)) → T1 ∧ (bif (Bool.not (unitK ar un)) then (tt ∧ T1 ∧ tt ∧ tt ∧ (sz = v0 ∧ x0 = v2 ∧ q0 = v4 ∧ x1 = v6 ∧ q1 = v8 ∧ ar = ar ∧ (syU (syGo 0 dn) ar un) = v10 ∧ (syD (syGo 0 dn) ar un dn) = (Bool.or dn (Bool.not (unitK ar un))) ∧ (syE 0 dn ar un) = 40 ∧ True) ∧ tt) else (tt ∧ T1 ∧ T1 ∧ T1 ∧ T1 ∧ T1 ∧ T1 ∧ w0_x ∧ T1 ∧ tt ∧ T1 ∧ T1 ∧ T1 ∧ w0_x ∧ T1 ∧ tt ∧ tt ∧ tt ∧ T1 ∧ tt ∧ tt ∧ (sz = v0 ∧ x0 = v2 ∧ q0 = ((List.length v2) : Int) ∧ x1 = v6 ∧ q1 = v8 ∧ ar = ar ∧ (syU (syGo 0 dn) ar un) = v10 ∧ (syD (syGo 0 dn) ar un dn) = (Bool.or dn (Bool.not (unitK ar un))) ∧ (syE 0 dn ar un) = 0 ∧ True) ∧ tt)))))) : inSyncI1K0 sz x0 s0 x1 s1 ar un dn :=
  Eq.mp (show _ = _ by kernel_rfl) h
theorem vcSyncI1K1 (sz : Int) (x0 : (List AV)) (s0 : Int) (x1 : (List AV)) (s1 : Int) (ar : Bool) (un : Int) (dn : Bool) (h : let q0 := (syS 0 1 dn ar un s0 (List.length x0)); let q1 := (syS 1 1 dn ar un s1 (List.length x1)); let w0_x := ((0 : Int) ≤ (1 : Int) ∧ (1 : Int) < (2 : Int)); (tt ∧ T1 ∧ tt ∧ T1 ∧ T1 ∧ (T1 ∧ True) ∧ T1 ∧ tt ∧ T1 ∧ T1 ∧ (bif ((mayE 1 dn) != 0) then (tt ∧ T1 ∧ T1 ∧ tt ∧ tt ∧ (sz = sz ∧ x0 = x0 ∧ q0 = s0 ∧ x1 = x1 ∧ q1 = s1 ∧ ar = ar ∧ (syU (syGo 1 dn) ar un) = un ∧ (syD (syGo 1 dn) ar un dn) = dn ∧ (syE 1 dn ar un) = (mayE 1 dn) ∧ True) ∧ tt) else (tt ∧ T1 ∧ (T1 ∧ True) ∧ ∀ v0 : Int, (v0 = sz) → ∀ v2 : (List AV), (v2 = x0) → ∀ v4 : Int, (v4 = s0) → ∀ v6 : (List AV), (v6 = x1) → ∀ v8 : Int, (v8 = s1) → ∀ v10 : Int, (v10 = (unU ar un)) → T1 ∧ (bif (Bool.not (unitK ar un)) then (tt ∧ T1 ∧ tt ∧ tt ∧ (sz = v0 ∧ x0 = v2 ∧ q0 = v4 ∧ x1 = v6 ∧ q1 = v8 ∧ ar = ar ∧ (syU (syGo 1 dn) ar un) = v10 ∧ (syD (syGo 1 dn) ar un dn) = (Bool.or dn (Bool.not (unitK ar un))) ∧ (syE 1 dn ar un) = 40 ∧ True) ∧ tt) else (tt ∧ T1 ∧ T1 ∧ T1 ∧ T1 ∧ T1 ∧ T1 ∧ w0_x ∧ T1 ∧ tt ∧ T1 ∧ T1 ∧ T1 ∧ w0_x ∧ T1 ∧ tt ∧ tt ∧ tt ∧ T1 ∧ tt ∧ tt ∧ (sz = v0 ∧ x0 = v2 ∧ q0 = v4 ∧ x1 = v6 ∧ q1 = ((List.length v6) : Int) ∧ ar = ar ∧ (syU (syGo 1 dn) ar un) = v10 ∧ (syD (syGo 1 dn) ar un dn) = (Bool.or dn (Bool.not (unitK ar un))) ∧ (syE 1 dn ar un) = 0 ∧ True) ∧ tt)))))) : inSyncI1K1 sz x0 s0 x1 s1 ar un dn :=
  Eq.mp (show _ = _ by kernel_rfl) h
theorem vcTrimI0K0 (sz : Int) (x0 : (List AV)) (s0 : Int) (x1 : (List AV)) (s1 : Int) (ar : Bool) (un : Int) (dn : Bool) (p : Nat) (q : Nat) (p' : Nat) (q' : Nat) (n : Int) (h : let q0 := (List.length x0); let q1 := (trGo 0 n dn x0 x1); let q2 := (List.length x1); let q3 := (trX 0 0 n dn ar un x0 x1 x0); let q4 := (trS 0 0 n dn ar un x0 x1 s0); let q5 := (trX 1 0 n dn ar un x0 x1 x1); let q6 := (trS 1 0 n dn ar un x0 x1 s1); let q7 := (trE 0 n dn ar un x0 x1); let q8 := (syD q1 ar un dn); let w0_x := (sz = sz ∧ (0 < 1 ∧ q3 = x0 ∧ q0 = q0) ∧ q4 = s0 ∧ (0 < 1 ∧ q5 = x1 ∧ q2 = q2) ∧ q6 = s1 ∧ ar = ar ∧ (syU q1 ar un) = un ∧ q8 = dn ∧ q7 = 12 ∧ True); let w1_x := (@cutL AV x0 0 (Int.toNat n)); let w2_x := ((0 : Int) ≤ (0 : Int) ∧ (0 : Int) < (2 : Int)); (tt ∧ T1 ∧ tt ∧ T1 ∧ T1 ∧ ((q0 = q0 ∧ q2 = q2 ∧ True) ∧ True) ∧ T1 ∧ tt ∧ T1 ∧ T1 ∧ (bif ((mayE 0 dn) != 0) then (tt ∧ T1 ∧ T1 ∧ tt ∧ tt ∧ (sz = sz ∧ (0 < 1 ∧ q3 = x0 ∧ q0 = q0) ∧ q4 = s0 ∧ (0 < 1 ∧ q5 = x1 ∧ q2 = q2) ∧ q6 = s1 ∧ ar = ar ∧ (syU q1 ar un) = un ∧ q8 = dn ∧ q7 = (mayE 0 dn) ∧ True) ∧ tt) else (tt ∧ T1 ∧ T1 ∧ T1 ∧ T1 ∧ w2_x ∧ tt ∧ T1 ∧ tt ∧ tt ∧ T1 ∧ T1 ∧ T1 ∧ (bif (decide (n < 0)) then (tt ∧ tt ∧ T1 ∧ tt ∧ tt ∧ w0_x ∧ tt) else (T1 ∧ T1 ∧ tt ∧ T1 ∧ T1 ∧ T1 ∧ (bif (decide ((q0 : Int) < n)) then (tt ∧ T1 ∧ tt ∧ tt ∧ w0_x ∧ tt) else (tt ∧ T1 ∧ ((q0 = q0 ∧ q2 = q2 ∧ True) ∧ True) ∧ ∀ v0 : Int, (v0 = sz) → ∀ v2 : (List AV), (v2 = x0) → ∀ v4 : Int, (v4 = s0) → ∀ v6 : (List AV), (v6 = x1) → ∀ v8 : Int, (v8 = s1) → ∀ v10 : Int, (v10 = (unU ar un)) → ∀ v12 : Nat, (v12 = q0) → ∀ v14 : Nat, (v14 = q2) → T1 ∧ (bif (Bool.not (unitK ar un)) then (tt ∧ T1 ∧ tt ∧ tt ∧ (sz = v0 ∧ (0 < 1 ∧ q3 = v2 ∧ v12 = (List.length v2)) ∧ q4 = v4 ∧ (0 < 1 ∧ q5 = v6 ∧ v14 = (List.length v6)) ∧ q6 = v8 ∧ ar = ar ∧ (syU q1 ar un) = v10 ∧ q8 = (Bool.or dn (Bool.not (unitK ar un))) ∧ q7 = 40 ∧ True) ∧ tt) else (tt ∧ T1 ∧ T1 ∧ T1 ∧ tt ∧ T1 ∧ (((0 : Int) ≤ n ∧ n ≤ (q0 : Int)) ∧ (okWidth 1 x0)) ∧ (T1 ∧ (isBytes w1_x) ∧ (List.length w1_x) ≤ 140737488355328) ∧ ∀ v16 : (List AV), (v16 = w1_x) → ∀ v18 : Nat, (v18 = (List.length w1_x)) → T1 ∧ tt ∧ T1 ∧ T1 ∧ T1 ∧ T1 ∧ T1 ∧ w2_x ∧ tt ∧ tt ∧ tt ∧ T1 ∧ tt ∧ tt ∧ (sz = v0 ∧ (0 < 1 ∧ q3 = v16 ∧ v18 = (List.length v16)) ∧ q4 = (@ite.{1} Int (n < s0) (Int.decLt n s0) n s0) ∧ (0 < 1 ∧ q5 = v6 ∧ v14 = (List.length v6)) ∧ q6 = v8 ∧ ar = ar ∧ (syU q1 ar un) = v10 ∧ q8 = (Bool.or dn (Bool.not (unitK ar un))) ∧ q7 = 0 ∧ True) ∧ tt)))))))))) : inTrimI0K0 sz x0 s0 x1 s1 ar un dn p q p' q' n :=
  Eq.mp (show _ = _ by kernel_rfl) h
theorem vcTrimI0K1 (sz : Int) (x0 : (List AV)) (s0 : Int) (x1 : (List AV)) (s1 : Int) (ar : Bool) (un : Int) (dn : Bool) (p : Nat) (q : Nat) (p' : Nat) (q' : Nat) (n : Int) (h : let q0 := (List.length x1); let q1 := (trGo 1 n dn x0 x1); let q2 := (List.length x0); let q3 := (trX 0 1 n dn ar un x0 x1 x0); let q4 := (trS 0 1 n dn ar un x0 x1 s0); let q5 := (trX 1 1 n dn ar un x0 x1 x1); let q6 := (trS 1 1 n dn ar un x0 x1 s1); let q7 := (trE 1 n dn ar un x0 x1); let q8 := (syD q1 ar un dn); let w0_x := (sz = sz ∧ (0 < 1 ∧ q3 = x0 ∧ q2 = q2) ∧ q4 = s0 ∧ (0 < 1 ∧ q5 = x1 ∧ q0 = q0) ∧ q6 = s1 ∧ ar = ar ∧ (syU q1 ar un) = un ∧ q8 = dn ∧ q7 = 12 ∧ True); let w1_x := (@cutL AV x1 0 (Int.toNat n)); let w2_x := ((0 : Int) ≤ (1 : Int) ∧ (1 : Int) < (2 : Int)); (tt ∧ T1 ∧ tt ∧ T1 ∧ T1 ∧ ((q2 = q2 ∧ q0 = q0 ∧ True) ∧ True) ∧ T1 ∧ tt ∧ T1 ∧ T1 ∧ (bif ((mayE 1 dn) != 0) then (tt ∧ T1 ∧ T1 ∧ tt ∧ tt ∧ (sz = sz ∧ (0 < 1 ∧ q3 = x0 ∧ q2 = q2) ∧ q4 = s0 ∧ (0 < 1 ∧ q5 = x1 ∧ q0 = q0) ∧ q6 = s1 ∧ ar = ar ∧ (syU q1 ar un) = un ∧ q8 = dn ∧ q7 = (mayE 1 dn) ∧ True) ∧ tt) else (tt ∧ T1 ∧ T1 ∧ T1 ∧ T1 ∧ w2_x ∧ tt ∧ T1 ∧ tt ∧ tt ∧ T1 ∧ T1 ∧ T1 ∧ (bif (decide (n < 0)) then (tt ∧ tt ∧ T1 ∧ tt ∧ tt ∧ w0_x ∧ tt) else (T1 ∧ T1 ∧ tt ∧ T1 ∧ T1 ∧ T1 ∧ (bif (decide ((q0 : Int) < n)) then (tt ∧ T1 ∧ tt ∧ tt ∧ w0_x ∧ tt) else (tt ∧ T1 ∧ ((q2 = q2 ∧ q0 = q0 ∧ True) ∧ True) ∧ ∀ v0 : Int, (v0 = sz) → ∀ v2 : (List AV), (v2 = x0) → ∀ v4 : Int, (v4 = s0) → ∀ v6 : (List AV), (v6 = x1) → ∀ v8 : Int, (v8 = s1) → ∀ v10 : Int, (v10 = (unU ar un)) → ∀ v12 : Nat, (v12 = q2) → ∀ v14 : Nat, (v14 = q0) → T1 ∧ (bif (Bool.not (unitK ar un)) then (tt ∧ T1 ∧ tt ∧ tt ∧ (sz = v0 ∧ (0 < 1 ∧ q3 = v2 ∧ v12 = (List.length v2)) ∧ q4 = v4 ∧ (0 < 1 ∧ q5 = v6 ∧ v14 = (List.length v6)) ∧ q6 = v8 ∧ ar = ar ∧ (syU q1 ar un) = v10 ∧ q8 = (Bool.or dn (Bool.not (unitK ar un))) ∧ q7 = 40 ∧ True) ∧ tt) else (tt ∧ T1 ∧ T1 ∧ T1 ∧ tt ∧ T1 ∧ (((0 : Int) ≤ n ∧ n ≤ (q0 : Int)) ∧ (okWidth 1 x1)) ∧ (T1 ∧ (isBytes w1_x) ∧ (List.length w1_x) ≤ 140737488355328) ∧ ∀ v16 : (List AV), (v16 = w1_x) → ∀ v18 : Nat, (v18 = (List.length w1_x)) → T1 ∧ tt ∧ T1 ∧ T1 ∧ T1 ∧ T1 ∧ T1 ∧ w2_x ∧ tt ∧ tt ∧ tt ∧ T1 ∧ tt ∧ tt ∧ (sz = v0 ∧ (0 < 1 ∧ q3 = v2 ∧ v12 = (List.length v2)) ∧ q4 = v4 ∧ (0 < 1 ∧ q5 = v16 ∧ v18 = (List.length v16)) ∧ q6 = (@ite.{1} Int (n < s1) (Int.decLt n s1) n s1) ∧ ar = ar ∧ (syU q1 ar un) = v10 ∧ q8 = (Bool.or dn (Bool.not (unitK ar un))) ∧ q7 = 0 ∧ True) ∧ tt)))))))))) : inTrimI0K1 sz x0 s0 x1 s1 ar un dn p q p' q' n :=
  Eq.mp (show _ = _ by kernel_rfl) h
theorem vcAppI0K0 (sz : Int) (x0 : (List AV)) (s0 : Int) (x1 : (List AV)) (s1 : Int) (ar : Bool) (un : Int) (dn : Bool) (p : Nat) (q : Nat) (p' : Nat) (q' : Nat) (ys : (List AV)) (h : let q0 := (List.length x0); let q1 := (List.length x1); let q2 := (List.length ys); let q3 := (limD ar un); let q4 := (apX 0 0 dn sz q0 q1 q3 x0 ys); let q5 := (apX 1 0 dn sz q0 q1 q3 x1 ys); let q6 := (apU 0 dn sz q0 q1 q3 un q2); let q7 := (apD 0 dn sz q0 q1 q3 q2); let q8 := (apE 0 dn sz q0 q1 q3 q2); let w3_x := ((0 : Int) ≤ (0 : Int) ∧ (0 : Int) < (2 : Int)); (tt ∧ T1 ∧ tt ∧ T1 ∧ T1 ∧ ((q0 = q0 ∧ q1 = q1 ∧ True) ∧ True) ∧ T1 ∧ tt ∧ T1 ∧ T1 ∧ (bif ((mayE 0 dn) != 0) then (tt ∧ T1 ∧ T1 ∧ tt ∧ tt ∧ (sz = sz ∧ (0 < 1 ∧ q4 = x0 ∧ q0 = q0) ∧ s0 = s0 ∧ (0 < 1 ∧ q5 = x1 ∧ q1 = q1) ∧ s1 = s1 ∧ ar = ar ∧ q6 = un ∧ q7 = dn ∧ q8 = (mayE 0 dn) ∧ True) ∧ tt) else (tt ∧ T1 ∧ T1 ∧ T1 ∧ ((q0 = q0 ∧ q1 = q1 ∧ True) ∧ (dkOK sz x0 s0 x1 s1 ar un)) ∧ ∀ v0 : Int, (v0 = ((sz - (q0 : Int)) - (q1 : Int))) → ∀ v2 : Int, (v2 = sz) → ∀ v4 : (List AV), (v4 = x0) → ∀ v6 : Int, (v6 = s0) → ∀ v8 : (List AV), (v8 = x1) → ∀ v10 : Int, (v10 = s1) → ∀ v12 : Int, (v12 = un) → ∀ v14 : Nat, (v14 = q0) → ∀ v16 : Nat, (v16 = q1) → T1 ∧ (bif (decide (v0 < (q2 : Int))) then (tt ∧ T1 ∧ tt ∧ tt ∧ (sz = v2 ∧ (0 < 1 ∧ q4 = v4 ∧ v14 = (List.length v4)) ∧ s0 = v6 ∧ (0 < 1 ∧ q5 = v8 ∧ v16 = (List.length v8)) ∧ s1 = v10 ∧ ar = ar ∧ q6 = v12 ∧ q7 = dn ∧ q8 = 14 ∧ True) ∧ tt) else (tt ∧ T1 ∧ T1 ∧ T1 ∧ (@Exists.{1} (loopApp 0 sz x0 s0 x1 s1 ar un dn ys).V (fun (v18 : Nat) => ((((AV.ptr 0 0) = (AV.ptr 0 0) ∧ (AV.int IntKind.i64 0) = (AV.int IntKind.i64 0) ∧ (AV.sl ys Own.no) = (AV.sl ys Own.no) ∧ (AV.int IntKind.i64 (q2 : Int)) = (AV.int IntKind.i64 (q2 : Int)) ∧ (AV.int IntKind.i64 0) = (AV.int IntKind.i64 (v18 : Int)) ∧ True) ∧ ((@Option.some.{0} (List AV) [(AV.int IntKind.i64 v2), (AV.sl v4 (Own.row 0 1 5)), (AV.int IntKind.i64 v6), (AV.sl v8 (Own.row 0 3 5)), (AV.int IntKind.i64 v10), (AV.bool ar), (AV.int IntKind.i64 v12), (AV.bool dn)]) = (@Option.some.{0} (List AV) [(AV.int IntKind.i64 sz), (AV.sl (apL 0 0 v18 x0 ys) (Own.row 0 1 5)), (AV.int IntKind.i64 s0), (AV.sl (apL 1 0 v18 x1 ys) (Own.row 0 3 5)), (AV.int IntKind.i64 s1), (AV.bool ar), (AV.int IntKind.i64 (unK un v18)), (AV.bool false)]) ∧ True) ∧ (v14 = (List.length (apL 0 0 v18 x0 ys)) ∧ v16 = (List.length (apL 1 0 v18 x1 ys)) ∧ True) ∧ tt ∧ tt) ∧ v18 ≤ q2 ∧ v18 ≤ (apN q3 q2)))) ∧ ∀ v18 : Nat, let w0_18 := (List.length (apL 0 0 v18 x0 ys)); let w1_18 := (List.length (apL 1 0 v18 x1 ys)); let w2_18 := (Bool.not (unitK ar (unK un v18))); (v18 ≤ q2 ∧ v18 ≤ (apN q3 q2)) → tt ∧ T1 ∧ (bif (decide ((v18 : Int) < (q2 : Int))) then (tt ∧ ((0 : Int) ≤ (v18 : Int) ∧ (v18 : Int) < (q2 : Int) ∧ (okElem 1 ys (Int.toNat (v18 : Int)))) ∧ (okRead [(Kd.int IntKind.u8)] (elemAt ys (Int.toNat (v18 : Int))) 0) ∧ T1 ∧ tt ∧ T1 ∧ ((w0_18 = w0_18 ∧ w1_18 = w1_18 ∧ True) ∧ True) ∧ ∀ v20 : Int, (v20 = sz) → ∀ v22 : (List AV), (v22 = (apL 0 0 v18 x0 ys)) → ∀ v24 : Int, (v24 = s0) → ∀ v26 : (List AV), (v26 = (apL 1 0 v18 x1 ys)) → ∀ v28 : Int, (v28 = s1) → ∀ v30 : Int, (v30 = (unU ar (unK un v18))) → ∀ v32 : Nat, (v32 = w0_18) → ∀ v34 : Nat, (v34 = w1_18) → T1 ∧ (bif w2_18 then (tt ∧ T1 ∧ tt ∧ tt ∧ (sz = v20 ∧ (0 < 1 ∧ q4 = v22 ∧ v32 = (List.length v22)) ∧ s0 = v24 ∧ (0 < 1 ∧ q5 = v26 ∧ v34 = (List.length v26)) ∧ s1 = v28 ∧ ar = ar ∧ q6 = v30 ∧ q7 = w2_18 ∧ q8 = 40 ∧ True) ∧ tt) else (tt ∧ T1 ∧ T1 ∧ T1 ∧ T1 ∧ T1 ∧ T1 ∧ w3_x ∧ T1 ∧ tt ∧ T1 ∧ T1 ∧ (v32 = (List.length v22) ∧ (((List.length v22) + 1) * 1) ≤ 140737488355328 ∧ ((List.length v22) + 1) ≤ 9223372036854775807 ∧ (okWidth 1 v22) ∧ (okWidth 1 [(AV.int IntKind.u8 (rdInt (elemAt ys (Int.toNat (v18 : Int))) 0))])) ∧ T1 ∧ T1 ∧ w3_x ∧ T1 ∧ tt ∧ tt ∧ tt ∧ T1 ∧ T1 ∧ (@Exists.{1} (loopApp 0 sz x0 s0 x1 s1 ar un dn ys).V (fun (v36 : Nat) => ((((AV.ptr 0 0) = (AV.ptr 0 0) ∧ (AV.int IntKind.i64 0) = (AV.int IntKind.i64 0) ∧ (AV.sl ys Own.no) = (AV.sl ys Own.no) ∧ (AV.int IntKind.i64 (q2 : Int)) = (AV.int IntKind.i64 (q2 : Int)) ∧ (AV.int IntKind.i64 (IntKind.wrap IntKind.i64 ((v18 : Int) + (1 : Int)))) = (AV.int IntKind.i64 (v36 : Int)) ∧ True) ∧ ((@Option.some.{0} (List AV) [(AV.int IntKind.i64 v20), (AV.sl (@catL AV v22 [(AV.int IntKind.u8 (rdInt (elemAt ys (Int.toNat (v18 : Int))) 0))]) (Own.row 0 1 5)), (AV.int IntKind.i64 v24), (AV.sl v26 (Own.row 0 3 5)), (AV.int IntKind.i64 v28), (AV.bool ar), (AV.int IntKind.i64 v30), (AV.bool w2_18)]) = (@Option.some.{0} (List AV) [(AV.int IntKind.i64 sz), (AV.sl (apL 0 0 v36 x0 ys) (Own.row 0 1 5)), (AV.int IntKind.i64 s0), (AV.sl (apL 1 0 v36 x1 ys) (Own.row 0 3 5)), (AV.int IntKind.i64 s1), (AV.bool ar), (AV.int IntKind.i64 (unK un v36)), (AV.bool false)]) ∧ True) ∧ (((List.length v22) + 1) = (List.length (apL 0 0 v36 x0 ys)) ∧ v34 = (List.length (apL 1 0 v36 x1 ys)) ∧ True) ∧ tt ∧ tt) ∧ (v36 ≤ q2 ∧ v36 ≤ (apN q3 q2)) ∧ (q2 - v36) < (q2 - v18))))))) else (tt ∧ T1 ∧ tt ∧ tt ∧ (sz = sz ∧ (0 < 1 ∧ q4 = (apL 0 0 v18 x0 ys) ∧ w0_18 = w0_18) ∧ s0 = s0 ∧ (0 < 1 ∧ q5 = (apL 1 0 v18 x1 ys) ∧ w1_18 = w1_18) ∧ s1 = s1 ∧ ar = ar ∧ q6 = (unK un v18) ∧ q7 = false ∧ q8 = 0 ∧ True) ∧ tt)))))))) : inAppI0K0 sz x0 s0 x1 s1 ar un dn p q p' q' ys :=
  Eq.mp (show _ = _ by kernel_rfl) h
theorem vcAppI0K1 (sz : Int) (x0 : (List AV)) (s0 : Int) (x1 : (List AV)) (s1 : Int) (ar : Bool) (un : Int) (dn : Bool) (p : Nat) (q : Nat) (p' : Nat) (q' : Nat) (ys : (List AV)) (h : let q0 := (List.length x0); let q1 := (List.length x1); let q2 := (List.length ys); let q3 := (limD ar un); let q4 := (apX 0 1 dn sz q0 q1 q3 x0 ys); let q5 := (apX 1 1 dn sz q0 q1 q3 x1 ys); let q6 := (apU 1 dn sz q0 q1 q3 un q2); let q7 := (apD 1 dn sz q0 q1 q3 q2); let q8 := (apE 1 dn sz q0 q1 q3 q2); let w3_x := ((0 : Int) ≤ (1 : Int) ∧ (1 : Int) < (2 : Int)); (tt ∧ T1 ∧ tt ∧ T1 ∧ T1 ∧ ((q0 = q0 ∧ q1 = q1 ∧ True) ∧ True) ∧ T1 ∧ tt ∧ T1 ∧ T1 ∧ (bif ((mayE 1 dn) != 0) then (tt ∧ T1 ∧ T1 ∧ tt ∧ tt ∧ (sz = sz ∧ (0 < 1 ∧ q4 = x0 ∧ q0 = q0) ∧ s0 = s0 ∧ (0 < 1 ∧ q5 = x1 ∧ q1 = q1) ∧ s1 = s1 ∧ ar = ar ∧ q6 = un ∧ q7 = dn ∧ q8 = (mayE 1 dn) ∧ True) ∧ tt) else (tt ∧ T1 ∧ T1 ∧ T1 ∧ ((q0 = q0 ∧ q1 = q1 ∧ True) ∧ (dkOK sz x0 s0 x1 s1 ar un)) ∧ ∀ v0 : Int, (v0 = ((sz - (q0 : Int)) - (q1 : Int))) → ∀ v2 : Int, (v2 = sz) → ∀ v4 : (List AV), (v4 = x0) → ∀ v6 : Int, (v6 = s0) → ∀ v8 : (List AV), (v8 = x1) → ∀ v10 : Int, (v10 = s1) → ∀ v12 : Int, (v12 = un) → ∀ v14 : Nat, (v14 = q0) → ∀ v16 : Nat, (v16 = q1) → T1 ∧ (bif (decide (v0 < (q2 : Int))) then (tt ∧ T1 ∧ tt ∧ tt ∧ (sz = v2 ∧ (0 < 1 ∧ q4 = v4 ∧ v14 = (List.length v4)) ∧ s0 = v6 ∧ (0 < 1 ∧ q5 = v8 ∧ v16 = (List.length v8)) ∧ s1 = v10 ∧ ar = ar ∧ q6 = v12 ∧ q7 = dn ∧ q8 = 14 ∧ True) ∧ tt) else (tt ∧ T1 ∧ T1 ∧ T1 ∧ (@Exists.{1} (loopApp 1 sz x0 s0 x1 s1 ar un dn ys).V (fun (v18 : Nat) => ((((AV.ptr 0 0) = (AV.ptr 0 0) ∧ (AV.int IntKind.i64 1) = (AV.int IntKind.i64 1) ∧ (AV.sl ys Own.no) = (AV.sl ys Own.no) ∧ (AV.int IntKind.i64 (q2 : Int)) = (AV.int IntKind.i64 (q2 : Int)) ∧ (AV.int IntKind.i64 0) = (AV.int IntKind.i64 (v18 : Int)) ∧ True) ∧ ((@Option.some.{0} (List AV) [(AV.int IntKind.i64 v2), (AV.sl v4 (Own.row 0 1 5)), (AV.int IntKind.i64 v6), (AV.sl v8 (Own.row 0 3 5)), (AV.int IntKind.i64 v10), (AV.bool ar), (AV.int IntKind.i64 v12), (AV.bool dn)]) = (@Option.some.{0} (List AV) [(AV.int IntKind.i64 sz), (AV.sl (apL 0 1 v18 x0 ys) (Own.row 0 1 5)), (AV.int IntKind.i64 s0), (AV.sl (apL 1 1 v18 x1 ys) (Own.row 0 3 5)), (AV.int IntKind.i64 s1), (AV.bool ar), (AV.int IntKind.i64 (unK un v18)), (AV.bool false)]) ∧ True) ∧ (v14 = (List.length (apL 0 1 v18 x0 ys)) ∧ v16 = (List.length (apL 1 1 v18 x1 ys)) ∧ True) ∧ tt ∧ tt) ∧ v18 ≤ q2 ∧ v18 ≤ (apN q3 q2)))) ∧ ∀ v18 : Nat, let w0_18 := (List.length (apL 0 1 v18 x0 ys)); let w1_18 := (List.length (apL 1 1 v18 x1 ys)); let w2_18 := (Bool.not (unitK ar (unK un v18))); (v18 ≤ q2 ∧ v18 ≤ (apN q3 q2)) → tt ∧ T1 ∧ (bif (decide ((v18 : Int) < (q2 : Int))) then (tt ∧ ((0 : Int) ≤ (v18 : Int) ∧ (v18 : Int) < (q2 : Int) ∧ (okElem 1 ys (Int.toNat (v18 : Int)))) ∧ (okRead [(Kd.int IntKind.u8)] (elemAt ys (Int.toNat (v18 : Int))) 0) ∧ T1 ∧ tt ∧ T1 ∧ ((w0_18 = w0_18 ∧ w1_18 = w1_18 ∧ True) ∧ True) ∧ ∀ v20 : Int, (v20 = sz) → ∀ v22 : (List AV), (v22 = (apL 0 1 v18 x0 ys)) → ∀ v24 : Int, (v24 = s0) → ∀ v26 : (List AV), (v26 = (apL 1 1 v18 x1 ys)) → ∀ v28 : Int, (v28 = s1) → ∀ v30 : Int, (v30 = (unU ar (unK un v18))) → ∀ v32 : Nat, (v32 = w0_18) → ∀ v34 : Nat, (v34 = w1_18) → T1 ∧ (bif w2_18 then (tt ∧ T1 ∧ tt ∧ tt ∧ (sz = v20 ∧ (0 < 1 ∧ q4 = v22 ∧ v32 = (List.length v22)) ∧ s0 = v24 ∧ (0 < 1 ∧ q5 = v26 ∧ v34 = (List.length v26)) ∧ s1 = v28 ∧ ar = ar ∧ q6 = v30 ∧ q7 = w2_18 ∧ q8 = 40 ∧ True) ∧ tt) else (tt ∧ T1 ∧ T1 ∧ T1 ∧ T1 ∧ T1 ∧ T1 ∧ w3_x ∧ T1 ∧ tt ∧ T1 ∧ T1 ∧ (v34 = (List.length v26) ∧ (((List.length v26) + 1) * 1) ≤ 140737488355328 ∧ ((List.length v26) + 1) ≤ 9223372036854775807 ∧ (okWidth 1 v26) ∧ (okWidth 1 [(AV.int IntKind.u8 (rdInt (elemAt ys (Int.toNat (v18 : Int))) 0))])) ∧ T1 ∧ T1 ∧ w3_x ∧ T1 ∧ tt ∧ tt ∧ tt ∧ T1 ∧ T1 ∧ (@Exists.{1} (loopApp 1 sz x0 s0 x1 s1 ar un dn ys).V (fun (v36 : Nat) => ((((AV.ptr 0 0) = (AV.ptr 0 0) ∧ (AV.int IntKind.i64 1) = (AV.int IntKind.i64 1) ∧ (AV.sl ys Own.no) = (AV.sl ys Own.no) ∧ (AV.int IntKind.i64 (q2 : Int)) = (AV.int IntKind.i64 (q2 : Int)) ∧ (AV.int IntKind.i64 (IntKind.wrap IntKind.i64 ((v18 : Int) + (1 : Int)))) = (AV.int IntKind.i64 (v36 : Int)) ∧ True) ∧ ((@Option.some.{0} (List AV) [(AV.int IntKind.i64 v20), (AV.sl v22 (Own.row 0 1 5)), (AV.int IntKind.i64 v24), (AV.sl (@catL AV v26 [(AV.int IntKind.u8 (rdInt (elemAt ys (Int.toNat (v18 : Int))) 0))]) (Own.row 0 3 5)), (AV.int IntKind.i64 v28), (AV.bool ar), (AV.int IntKind.i64 v30), (AV.bool w2_18)]) = (@Option.some.{0} (List AV) [(AV.int IntKind.i64 sz), (AV.sl (apL 0 1 v36 x0 ys) (Own.row 0 1 5)), (AV.int IntKind.i64 s0), (AV.sl (apL 1 1 v36 x1 ys) (Own.row 0 3 5)), (AV.int IntKind.i64 s1), (AV.bool ar), (AV.int IntKind.i64 (unK un v36)), (AV.bool false)]) ∧ True) ∧ (v32 = (List.length (apL 0 1 v36 x0 ys)) ∧ ((List.length v26) + 1) = (List.length (apL 1 1 v36 x1 ys)) ∧ True) ∧ tt ∧ tt) ∧ (v36 ≤ q2 ∧ v36 ≤ (apN q3 q2)) ∧ (q2 - v36) < (q2 - v18))))))) else (tt ∧ T1 ∧ tt ∧ tt ∧ (sz = sz ∧ (0 < 1 ∧ q4 = (apL 0 1 v18 x0 ys) ∧ w0_18 = w0_18) ∧ s0 = s0 ∧ (0 < 1 ∧ q5 = (apL 1 1 v18 x1 ys) ∧ w1_18 = w1_18) ∧ s1 = s1 ∧ ar = ar ∧ q6 = (unK un v18) ∧ q7 = false ∧ q8 = 0 ∧ True) ∧ tt)))))))) : inAppI0K1 sz x0 s0 x1 s1 ar un dn p q p' q' ys :=
  Eq.mp (show _ = _ by kernel_rfl) h
end Go.Proofs.Ytddilmocngedjaa
/- The conditions of disks hold. -/
namespace Go.Proofs.Ytddilmocngedjaa
set_option linter.unusedVariables false
set_option linter.unusedSimpArgs false
open Go.RowKit
set_option maxRecDepth 100000

theorem cr_eq (s : Int) (n : Nat) (k : Int) (h0 : 0 ≤ s) (h1 : s ≤ n) (h2 : (n : Int) ≤ 4194304) : IntKind.i64.wrap (s + if IntKind.i64.wrap ((n : Int) - s) < (if k < 0 then 0 else k) then IntKind.i64.wrap ((n : Int) - s) else if k < 0 then 0 else k) = crS s n k ∧ 0 ≤ crS s n k ∧ crS s n k ≤ n := by
  rw [wrap_i64 (n := (n : Int) - s) (by omega) (by omega)]
  have e : (if (n : Int) - s < (if k < 0 then 0 else k) then (n : Int) - s else if k < 0 then 0 else k) = min (max k 0) (n - s) := by
    split <;> split at * <;> omega
  rw [e]
  unfold crS
  refine ⟨wrap_i64 (by omega) (by omega), by omega, by omega⟩
theorem apN_le (lim : Int) (k : Nat) : apN lim k ≤ k := by unfold apN; split <;> omega
theorem apL_len (g f : Int) (i : Nat) (x ys : List AV) (h : i ≤ ys.length) : (apL g f i x ys).length = if f = g then x.length + i else x.length := by
  unfold apL catL
  split
  · simp; omega
  · rfl
theorem unit_more {ar : Bool} {un : Int} {k i : Nat} (h0 : ar = true → 0 ≤ un ∧ un ≤ 9223372036854775807) (hi : i ≤ apN (limD ar un) k) (hk : i < k) : unitK ar (unK un i) = decide (i < apN (limD ar un) k) := by
  unfold unitK
  cases ar with
  | false => unfold limD apN; simp; exact hk
  | true =>
    have hu := h0 rfl
    have hun : ∀ j : Nat, (j : Int) ≤ un → unK un j = un - j := by
      intro j
      induction j with
      | zero => intro _; simp [unK]
      | succ j ih =>
        intro hj
        have := ih (by omega)
        simp only [unK, decU, this]
        rw [wrap_i64 (by omega) (by omega)]
        omega
    unfold limD apN at hi ⊢
    simp only [if_true, if_pos hu.1] at hi ⊢
    rw [hun i (by omega), Bool.true_and, Bool.eq_iff_iff]
    simp
    omega
theorem unK_next {ar : Bool} {un : Int} {i : Nat} (h : unitK ar (unK un i) = true) : unU ar (unK un i) = unK un (i + 1) := by unfold unU; rw [if_pos h]; rfl
theorem unK_stop {ar : Bool} {un : Int} {i : Nat} (h : unitK ar (unK un i) = false) : unU ar (unK un i) = unK un i := by unfold unU; rw [h]; rfl
theorem cutL_zero {α : Type} (l : List α) (k : Nat) : cutL l 0 k = l.take k := by simp [cutL]
theorem isFile_iff (f : Int) : isFile f = true ↔ (f = 0 ∨ f = 1) := by unfold isFile; simp; omega
theorem isBytes_take {xs : List AV} (h : isBytes xs) (k : Nat) : isBytes (xs.take k) := by
  obtain ⟨l, rfl⟩ := h.get
  have : (bytesAV l).take k = bytesAV (l.take k) := by simp [bytesAV]
  rw [this]; exact isBytes_bytesAV _
theorem isBytes_cat {xs ys : List AV} (h : isBytes xs) (h' : isBytes ys) : isBytes (catL xs ys) := by
  obtain ⟨l, rfl⟩ := h.get
  obtain ⟨l', rfl⟩ := h'.get
  have : catL (bytesAV l) (bytesAV l') = bytesAV (l ++ l') := by simp [bytesAV, catL]
  rw [this]; exact isBytes_bytesAV _
theorem width_of {xs : List AV} (h : isBytes xs) : okWidth 1 xs := by
  obtain ⟨l, rfl⟩ := h.get
  exact okWidth_bytes l
theorem take_byte {ys : List AV} (h : isBytes ys) {i : Nat} (hi : i < ys.length) : okElem 1 ys i ∧ okRead [Kd.int IntKind.u8] (elemAt ys i) 0 ∧ [AV.int IntKind.u8 (rdInt (elemAt ys i) 0)] = (ys.drop i).take 1 ∧ okWidth 1 [AV.int IntKind.u8 (rdInt (elemAt ys i) 0)] := by
  obtain ⟨l, rfl⟩ := h.get
  rw [length_bytesAV] at hi
  refine ⟨okElem_bytes hi, okRead_bytes hi, ?_, okWidth_cons rfl (okWidth_nil 1)⟩
  rw [rdInt_bytes]
  have : (bytesAV l).drop i = byteAV (l.getD i 0) :: (bytesAV l).drop (i + 1) := by
    rw [List.drop_eq_getElem_cons (by rw [length_bytesAV]; exact hi)]
    simp [bytesAV, hi]
  rw [this]
  rfl
theorem apL_next {g f : Int} {x ys : List AV} {i : Nat} (hfg : f = g) (h : isBytes ys) (hi : i < ys.length) : catL (apL g f i x ys) [AV.int IntKind.u8 (rdInt (elemAt ys i) 0)] = apL g f (i + 1) x ys := by
  rw [(take_byte h hi).2.2.1]
  unfold apL catL
  rw [if_pos hfg, if_pos hfg, List.append_assoc]
  congr 1
  rw [List.take_add]
theorem apL_not {g f : Int} {x ys : List AV} {i j : Nat} (hfg : f ≠ g) : apL g f i x ys = apL g f j x ys := by unfold apL; rw [if_neg hfg, if_neg hfg]
theorem apL_bytes {g f : Int} {x ys : List AV} {i : Nat} (hx : isBytes x) (hy : isBytes ys) : isBytes (apL g f i x ys) := by
  unfold apL
  split
  · exact isBytes_cat hx (isBytes_take hy i)
  · exact hx
theorem apX_eq {g f : Int} {dn : Bool} {sz : Int} {n0 n1 : Nat} {lim : Int} {x ys : List AV} (hgo : apGo f dn sz n0 n1 ys.length = true) : apX g f dn sz n0 n1 lim x ys = apL g f (apN lim ys.length) x ys := by unfold apX apM apL; rw [hgo]; rfl
theorem apX_no {g f : Int} {dn : Bool} {sz : Int} {n0 n1 : Nat} {lim : Int} {x ys : List AV} (hgo : apGo f dn sz n0 n1 ys.length = false) : apX g f dn sz n0 n1 lim x ys = x := by unfold apX apM catL; rw [hgo]; simp
theorem okHas0 : OkHas0 := by
  intro f hq
  refine vcHas0 f ?_
  simp only [true_and, and_true, forall_eq, eq_self]
  unfold isFile
  exact cond_prop (fun h => by simp [h]) fun h => by simp [h]
theorem okHasO0 : OkHasO0 := by
  intro f hq
  refine vcHasO0 f ?_
  simp only [true_and, and_true, forall_eq, eq_self]
  have h1 := hq
  unfold isFile at h1
  refine cond_prop (fun h => ?_) fun h => ?_
  · simpa [h] using h1
  · trivial
theorem okMayO0 : OkMayO0 := by
  intro sz x0 s0 x1 s1 ar un dn p q p' q' f hq
  refine vcMayO0 sz x0 s0 x1 s1 ar un dn p q p' q' f ?_
  simp only [true_and, and_true, forall_eq, eq_self]
  trivial
theorem okMayO1 : OkMayO1 := by
  intro sz x0 s0 x1 s1 ar un dn f hq
  refine vcMayO1 sz x0 s0 x1 s1 ar un dn f ?_
  simp only [true_and, and_true, forall_eq, eq_self]
  trivial
theorem okMay0 : OkMay0 := by
  intro sz x0 s0 x1 s1 ar un dn p q p' q' f hq
  refine vcMay0 sz x0 s0 x1 s1 ar un dn p q p' q' f ?_
  simp only [true_and, and_true, forall_eq, eq_self]
  unfold mayE
  cases isFile f <;> cases dn <;> simp
theorem okMay1 : OkMay1 := by
  intro sz x0 s0 x1 s1 ar un dn f hq
  refine vcMay1 sz x0 s0 x1 s1 ar un dn f ?_
  simp only [true_and, and_true, forall_eq, eq_self]
  unfold mayE
  cases isFile f <;> cases dn <;> simp
theorem okUnit0 : OkUnit0 := by
  intro sz x0 s0 x1 s1 ar un dn p q p' q' hq
  refine vcUnit0 sz x0 s0 x1 s1 ar un dn p q p' q' ?_
  simp only [true_and, and_true, forall_eq, eq_self]
  unfold unU unitK decU
  cases ar <;> cases dn <;> cases h : (un == 0) <;> simp
theorem okUnit1 : OkUnit1 := by
  intro sz x0 s0 x1 s1 ar un dn hq
  refine vcUnit1 sz x0 s0 x1 s1 ar un dn ?_
  simp only [true_and, and_true, forall_eq, eq_self]
  unfold unU unitK decU
  cases ar <;> cases dn <;> cases h : (un == 0) <;> simp
theorem okLeft0 : OkLeft0 := by
  intro sz x0 s0 x1 s1 ar un dn p q p' q' hq
  refine vcLeft0 sz x0 s0 x1 s1 ar un dn p q p' q' ?_
  simp only [true_and, and_true, forall_eq, eq_self]
  obtain ⟨h1, h2, h3, h4, h5, h6⟩ := hq
  refine ⟨by omega, by omega, by omega, by omega, ?_⟩
  rw [wrap_i64 (n := sz - (x0.length : Int)) (by omega) (by omega), wrap_i64 (by omega) (by omega)]
theorem okDown0 : OkDown0 := by
  intro sz x0 s0 x1 s1 ar un dn p q p' q' hq
  refine vcDown0 sz x0 s0 x1 s1 ar un dn p q p' q' ?_
  simp only [true_and, and_true, forall_eq, eq_self]
  omega
theorem okDown1 : OkDown1 := by
  intro sz x0 s0 x1 s1 ar un dn hq
  refine vcDown1 sz x0 s0 x1 s1 ar un dn ?_
  simp only [true_and, and_true, forall_eq, eq_self]
theorem okArm0 : OkArm0 := by
  intro sz x0 s0 x1 s1 ar un dn p q p' q' n hq
  refine vcArm0 sz x0 s0 x1 s1 ar un dn p q p' q' n ?_
  simp only [true_and, and_true, forall_eq, eq_self]
  exact ⟨by omega, by omega, rfl⟩
theorem okNew0 : OkNew0 := by
  intro sz hq
  refine vcNew0 sz ?_
  simp only [true_and, and_true, forall_eq, eq_self]
  refine cond_prop (fun h => ?_) fun h => cond_prop (fun h => ?_) fun h => by omega
  · simp at h; omega
  · simp at h; omega
theorem okNewZ0 : OkNewZ0 := by
  intro sz hq
  refine vcNewZ0 sz ?_
  simp only [true_and, and_true, forall_eq, eq_self]
  refine cond_prop (fun h => trivial) fun h => cond_prop (fun h' => trivial) fun h' => ?_
  simp at h h'; omega
theorem okSafeI0 : OkSafeI0 := by
  intro sz x0 s0 x1 s1 ar un dn p q p' q' f hq
  have hf : isFile f = true := hq
  rcases (isFile_iff f).1 hf with rfl | rfl
  · refine vcSafeI0K0 sz x0 s0 x1 s1 ar un dn p q p' q' ?_
    simp only [true_and, and_true, forall_eq, eq_self]
    exact ⟨by omega, by omega, by omega, rfl⟩
  · refine vcSafeI0K1 sz x0 s0 x1 s1 ar un dn p q p' q' ?_
    simp only [true_and, and_true, forall_eq, eq_self]
    exact ⟨by omega, by omega, by omega, rfl⟩
theorem okSafeI1 : OkSafeI1 := by
  intro sz x0 s0 x1 s1 ar un dn f hq
  have hf : isFile f = true := hq
  rcases (isFile_iff f).1 hf with rfl | rfl
  · refine vcSafeI1K0 sz x0 s0 x1 s1 ar un dn ?_
    simp only [true_and, and_true, forall_eq, eq_self]
    exact ⟨by omega, rfl⟩
  · refine vcSafeI1K1 sz x0 s0 x1 s1 ar un dn ?_
    simp only [true_and, and_true, forall_eq, eq_self]
    exact ⟨by omega, rfl⟩
theorem okSafeO0 : OkSafeO0 := by
  intro sz x0 s0 x1 s1 ar un dn p q p' q' f hq
  refine vcSafeO0 sz x0 s0 x1 s1 ar un dn p q p' q' f ?_
  simp only [true_and, and_true, forall_eq, eq_self]
  refine ⟨hq, by omega, by omega, ?_⟩
  have h1 := mt (isFile_iff f).2 (by simp [hq])
  unfold rdI; rw [if_neg (by omega), if_neg (by omega)]
theorem okSafeO1 : OkSafeO1 := by
  intro sz x0 s0 x1 s1 ar un dn f hq
  refine vcSafeO1 sz x0 s0 x1 s1 ar un dn f ?_
  simp only [true_and, and_true, forall_eq, eq_self]
  refine ⟨hq, ?_⟩
  have h1 := mt (isFile_iff f).2 (by simp [hq])
  unfold rdI; rw [if_neg (by omega), if_neg (by omega)]
theorem okReadI0 : OkReadI0 := by
  intro sz x0 s0 x1 s1 ar un dn p q p' q' f hq
  have hf : isFile f = true := hq.1
  rcases (isFile_iff f).1 hf with rfl | rfl
  · refine vcReadI0K0 sz x0 s0 x1 s1 ar un dn p q p' q' ?_
    simp only [true_and, and_true, forall_eq, eq_self]
    exact ⟨by omega, ⟨hq.2.1, hq.2.2.2.1⟩, by omega, by omega, rfl⟩
  · refine vcReadI0K1 sz x0 s0 x1 s1 ar un dn p q p' q' ?_
    simp only [true_and, and_true, forall_eq, eq_self]
    exact ⟨by omega, ⟨hq.2.2.1, hq.2.2.2.2⟩, by omega, by omega, rfl⟩
theorem okReadI1 : OkReadI1 := by
  intro sz x0 s0 x1 s1 ar un dn f hq
  have hf : isFile f = true := hq.1
  rcases (isFile_iff f).1 hf with rfl | rfl
  · refine vcReadI1K0 sz x0 s0 x1 s1 ar un dn ?_
    simp only [true_and, and_true, forall_eq, eq_self]
    exact ⟨by omega, ⟨hq.2.1, hq.2.2.2.1⟩, rfl⟩
  · refine vcReadI1K1 sz x0 s0 x1 s1 ar un dn ?_
    simp only [true_and, and_true, forall_eq, eq_self]
    exact ⟨by omega, ⟨hq.2.2.1, hq.2.2.2.2⟩, rfl⟩
theorem okReadO0 : OkReadO0 := by
  intro sz x0 s0 x1 s1 ar un dn p q p' q' f hq
  refine vcReadO0 sz x0 s0 x1 s1 ar un dn p q p' q' f ?_
  simp only [true_and, and_true, forall_eq, eq_self]
  refine ⟨hq.1, by omega, by omega, ?_⟩
  have h1 := mt (isFile_iff f).2 (by simp [hq.1])
  unfold rd2; rw [if_neg (by omega), if_neg (by omega)]
theorem okReadO1 : OkReadO1 := by
  intro sz x0 s0 x1 s1 ar un dn f hq
  refine vcReadO1 sz x0 s0 x1 s1 ar un dn f ?_
  simp only [true_and, and_true, forall_eq, eq_self]
  refine ⟨hq.1, ?_⟩
  have h1 := mt (isFile_iff f).2 (by simp [hq.1])
  unfold rd2; rw [if_neg (by omega), if_neg (by omega)]
theorem okSyncI0 : OkSyncI0 := by
  intro sz x0 s0 x1 s1 ar un dn p q p' q' f hq
  have hf : isFile f = true := hq
  rcases (isFile_iff f).1 hf with rfl | rfl
  · refine vcSyncI0K0 sz x0 s0 x1 s1 ar un dn p q p' q' ?_
    simp only [true_and, and_true, forall_eq, eq_self]
    have e : mayE 0 dn = if dn then 40 else 0 := by unfold mayE; rw [hf]; rfl
    unfold syS syU syD syE syGo
    rw [e]
    cases dn <;> cases hu : unitK ar un <;> simp [unU, hu]
  · refine vcSyncI0K1 sz x0 s0 x1 s1 ar un dn p q p' q' ?_
    simp only [true_and, and_true, forall_eq, eq_self]
    have e : mayE 1 dn = if dn then 40 else 0 := by unfold mayE; rw [hf]; rfl
    unfold syS syU syD syE syGo
    rw [e]
    cases dn <;> cases hu : unitK ar un <;> simp [unU, hu]
theorem okSyncI1 : OkSyncI1 := by
  intro sz x0 s0 x1 s1 ar un dn f hq
  have hf : isFile f = true := hq
  rcases (isFile_iff f).1 hf with rfl | rfl
  · refine vcSyncI1K0 sz x0 s0 x1 s1 ar un dn ?_
    simp only [true_and, and_true, forall_eq, eq_self]
    have e : mayE 0 dn = if dn then 40 else 0 := by unfold mayE; rw [hf]; rfl
    unfold syS syU syD syE syGo
    rw [e]
    cases dn <;> cases hu : unitK ar un <;> simp [unU, hu]
  · refine vcSyncI1K1 sz x0 s0 x1 s1 ar un dn ?_
    simp only [true_and, and_true, forall_eq, eq_self]
    have e : mayE 1 dn = if dn then 40 else 0 := by unfold mayE; rw [hf]; rfl
    unfold syS syU syD syE syGo
    rw [e]
    cases dn <;> cases hu : unitK ar un <;> simp [unU, hu]
theorem okSyncO0 : OkSyncO0 := by
  intro sz x0 s0 x1 s1 ar un dn p q p' q' f hq
  refine vcSyncO0 sz x0 s0 x1 s1 ar un dn p q p' q' f ?_
  simp only [true_and, and_true, forall_eq, eq_self]
  refine ⟨hq, by omega, ?_, by omega, ?_, ?_, ?_, ?_⟩ <;> simp [syS, syGo, syU, syD, syE, mayE, hq]
theorem okSyncO1 : OkSyncO1 := by
  intro sz x0 s0 x1 s1 ar un dn f hq
  refine vcSyncO1 sz x0 s0 x1 s1 ar un dn f ?_
  simp only [true_and, and_true, forall_eq, eq_self]
  refine ⟨hq, ?_, ?_, ?_, ?_, ?_⟩ <;> simp [syS, syGo, syU, syD, syE, mayE, hq]
theorem okTrimI0 : OkTrimI0 := by
  intro sz x0 s0 x1 s1 ar un dn p q p' q' f n hq
  have hf : isFile f = true := hq.1
  rcases (isFile_iff f).1 hf with rfl | rfl
  · refine vcTrimI0K0 sz x0 s0 x1 s1 ar un dn p q p' q' n ?_
    simp only [true_and, and_true, forall_eq, eq_self]
    have e : mayE 0 dn = if dn then 40 else 0 := by unfold mayE; rw [hf]; rfl
    obtain ⟨-, h1, h2, h3, h4, h5, h6⟩ := hq
    have g : trGo 0 n dn x0 x1 = (decide (mayE 0 dn = 0) && decide (0 ≤ n) && decide (n ≤ x0.length)) := rfl
    unfold trX trS trE syU syD
    rw [g, e]
    cases dn with
    | true => simp
    | false =>
      refine ⟨by omega, cond_prop (fun h => ?_) fun h => cond_prop (fun h' => ?_) fun h' => ?_⟩
      · have hn : ¬ 0 ≤ n := by simpa using h
        simp [hn]
      · have hn : ¬ n ≤ x0.length := by simpa using h'
        simp [hn]
      · have hn : 0 ≤ n := by simpa using h
        have hn' : n ≤ x0.length := by simpa using h'
        have hw : okWidth 1 x0 := width_of (by assumption)
        have hb : isBytes (cutL x0 0 n.toNat) := by rw [cutL_zero]; exact isBytes_take (by assumption) _
        cases hu : unitK ar un with
        | false => simp [hn, hn', hu, unU]
        | true =>
          simp only [Bool.not_true, cond_false]
          refine ⟨⟨⟨hn, hn'⟩, hw⟩, ⟨hb, by rw [cutL_zero]; simp; omega⟩, by omega, ?_⟩
          simp [hn, hn', hu, unU, cutL_zero]
          omega
  · refine vcTrimI0K1 sz x0 s0 x1 s1 ar un dn p q p' q' n ?_
    simp only [true_and, and_true, forall_eq, eq_self]
    have e : mayE 1 dn = if dn then 40 else 0 := by unfold mayE; rw [hf]; rfl
    obtain ⟨-, h1, h2, h3, h4, h5, h6⟩ := hq
    have g : trGo 1 n dn x0 x1 = (decide (mayE 1 dn = 0) && decide (0 ≤ n) && decide (n ≤ x1.length)) := rfl
    unfold trX trS trE syU syD
    rw [g, e]
    cases dn with
    | true => simp
    | false =>
      refine ⟨by omega, cond_prop (fun h => ?_) fun h => cond_prop (fun h' => ?_) fun h' => ?_⟩
      · have hn : ¬ 0 ≤ n := by simpa using h
        simp [hn]
      · have hn : ¬ n ≤ x1.length := by simpa using h'
        simp [hn]
      · have hn : 0 ≤ n := by simpa using h
        have hn' : n ≤ x1.length := by simpa using h'
        have hw : okWidth 1 x1 := width_of (by assumption)
        have hb : isBytes (cutL x1 0 n.toNat) := by rw [cutL_zero]; exact isBytes_take (by assumption) _
        cases hu : unitK ar un with
        | false => simp [hn, hn', hu, unU]
        | true =>
          simp only [Bool.not_true, cond_false]
          refine ⟨⟨⟨hn, hn'⟩, hw⟩, ⟨hb, by rw [cutL_zero]; simp; omega⟩, by omega, ?_⟩
          simp [hn, hn', hu, unU, cutL_zero]
          omega
theorem okTrimO0 : OkTrimO0 := by
  intro sz x0 s0 x1 s1 ar un dn p q p' q' f n hq
  refine vcTrimO0 sz x0 s0 x1 s1 ar un dn p q p' q' f n ?_
  simp only [true_and, and_true, forall_eq, eq_self]
  have hf := hq.1
  refine ⟨hf, ⟨by omega, ?_⟩, ?_, ⟨by omega, ?_⟩, ?_, ?_, ?_, ?_⟩ <;> simp [trX, trS, trGo, syU, syD, trE, mayE, hf]
theorem okAppI0 : OkAppI0 := by
  intro sz x0 s0 x1 s1 ar un dn p q p' q' f ys hq
  have hf : isFile f = true := hq.1
  rcases (isFile_iff f).1 hf with rfl | rfl
  · refine vcAppI0K0 sz x0 s0 x1 s1 ar un dn p q p' q' ys ?_
    simp only [true_and, and_true, forall_eq, eq_self]
    have e : mayE 0 dn = if dn then 40 else 0 := by unfold mayE; rw [hf]; rfl
    obtain ⟨-, hy, hd⟩ := hq
    have hd' := hd
    obtain ⟨h1, h2, h3, h4, h5, h6, h7, h8, h9, h10⟩ := hd
    refine cond_prop (fun h => ?_) fun h => ⟨hd', cond_prop (fun h' => ?_) fun h' => ?_⟩
    · have hm : ¬ mayE 0 dn = 0 := by simpa using h
      have hg : apGo 0 dn sz x0.length x1.length ys.length = false := by unfold apGo; simp [hm]
      refine ⟨⟨by omega, apX_no hg⟩, ⟨by omega, apX_no hg⟩, ?_, ?_, ?_⟩
      · unfold apU apM; rw [hg]; rfl
      · unfold apD; rw [hg]; simp
      · unfold apE; rw [if_pos hm]
    · have hm : mayE 0 dn = 0 := by simpa using h
      have hk : ¬ (ys.length : Int) ≤ sz - x0.length - x1.length := by simp at h'; omega
      have hg : apGo 0 dn sz x0.length x1.length ys.length = false := by unfold apGo; simp [hk]
      refine ⟨⟨by omega, apX_no hg⟩, ⟨by omega, apX_no hg⟩, ?_, ?_, ?_⟩
      · unfold apU apM; rw [hg]; rfl
      · unfold apD; rw [hg]; simp
      · unfold apE; rw [hg, if_neg (by omega)]; rfl
    · have hm : mayE 0 dn = 0 := by simpa using h
      have hk : (ys.length : Int) ≤ sz - x0.length - x1.length := by simp at h'; omega
      have hg : apGo 0 dn sz x0.length x1.length ys.length = true := by unfold apGo; simp [hm, hk]
      have hdn : dn = false := by rw [e] at hm; cases dn <;> simp_all
      subst hdn
      have hap := apN_le (limD ar un) ys.length
      refine ⟨⟨(0 : Nat), ⟨rfl, by simp [apL, catL, unK], by simp [apL, catL], by simp [apL, catL]⟩, Nat.zero_le _, Nat.zero_le _⟩, fun i hi => cond_prop (fun hl => ?_) fun hl => ?_⟩
      · have hl' : i < ys.length := by simpa using hl
        obtain ⟨b1, b2, b3, b4⟩ := take_byte hy hl'
        have hu := unit_more h10 hi.2 hl'
        have hln := apL_len 0 0 i x0 ys hi.1
        rw [if_pos rfl] at hln
        simp only [Int.toNat_natCast]
        refine ⟨⟨by omega, by omega, b1⟩, b2, cond_prop (fun hs => ?_) fun hs => ?_⟩
        · have hs' : unitK ar (unK un i) = false := by simpa using hs
          have hN : apN (limD ar un) ys.length = i := by rw [hu] at hs'; simp at hs'; omega
          refine ⟨⟨by omega, ?_⟩, ⟨by omega, ?_⟩, ?_, ?_, ?_⟩
          · rw [apX_eq hg, hN]
          · rw [apX_eq hg, hN]
          · rw [unK_stop hs']; unfold apU apM; rw [hg, hN]; rfl
          · unfold apD; rw [hg, hN, hs']; simp [hl']
          · unfold apE; rw [hg, hN, if_neg (by omega), if_pos rfl, if_pos hl']
        · have hs' : unitK ar (unK un i) = true := by simpa using hs
          have hN : i < apN (limD ar un) ys.length := by rw [hu] at hs'; simpa using hs'
          refine ⟨by omega, ⟨by omega, by omega, width_of (apL_bytes (by assumption) hy), b4⟩, by omega, (i + 1 : Nat), ⟨?_, ?_, ?_, ?_⟩, ⟨by omega, by omega⟩, by omega⟩
          · rw [wrap_i64 (by omega) (by omega)]; rfl
          · rw [apL_next rfl hy hl', unK_next hs', hs', apL_not (g := 1) (f := 0) (i := i) (j := i + 1) (by omega)]; rfl
          · rw [apL_len 0 0 (i + 1) x0 ys hl', if_pos rfl]; omega
          · rw [apL_not (g := 1) (f := 0) (i := i) (j := i + 1) (by omega)]
      · have hl' : ¬ i < ys.length := by simpa using hl
        have hN : apN (limD ar un) ys.length = i := by omega
        refine ⟨⟨by omega, ?_⟩, ⟨by omega, ?_⟩, ?_, ?_, ?_⟩
        · rw [apX_eq hg, hN]
        · rw [apX_eq hg, hN]
        · unfold apU apM; rw [hg, hN]; rfl
        · unfold apD; rw [hg, hN]; simp; omega
        · unfold apE; rw [hg, hN, if_neg (by omega), if_pos rfl, if_neg hl']
  · refine vcAppI0K1 sz x0 s0 x1 s1 ar un dn p q p' q' ys ?_
    simp only [true_and, and_true, forall_eq, eq_self]
    have e : mayE 1 dn = if dn then 40 else 0 := by unfold mayE; rw [hf]; rfl
    obtain ⟨-, hy, hd⟩ := hq
    have hd' := hd
    obtain ⟨h1, h2, h3, h4, h5, h6, h7, h8, h9, h10⟩ := hd
    refine cond_prop (fun h => ?_) fun h => ⟨hd', cond_prop (fun h' => ?_) fun h' => ?_⟩
    · have hm : ¬ mayE 1 dn = 0 := by simpa using h
      have hg : apGo 1 dn sz x0.length x1.length ys.length = false := by unfold apGo; simp [hm]
      refine ⟨⟨by omega, apX_no hg⟩, ⟨by omega, apX_no hg⟩, ?_, ?_, ?_⟩
      · unfold apU apM; rw [hg]; rfl
      · unfold apD; rw [hg]; simp
      · unfold apE; rw [if_pos hm]
    · have hm : mayE 1 dn = 0 := by simpa using h
      have hk : ¬ (ys.length : Int) ≤ sz - x0.length - x1.length := by simp at h'; omega
      have hg : apGo 1 dn sz x0.length x1.length ys.length = false := by unfold apGo; simp [hk]
      refine ⟨⟨by omega, apX_no hg⟩, ⟨by omega, apX_no hg⟩, ?_, ?_, ?_⟩
      · unfold apU apM; rw [hg]; rfl
      · unfold apD; rw [hg]; simp
      · unfold apE; rw [hg, if_neg (by omega)]; rfl
    · have hm : mayE 1 dn = 0 := by simpa using h
      have hk : (ys.length : Int) ≤ sz - x0.length - x1.length := by simp at h'; omega
      have hg : apGo 1 dn sz x0.length x1.length ys.length = true := by unfold apGo; simp [hm, hk]
      have hdn : dn = false := by rw [e] at hm; cases dn <;> simp_all
      subst hdn
      have hap := apN_le (limD ar un) ys.length
      refine ⟨⟨(0 : Nat), ⟨rfl, by simp [apL, catL, unK], by simp [apL, catL], by simp [apL, catL]⟩, Nat.zero_le _, Nat.zero_le _⟩, fun i hi => cond_prop (fun hl => ?_) fun hl => ?_⟩
      · have hl' : i < ys.length := by simpa using hl
        obtain ⟨b1, b2, b3, b4⟩ := take_byte hy hl'
        have hu := unit_more h10 hi.2 hl'
        have hln := apL_len 1 1 i x1 ys hi.1
        rw [if_pos rfl] at hln
        simp only [Int.toNat_natCast]
        refine ⟨⟨by omega, by omega, b1⟩, b2, cond_prop (fun hs => ?_) fun hs => ?_⟩
        · have hs' : unitK ar (unK un i) = false := by simpa using hs
          have hN : apN (limD ar un) ys.length = i := by rw [hu] at hs'; simp at hs'; omega
          refine ⟨⟨by omega, ?_⟩, ⟨by omega, ?_⟩, ?_, ?_, ?_⟩
          · rw [apX_eq hg, hN]
          · rw [apX_eq hg, hN]
          · rw [unK_stop hs']; unfold apU apM; rw [hg, hN]; rfl
          · unfold apD; rw [hg, hN, hs']; simp [hl']
          · unfold apE; rw [hg, hN, if_neg (by omega), if_pos rfl, if_pos hl']
        · have hs' : unitK ar (unK un i) = true := by simpa using hs
          have hN : i < apN (limD ar un) ys.length := by rw [hu] at hs'; simpa using hs'
          refine ⟨by omega, ⟨by omega, by omega, width_of (apL_bytes (by assumption) hy), b4⟩, by omega, (i + 1 : Nat), ⟨?_, ?_, ?_, ?_⟩, ⟨by omega, by omega⟩, by omega⟩
          · rw [wrap_i64 (by omega) (by omega)]; rfl
          · rw [apL_next rfl hy hl', unK_next hs', hs', apL_not (g := 0) (f := 1) (i := i) (j := i + 1) (by omega)]; rfl
          · rw [apL_not (g := 0) (f := 1) (i := i) (j := i + 1) (by omega)]
          · rw [apL_len 1 1 (i + 1) x1 ys hl', if_pos rfl]; omega
      · have hl' : ¬ i < ys.length := by simpa using hl
        have hN : apN (limD ar un) ys.length = i := by omega
        refine ⟨⟨by omega, ?_⟩, ⟨by omega, ?_⟩, ?_, ?_, ?_⟩
        · rw [apX_eq hg, hN]
        · rw [apX_eq hg, hN]
        · unfold apU apM; rw [hg, hN]; rfl
        · unfold apD; rw [hg, hN]; simp; omega
        · unfold apE; rw [hg, hN, if_neg (by omega), if_pos rfl, if_neg hl']
theorem okAppO0 : OkAppO0 := by
  intro sz x0 s0 x1 s1 ar un dn p q p' q' f ys hq
  refine vcAppO0 sz x0 s0 x1 s1 ar un dn p q p' q' f ys ?_
  simp only [true_and, and_true, forall_eq, eq_self]
  have hf := hq.1
  refine ⟨hf, ⟨by omega, ?_⟩, ⟨by omega, ?_⟩, ?_, ?_, ?_⟩ <;> simp [apX, apM, apGo, apU, apD, apE, mayE, hf, catL, unK]
theorem okCrashN0 : OkCrashN0 := by
  intro sz x0 s0 x1 s1 ar un dn p q p' q' k0 k1 hq
  refine vcCrashN0 sz x0 s0 x1 s1 ar un dn p q p' q' k0 k1 ?_
  simp only [true_and, and_true, forall_eq, eq_self]
  obtain ⟨h1, h2, h3, h4, h5, h6, h7, h8, h9, h10⟩ := hq
  obtain ⟨a1, a2, a3⟩ := cr_eq s0 x0.length k0 h6 h7 (by omega)
  obtain ⟨b1, b2, b3⟩ := cr_eq s1 x1.length k1 h8 h9 (by omega)
  rw [a1, b1]
  exact ⟨by omega, by omega, ⟨⟨a2, a3⟩, width_of h3⟩, by omega, by omega, ⟨⟨b2, b3⟩, width_of h4⟩, by simp [crX, cutL], rfl, by simp [crX, cutL], rfl⟩
end Go.Proofs.Ytddilmocngedjaa
/- The contracts are met. -/
namespace Go.Proofs.Ytddilmocngedjaa
set_option linter.unusedVariables false
set_option linter.unusedSimpArgs false
open Go.RowKit
theorem sndHas : Sound Try.prog (lookΓ gamHas) := sound_of _ fun p hp => by
  simp [gamHas] at hp
set_option maxHeartbeats 4000000 in
theorem meetsHas : Meets Try.prog 41 hasF := by
  refine meets_of_awp (Γ := lookΓ gamHas) (L := fun _ _ => none) sndHas mixedOrders Try.func41 rfl Try.call41 ?_
  intro args q r hF hq ho
  unfold hasF at hF
  split at hF
  · cases hF
    exact ⟨by simp only [List.length_cons, List.length_nil]; decide, okHas0 _ hq⟩
  · cases hF
theorem sndHasO : Sound Try.prog (lookΓ gamHasO) := sound_of _ fun p hp => by
  simp [gamHasO] at hp
set_option maxHeartbeats 4000000 in
theorem meetsHasO : Meets Try.prog 41 hasOF := by
  refine meets_of_awp (Γ := lookΓ gamHasO) (L := fun _ _ => none) sndHasO mixedOrders Try.func41 rfl Try.call41 ?_
  intro args q r hF hq ho
  unfold hasOF at hF
  split at hF
  · cases hF
    exact ⟨by simp only [List.length_cons, List.length_nil]; decide, okHasO0 _ hq⟩
  · cases hF
theorem sndMayO : Sound Try.prog (lookΓ gamMayO) := sound_of _ fun p hp => by
  simp only [gamMayO, List.mem_cons, List.not_mem_nil, or_false] at hp
  subst hp
  exact meetsHasO.orNil
set_option maxHeartbeats 4000000 in
theorem meetsMayO : Meets Try.prog 42 mayOF := by
  refine meets_of_awp (Γ := lookΓ gamMayO) (L := fun _ _ => none) sndMayO mixedOrders Try.func42 rfl Try.call42 ?_
  intro args q r hF hq ho
  unfold mayOF at hF
  split at hF
  · split at hF
    · rename_i hte
      obtain ⟨hte0, hte1⟩ := hte
      subst hte0
      subst hte1
      cases hF
      exact ⟨by simp only [List.length_cons, List.length_nil]; decide, okMayO0 _ _ _ _ _ _ _ _ _ _ _ _ _ hq⟩
    · cases hF
  · cases hF
    exact ⟨by simp only [List.length_cons, List.length_nil]; decide, okMayO1 _ _ _ _ _ _ _ _ _ hq⟩
  · cases hF
theorem sndMay : Sound Try.prog (lookΓ gamMay) := sound_of _ fun p hp => by
  simp only [gamMay, List.mem_cons, List.not_mem_nil, or_false] at hp
  subst hp
  exact meetsHas.orNil
set_option maxHeartbeats 4000000 in
theorem meetsMay : Meets Try.prog 42 mayF := by
  refine meets_of_awp (Γ := lookΓ gamMay) (L := fun _ _ => none) sndMay mixedOrders Try.func42 rfl Try.call42 ?_
  intro args q r hF hq ho
  unfold mayF at hF
  split at hF
  · split at hF
    · rename_i hte
      obtain ⟨hte0, hte1⟩ := hte
      subst hte0
      subst hte1
      cases hF
      exact ⟨by simp only [List.length_cons, List.length_nil]; decide, okMay0 _ _ _ _ _ _ _ _ _ _ _ _ _ hq⟩
    · cases hF
  · cases hF
    exact ⟨by simp only [List.length_cons, List.length_nil]; decide, okMay1 _ _ _ _ _ _ _ _ _ hq⟩
  · cases hF
theorem sndUnit : Sound Try.prog (lookΓ gamUnit) := sound_of _ fun p hp => by
  simp [gamUnit] at hp
set_option maxHeartbeats 4000000 in
theorem meetsUnit : Meets Try.prog 43 unitF := by
  refine meets_of_awp (Γ := lookΓ gamUnit) (L := fun _ _ => none) sndUnit mixedOrders Try.func43 rfl Try.call43 ?_
  intro args q r hF hq ho
  unfold unitF at hF
  split at hF
  · split at hF
    · rename_i hte
      obtain ⟨hte0, hte1⟩ := hte
      subst hte0
      subst hte1
      cases hF
      exact ⟨by simp only [List.length_cons, List.length_nil]; decide, okUnit0 _ _ _ _ _ _ _ _ _ _ _ _ hq⟩
    · cases hF
  · cases hF
    exact ⟨by simp only [List.length_cons, List.length_nil]; decide, okUnit1 _ _ _ _ _ _ _ _ hq⟩
  · cases hF
theorem sndLeft : Sound Try.prog (lookΓ gamLeft) := sound_of _ fun p hp => by
  simp [gamLeft] at hp
set_option maxHeartbeats 4000000 in
theorem meetsLeft : Meets Try.prog 44 leftF := by
  refine meets_of_awp (Γ := lookΓ gamLeft) (L := fun _ _ => none) sndLeft mixedOrders Try.func44 rfl Try.call44 ?_
  intro args q r hF hq ho
  unfold leftF at hF
  split at hF
  · split at hF
    · rename_i hte
      obtain ⟨hte0, hte1⟩ := hte
      subst hte0
      subst hte1
      cases hF
      exact ⟨by simp only [List.length_cons, List.length_nil]; decide, okLeft0 _ _ _ _ _ _ _ _ _ _ _ _ hq⟩
    · cases hF
  · cases hF
theorem sndDown : Sound Try.prog (lookΓ gamDown) := sound_of _ fun p hp => by
  simp [gamDown] at hp
set_option maxHeartbeats 4000000 in
theorem meetsDown : Meets Try.prog 20 downF := by
  refine meets_of_awp (Γ := lookΓ gamDown) (L := fun _ _ => none) sndDown mixedOrders Try.func20 rfl Try.call20 ?_
  intro args q r hF hq ho
  unfold downF at hF
  split at hF
  · split at hF
    · rename_i hte
      obtain ⟨hte0, hte1⟩ := hte
      subst hte0
      subst hte1
      cases hF
      exact ⟨by simp only [List.length_cons, List.length_nil]; decide, okDown0 _ _ _ _ _ _ _ _ _ _ _ _ hq⟩
    · cases hF
  · cases hF
    exact ⟨by simp only [List.length_cons, List.length_nil]; decide, okDown1 _ _ _ _ _ _ _ _ hq⟩
  · cases hF
theorem sndArm : Sound Try.prog (lookΓ gamArm) := sound_of _ fun p hp => by
  simp [gamArm] at hp
set_option maxHeartbeats 4000000 in
theorem meetsArm : Meets Try.prog 25 armF := by
  refine meets_of_awp (Γ := lookΓ gamArm) (L := fun _ _ => none) sndArm mixedOrders Try.func25 rfl Try.call25 ?_
  intro args q r hF hq ho
  unfold armF at hF
  split at hF
  · split at hF
    · rename_i hte
      obtain ⟨hte0, hte1⟩ := hte
      subst hte0
      subst hte1
      cases hF
      exact ⟨by simp only [List.length_cons, List.length_nil]; decide, okArm0 _ _ _ _ _ _ _ _ _ _ _ _ _ hq⟩
    · cases hF
  · cases hF
theorem sndNew : Sound Try.prog (lookΓ gamNew) := sound_of _ fun p hp => by
  simp [gamNew] at hp
set_option maxHeartbeats 4000000 in
theorem meetsNew : Meets Try.prog 13 newF := by
  refine meets_of_awp (Γ := lookΓ gamNew) (L := fun _ _ => none) sndNew mixedOrders Try.func13 rfl Try.call13 ?_
  intro args q r hF hq ho
  unfold newF at hF
  split at hF
  · cases hF
    exact ⟨by simp only [List.length_cons, List.length_nil]; decide, okNew0 _ hq⟩
  · cases hF
theorem sndNewZ : Sound Try.prog (lookΓ gamNewZ) := sound_of _ fun p hp => by
  simp [gamNewZ] at hp
set_option maxHeartbeats 4000000 in
theorem meetsNewZ : Meets Try.prog 13 newZF := by
  refine meets_of_awp (Γ := lookΓ gamNewZ) (L := fun _ _ => none) sndNewZ mixedOrders Try.func13 rfl Try.call13 ?_
  intro args q r hF hq ho
  unfold newZF at hF
  split at hF
  · cases hF
    exact ⟨by simp only [List.length_cons, List.length_nil]; decide, okNewZ0 _ hq⟩
  · cases hF
theorem sndSafeI : Sound Try.prog (lookΓ gamSafeI) := sound_of _ fun p hp => by
  simp only [gamSafeI, List.mem_cons, List.not_mem_nil, or_false] at hp
  subst hp
  exact meetsHas.orNil
set_option maxHeartbeats 4000000 in
theorem meetsSafeI : Meets Try.prog 17 safeIF := by
  refine meets_of_awp (Γ := lookΓ gamSafeI) (L := fun _ _ => none) sndSafeI mixedOrders Try.func17 rfl Try.call17 ?_
  intro args q r hF hq ho
  unfold safeIF at hF
  split at hF
  · split at hF
    · rename_i hte
      obtain ⟨hte0, hte1⟩ := hte
      subst hte0
      subst hte1
      cases hF
      exact ⟨by simp only [List.length_cons, List.length_nil]; decide, okSafeI0 _ _ _ _ _ _ _ _ _ _ _ _ _ hq⟩
    · cases hF
  · cases hF
    exact ⟨by simp only [List.length_cons, List.length_nil]; decide, okSafeI1 _ _ _ _ _ _ _ _ _ hq⟩
  · cases hF
theorem sndSafeO : Sound Try.prog (lookΓ gamSafeO) := sound_of _ fun p hp => by
  simp only [gamSafeO, List.mem_cons, List.not_mem_nil, or_false] at hp
  subst hp
  exact meetsHasO.orNil
set_option maxHeartbeats 4000000 in
theorem meetsSafeO : Meets Try.prog 17 safeOF := by
  refine meets_of_awp (Γ := lookΓ gamSafeO) (L := fun _ _ => none) sndSafeO mixedOrders Try.func17 rfl Try.call17 ?_
  intro args q r hF hq ho
  unfold safeOF at hF
  split at hF
  · split at hF
    · rename_i hte
      obtain ⟨hte0, hte1⟩ := hte
      subst hte0
      subst hte1
      cases hF
      exact ⟨by simp only [List.length_cons, List.length_nil]; decide, okSafeO0 _ _ _ _ _ _ _ _ _ _ _ _ _ hq⟩
    · cases hF
  · cases hF
    exact ⟨by simp only [List.length_cons, List.length_nil]; decide, okSafeO1 _ _ _ _ _ _ _ _ _ hq⟩
  · cases hF
theorem sndReadI : Sound Try.prog (lookΓ gamReadI) := sound_of _ fun p hp => by
  simp only [gamReadI, List.mem_cons, List.not_mem_nil, or_false] at hp
  rcases hp with rfl | rfl
  · exact meetsHas.orNil
  · exact meetsClone.orNil
set_option maxHeartbeats 4000000 in
theorem meetsReadI : Meets Try.prog 16 readIF := by
  refine meets_of_awp (Γ := lookΓ gamReadI) (L := fun _ _ => none) sndReadI mixedOrders Try.func16 rfl Try.call16 ?_
  intro args q r hF hq ho
  unfold readIF at hF
  split at hF
  · split at hF
    · rename_i hte
      obtain ⟨hte0, hte1⟩ := hte
      subst hte0
      subst hte1
      cases hF
      exact ⟨by simp only [List.length_cons, List.length_nil]; decide, okReadI0 _ _ _ _ _ _ _ _ _ _ _ _ _ hq⟩
    · cases hF
  · cases hF
    exact ⟨by simp only [List.length_cons, List.length_nil]; decide, okReadI1 _ _ _ _ _ _ _ _ _ hq⟩
  · cases hF
theorem sndReadO : Sound Try.prog (lookΓ gamReadO) := sound_of _ fun p hp => by
  simp only [gamReadO, List.mem_cons, List.not_mem_nil, or_false] at hp
  subst hp
  exact meetsHasO.orNil
set_option maxHeartbeats 4000000 in
theorem meetsReadO : Meets Try.prog 16 readOF := by
  refine meets_of_awp (Γ := lookΓ gamReadO) (L := fun _ _ => none) sndReadO mixedOrders Try.func16 rfl Try.call16 ?_
  intro args q r hF hq ho
  unfold readOF at hF
  split at hF
  · split at hF
    · rename_i hte
      obtain ⟨hte0, hte1⟩ := hte
      subst hte0
      subst hte1
      cases hF
      exact ⟨by simp only [List.length_cons, List.length_nil]; decide, okReadO0 _ _ _ _ _ _ _ _ _ _ _ _ _ hq⟩
    · cases hF
  · cases hF
    exact ⟨by simp only [List.length_cons, List.length_nil]; decide, okReadO1 _ _ _ _ _ _ _ _ _ hq⟩
  · cases hF
theorem sndSyncI : Sound Try.prog (lookΓ gamSyncI) := sound_of _ fun p hp => by
  simp only [gamSyncI, List.mem_cons, List.not_mem_nil, or_false] at hp
  rcases hp with rfl | rfl
  · exact meetsMay.orNil
  · exact meetsUnit.orNil
set_option maxHeartbeats 4000000 in
theorem meetsSyncI : Meets Try.prog 21 syncIF := by
  refine meets_of_awp (Γ := lookΓ gamSyncI) (L := fun _ _ => none) sndSyncI mixedOrders Try.func21 rfl Try.call21 ?_
  intro args q r hF hq ho
  unfold syncIF at hF
  split at hF
  · split at hF
    · rename_i hte
      obtain ⟨hte0, hte1⟩ := hte
      subst hte0
      subst hte1
      cases hF
      exact ⟨by simp only [List.length_cons, List.length_nil]; decide, okSyncI0 _ _ _ _ _ _ _ _ _ _ _ _ _ hq⟩
    · cases hF
  · cases hF
    exact ⟨by simp only [List.length_cons, List.length_nil]; decide, okSyncI1 _ _ _ _ _ _ _ _ _ hq⟩
  · cases hF
theorem sndSyncO : Sound Try.prog (lookΓ gamSyncO) := sound_of _ fun p hp => by
  simp only [gamSyncO, List.mem_cons, List.not_mem_nil, or_false] at hp
  rcases hp with rfl | rfl
  · exact meetsMayO.orNil
  · exact meetsUnit.orNil
set_option maxHeartbeats 4000000 in
theorem meetsSyncO : Meets Try.prog 21 syncOF := by
  refine meets_of_awp (Γ := lookΓ gamSyncO) (L := fun _ _ => none) sndSyncO mixedOrders Try.func21 rfl Try.call21 ?_
  intro args q r hF hq ho
  unfold syncOF at hF
  split at hF
  · split at hF
    · rename_i hte
      obtain ⟨hte0, hte1⟩ := hte
      subst hte0
      subst hte1
      cases hF
      exact ⟨by simp only [List.length_cons, List.length_nil]; decide, okSyncO0 _ _ _ _ _ _ _ _ _ _ _ _ _ hq⟩
    · cases hF
  · cases hF
    exact ⟨by simp only [List.length_cons, List.length_nil]; decide, okSyncO1 _ _ _ _ _ _ _ _ _ hq⟩
  · cases hF
theorem sndTrimI : Sound Try.prog (lookΓ gamTrimI) := sound_of _ fun p hp => by
  simp only [gamTrimI, List.mem_cons, List.not_mem_nil, or_false] at hp
  rcases hp with rfl | rfl | rfl
  · exact meetsMay.orNil
  · exact meetsUnit.orNil
  · exact meetsClone.orNil
set_option maxHeartbeats 4000000 in
theorem meetsTrimI : Meets Try.prog 24 trimIF := by
  refine meets_of_awp (Γ := lookΓ gamTrimI) (L := fun _ _ => none) sndTrimI mixedOrders Try.func24 rfl Try.call24 ?_
  intro args q r hF hq ho
  unfold trimIF at hF
  split at hF
  · split at hF
    · rename_i hte
      obtain ⟨hte0, hte1⟩ := hte
      subst hte0
      subst hte1
      cases hF
      exact ⟨by simp only [List.length_cons, List.length_nil]; decide, okTrimI0 _ _ _ _ _ _ _ _ _ _ _ _ _ _ hq⟩
    · cases hF
  · cases hF
theorem sndTrimO : Sound Try.prog (lookΓ gamTrimO) := sound_of _ fun p hp => by
  simp only [gamTrimO, List.mem_cons, List.not_mem_nil, or_false] at hp
  rcases hp with rfl | rfl | rfl
  · exact meetsMayO.orNil
  · exact meetsUnit.orNil
  · exact meetsClone.orNil
set_option maxHeartbeats 4000000 in
theorem meetsTrimO : Meets Try.prog 24 trimOF := by
  refine meets_of_awp (Γ := lookΓ gamTrimO) (L := fun _ _ => none) sndTrimO mixedOrders Try.func24 rfl Try.call24 ?_
  intro args q r hF hq ho
  unfold trimOF at hF
  split at hF
  · split at hF
    · rename_i hte
      obtain ⟨hte0, hte1⟩ := hte
      subst hte0
      subst hte1
      cases hF
      exact ⟨by simp only [List.length_cons, List.length_nil]; decide, okTrimO0 _ _ _ _ _ _ _ _ _ _ _ _ _ _ hq⟩
    · cases hF
  · cases hF
theorem sndAppI : Sound Try.prog (lookΓ gamAppI) := sound_of _ fun p hp => by
  simp only [gamAppI, List.mem_cons, List.not_mem_nil, or_false] at hp
  rcases hp with rfl | rfl | rfl
  · exact meetsMay.orNil
  · exact meetsLeft.orNil
  · exact meetsUnit.orNil
set_option maxHeartbeats 4000000 in
theorem meetsAppI : Meets Try.prog 26 appIF := by
  refine meets_of_awp (Γ := lookΓ gamAppI) (L := fun args => match args with | [.box [.int .i64 sz, .sl x0 (.row p q te0), .int .i64 s0, .sl x1 (.row p' q' te1), .int .i64 s1, .bool ar, .int .i64 un, .bool dn], .val (.int .i64 f), .val (.sl ys .no)] => lpAppI0 sz x0 s0 x1 s1 ar un dn p q p' q' f ys | _ => fun _ => none) sndAppI mixedOrders Try.func26 rfl Try.call26 ?_
  intro args q r hF hq ho
  unfold appIF at hF
  split at hF
  · split at hF
    · rename_i hte
      obtain ⟨hte0, hte1⟩ := hte
      subst hte0
      subst hte1
      cases hF
      exact ⟨by simp only [List.length_cons, List.length_nil]; decide, okAppI0 _ _ _ _ _ _ _ _ _ _ _ _ _ _ hq⟩
    · cases hF
  · cases hF
theorem sndAppO : Sound Try.prog (lookΓ gamAppO) := sound_of _ fun p hp => by
  simp only [gamAppO, List.mem_cons, List.not_mem_nil, or_false] at hp
  rcases hp with rfl | rfl | rfl
  · exact meetsMayO.orNil
  · exact meetsLeft.orNil
  · exact meetsUnit.orNil
set_option maxHeartbeats 4000000 in
theorem meetsAppO : Meets Try.prog 26 appOF := by
  refine meets_of_awp (Γ := lookΓ gamAppO) (L := fun _ _ => none) sndAppO mixedOrders Try.func26 rfl Try.call26 ?_
  intro args q r hF hq ho
  unfold appOF at hF
  split at hF
  · split at hF
    · rename_i hte
      obtain ⟨hte0, hte1⟩ := hte
      subst hte0
      subst hte1
      cases hF
      exact ⟨by simp only [List.length_cons, List.length_nil]; decide, okAppO0 _ _ _ _ _ _ _ _ _ _ _ _ _ _ hq⟩
    · cases hF
  · cases hF
theorem sndCrashN : Sound Try.prog (lookΓ gamCrashN) := sound_of _ fun p hp => by
  simp [gamCrashN] at hp
set_option maxHeartbeats 4000000 in
theorem meetsCrashN : Meets Try.prog 18 crashNF := by
  refine meets_of_awp (Γ := lookΓ gamCrashN) (L := fun args => match args with | [.box [.int .i64 sz, .sl x0 (.row p q te0), .int .i64 s0, .sl x1 (.row p' q' te1), .int .i64 s1, .bool ar, .int .i64 un, .bool dn], .val (.agg [.int .i64 k0, .int .i64 k1])] => lpCrashN0 sz x0 s0 x1 s1 ar un dn p q p' q' k0 k1 | _ => fun _ => none) sndCrashN mixedOrders Try.func18 rfl Try.call18 ?_
  intro args q r hF hq ho
  unfold crashNF at hF
  split at hF
  · split at hF
    · rename_i hte
      obtain ⟨hte0, hte1⟩ := hte
      subst hte0
      subst hte1
      cases hF
      exact ⟨by simp only [List.length_cons, List.length_nil]; decide, okCrashN0 _ _ _ _ _ _ _ _ _ _ _ _ _ _ hq⟩
    · cases hF
  · cases hF
end Go.Proofs.Ytddilmocngedjaa
