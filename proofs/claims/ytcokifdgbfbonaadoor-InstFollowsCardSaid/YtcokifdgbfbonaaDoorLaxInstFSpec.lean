/- Contracts by content, and the conditions that their code must meet. -/
import Derived.Test.YtcokifdgbfbonaaDoorLaxInstAMeets
import Derived.Test.YtcokifdgbfbonaaDoorLaxIoBMeets
namespace Go.Proofs.YtcokifdgbfbonaaDoor
set_option linter.unusedVariables false
set_option linter.unusedSimpArgs false
open Go.RowKit
def encI0 (r sl bal : Int) : List UInt8 := catL (encID r sl) (catL (short bal.toNat) (encByte 0))
def iput0F : Con
  | [.val (.agg zcx), .box [.sl xs (.row p q te0)]] => (match instOf zcx with | some x => if te0 = 5 then some (x.st = 0 ∧ isBytes xs ∧ xs.length + 100 ≤ 140737488355328, ⟨.tup [], (some [.sl (bytesAV (catL (bytesL xs) (encI0 x.r x.sl x.bal))) (.row 0 0 5)]), none⟩) else none | _ => none)
  | _ => none
def gamIput0 : List (Nat × Con) := [(141, idPutF.orNil), (142, balPutF.orNil), (120, outByteF.orNil)]
def lpIput00 (x : InstP) (xs : List AV) (p q : Nat) : Nat → Option LoopPlan := fun _ => none
def inIput00 (x : InstP) (xs : List AV) (p q : Nat) : Prop := awp [1] (lpIput00 x xs p q) (lookΓ gamIput0) Tryd.prog Tryd.f108.ntmps 0 (Tryd.f108.body.getD .skip) (entrySt [.val (.agg (instL x)), .box [.sl xs (.row p q 5)]]) (exitQ Tryd.prog Tryd.f108.results.toList [1] ⟨.tup [], (some [.sl (bytesAV (catL (bytesL xs) (encI0 x.r x.sl x.bal))) (.row 0 0 5)]), none⟩)
def OkIput00 : Prop := ∀ (x : InstP) (xs : List AV) (p q : Nat), x.st = 0 ∧ isBytes xs ∧ xs.length + 100 ≤ 140737488355328 → (0 ≤ x.bal ∧ x.bal ≤ 4294967295) → inIput00 x xs p q
def ibytes0F : Con
  | [.val (.agg zcx)] => (match instOf zcx with | some x => some (x.st = 0, ⟨.sl (bytesAV (encI0 x.r x.sl x.bal)) .no, none, none⟩) | _ => none)
  | _ => none
def gamIbytes0 : List (Nat × Con) := [(108, iput0F.orNil), (72, outBytesF.orNil)]
def lpIbytes00 (x : InstP) : Nat → Option LoopPlan := fun _ => none
def inIbytes00 (x : InstP) : Prop := awp [] (lpIbytes00 x) (lookΓ gamIbytes0) Tryd.prog Tryd.f61.ntmps 0 (Tryd.f61.body.getD .skip) (entrySt [.val (.agg (instL x))]) (exitQ Tryd.prog Tryd.f61.results.toList [] ⟨.sl (bytesAV (encI0 x.r x.sl x.bal)) .no, none, none⟩)
def OkIbytes00 : Prop := ∀ (x : InstP), x.st = 0 → (0 ≤ x.bal ∧ x.bal ≤ 4294967295) → inIbytes00 x
def anchor10F : Con
  | [] => (some (True, ⟨.bool true, none, none⟩))
  | _ => none
def gamAnchor10 : List (Nat × Con) := [(43, inewF.orNil), (61, ibytes0F.orNil)]
def lpAnchor100  : Nat → Option LoopPlan := fun _ => none
def inAnchor100  : Prop := awp [] (lpAnchor100) (lookΓ gamAnchor10) Tryd.prog Tryd.f31.ntmps 0 (Tryd.f31.body.getD .skip) (entrySt []) (exitQ Tryd.prog Tryd.f31.results.toList [] ⟨.bool true, none, none⟩)
def OkAnchor100 : Prop := True → inAnchor100
def small10F : Con
  | [.val (.agg zcx)] => (match instOf zcx with | some x => some (maxX x, ⟨.bool (smallB x 200), none, none⟩) | _ => none)
  | _ => none
def gamSmall10 : List (Nat × Con) := []
def lpSmall100 (x : InstP) : Nat → Option LoopPlan := fun _ => none
def inSmall100 (x : InstP) : Prop := awp [] (lpSmall100 x) (lookΓ gamSmall10) Tryd.prog Tryd.f32.ntmps 0 (Tryd.f32.body.getD .skip) (entrySt [.val (.agg (instL x))]) (exitQ Tryd.prog Tryd.f32.results.toList [] ⟨.bool (smallB x 200), none, none⟩)
def OkSmall100 : Prop := ∀ (x : InstP), maxX x → inSmall100 x
def lawFollowsF : Con
  | [.val (.agg zcx), .val (.agg zcy), .val (.agg zcz)] => (match instOf zcx, instOf zcy, instOf zcz with | some x, some y, some z => some (maxX x ∧ maxX y ∧ maxX z, ⟨.bool true, none, none⟩) | _, _, _ => none)
  | _ => none
def gamLawFollows : List (Nat × Con) := [(31, anchor10F.orNil), (32, small10F.orNil), (33, followsF.orNil), (34, alikeF.orNil)]
def lpLawFollows0 (x y z : InstP) : Nat → Option LoopPlan := fun _ => none
def inLawFollows0 (x y z : InstP) : Prop := awp [] (lpLawFollows0 x y z) (lookΓ gamLawFollows) Tryd.prog Tryd.f7.ntmps 0 (Tryd.f7.body.getD .skip) (entrySt [.val (.agg (instL x)), .val (.agg (instL y)), .val (.agg (instL z))]) (exitQ Tryd.prog Tryd.f7.results.toList [] ⟨.bool true, none, none⟩)
def OkLawFollows0 : Prop := ∀ (x y z : InstP), maxX x ∧ maxX y ∧ maxX z → inLawFollows0 x y z
end Go.Proofs.YtcokifdgbfbonaaDoor
