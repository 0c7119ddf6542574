/- Contracts by content, and the conditions that their code must meet. -/
import Derived.Test.YtledoikeaidlfaaLaxIoMeets
namespace Go.Proofs.Ytledoikeaidlfaa
set_option linter.unusedVariables false
set_option linter.unusedSimpArgs false
open Go.RowKit
def attCoversF : Con
  | [.val (.agg [.int .i64 s, .int .i64 d0, .int .i64 d1, .int .i64 d2, .int .i64 d3, .int .i64 d4, .int .i64 d5, .int .i64 d6]), .val (.agg [.int .i64 r, .int .i64 n])] => some (r = 2 ∧ 0 ≤ n ∧ n < 1024, ⟨.bool (decide (n < d2)), none, none⟩)
  | _ => none
def gamAttCovers : List (Nat × Con) := [(21, idRightF)]
def lpAttCovers0 (s d0 d1 d2 d3 d4 d5 d6 r n : Int) : Nat → Option LoopPlan := fun _ => none
def inAttCovers0 (s d0 d1 d2 d3 d4 d5 d6 r n : Int) : Prop := awp [] (lpAttCovers0 s d0 d1 d2 d3 d4 d5 d6 r n) (lookΓ gamAttCovers) Try.prog Try.f40.ntmps 0 (Try.f40.body.getD .skip) (entrySt [.val (.agg [.int .i64 s, .int .i64 d0, .int .i64 d1, .int .i64 d2, .int .i64 d3, .int .i64 d4, .int .i64 d5, .int .i64 d6]), .val (.agg [.int .i64 r, .int .i64 n])]) (exitQ Try.prog Try.f40.results.toList [] ⟨.bool (decide (n < d2)), none, none⟩)
def OkAttCovers0 : Prop := ∀ (s d0 d1 d2 d3 d4 d5 d6 r n : Int), r = 2 ∧ 0 ≤ n ∧ n < 1024 → inAttCovers0 s d0 d1 d2 d3 d4 d5 d6 r n
def attOwnF : Con
  | [.val (.agg [.int .i64 s, .int .i64 d0, .int .i64 d1, .int .i64 d2, .int .i64 d3, .int .i64 d4, .int .i64 d5, .int .i64 d6]), .val (.agg [.int .i64 r, .int .i64 n])] => some (r = 2 ∧ 0 ≤ n ∧ n < 1024, ⟨.agg [.int .i64 s, .int .i64 d0, .int .i64 d1, .int .i64 n, .int .i64 d3, .int .i64 d4, .int .i64 d5, .int .i64 d6], none, none⟩)
  | _ => none
def gamAttOwn : List (Nat × Con) := [(21, idRightF)]
def lpAttOwn0 (s d0 d1 d2 d3 d4 d5 d6 r n : Int) : Nat → Option LoopPlan := fun _ => none
def inAttOwn0 (s d0 d1 d2 d3 d4 d5 d6 r n : Int) : Prop := awp [] (lpAttOwn0 s d0 d1 d2 d3 d4 d5 d6 r n) (lookΓ gamAttOwn) Try.prog Try.f59.ntmps 0 (Try.f59.body.getD .skip) (entrySt [.val (.agg [.int .i64 s, .int .i64 d0, .int .i64 d1, .int .i64 d2, .int .i64 d3, .int .i64 d4, .int .i64 d5, .int .i64 d6]), .val (.agg [.int .i64 r, .int .i64 n])]) (exitQ Try.prog Try.f59.results.toList [] ⟨.agg [.int .i64 s, .int .i64 d0, .int .i64 d1, .int .i64 n, .int .i64 d3, .int .i64 d4, .int .i64 d5, .int .i64 d6], none, none⟩)
def OkAttOwn0 : Prop := ∀ (s d0 d1 d2 d3 d4 d5 d6 r n : Int), r = 2 ∧ 0 ≤ n ∧ n < 1024 → inAttOwn0 s d0 d1 d2 d3 d4 d5 d6 r n
def attOwnsF : Con
  | [.val (.agg [.int .i64 s, .int .i64 d0, .int .i64 d1, .int .i64 d2, .int .i64 d3, .int .i64 d4, .int .i64 d5, .int .i64 d6]), .val (.agg [.int .i64 r, .int .i64 n])] => some (r = 2 ∧ 0 ≤ n ∧ n < 1024, ⟨.bool (rightA s d0 d1 d2 d3 d4 d5 d6 && decide (d2 = n)), none, none⟩)
  | _ => none
def gamAttOwns : List (Nat × Con) := [(21, idRightF), (44, attRightF), (59, attOwnF)]
def lpAttOwns0 (s d0 d1 d2 d3 d4 d5 d6 r n : Int) : Nat → Option LoopPlan := fun _ => none
def inAttOwns0 (s d0 d1 d2 d3 d4 d5 d6 r n : Int) : Prop := awp [] (lpAttOwns0 s d0 d1 d2 d3 d4 d5 d6 r n) (lookΓ gamAttOwns) Try.prog Try.f41.ntmps 0 (Try.f41.body.getD .skip) (entrySt [.val (.agg [.int .i64 s, .int .i64 d0, .int .i64 d1, .int .i64 d2, .int .i64 d3, .int .i64 d4, .int .i64 d5, .int .i64 d6]), .val (.agg [.int .i64 r, .int .i64 n])]) (exitQ Try.prog Try.f41.results.toList [] ⟨.bool (rightA s d0 d1 d2 d3 d4 d5 d6 && decide (d2 = n)), none, none⟩)
def OkAttOwns0 : Prop := ∀ (s d0 d1 d2 d3 d4 d5 d6 r n : Int), r = 2 ∧ 0 ≤ n ∧ n < 1024 → inAttOwns0 s d0 d1 d2 d3 d4 d5 d6 r n
def anchor9F : Con
  | [] => some (True, ⟨.bool true, none, none⟩)
  | _ => none
def gamAnchor9 : List (Nat × Con) := [(40, attCoversF), (41, attOwnsF)]
def lpAnchor90  : Nat → Option LoopPlan := fun _ => none
def inAnchor90  : Prop := awp [] (lpAnchor90) (lookΓ gamAnchor9) Try.prog Try.f7.ntmps 0 (Try.f7.body.getD .skip) (entrySt []) (exitQ Try.prog Try.f7.results.toList [] ⟨.bool true, none, none⟩)
def OkAnchor90 : Prop := True → inAnchor90
def lawAttrF : Con
  | [.val (.sl xs .no), .val (.agg [.int .i64 s, .int .i64 d0, .int .i64 d1, .int .i64 d2, .int .i64 d3, .int .i64 d4, .int .i64 d5, .int .i64 d6])] => some (isBytes xs ∧ xs.length ≤ 140737488355328, ⟨.bool true, none, none⟩)
  | _ => none
def gamLawAttr : List (Nat × Con) := [(7, anchor9F), (8, newInF), (9, refATakeF), (10, attTakeF), (11, inEndF), (12, refEndF), (13, attPutF), (14, outBytesF), (15, refARightF)]
def lpLawAttr0 (xs : List AV) (s d0 d1 d2 d3 d4 d5 d6 : Int) : Nat → Option LoopPlan := fun _ => none
def inLawAttr0 (xs : List AV) (s d0 d1 d2 d3 d4 d5 d6 : Int) : Prop := awp [] (lpLawAttr0 xs s d0 d1 d2 d3 d4 d5 d6) (lookΓ gamLawAttr) Try.prog Try.f3.ntmps 0 (Try.f3.body.getD .skip) (entrySt [.val (.sl xs .no), .val (.agg [.int .i64 s, .int .i64 d0, .int .i64 d1, .int .i64 d2, .int .i64 d3, .int .i64 d4, .int .i64 d5, .int .i64 d6])]) (exitQ Try.prog Try.f3.results.toList [] ⟨.bool true, none, none⟩)
def OkLawAttr0 : Prop := ∀ (xs : List AV) (s d0 d1 d2 d3 d4 d5 d6 : Int), isBytes xs ∧ xs.length ≤ 140737488355328 → inLawAttr0 xs s d0 d1 d2 d3 d4 d5 d6
def balNextF : Con
  | [.val (.int .u32 b), .val (.int .i64 r)] => some ((b = 0 ∧ r = 2) ∨ (b = 10 ∧ r = 0), ⟨.tup [.int .u32 (if b = 0 then 10 else 16), .int .i64 0], none, none⟩)
  | _ => none
def gamBalNext : List (Nat × Con) := [(49, balRoundF)]
def lpBalNext0 (b r : Int) : Nat → Option LoopPlan := fun _ => none
def inBalNext0 (b r : Int) : Prop := awp [] (lpBalNext0 b r) (lookΓ gamBalNext) Try.prog Try.f45.ntmps 0 (Try.f45.body.getD .skip) (entrySt [.val (.int .u32 b), .val (.int .i64 r)]) (exitQ Try.prog Try.f45.results.toList [] ⟨.tup [.int .u32 (if b = 0 then 10 else 16), .int .i64 0], none, none⟩)
def OkBalNext0 : Prop := ∀ (b r : Int), (b = 0 ∧ r = 2) ∨ (b = 10 ∧ r = 0) → inBalNext0 b r
def anchor6F : Con
  | [] => some (True, ⟨.bool true, none, none⟩)
  | _ => none
def gamAnchor6 : List (Nat × Con) := [(45, balNextF)]
def lpAnchor60  : Nat → Option LoopPlan := fun _ => none
def inAnchor60  : Prop := awp [] (lpAnchor60) (lookΓ gamAnchor6) Try.prog Try.f16.ntmps 0 (Try.f16.body.getD .skip) (entrySt []) (exitQ Try.prog Try.f16.results.toList [] ⟨.bool true, none, none⟩)
def OkAnchor60 : Prop := True → inAnchor60
def lawMarkF : Con
  | [.val (.sl xs .no), .val (.agg [.int .i64 r, .int .i64 n]), .val (.int .u32 b)] => some (isBytes xs ∧ xs.length ≤ 140737488355328, ⟨.bool true, none, none⟩)
  | _ => none
def gamLawMark : List (Nat × Con) := [(16, anchor6F), (8, newInF), (17, refTakeIDF), (18, takeIDF), (11, inEndF), (12, refEndF), (19, refTakeBalF), (20, takeBalF), (21, idRightF), (22, balRightF), (23, idPutF), (24, balPutF), (14, outBytesF)]
def lpLawMark0 (xs : List AV) (r n b : Int) : Nat → Option LoopPlan := fun _ => none
def inLawMark0 (xs : List AV) (r n b : Int) : Prop := awp [] (lpLawMark0 xs r n b) (lookΓ gamLawMark) Try.prog Try.f4.ntmps 0 (Try.f4.body.getD .skip) (entrySt [.val (.sl xs .no), .val (.agg [.int .i64 r, .int .i64 n]), .val (.int .u32 b)]) (exitQ Try.prog Try.f4.results.toList [] ⟨.bool true, none, none⟩)
def OkLawMark0 : Prop := ∀ (xs : List AV) (r n b : Int), isBytes xs ∧ xs.length ≤ 140737488355328 → (0 ≤ b ∧ b ≤ 4294967295) → inLawMark0 xs r n b
end Go.Proofs.Ytledoikeaidlfaa
