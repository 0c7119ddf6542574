/- Contracts by content, and the conditions that their code must meet. -/
import Derived.Test.YtcokifdgbfbonaaDoorLaxByt
import Derived.Test.YtcokifdgbfbonaaDoorLaxArgs
import Derived.Test.YtcokifdgbfbonaaDoorLaxWrap
namespace Go.Proofs.YtcokifdgbfbonaaDoor
set_option linter.unusedVariables false
set_option linter.unusedSimpArgs false
open Go.RowKit
def rightId (r n : Int) : Bool := decide (0 ≤ r ∧ r ≤ 6 ∧ 0 ≤ n ∧ n < 1024)
def balOK (b : Int) : Bool := decide (b = 0 ∨ (0 < b / 8 ∧ b / 8 < 16777216 ∧ b % 8 ≤ 6))
def inLen (d : Int) : Bool := decide (0 ≤ d ∧ d ≤ 1024)
def rightA (s d0 d1 d2 d3 d4 d5 d6 : Int) : Bool := inLen d0 && inLen d1 && inLen d2 && inLen d3 && inLen d4 && inLen d5 && inLen d6 && decide (0 ≤ s ∧ s ≤ 1073741824)
def sel (r d0 d1 d2 d3 d4 d5 d6 : Int) : Int := if r = 0 then d0 else if r = 1 then d1 else if r = 2 then d2 else if r = 3 then d3 else if r = 4 then d4 else if r = 5 then d5 else d6
def ow (j r n d : Int) : Int := if rightId r n = true ∧ r = j then n else d
def ownsB (s d0 d1 d2 d3 d4 d5 d6 r n : Int) : Bool := rightId r n && rightA s d0 d1 d2 d3 d4 d5 d6 && decide (sel r d0 d1 d2 d3 d4 d5 d6 = n)
def mx (a b : Int) : Int := if b > a then b else a
def withinB (s d0 d1 d2 d3 d4 d5 d6 s' e0 e1 e2 e3 e4 e5 e6 : Int) : Bool := decide (s ≤ s') && decide (d0 ≤ e0) && decide (d1 ≤ e1) && decide (d2 ≤ e2) && decide (d3 ≤ e3) && decide (d4 ≤ e4) && decide (d5 ≤ e5) && decide (d6 ≤ e6)
def idRightF : Con
  | [.val (.agg [.int .i64 r, .int .i64 n])] => (some (True, ⟨.bool (rightId r n), none, none⟩))
  | _ => none
def gamIdRight : List (Nat × Con) := []
def lpIdRight0 (r n : Int) : Nat → Option LoopPlan := fun _ => none
def inIdRight0 (r n : Int) : Prop := awp [] (lpIdRight0 r n) (lookΓ gamIdRight) Tryd.prog Tryd.f74.ntmps 0 (Tryd.f74.body.getD .skip) (entrySt [.val (.agg [.int .i64 r, .int .i64 n])]) (exitQ Tryd.prog Tryd.f74.results.toList [] ⟨.bool (rightId r n), none, none⟩)
def OkIdRight0 : Prop := ∀ (r n : Int), True → inIdRight0 r n
def balRoundF : Con
  | [.val (.int .u32 b)] => (some (True, ⟨.int .i64 (b / 8), none, none⟩))
  | _ => none
def gamBalRound : List (Nat × Con) := []
def lpBalRound0 (b : Int) : Nat → Option LoopPlan := fun _ => none
def inBalRound0 (b : Int) : Prop := awp [] (lpBalRound0 b) (lookΓ gamBalRound) Tryd.prog Tryd.f124.ntmps 0 (Tryd.f124.body.getD .skip) (entrySt [.val (.int .u32 b)]) (exitQ Tryd.prog Tryd.f124.results.toList [] ⟨.int .i64 (b / 8), none, none⟩)
def OkBalRound0 : Prop := ∀ (b : Int), True → (0 ≤ b ∧ b ≤ 4294967295) → inBalRound0 b
def balRepF : Con
  | [.val (.int .u32 b)] => (some (True, ⟨.int .i64 (b % 8), none, none⟩))
  | _ => none
def gamBalRep : List (Nat × Con) := []
def lpBalRep0 (b : Int) : Nat → Option LoopPlan := fun _ => none
def inBalRep0 (b : Int) : Prop := awp [] (lpBalRep0 b) (lookΓ gamBalRep) Tryd.prog Tryd.f125.ntmps 0 (Tryd.f125.body.getD .skip) (entrySt [.val (.int .u32 b)]) (exitQ Tryd.prog Tryd.f125.results.toList [] ⟨.int .i64 (b % 8), none, none⟩)
def OkBalRep0 : Prop := ∀ (b : Int), True → (0 ≤ b ∧ b ≤ 4294967295) → inBalRep0 b
def balRightF : Con
  | [.val (.int .u32 b)] => (some (True, ⟨.bool (balOK b), none, none⟩))
  | _ => none
def gamBalRight : List (Nat × Con) := [(124, balRoundF.orNil), (125, balRepF.orNil)]
def lpBalRight0 (b : Int) : Nat → Option LoopPlan := fun _ => none
def inBalRight0 (b : Int) : Prop := awp [] (lpBalRight0 b) (lookΓ gamBalRight) Tryd.prog Tryd.f75.ntmps 0 (Tryd.f75.body.getD .skip) (entrySt [.val (.int .u32 b)]) (exitQ Tryd.prog Tryd.f75.results.toList [] ⟨.bool (balOK b), none, none⟩)
def OkBalRight0 : Prop := ∀ (b : Int), True → (0 ≤ b ∧ b ≤ 4294967295) → inBalRight0 b
def attRightF : Con
  | [.val (.agg [.int .i64 s, .int .i64 d0, .int .i64 d1, .int .i64 d2, .int .i64 d3, .int .i64 d4, .int .i64 d5, .int .i64 d6])] => (some (True, ⟨.bool (rightA s d0 d1 d2 d3 d4 d5 d6), none, none⟩))
  | _ => none
def gamAttRight : List (Nat × Con) := []
def lpAttRight0 (s d0 d1 d2 d3 d4 d5 d6 : Int) : Nat → Option LoopPlan := fun b => bif Nat.beq b 0 then some (.unroll [] 9) else none
def inAttRight0 (s d0 d1 d2 d3 d4 d5 d6 : Int) : Prop := awp [] (lpAttRight0 s d0 d1 d2 d3 d4 d5 d6) (lookΓ gamAttRight) Tryd.prog Tryd.f126.ntmps 0 (Tryd.f126.body.getD .skip) (entrySt [.val (.agg [.int .i64 s, .int .i64 d0, .int .i64 d1, .int .i64 d2, .int .i64 d3, .int .i64 d4, .int .i64 d5, .int .i64 d6])]) (exitQ Tryd.prog Tryd.f126.results.toList [] ⟨.bool (rightA s d0 d1 d2 d3 d4 d5 d6), none, none⟩)
def OkAttRight0 : Prop := ∀ (s d0 d1 d2 d3 d4 d5 d6 : Int), True → inAttRight0 s d0 d1 d2 d3 d4 d5 d6
def attOwnF : Con
  | [.val (.agg [.int .i64 s, .int .i64 d0, .int .i64 d1, .int .i64 d2, .int .i64 d3, .int .i64 d4, .int .i64 d5, .int .i64 d6]), .val (.agg [.int .i64 r, .int .i64 n])] => (some (True, ⟨.agg [.int .i64 s, .int .i64 (ow 0 r n d0), .int .i64 (ow 1 r n d1), .int .i64 (ow 2 r n d2), .int .i64 (ow 3 r n d3), .int .i64 (ow 4 r n d4), .int .i64 (ow 5 r n d5), .int .i64 (ow 6 r n d6)], none, none⟩))
  | _ => none
def gamAttOwn : List (Nat × Con) := [(74, idRightF.orNil)]
def lpAttOwn0 (s d0 d1 d2 d3 d4 d5 d6 r n : Int) : Nat → Option LoopPlan := fun _ => none
def inAttOwn0 (s d0 d1 d2 d3 d4 d5 d6 r n : Int) : Prop := awp [] (lpAttOwn0 s d0 d1 d2 d3 d4 d5 d6 r n) (lookΓ gamAttOwn) Tryd.prog Tryd.f30.ntmps 0 (Tryd.f30.body.getD .skip) (entrySt [.val (.agg [.int .i64 s, .int .i64 d0, .int .i64 d1, .int .i64 d2, .int .i64 d3, .int .i64 d4, .int .i64 d5, .int .i64 d6]), .val (.agg [.int .i64 r, .int .i64 n])]) (exitQ Tryd.prog Tryd.f30.results.toList [] ⟨.agg [.int .i64 s, .int .i64 (ow 0 r n d0), .int .i64 (ow 1 r n d1), .int .i64 (ow 2 r n d2), .int .i64 (ow 3 r n d3), .int .i64 (ow 4 r n d4), .int .i64 (ow 5 r n d5), .int .i64 (ow 6 r n d6)], none, none⟩)
def OkAttOwn0 : Prop := ∀ (s d0 d1 d2 d3 d4 d5 d6 r n : Int), True → inAttOwn0 s d0 d1 d2 d3 d4 d5 d6 r n
def attOwnsF : Con
  | [.val (.agg [.int .i64 s, .int .i64 d0, .int .i64 d1, .int .i64 d2, .int .i64 d3, .int .i64 d4, .int .i64 d5, .int .i64 d6]), .val (.agg [.int .i64 r, .int .i64 n])] => (some (True, ⟨.bool (ownsB s d0 d1 d2 d3 d4 d5 d6 r n), none, none⟩))
  | _ => none
def gamAttOwns : List (Nat × Con) := [(74, idRightF.orNil), (126, attRightF.orNil), (30, attOwnF.orNil)]
def lpAttOwns0 (s d0 d1 d2 d3 d4 d5 d6 r n : Int) : Nat → Option LoopPlan := fun _ => none
def inAttOwns0 (s d0 d1 d2 d3 d4 d5 d6 r n : Int) : Prop := awp [] (lpAttOwns0 s d0 d1 d2 d3 d4 d5 d6 r n) (lookΓ gamAttOwns) Tryd.prog Tryd.f76.ntmps 0 (Tryd.f76.body.getD .skip) (entrySt [.val (.agg [.int .i64 s, .int .i64 d0, .int .i64 d1, .int .i64 d2, .int .i64 d3, .int .i64 d4, .int .i64 d5, .int .i64 d6]), .val (.agg [.int .i64 r, .int .i64 n])]) (exitQ Tryd.prog Tryd.f76.results.toList [] ⟨.bool (ownsB s d0 d1 d2 d3 d4 d5 d6 r n), none, none⟩)
def OkAttOwns0 : Prop := ∀ (s d0 d1 d2 d3 d4 d5 d6 r n : Int), True → inAttOwns0 s d0 d1 d2 d3 d4 d5 d6 r n
def attMergeF : Con
  | [.val (.agg [.int .i64 s, .int .i64 d0, .int .i64 d1, .int .i64 d2, .int .i64 d3, .int .i64 d4, .int .i64 d5, .int .i64 d6]), .val (.agg [.int .i64 s', .int .i64 e0, .int .i64 e1, .int .i64 e2, .int .i64 e3, .int .i64 e4, .int .i64 e5, .int .i64 e6])] => (some (True, ⟨.agg [.int .i64 (mx s s'), .int .i64 (mx d0 e0), .int .i64 (mx d1 e1), .int .i64 (mx d2 e2), .int .i64 (mx d3 e3), .int .i64 (mx d4 e4), .int .i64 (mx d5 e5), .int .i64 (mx d6 e6)], none, none⟩))
  | _ => none
def gamAttMerge : List (Nat × Con) := []
def lpAttMerge0 (s d0 d1 d2 d3 d4 d5 d6 s' e0 e1 e2 e3 e4 e5 e6 : Int) : Nat → Option LoopPlan := fun b => bif Nat.beq b 0 then some (.unroll [] 9) else none
def inAttMerge0 (s d0 d1 d2 d3 d4 d5 d6 s' e0 e1 e2 e3 e4 e5 e6 : Int) : Prop := awp [] (lpAttMerge0 s d0 d1 d2 d3 d4 d5 d6 s' e0 e1 e2 e3 e4 e5 e6) (lookΓ gamAttMerge) Tryd.prog Tryd.f83.ntmps 0 (Tryd.f83.body.getD .skip) (entrySt [.val (.agg [.int .i64 s, .int .i64 d0, .int .i64 d1, .int .i64 d2, .int .i64 d3, .int .i64 d4, .int .i64 d5, .int .i64 d6]), .val (.agg [.int .i64 s', .int .i64 e0, .int .i64 e1, .int .i64 e2, .int .i64 e3, .int .i64 e4, .int .i64 e5, .int .i64 e6])]) (exitQ Tryd.prog Tryd.f83.results.toList [] ⟨.agg [.int .i64 (mx s s'), .int .i64 (mx d0 e0), .int .i64 (mx d1 e1), .int .i64 (mx d2 e2), .int .i64 (mx d3 e3), .int .i64 (mx d4 e4), .int .i64 (mx d5 e5), .int .i64 (mx d6 e6)], none, none⟩)
def OkAttMerge0 : Prop := ∀ (s d0 d1 d2 d3 d4 d5 d6 s' e0 e1 e2 e3 e4 e5 e6 : Int), True → inAttMerge0 s d0 d1 d2 d3 d4 d5 d6 s' e0 e1 e2 e3 e4 e5 e6
def attWithinF : Con
  | [.val (.agg [.int .i64 s, .int .i64 d0, .int .i64 d1, .int .i64 d2, .int .i64 d3, .int .i64 d4, .int .i64 d5, .int .i64 d6]), .val (.agg [.int .i64 s', .int .i64 e0, .int .i64 e1, .int .i64 e2, .int .i64 e3, .int .i64 e4, .int .i64 e5, .int .i64 e6])] => (some (True, ⟨.bool (withinB s d0 d1 d2 d3 d4 d5 d6 s' e0 e1 e2 e3 e4 e5 e6), none, none⟩))
  | _ => none
def gamAttWithin : List (Nat × Con) := [(83, attMergeF.orNil)]
def lpAttWithin0 (s d0 d1 d2 d3 d4 d5 d6 s' e0 e1 e2 e3 e4 e5 e6 : Int) : Nat → Option LoopPlan := fun _ => none
def inAttWithin0 (s d0 d1 d2 d3 d4 d5 d6 s' e0 e1 e2 e3 e4 e5 e6 : Int) : Prop := awp [] (lpAttWithin0 s d0 d1 d2 d3 d4 d5 d6 s' e0 e1 e2 e3 e4 e5 e6) (lookΓ gamAttWithin) Tryd.prog Tryd.f29.ntmps 0 (Tryd.f29.body.getD .skip) (entrySt [.val (.agg [.int .i64 s, .int .i64 d0, .int .i64 d1, .int .i64 d2, .int .i64 d3, .int .i64 d4, .int .i64 d5, .int .i64 d6]), .val (.agg [.int .i64 s', .int .i64 e0, .int .i64 e1, .int .i64 e2, .int .i64 e3, .int .i64 e4, .int .i64 e5, .int .i64 e6])]) (exitQ Tryd.prog Tryd.f29.results.toList [] ⟨.bool (withinB s d0 d1 d2 d3 d4 d5 d6 s' e0 e1 e2 e3 e4 e5 e6), none, none⟩)
def OkAttWithin0 : Prop := ∀ (s d0 d1 d2 d3 d4 d5 d6 s' e0 e1 e2 e3 e4 e5 e6 : Int), True → inAttWithin0 s d0 d1 d2 d3 d4 d5 d6 s' e0 e1 e2 e3 e4 e5 e6
def refIdRightF : Con
  | [.val (.agg [.int .i64 r, .int .i64 n])] => (some (True, ⟨.bool (rightId r n), none, none⟩))
  | _ => none
def gamRefIdRight : List (Nat × Con) := []
def lpRefIdRight0 (r n : Int) : Nat → Option LoopPlan := fun _ => none
def inRefIdRight0 (r n : Int) : Prop := awp [] (lpRefIdRight0 r n) (lookΓ gamRefIdRight) Tryd.prog Tryd.f106.ntmps 0 (Tryd.f106.body.getD .skip) (entrySt [.val (.agg [.int .i64 r, .int .i64 n])]) (exitQ Tryd.prog Tryd.f106.results.toList [] ⟨.bool (rightId r n), none, none⟩)
def OkRefIdRight0 : Prop := ∀ (r n : Int), True → inRefIdRight0 r n
def refBalF : Con
  | [.val (.int .u32 b)] => (some (True, ⟨.bool (balOK b), none, none⟩))
  | _ => none
def gamRefBal : List (Nat × Con) := []
def lpRefBal0 (b : Int) : Nat → Option LoopPlan := fun _ => none
def inRefBal0 (b : Int) : Prop := awp [] (lpRefBal0 b) (lookΓ gamRefBal) Tryd.prog Tryd.f107.ntmps 0 (Tryd.f107.body.getD .skip) (entrySt [.val (.int .u32 b)]) (exitQ Tryd.prog Tryd.f107.results.toList [] ⟨.bool (balOK b), none, none⟩)
def OkRefBal0 : Prop := ∀ (b : Int), True → (0 ≤ b ∧ b ≤ 4294967295) → inRefBal0 b
def refARightF : Con
  | [.val (.agg [.int .i64 s, .int .i64 d0, .int .i64 d1, .int .i64 d2, .int .i64 d3, .int .i64 d4, .int .i64 d5, .int .i64 d6])] => (some (True, ⟨.bool (rightA s d0 d1 d2 d3 d4 d5 d6), none, none⟩))
  | _ => none
def gamRefARight : List (Nat × Con) := []
def lpRefARight0 (s d0 d1 d2 d3 d4 d5 d6 : Int) : Nat → Option LoopPlan := fun b => bif Nat.beq b 0 then some (.unroll [] 9) else none
def inRefARight0 (s d0 d1 d2 d3 d4 d5 d6 : Int) : Prop := awp [] (lpRefARight0 s d0 d1 d2 d3 d4 d5 d6) (lookΓ gamRefARight) Tryd.prog Tryd.f27.ntmps 0 (Tryd.f27.body.getD .skip) (entrySt [.val (.agg [.int .i64 s, .int .i64 d0, .int .i64 d1, .int .i64 d2, .int .i64 d3, .int .i64 d4, .int .i64 d5, .int .i64 d6])]) (exitQ Tryd.prog Tryd.f27.results.toList [] ⟨.bool (rightA s d0 d1 d2 d3 d4 d5 d6), none, none⟩)
def OkRefARight0 : Prop := ∀ (s d0 d1 d2 d3 d4 d5 d6 : Int), True → inRefARight0 s d0 d1 d2 d3 d4 d5 d6
end Go.Proofs.YtcokifdgbfbonaaDoor
