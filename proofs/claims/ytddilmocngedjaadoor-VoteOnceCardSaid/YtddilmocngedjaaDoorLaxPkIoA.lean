/- Contracts by content, their conditions, and that they are met: IoA. -/
import Derived.Test.YtddilmocngedjaaDoorLaxByt
import Derived.Test.YtddilmocngedjaaDoorLaxArgs
import Derived.Test.YtddilmocngedjaaDoorLaxWrap
/- Contracts by content, and the conditions that their code must meet. -/
namespace Go.Proofs.YtddilmocngedjaaDoor
set_option linter.unusedVariables false
set_option linter.unusedSimpArgs false
open Go.RowKit
def rightId (r n : Int) : Bool := decide (0 ≤ r ∧ r ≤ 6 ∧ 0 ≤ n ∧ n < 1024)
def balOK (b : Int) : Bool := decide (b = 0 ∨ (0 < b / 8 ∧ b / 8 < 16777216 ∧ b % 8 ≤ 6))
def inLen (d : Int) : Bool := decide (0 ≤ d ∧ d ≤ 1024)
def rightA (s d0 d1 d2 d3 d4 d5 d6 : Int) : Bool := inLen d0 && inLen d1 && inLen d2 && inLen d3 && inLen d4 && inLen d5 && inLen d6 && decide (0 ≤ s ∧ s ≤ 1073741824)
def sel (r d0 d1 d2 d3 d4 d5 d6 : Int) : Int := if r = 0 then d0 else if r = 1 then d1 else if r = 2 then d2 else if r = 3 then d3 else if r = 4 then d4 else if r = 5 then d5 else d6
def ow (j r n d : Int) : Int := if rightId r n = true ∧ r = j then n else d
def ownsB (s d0 d1 d2 d3 d4 d5 d6 r n : Int) : Bool := rightId r n && rightA s d0 d1 d2 d3 d4 d5 d6 && decide (sel r d0 d1 d2 d3 d4 d5 d6 = n)
def mx (a b : Int) : Int := if b > a then b else a
def withinB (s d0 d1 d2 d3 d4 d5 d6 s' e0 e1 e2 e3 e4 e5 e6 : Int) : Bool := decide (s ≤ s') && decide (d0 ≤ e0) && decide (d1 ≤ e1) && decide (d2 ≤ e2) && decide (d3 ≤ e3) && decide (d4 ≤ e4) && decide (d5 ≤ e5) && decide (d6 ≤ e6)
def idRightF : Con
  | [.val (.agg [.int .i64 r, .int .i64 n])] => (some (True, ⟨.bool (rightId r n), none, none⟩))
  | _ => none
def gamIdRight : List (Nat × Con) := []
def lpIdRight0 (r n : Int) : Nat → Option LoopPlan := fun _ => none
def inIdRight0 (r n : Int) : Prop := awp [] (lpIdRight0 r n) (lookΓ gamIdRight) Tryd.prog Tryd.f44.ntmps 0 (Tryd.f44.body.getD .skip) (entrySt [.val (.agg [.int .i64 r, .int .i64 n])]) (exitQ Tryd.prog Tryd.f44.results.toList [] ⟨.bool (rightId r n), none, none⟩)
def OkIdRight0 : Prop := ∀ (r n : Int), True → inIdRight0 r n
def balRoundF : Con
  | [.val (.int .u32 b)] => (some (True, ⟨.int .i64 (b / 8), none, none⟩))
  | _ => none
def gamBalRound : List (Nat × Con) := []
def lpBalRound0 (b : Int) : Nat → Option LoopPlan := fun _ => none
def inBalRound0 (b : Int) : Prop := awp [] (lpBalRound0 b) (lookΓ gamBalRound) Tryd.prog Tryd.f75.ntmps 0 (Tryd.f75.body.getD .skip) (entrySt [.val (.int .u32 b)]) (exitQ Tryd.prog Tryd.f75.results.toList [] ⟨.int .i64 (b / 8), none, none⟩)
def OkBalRound0 : Prop := ∀ (b : Int), True → (0 ≤ b ∧ b ≤ 4294967295) → inBalRound0 b
def balRepF : Con
  | [.val (.int .u32 b)] => (some (True, ⟨.int .i64 (b % 8), none, none⟩))
  | _ => none
def gamBalRep : List (Nat × Con) := []
def lpBalRep0 (b : Int) : Nat → Option LoopPlan := fun _ => none
def inBalRep0 (b : Int) : Prop := awp [] (lpBalRep0 b) (lookΓ gamBalRep) Tryd.prog Tryd.f76.ntmps 0 (Tryd.f76.body.getD .skip) (entrySt [.val (.int .u32 b)]) (exitQ Tryd.prog Tryd.f76.results.toList [] ⟨.int .i64 (b % 8), none, none⟩)
def OkBalRep0 : Prop := ∀ (b : Int), True → (0 ≤ b ∧ b ≤ 4294967295) → inBalRep0 b
def balRightF : Con
  | [.val (.int .u32 b)] => (some (True, ⟨.bool (balOK b), none, none⟩))
  | _ => none
def gamBalRight : List (Nat × Con) := [(75, balRoundF.orNil), (76, balRepF.orNil)]
def lpBalRight0 (b : Int) : Nat → Option LoopPlan := fun _ => none
def inBalRight0 (b : Int) : Prop := awp [] (lpBalRight0 b) (lookΓ gamBalRight) Tryd.prog Tryd.f45.ntmps 0 (Tryd.f45.body.getD .skip) (entrySt [.val (.int .u32 b)]) (exitQ Tryd.prog Tryd.f45.results.toList [] ⟨.bool (balOK b), none, none⟩)
def OkBalRight0 : Prop := ∀ (b : Int), True → (0 ≤ b ∧ b ≤ 4294967295) → inBalRight0 b
def attRightF : Con
  | [.val (.agg [.int .i64 s, .int .i64 d0, .int .i64 d1, .int .i64 d2, .int .i64 d3, .int .i64 d4, .int .i64 d5, .int .i64 d6])] => (some (True, ⟨.bool (rightA s d0 d1 d2 d3 d4 d5 d6), none, none⟩))
  | _ => none
def gamAttRight : List (Nat × Con) := []
def lpAttRight0 (s d0 d1 d2 d3 d4 d5 d6 : Int) : Nat → Option LoopPlan := fun b => bif Nat.beq b 0 then some (.unroll [] 9) else none
def inAttRight0 (s d0 d1 d2 d3 d4 d5 d6 : Int) : Prop := awp [] (lpAttRight0 s d0 d1 d2 d3 d4 d5 d6) (lookΓ gamAttRight) Tryd.prog Tryd.f24.ntmps 0 (Tryd.f24.body.getD .skip) (entrySt [.val (.agg [.int .i64 s, .int .i64 d0, .int .i64 d1, .int .i64 d2, .int .i64 d3, .int .i64 d4, .int .i64 d5, .int .i64 d6])]) (exitQ Tryd.prog Tryd.f24.results.toList [] ⟨.bool (rightA s d0 d1 d2 d3 d4 d5 d6), none, none⟩)
def OkAttRight0 : Prop := ∀ (s d0 d1 d2 d3 d4 d5 d6 : Int), True → inAttRight0 s d0 d1 d2 d3 d4 d5 d6
def attOwnF : Con
  | [.val (.agg [.int .i64 s, .int .i64 d0, .int .i64 d1, .int .i64 d2, .int .i64 d3, .int .i64 d4, .int .i64 d5, .int .i64 d6]), .val (.agg [.int .i64 r, .int .i64 n])] => (some (True, ⟨.agg [.int .i64 s, .int .i64 (ow 0 r n d0), .int .i64 (ow 1 r n d1), .int .i64 (ow 2 r n d2), .int .i64 (ow 3 r n d3), .int .i64 (ow 4 r n d4), .int .i64 (ow 5 r n d5), .int .i64 (ow 6 r n d6)], none, none⟩))
  | _ => none
def gamAttOwn : List (Nat × Con) := [(44, idRightF.orNil)]
def lpAttOwn0 (s d0 d1 d2 d3 d4 d5 d6 r n : Int) : Nat → Option LoopPlan := fun _ => none
def inAttOwn0 (s d0 d1 d2 d3 d4 d5 d6 r n : Int) : Prop := awp [] (lpAttOwn0 s d0 d1 d2 d3 d4 d5 d6 r n) (lookΓ gamAttOwn) Tryd.prog Tryd.f80.ntmps 0 (Tryd.f80.body.getD .skip) (entrySt [.val (.agg [.int .i64 s, .int .i64 d0, .int .i64 d1, .int .i64 d2, .int .i64 d3, .int .i64 d4, .int .i64 d5, .int .i64 d6]), .val (.agg [.int .i64 r, .int .i64 n])]) (exitQ Tryd.prog Tryd.f80.results.toList [] ⟨.agg [.int .i64 s, .int .i64 (ow 0 r n d0), .int .i64 (ow 1 r n d1), .int .i64 (ow 2 r n d2), .int .i64 (ow 3 r n d3), .int .i64 (ow 4 r n d4), .int .i64 (ow 5 r n d5), .int .i64 (ow 6 r n d6)], none, none⟩)
def OkAttOwn0 : Prop := ∀ (s d0 d1 d2 d3 d4 d5 d6 r n : Int), True → inAttOwn0 s d0 d1 d2 d3 d4 d5 d6 r n
def attOwnsF : Con
  | [.val (.agg [.int .i64 s, .int .i64 d0, .int .i64 d1, .int .i64 d2, .int .i64 d3, .int .i64 d4, .int .i64 d5, .int .i64 d6]), .val (.agg [.int .i64 r, .int .i64 n])] => (some (True, ⟨.bool (ownsB s d0 d1 d2 d3 d4 d5 d6 r n), none, none⟩))
  | _ => none
def gamAttOwns : List (Nat × Con) := [(44, idRightF.orNil), (24, attRightF.orNil), (80, attOwnF.orNil)]
def lpAttOwns0 (s d0 d1 d2 d3 d4 d5 d6 r n : Int) : Nat → Option LoopPlan := fun _ => none
def inAttOwns0 (s d0 d1 d2 d3 d4 d5 d6 r n : Int) : Prop := awp [] (lpAttOwns0 s d0 d1 d2 d3 d4 d5 d6 r n) (lookΓ gamAttOwns) Tryd.prog Tryd.f47.ntmps 0 (Tryd.f47.body.getD .skip) (entrySt [.val (.agg [.int .i64 s, .int .i64 d0, .int .i64 d1, .int .i64 d2, .int .i64 d3, .int .i64 d4, .int .i64 d5, .int .i64 d6]), .val (.agg [.int .i64 r, .int .i64 n])]) (exitQ Tryd.prog Tryd.f47.results.toList [] ⟨.bool (ownsB s d0 d1 d2 d3 d4 d5 d6 r n), none, none⟩)
def OkAttOwns0 : Prop := ∀ (s d0 d1 d2 d3 d4 d5 d6 r n : Int), True → inAttOwns0 s d0 d1 d2 d3 d4 d5 d6 r n
def attMergeF : Con
  | [.val (.agg [.int .i64 s, .int .i64 d0, .int .i64 d1, .int .i64 d2, .int .i64 d3, .int .i64 d4, .int .i64 d5, .int .i64 d6]), .val (.agg [.int .i64 s', .int .i64 e0, .int .i64 e1, .int .i64 e2, .int .i64 e3, .int .i64 e4, .int .i64 e5, .int .i64 e6])] => (some (True, ⟨.agg [.int .i64 (mx s s'), .int .i64 (mx d0 e0), .int .i64 (mx d1 e1), .int .i64 (mx d2 e2), .int .i64 (mx d3 e3), .int .i64 (mx d4 e4), .int .i64 (mx d5 e5), .int .i64 (mx d6 e6)], none, none⟩))
  | _ => none
def gamAttMerge : List (Nat × Con) := []
def lpAttMerge0 (s d0 d1 d2 d3 d4 d5 d6 s' e0 e1 e2 e3 e4 e5 e6 : Int) : Nat → Option LoopPlan := fun b => bif Nat.beq b 0 then some (.unroll [] 9) else none
def inAttMerge0 (s d0 d1 d2 d3 d4 d5 d6 s' e0 e1 e2 e3 e4 e5 e6 : Int) : Prop := awp [] (lpAttMerge0 s d0 d1 d2 d3 d4 d5 d6 s' e0 e1 e2 e3 e4 e5 e6) (lookΓ gamAttMerge) Tryd.prog Tryd.f82.ntmps 0 (Tryd.f82.body.getD .skip) (entrySt [.val (.agg [.int .i64 s, .int .i64 d0, .int .i64 d1, .int .i64 d2, .int .i64 d3, .int .i64 d4, .int .i64 d5, .int .i64 d6]), .val (.agg [.int .i64 s', .int .i64 e0, .int .i64 e1, .int .i64 e2, .int .i64 e3, .int .i64 e4, .int .i64 e5, .int .i64 e6])]) (exitQ Tryd.prog Tryd.f82.results.toList [] ⟨.agg [.int .i64 (mx s s'), .int .i64 (mx d0 e0), .int .i64 (mx d1 e1), .int .i64 (mx d2 e2), .int .i64 (mx d3 e3), .int .i64 (mx d4 e4), .int .i64 (mx d5 e5), .int .i64 (mx d6 e6)], none, none⟩)
def OkAttMerge0 : Prop := ∀ (s d0 d1 d2 d3 d4 d5 d6 s' e0 e1 e2 e3 e4 e5 e6 : Int), True → inAttMerge0 s d0 d1 d2 d3 d4 d5 d6 s' e0 e1 e2 e3 e4 e5 e6
end Go.Proofs.YtddilmocngedjaaDoor
/- What the verification conditions come to: printed by a program of ours (wip/lax/ex/Norm.lean). -/
namespace Go.Proofs.YtddilmocngedjaaDoor
set_option linter.unusedVariables false
open Go.RowKit
set_option maxRecDepth 100000
theorem vcIdRight0 (r : Int) (n : Int) (h : let w0_x := ((rightId r n) = false ∧ True); (tt ∧ T1 ∧ T1 ∧ tt ∧ T1 ∧ tt ∧ T1 ∧ T1 ∧ (bif (decide ((0 : Int) ≤ r)) then (T1 ∧ tt ∧ T1 ∧ T1 ∧ T1 ∧ (bif (decide (r ≤ 6)) then (T1 ∧ tt ∧ T1 ∧ T1 ∧ T1 ∧ (bif (decide ((0 : Int) ≤ n)) then (T1 ∧ tt ∧ T1 ∧ T1 ∧ T1 ∧ tt ∧ tt ∧ ((rightId r n) = (decide (n < 1024)) ∧ True) ∧ tt) else (false = false ∧ T1 ∧ tt ∧ tt ∧ w0_x ∧ tt))) else (false = false ∧ T1 ∧ false = false ∧ T1 ∧ tt ∧ tt ∧ w0_x ∧ tt))) else (false = false ∧ T1 ∧ false = false ∧ T1 ∧ false = false ∧ T1 ∧ tt ∧ tt ∧ w0_x ∧ tt)))) : inIdRight0 r n :=
  Eq.mp (show _ = _ by kernel_rfl) h
theorem vcBalRound0 (b : Int) (h : (tt ∧ T1 ∧ tt ∧ T1 ∧ (0 : Int) ≤ (3 : Int) ∧ T1 ∧ T1 ∧ tt ∧ tt ∧ ((@HDiv.hDiv.{0, 0, 0} Int Int Int (@instHDiv.{0} Int Int.instDiv) b (8 : Int)) = (IntKind.wrap IntKind.i64 (Int.fdiv b 8)) ∧ True) ∧ tt)) : inBalRound0 b :=
  Eq.mp (show _ = _ by kernel_rfl) h
theorem vcBalRep0 (b : Int) (h : (tt ∧ T1 ∧ tt ∧ T1 ∧ T1 ∧ T1 ∧ T1 ∧ tt ∧ tt ∧ ((@HMod.hMod.{0, 0, 0} Int Int Int (@instHMod.{0} Int Int.instMod) b (8 : Int)) = (IntKind.wrap IntKind.i64 (intBits Go.BinOp.and IntKind.u32 b 7)) ∧ True) ∧ tt)) : inBalRep0 b :=
  Eq.mp (show _ = _ by kernel_rfl) h
theorem vcBalRight0 (b : Int) (h : (tt ∧ T1 ∧ tt ∧ T1 ∧ T1 ∧ T1 ∧ (bif (b == 0) then (tt ∧ T1 ∧ tt ∧ tt ∧ ((balOK b) = true ∧ True) ∧ tt) else (T1 ∧ (T1 ∧ True) ∧ ∀ v0 : Int, (v0 = (@HDiv.hDiv.{0, 0, 0} Int Int Int (@instHDiv.{0} Int Int.instDiv) b (8 : Int))) → T1 ∧ T1 ∧ (bif (decide ((0 : Int) < v0)) then (T1 ∧ (T1 ∧ True) ∧ ∀ v2 : Int, (v2 = (@HDiv.hDiv.{0, 0, 0} Int Int Int (@instHDiv.{0} Int Int.instDiv) b (8 : Int))) → T1 ∧ T1 ∧ T1 ∧ (bif (decide (v2 < 16777216)) then (T1 ∧ (T1 ∧ True) ∧ ∀ v4 : Int, (v4 = (@HMod.hMod.{0, 0, 0} Int Int Int (@instHMod.{0} Int Int.instMod) b (8 : Int))) → T1 ∧ T1 ∧ T1 ∧ T1 ∧ tt ∧ tt ∧ ((balOK b) = (decide (v4 ≤ 6)) ∧ True) ∧ tt) else (false = false ∧ T1 ∧ T1 ∧ tt ∧ tt ∧ ((balOK b) = false ∧ True) ∧ tt))) else (false = false ∧ T1 ∧ false = false ∧ T1 ∧ T1 ∧ tt ∧ tt ∧ ((balOK b) = false ∧ True) ∧ tt)))))) : inBalRight0 b :=
  Eq.mp (show _ = _ by kernel_rfl) h
theorem vcAttRight0 (s : Int) (d0 : Int) (d1 : Int) (d2 : Int) (d3 : Int) (d4 : Int) (d5 : Int) (d6 : Int) (h : let q0 := (rightA s d0 d1 d2 d3 d4 d5 d6); let w0_x := (tt ∧ tt ∧ T1 ∧ tt ∧ tt ∧ (q0 = false ∧ True) ∧ tt); let w1_x := (tt ∧ T1 ∧ tt ∧ tt ∧ (q0 = false ∧ True) ∧ tt); let w2_x := (tt ∧ tt); (tt ∧ T1 ∧ T1 ∧ tt ∧ T1 ∧ tt ∧ T1 ∧ w2_x ∧ tt ∧ T1 ∧ tt ∧ ((0 : Int) ≤ (0 : Int) ∧ (0 : Int) < (7 : Int) ∧ 1 ≤ 7) ∧ T1 ∧ tt ∧ T1 ∧ T1 ∧ T1 ∧ (bif (decide (d0 < 0)) then w0_x else (T1 ∧ T1 ∧ T1 ∧ (bif (decide ((1024 : Int) < d0)) then w1_x else (tt ∧ T1 ∧ T1 ∧ w2_x ∧ tt ∧ T1 ∧ tt ∧ ((0 : Int) ≤ (1 : Int) ∧ (1 : Int) < (7 : Int) ∧ 2 ≤ 7) ∧ T1 ∧ tt ∧ T1 ∧ T1 ∧ T1 ∧ (bif (decide (d1 < 0)) then w0_x else (T1 ∧ T1 ∧ T1 ∧ (bif (decide ((1024 : Int) < d1)) then w1_x else (tt ∧ T1 ∧ T1 ∧ w2_x ∧ tt ∧ T1 ∧ tt ∧ ((0 : Int) ≤ (2 : Int) ∧ (2 : Int) < (7 : Int) ∧ 3 ≤ 7) ∧ T1 ∧ tt ∧ T1 ∧ T1 ∧ T1 ∧ (bif (decide (d2 < 0)) then w0_x else (T1 ∧ T1 ∧ T1 ∧ (bif (decide ((1024 : Int) < d2)) then w1_x else (tt ∧ T1 ∧ T1 ∧ w2_x ∧ tt ∧ T1 ∧ tt ∧ ((0 : Int) ≤ (3 : Int) ∧ (3 : Int) < (7 : Int) ∧ 4 ≤ 7) ∧ T1 ∧ tt ∧ T1 ∧ T1 ∧ T1 ∧ (bif (decide (d3 < 0)) then w0_x else (T1 ∧ T1 ∧ T1 ∧ (bif (decide ((1024 : Int) < d3)) then w1_x else (tt ∧ T1 ∧ T1 ∧ w2_x ∧ tt ∧ T1 ∧ tt ∧ ((0 : Int) ≤ (4 : Int) ∧ (4 : Int) < (7 : Int) ∧ 5 ≤ 7) ∧ T1 ∧ tt ∧ T1 ∧ T1 ∧ T1 ∧ (bif (decide (d4 < 0)) then w0_x else (T1 ∧ T1 ∧ T1 ∧ (bif (decide ((1024 : Int) < d4)) then w1_x else (tt ∧ T1 ∧ T1 ∧ w2_x ∧ tt ∧ T1 ∧ tt ∧ ((0 : Int) ≤ (5 : Int) ∧ (5 : Int) < (7 : Int) ∧ 6 ≤ 7) ∧ T1 ∧ tt ∧ T1 ∧ T1 ∧ T1 ∧ (bif (decide (d5 < 0)) then w0_x else (T1 ∧ T1 ∧ T1 ∧ (bif (decide ((1024 : Int) < d5)) then w1_x else (tt ∧ T1 ∧ T1 ∧ w2_x ∧ tt ∧ T1 ∧ tt ∧ ((0 : Int) ≤ (6 : Int) ∧ (6 : Int) < (7 : Int) ∧ 7 ≤ 7) ∧ T1 ∧ tt ∧ T1 ∧ T1 ∧ T1 ∧ (bif (decide (d6 < 0)) then w0_x else (T1 ∧ T1 ∧ T1 ∧ (bif (decide ((1024 : Int) < d6)) then w1_x else (tt ∧ T1 ∧ T1 ∧ w2_x ∧ tt ∧ T1 ∧ tt ∧ T1 ∧ tt ∧ T1 ∧ T1 ∧ (bif (decide ((0 : Int) ≤ s)) then (T1 ∧ tt ∧ T1 ∧ T1 ∧ T1 ∧ tt ∧ tt ∧ (q0 = (decide (s ≤ 1073741824)) ∧ True) ∧ tt) else (false = false ∧ T1 ∧ tt ∧ tt ∧ (q0 = false ∧ True) ∧ tt)))))))))))))))))))))))))))))))) : inAttRight0 s d0 d1 d2 d3 d4 d5 d6 :=
  Eq.mp (show _ = _ by kernel_rfl) h
theorem vcAttOwn0 (s : Int) (d0 : Int) (d1 : Int) (d2 : Int) (d3 : Int) (d4 : Int) (d5 : Int) (d6 : Int) (r : Int) (n : Int) (h : let q0 := ((1 + ((Int.toNat r) * 1)) + 0); (tt ∧ T1 ∧ T1 ∧ T1 ∧ tt ∧ tt ∧ (T1 ∧ True) ∧ (bif (rightId r n) then (tt ∧ T1 ∧ tt ∧ T1 ∧ tt ∧ T1 ∧ ((0 : Int) ≤ r ∧ r < 7) ∧ (decide (((1 + ((Int.toNat r) * 1)) + 1) ≤ 8)) = true ∧ tt ∧ tt ∧ tt ∧ tt ∧ tt ∧ (s = (@cond.{1} Int (Nat.beq q0 0) n s) ∧ (ow 0 r n d0) = (@cond.{1} Int (Nat.beq q0 1) n d0) ∧ (ow 1 r n d1) = (@cond.{1} Int (Nat.beq q0 2) n d1) ∧ (ow 2 r n d2) = (@cond.{1} Int (Nat.beq q0 3) n d2) ∧ (ow 3 r n d3) = (@cond.{1} Int (Nat.beq q0 4) n d3) ∧ (ow 4 r n d4) = (@cond.{1} Int (Nat.beq q0 5) n d4) ∧ (ow 5 r n d5) = (@cond.{1} Int (Nat.beq q0 6) n d5) ∧ (ow 6 r n d6) = (@cond.{1} Int (Nat.beq q0 7) n d6) ∧ True) ∧ tt) else (tt ∧ tt ∧ tt ∧ tt ∧ tt ∧ (s = s ∧ (ow 0 r n d0) = d0 ∧ (ow 1 r n d1) = d1 ∧ (ow 2 r n d2) = d2 ∧ (ow 3 r n d3) = d3 ∧ (ow 4 r n d4) = d4 ∧ (ow 5 r n d5) = d5 ∧ (ow 6 r n d6) = d6 ∧ True) ∧ tt)))) : inAttOwn0 s d0 d1 d2 d3 d4 d5 d6 r n :=
  Eq.mp (show _ = _ by kernel_rfl) h
theorem vcAttOwns0 (s : Int) (d0 : Int) (d1 : Int) (d2 : Int) (d3 : Int) (d4 : Int) (d5 : Int) (d6 : Int) (r : Int) (n : Int) (h : let q0 := (ownsB s d0 d1 d2 d3 d4 d5 d6 r n); (tt ∧ T1 ∧ T1 ∧ T1 ∧ tt ∧ tt ∧ (T1 ∧ True) ∧ T1 ∧ (bif (rightId r n) then (tt ∧ (T1 ∧ True) ∧ T1 ∧ T1 ∧ (bif (rightA s d0 d1 d2 d3 d4 d5 d6) then (tt ∧ tt ∧ (T1 ∧ True) ∧ tt ∧ T1 ∧ T1 ∧ T1 ∧ tt ∧ tt ∧ tt ∧ (q0 = (Bool.and (s == s) (Bool.and ((ow 0 r n d0) == d0) (Bool.and ((ow 1 r n d1) == d1) (Bool.and ((ow 2 r n d2) == d2) (Bool.and ((ow 3 r n d3) == d3) (Bool.and ((ow 4 r n d4) == d4) (Bool.and ((ow 5 r n d5) == d5) (Bool.and ((ow 6 r n d6) == d6) true)))))))) ∧ True) ∧ tt) else (false = false ∧ T1 ∧ tt ∧ tt ∧ tt ∧ (q0 = false ∧ True) ∧ tt))) else (false = false ∧ T1 ∧ false = false ∧ T1 ∧ tt ∧ tt ∧ tt ∧ (q0 = false ∧ True) ∧ tt)))) : inAttOwns0 s d0 d1 d2 d3 d4 d5 d6 r n :=
  Eq.mp (show _ = _ by kernel_rfl) h
theorem vcAttMerge0 (s : Int) (d0 : Int) (d1 : Int) (d2 : Int) (d3 : Int) (d4 : Int) (d5 : Int) (d6 : Int) (s' : Int) (e0 : Int) (e1 : Int) (e2 : Int) (e3 : Int) (e4 : Int) (e5 : Int) (e6 : Int) (h : let w0_x := (tt ∧ tt); let w1_x := ((0 : Int) ≤ (0 : Int) ∧ (0 : Int) < (7 : Int)); let w2_x := ((0 : Int) ≤ (1 : Int) ∧ (1 : Int) < (7 : Int)); let w3_x := ((0 : Int) ≤ (2 : Int) ∧ (2 : Int) < (7 : Int)); let w4_x := ((0 : Int) ≤ (3 : Int) ∧ (3 : Int) < (7 : Int)); let w5_x := ((0 : Int) ≤ (4 : Int) ∧ (4 : Int) < (7 : Int)); let w6_x := ((0 : Int) ≤ (5 : Int) ∧ (5 : Int) < (7 : Int)); let w7_x := ((0 : Int) ≤ (6 : Int) ∧ (6 : Int) < (7 : Int)); (tt ∧ T1 ∧ T1 ∧ T1 ∧ tt ∧ T1 ∧ tt ∧ T1 ∧ tt ∧ T1 ∧ T1 ∧ tt ∧ tt ∧ T1 ∧ w0_x ∧ tt ∧ T1 ∧ tt ∧ T1 ∧ T1 ∧ tt ∧ T1 ∧ T1 ∧ T1 ∧ w1_x ∧ tt ∧ T1 ∧ T1 ∧ w1_x ∧ tt ∧ T1 ∧ T1 ∧ w1_x ∧ tt ∧ tt ∧ tt ∧ T1 ∧ T1 ∧ w0_x ∧ tt ∧ T1 ∧ tt ∧ T1 ∧ T1 ∧ tt ∧ T1 ∧ T1 ∧ T1 ∧ w2_x ∧ tt ∧ T1 ∧ T1 ∧ w2_x ∧ tt ∧ T1 ∧ T1 ∧ w2_x ∧ tt ∧ tt ∧ tt ∧ T1 ∧ T1 ∧ w0_x ∧ tt ∧ T1 ∧ tt ∧ T1 ∧ T1 ∧ tt ∧ T1 ∧ T1 ∧ T1 ∧ w3_x ∧ tt ∧ T1 ∧ T1 ∧ w3_x ∧ tt ∧ T1 ∧ T1 ∧ w3_x ∧ tt ∧ tt ∧ tt ∧ T1 ∧ T1 ∧ w0_x ∧ tt ∧ T1 ∧ tt ∧ T1 ∧ T1 ∧ tt ∧ T1 ∧ T1 ∧ T1 ∧ w4_x ∧ tt ∧ T1 ∧ T1 ∧ w4_x ∧ tt ∧ T1 ∧ T1 ∧ w4_x ∧ tt ∧ tt ∧ tt ∧ T1 ∧ T1 ∧ w0_x ∧ tt ∧ T1 ∧ tt ∧ T1 ∧ T1 ∧ tt ∧ T1 ∧ T1 ∧ T1 ∧ w5_x ∧ tt ∧ T1 ∧ T1 ∧ w5_x ∧ tt ∧ T1 ∧ T1 ∧ w5_x ∧ tt ∧ tt ∧ tt ∧ T1 ∧ T1 ∧ w0_x ∧ tt ∧ T1 ∧ tt ∧ T1 ∧ T1 ∧ tt ∧ T1 ∧ T1 ∧ T1 ∧ w6_x ∧ tt ∧ T1 ∧ T1 ∧ w6_x ∧ tt ∧ T1 ∧ T1 ∧ w6_x ∧ tt ∧ tt ∧ tt ∧ T1 ∧ T1 ∧ w0_x ∧ tt ∧ T1 ∧ tt ∧ T1 ∧ T1 ∧ tt ∧ T1 ∧ T1 ∧ T1 ∧ w7_x ∧ tt ∧ T1 ∧ T1 ∧ w7_x ∧ tt ∧ T1 ∧ T1 ∧ w7_x ∧ tt ∧ tt ∧ tt ∧ T1 ∧ T1 ∧ w0_x ∧ tt ∧ T1 ∧ tt ∧ tt ∧ tt ∧ tt ∧ tt ∧ ((mx s s') = (@ite.{1} Int (s < s') (Int.decLt s s') s' s) ∧ (mx d0 e0) = (@ite.{1} Int (d0 < e0) (Int.decLt d0 e0) e0 d0) ∧ (mx d1 e1) = (@ite.{1} Int (d1 < e1) (Int.decLt d1 e1) e1 d1) ∧ (mx d2 e2) = (@ite.{1} Int (d2 < e2) (Int.decLt d2 e2) e2 d2) ∧ (mx d3 e3) = (@ite.{1} Int (d3 < e3) (Int.decLt d3 e3) e3 d3) ∧ (mx d4 e4) = (@ite.{1} Int (d4 < e4) (Int.decLt d4 e4) e4 d4) ∧ (mx d5 e5) = (@ite.{1} Int (d5 < e5) (Int.decLt d5 e5) e5 d5) ∧ (mx d6 e6) = (@ite.{1} Int (d6 < e6) (Int.decLt d6 e6) e6 d6) ∧ True) ∧ tt)) : inAttMerge0 s d0 d1 d2 d3 d4 d5 d6 s' e0 e1 e2 e3 e4 e5 e6 :=
  Eq.mp (show _ = _ by kernel_rfl) h
end Go.Proofs.YtddilmocngedjaaDoor
/- The conditions hold: names, ballots, attributes. -/
namespace Go.Proofs.YtddilmocngedjaaDoor
set_option linter.unusedVariables false
set_option linter.unusedSimpArgs false
open Go.RowKit
set_option maxRecDepth 100000

theorem beq_dec (a b : Nat) : Nat.beq a b = decide (a = b) := by
  by_cases h : a = b
  · subst h; simp
  · rw [decide_eq_false h]
    cases hq : Nat.beq a b with
    | false => rfl
    | true => exact absurd (Nat.eq_of_beq_eq_true hq) h
theorem and7 {b : Int} (h0 : 0 ≤ b) (h1 : b ≤ 4294967295) : intBits .and .u32 b 7 = b % 8 := by
  obtain ⟨n, rfl⟩ : ∃ n : Nat, b = n := ⟨b.toNat, by omega⟩
  have e1 : (BitVec.ofInt 32 (n : Int) &&& BitVec.ofInt 32 7).toNat = n % 8 := by
    rw [BitVec.toNat_and]
    have : (BitVec.ofInt 32 (n : Int)).toNat = n := by
      rw [BitVec.toNat_ofInt]; omega
    rw [this]
    have h7 : (BitVec.ofInt 32 7).toNat = 2 ^ 3 - 1 := by decide
    rw [h7, Nat.and_two_pow_sub_one_eq_mod]
  show IntKind.u32.wrap ((BitVec.ofInt 32 (n : Int) &&& BitVec.ofInt 32 7).toNat : Int) = _
  rw [e1, IntKind.wrap_u32]
  omega
theorem okIdRight0 : OkIdRight0 := by
  intro r n hq
  refine vcIdRight0 r n ?_
  simp only [true_and, and_true, forall_eq, eq_self]
  refine cond_prop (fun h => cond_prop (fun h' => cond_prop (fun h'' => ?_) fun h'' => ?_) fun h' => ?_) fun h => ?_
  all_goals
    simp [rightId] at *
    first | omega | (rw [Bool.eq_iff_iff]; simp; omega)
theorem okBalRound0 : OkBalRound0 := by
  intro b hq hb
  refine vcBalRound0 b ?_
  simp only [true_and, and_true, forall_eq, eq_self]
  refine ⟨by omega, ?_⟩
  rw [Int.fdiv_eq_ediv_of_nonneg _ (by omega), wrap_i64 (by omega) (by omega)]
theorem okBalRep0 : OkBalRep0 := by
  intro b hq hb
  refine vcBalRep0 b ?_
  simp only [true_and, and_true, forall_eq, eq_self]
  rw [and7 hb.1 hb.2, wrap_i64 (by omega) (by omega)]
theorem okBalRight0 : OkBalRight0 := by
  intro b hq hb
  refine vcBalRight0 b ?_
  simp only [true_and, and_true, forall_eq, eq_self]
  refine cond_prop (fun h => ?_) fun h => cond_prop (fun h' => cond_prop (fun h'' => ?_) fun h'' => ?_) fun h' => ?_
  all_goals
    simp [balOK] at *
    first | omega | (rw [Bool.eq_iff_iff]; simp; omega)
theorem okAttRight0 : OkAttRight0 := by
  intro s d0 d1 d2 d3 d4 d5 d6 hq
  refine vcAttRight0 s d0 d1 d2 d3 d4 d5 d6 ?_
  simp only [true_and, and_true, forall_eq, eq_self]
  simp only [rightA, inLen]
  repeat' (first | (refine ⟨by omega, ?_⟩) | (refine cond_prop (fun h => ?_) fun h => ?_))
  all_goals simp only [decide_eq_true_eq, decide_eq_false_iff_not] at *
  all_goals (rw [Bool.eq_iff_iff]; simp only [Bool.and_eq_true, decide_eq_true_eq, Bool.false_eq_true, iff_false]; omega)
theorem sel_cases (r d0 d1 d2 d3 d4 d5 d6 : Int) (h0 : 0 ≤ r) (h1 : r ≤ 6) : (r = 0 ∧ sel r d0 d1 d2 d3 d4 d5 d6 = d0) ∨ (r = 1 ∧ sel r d0 d1 d2 d3 d4 d5 d6 = d1) ∨ (r = 2 ∧ sel r d0 d1 d2 d3 d4 d5 d6 = d2) ∨ (r = 3 ∧ sel r d0 d1 d2 d3 d4 d5 d6 = d3) ∨ (r = 4 ∧ sel r d0 d1 d2 d3 d4 d5 d6 = d4) ∨ (r = 5 ∧ sel r d0 d1 d2 d3 d4 d5 d6 = d5) ∨ (r = 6 ∧ sel r d0 d1 d2 d3 d4 d5 d6 = d6) := by
  have : r = 0 ∨ r = 1 ∨ r = 2 ∨ r = 3 ∨ r = 4 ∨ r = 5 ∨ r = 6 := by omega
  rcases this with rfl | rfl | rfl | rfl | rfl | rfl | rfl <;> simp [sel]
theorem rightId_range {r n : Int} (h : rightId r n = true) : 0 ≤ r ∧ r ≤ 6 := by
  simp [rightId] at h; omega
theorem okAttOwn0 : OkAttOwn0 := by
  intro s d0 d1 d2 d3 d4 d5 d6 r n hq
  refine vcAttOwn0 s d0 d1 d2 d3 d4 d5 d6 r n ?_
  simp only [true_and, and_true, forall_eq, eq_self]
  refine cond_prop (fun h => ?_) fun h => ?_
  · obtain ⟨h0, h1⟩ := rightId_range h
    rcases sel_cases r d0 d1 d2 d3 d4 d5 d6 h0 h1 with ⟨rfl, e⟩ | ⟨rfl, e⟩ | ⟨rfl, e⟩ | ⟨rfl, e⟩ | ⟨rfl, e⟩ | ⟨rfl, e⟩ | ⟨rfl, e⟩ <;> simp [ow, h, beq_dec]
  · simp [ow, h]
theorem okAttOwns0 : OkAttOwns0 := by
  intro s d0 d1 d2 d3 d4 d5 d6 r n hq
  refine vcAttOwns0 s d0 d1 d2 d3 d4 d5 d6 r n ?_
  simp only [true_and, and_true, forall_eq, eq_self]
  refine cond_prop (fun h => ?_) fun h => ?_
  · obtain ⟨h0, h1⟩ := rightId_range h
    refine cond_prop (fun h' => ?_) fun h' => ?_
    · rcases sel_cases r d0 d1 d2 d3 d4 d5 d6 h0 h1 with ⟨rfl, e⟩ | ⟨rfl, e⟩ | ⟨rfl, e⟩ | ⟨rfl, e⟩ | ⟨rfl, e⟩ | ⟨rfl, e⟩ | ⟨rfl, e⟩ <;> simp [ownsB, ow, h, h', e, beq_dec] <;> rw [Bool.eq_iff_iff] <;> simp <;> omega
    · simp [ownsB, h, h']
  · simp [ownsB, h]
theorem okAttMerge0 : OkAttMerge0 := by
  intro s d0 d1 d2 d3 d4 d5 d6 s' e0 e1 e2 e3 e4 e5 e6 hq
  refine vcAttMerge0 s d0 d1 d2 d3 d4 d5 d6 s' e0 e1 e2 e3 e4 e5 e6 ?_
  simp only [true_and, and_true, forall_eq, eq_self]
  simp [mx]
theorem mx_le_iff (a b : Int) : (mx a b == b) = decide (a ≤ b) := by
  unfold mx
  rw [Bool.eq_iff_iff]
  simp only [beq_iff_eq, decide_eq_true_eq]
  split <;> omega
end Go.Proofs.YtddilmocngedjaaDoor
/- The contracts are met. -/
namespace Go.Proofs.YtddilmocngedjaaDoor
set_option linter.unusedVariables false
set_option linter.unusedSimpArgs false
open Go.RowKit
theorem sndIdRight : Sound Tryd.prog (lookΓ gamIdRight) := sound_of _ fun p hp => by
  simp [gamIdRight] at hp
set_option maxHeartbeats 4000000 in
theorem meetsIdRight : Meets Tryd.prog 44 idRightF := by
  refine meets_of_awp (Γ := lookΓ gamIdRight) (L := fun _ _ => none) sndIdRight mixedOrders Tryd.func44 rfl Tryd.call44 ?_
  intro args q r hF hq ho
  unfold idRightF at hF
  split at hF
  · cases hF
    exact ⟨by simp only [List.length_cons, List.length_nil]; decide, okIdRight0 _ _ hq⟩
  · cases hF
theorem sndBalRound : Sound Tryd.prog (lookΓ gamBalRound) := sound_of _ fun p hp => by
  simp [gamBalRound] at hp
set_option maxHeartbeats 4000000 in
theorem meetsBalRound : Meets Tryd.prog 75 balRoundF := by
  refine meets_of_awp (Γ := lookΓ gamBalRound) (L := fun _ _ => none) sndBalRound mixedOrders Tryd.func75 rfl Tryd.call75 ?_
  intro args q r hF hq ho
  unfold balRoundF at hF
  split at hF
  · cases hF
    exact ⟨by simp only [List.length_cons, List.length_nil]; decide, okBalRound0 _ hq (okay_u32 (argI 0 ho rfl rfl))⟩
  · cases hF
theorem sndBalRep : Sound Tryd.prog (lookΓ gamBalRep) := sound_of _ fun p hp => by
  simp [gamBalRep] at hp
set_option maxHeartbeats 4000000 in
theorem meetsBalRep : Meets Tryd.prog 76 balRepF := by
  refine meets_of_awp (Γ := lookΓ gamBalRep) (L := fun _ _ => none) sndBalRep mixedOrders Tryd.func76 rfl Tryd.call76 ?_
  intro args q r hF hq ho
  unfold balRepF at hF
  split at hF
  · cases hF
    exact ⟨by simp only [List.length_cons, List.length_nil]; decide, okBalRep0 _ hq (okay_u32 (argI 0 ho rfl rfl))⟩
  · cases hF
theorem sndBalRight : Sound Tryd.prog (lookΓ gamBalRight) := sound_of _ fun p hp => by
  simp only [gamBalRight, List.mem_cons, List.not_mem_nil, or_false] at hp
  rcases hp with rfl | rfl
  · exact meetsBalRound.orNil
  · exact meetsBalRep.orNil
set_option maxHeartbeats 4000000 in
theorem meetsBalRight : Meets Tryd.prog 45 balRightF := by
  refine meets_of_awp (Γ := lookΓ gamBalRight) (L := fun _ _ => none) sndBalRight mixedOrders Tryd.func45 rfl Tryd.call45 ?_
  intro args q r hF hq ho
  unfold balRightF at hF
  split at hF
  · cases hF
    exact ⟨by simp only [List.length_cons, List.length_nil]; decide, okBalRight0 _ hq (okay_u32 (argI 0 ho rfl rfl))⟩
  · cases hF
theorem sndAttRight : Sound Tryd.prog (lookΓ gamAttRight) := sound_of _ fun p hp => by
  simp [gamAttRight] at hp
set_option maxHeartbeats 4000000 in
theorem meetsAttRight : Meets Tryd.prog 24 attRightF := by
  refine meets_of_awp (Γ := lookΓ gamAttRight) (L := fun args => match args with | [.val (.agg [.int .i64 s, .int .i64 d0, .int .i64 d1, .int .i64 d2, .int .i64 d3, .int .i64 d4, .int .i64 d5, .int .i64 d6])] => lpAttRight0 s d0 d1 d2 d3 d4 d5 d6 | _ => fun _ => none) sndAttRight mixedOrders Tryd.func24 rfl Tryd.call24 ?_
  intro args q r hF hq ho
  unfold attRightF at hF
  split at hF
  · cases hF
    exact ⟨by simp only [List.length_cons, List.length_nil]; decide, okAttRight0 _ _ _ _ _ _ _ _ hq⟩
  · cases hF
theorem sndAttOwn : Sound Tryd.prog (lookΓ gamAttOwn) := sound_of _ fun p hp => by
  simp only [gamAttOwn, List.mem_cons, List.not_mem_nil, or_false] at hp
  subst hp
  exact meetsIdRight.orNil
set_option maxHeartbeats 4000000 in
theorem meetsAttOwn : Meets Tryd.prog 80 attOwnF := by
  refine meets_of_awp (Γ := lookΓ gamAttOwn) (L := fun _ _ => none) sndAttOwn mixedOrders Tryd.func80 rfl Tryd.call80 ?_
  intro args q r hF hq ho
  unfold attOwnF at hF
  split at hF
  · cases hF
    exact ⟨by simp only [List.length_cons, List.length_nil]; decide, okAttOwn0 _ _ _ _ _ _ _ _ _ _ hq⟩
  · cases hF
theorem sndAttOwns : Sound Tryd.prog (lookΓ gamAttOwns) := sound_of _ fun p hp => by
  simp only [gamAttOwns, List.mem_cons, List.not_mem_nil, or_false] at hp
  rcases hp with rfl | rfl | rfl
  · exact meetsIdRight.orNil
  · exact meetsAttRight.orNil
  · exact meetsAttOwn.orNil
set_option maxHeartbeats 4000000 in
theorem meetsAttOwns : Meets Tryd.prog 47 attOwnsF := by
  refine meets_of_awp (Γ := lookΓ gamAttOwns) (L := fun _ _ => none) sndAttOwns mixedOrders Tryd.func47 rfl Tryd.call47 ?_
  intro args q r hF hq ho
  unfold attOwnsF at hF
  split at hF
  · cases hF
    exact ⟨by simp only [List.length_cons, List.length_nil]; decide, okAttOwns0 _ _ _ _ _ _ _ _ _ _ hq⟩
  · cases hF
theorem sndAttMerge : Sound Tryd.prog (lookΓ gamAttMerge) := sound_of _ fun p hp => by
  simp [gamAttMerge] at hp
set_option maxHeartbeats 4000000 in
theorem meetsAttMerge : Meets Tryd.prog 82 attMergeF := by
  refine meets_of_awp (Γ := lookΓ gamAttMerge) (L := fun args => match args with | [.val (.agg [.int .i64 s, .int .i64 d0, .int .i64 d1, .int .i64 d2, .int .i64 d3, .int .i64 d4, .int .i64 d5, .int .i64 d6]), .val (.agg [.int .i64 s', .int .i64 e0, .int .i64 e1, .int .i64 e2, .int .i64 e3, .int .i64 e4, .int .i64 e5, .int .i64 e6])] => lpAttMerge0 s d0 d1 d2 d3 d4 d5 d6 s' e0 e1 e2 e3 e4 e5 e6 | _ => fun _ => none) sndAttMerge mixedOrders Tryd.func82 rfl Tryd.call82 ?_
  intro args q r hF hq ho
  unfold attMergeF at hF
  split at hF
  · cases hF
    exact ⟨by simp only [List.length_cons, List.length_nil]; decide, okAttMerge0 _ _ _ _ _ _ _ _ _ _ _ _ _ _ _ _ hq⟩
  · cases hF
end Go.Proofs.YtddilmocngedjaaDoor
