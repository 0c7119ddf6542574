/- Contracts by content, their conditions, and that they are met: RefC. -/
import Derived.Test.YtfoabkkkdcicgaaGreatDoorLaxPkCmdX
import Derived.Test.YtfoabkkkdcicgaaGreatDoorLaxPkRefI
/- Contracts by content, and the conditions that their code must meet. -/
namespace Go.Proofs.YtfoabkkkdcicgaaGreatDoor
set_option linter.unusedVariables false
set_option linter.unusedSimpArgs false
open Go.RowKit
def refByteLC (k : Int) : Con
  | [.val (.agg [.sl xs .no, .int .i64 at', .int .i64 e])] => some ((isBytes xs ∧ 0 ≤ at' ∧ at' ≤ xs.length) ∧ inByteV (refL (bytesL xs) at') e = k, ⟨.tup [.agg [.sl xs .no, .int .i64 (refAt (bytesL xs) (tkRest (refL (bytesL xs) at') e 1)), .int .i64 (tkErr (refL (bytesL xs) at').length e 1)], .int .u8 k], none, none⟩)
  | _ => none
theorem meetsRefByteLC (k : Int) : Meets Tryz.prog 32 (refByteLC k) := meetsRefByte.weak fun args q r hF hq => by
  unfold refByteLC at hF
  split at hF
  · rename_i xs at' e
    cases hF
    obtain ⟨h1, h2⟩ := hq
    subst h2
    exact ⟨_, rfl, h1⟩
  · cases hF
def refByteL0F : Con := refByteLC 0
theorem meetsRefByteL0 : Meets Tryz.prog 32 refByteL0F := meetsRefByteLC 0
def refByteL1F : Con := refByteLC 1
theorem meetsRefByteL1 : Meets Tryz.prog 32 refByteL1F := meetsRefByteLC 1
def refByteL2F : Con := refByteLC 2
theorem meetsRefByteL2 : Meets Tryz.prog 32 refByteL2F := meetsRefByteLC 2
def refByteL3F : Con := refByteLC 3
theorem meetsRefByteL3 : Meets Tryz.prog 32 refByteL3F := meetsRefByteLC 3
def refByteL4F : Con := refByteLC 4
theorem meetsRefByteL4 : Meets Tryz.prog 32 refByteL4F := meetsRefByteLC 4
def refByteL5F : Con := refByteLC 5
theorem meetsRefByteL5 : Meets Tryz.prog 32 refByteL5F := meetsRefByteLC 5
def refByteL6F : Con := refByteLC 6
theorem meetsRefByteL6 : Meets Tryz.prog 32 refByteL6F := meetsRefByteLC 6
def refByteL7F : Con := refByteLC 7
theorem meetsRefByteL7 : Meets Tryz.prog 32 refByteL7F := meetsRefByteLC 7
def refByteL8F : Con := refByteLC 8
theorem meetsRefByteL8 : Meets Tryz.prog 32 refByteL8F := meetsRefByteLC 8
def refCt0F : Con
  | [.val (.agg [.sl xs .no, .int .i64 at', .int .i64 e])] => (some (inByteV (refL (bytesL xs) at') e = 0 ∧ isBytes xs ∧ 0 ≤ at' ∧ at' ≤ xs.length, ⟨.tup [.agg [.sl xs .no, .int .i64 (refAt (bytesL xs) (ctR (refL (bytesL xs) at') e)), .int .i64 (ctE (refL (bytesL xs) at') e)], .agg (cmdL (ctC (refL (bytesL xs) at') e))], none, none⟩))
  | _ => none
def gamRefCt0 : List (Nat × Con) := [(32 + 45056, refByteL0F.orNil), (32, refByteF.orNil), (68, has07F.orNil), (69, refFixedF.orNil), (70, refTextF.orNil), (66, refShortF.orNil), (71, rrightF.orNil)]
def lpRefCt00 (xs : List AV) (at' e : Int) : Nat → Option LoopPlan := fun _ => none
def inRefCt00 (xs : List AV) (at' e : Int) : Prop := awp [] (lpRefCt00 xs at' e) (lookΓ gamRefCt0) Tryz.prog Tryz.f34.ntmps 0 (Tryz.f34.body.getD .skip) (entrySt [.val (.agg [.sl xs .no, .int .i64 at', .int .i64 e])]) (exitQ Tryz.prog Tryz.f34.results.toList [] ⟨.tup [.agg [.sl xs .no, .int .i64 (refAt (bytesL xs) (ctR (refL (bytesL xs) at') e)), .int .i64 (ctE (refL (bytesL xs) at') e)], .agg (cmdL (ctC (refL (bytesL xs) at') e))], none, none⟩)
def OkRefCt00 : Prop := ∀ (xs : List AV) (at' e : Int), inByteV (refL (bytesL xs) at') e = 0 ∧ isBytes xs ∧ 0 ≤ at' ∧ at' ≤ xs.length → inRefCt00 xs at' e
def refCt1F : Con
  | [.val (.agg [.sl xs .no, .int .i64 at', .int .i64 e])] => (some (inByteV (refL (bytesL xs) at') e = 1 ∧ isBytes xs ∧ 0 ≤ at' ∧ at' ≤ xs.length, ⟨.tup [.agg [.sl xs .no, .int .i64 (refAt (bytesL xs) (ctR (refL (bytesL xs) at') e)), .int .i64 (ctE (refL (bytesL xs) at') e)], .agg (cmdL (ctC (refL (bytesL xs) at') e))], none, none⟩))
  | _ => none
def gamRefCt1 : List (Nat × Con) := [(32 + 45056, refByteL1F.orNil), (32, refByteF.orNil), (68, has07F.orNil), (69, refFixedF.orNil), (70, refTextF.orNil), (66, refShortF.orNil), (71, rrightF.orNil)]
def lpRefCt10 (xs : List AV) (at' e : Int) : Nat → Option LoopPlan := fun _ => none
def inRefCt10 (xs : List AV) (at' e : Int) : Prop := awp [] (lpRefCt10 xs at' e) (lookΓ gamRefCt1) Tryz.prog Tryz.f34.ntmps 0 (Tryz.f34.body.getD .skip) (entrySt [.val (.agg [.sl xs .no, .int .i64 at', .int .i64 e])]) (exitQ Tryz.prog Tryz.f34.results.toList [] ⟨.tup [.agg [.sl xs .no, .int .i64 (refAt (bytesL xs) (ctR (refL (bytesL xs) at') e)), .int .i64 (ctE (refL (bytesL xs) at') e)], .agg (cmdL (ctC (refL (bytesL xs) at') e))], none, none⟩)
def OkRefCt10 : Prop := ∀ (xs : List AV) (at' e : Int), inByteV (refL (bytesL xs) at') e = 1 ∧ isBytes xs ∧ 0 ≤ at' ∧ at' ≤ xs.length → inRefCt10 xs at' e
def refCt2F : Con
  | [.val (.agg [.sl xs .no, .int .i64 at', .int .i64 e])] => (some (inByteV (refL (bytesL xs) at') e = 2 ∧ isBytes xs ∧ 0 ≤ at' ∧ at' ≤ xs.length, ⟨.tup [.agg [.sl xs .no, .int .i64 (refAt (bytesL xs) (ctR (refL (bytesL xs) at') e)), .int .i64 (ctE (refL (bytesL xs) at') e)], .agg (cmdL (ctC (refL (bytesL xs) at') e))], none, none⟩))
  | _ => none
def gamRefCt2 : List (Nat × Con) := [(32 + 45056, refByteL2F.orNil), (32, refByteF.orNil), (68, has07F.orNil), (69, refFixedF.orNil), (70, refTextF.orNil), (66, refShortF.orNil), (71, rrightF.orNil)]
def lpRefCt20 (xs : List AV) (at' e : Int) : Nat → Option LoopPlan := fun _ => none
def inRefCt20 (xs : List AV) (at' e : Int) : Prop := awp [] (lpRefCt20 xs at' e) (lookΓ gamRefCt2) Tryz.prog Tryz.f34.ntmps 0 (Tryz.f34.body.getD .skip) (entrySt [.val (.agg [.sl xs .no, .int .i64 at', .int .i64 e])]) (exitQ Tryz.prog Tryz.f34.results.toList [] ⟨.tup [.agg [.sl xs .no, .int .i64 (refAt (bytesL xs) (ctR (refL (bytesL xs) at') e)), .int .i64 (ctE (refL (bytesL xs) at') e)], .agg (cmdL (ctC (refL (bytesL xs) at') e))], none, none⟩)
def OkRefCt20 : Prop := ∀ (xs : List AV) (at' e : Int), inByteV (refL (bytesL xs) at') e = 2 ∧ isBytes xs ∧ 0 ≤ at' ∧ at' ≤ xs.length → inRefCt20 xs at' e
def refCt3F : Con
  | [.val (.agg [.sl xs .no, .int .i64 at', .int .i64 e])] => (some (inByteV (refL (bytesL xs) at') e = 3 ∧ isBytes xs ∧ 0 ≤ at' ∧ at' ≤ xs.length, ⟨.tup [.agg [.sl xs .no, .int .i64 (refAt (bytesL xs) (ctR (refL (bytesL xs) at') e)), .int .i64 (ctE (refL (bytesL xs) at') e)], .agg (cmdL (ctC (refL (bytesL xs) at') e))], none, none⟩))
  | _ => none
def gamRefCt3 : List (Nat × Con) := [(32 + 45056, refByteL3F.orNil), (32, refByteF.orNil), (68, has07F.orNil), (69, refFixedF.orNil), (70, refTextF.orNil), (66, refShortF.orNil), (71, rrightF.orNil)]
def lpRefCt30 (xs : List AV) (at' e : Int) : Nat → Option LoopPlan := fun _ => none
def inRefCt30 (xs : List AV) (at' e : Int) : Prop := awp [] (lpRefCt30 xs at' e) (lookΓ gamRefCt3) Tryz.prog Tryz.f34.ntmps 0 (Tryz.f34.body.getD .skip) (entrySt [.val (.agg [.sl xs .no, .int .i64 at', .int .i64 e])]) (exitQ Tryz.prog Tryz.f34.results.toList [] ⟨.tup [.agg [.sl xs .no, .int .i64 (refAt (bytesL xs) (ctR (refL (bytesL xs) at') e)), .int .i64 (ctE (refL (bytesL xs) at') e)], .agg (cmdL (ctC (refL (bytesL xs) at') e))], none, none⟩)
def OkRefCt30 : Prop := ∀ (xs : List AV) (at' e : Int), inByteV (refL (bytesL xs) at') e = 3 ∧ isBytes xs ∧ 0 ≤ at' ∧ at' ≤ xs.length → inRefCt30 xs at' e
def refCt4F : Con
  | [.val (.agg [.sl xs .no, .int .i64 at', .int .i64 e])] => (some (inByteV (refL (bytesL xs) at') e = 4 ∧ isBytes xs ∧ 0 ≤ at' ∧ at' ≤ xs.length, ⟨.tup [.agg [.sl xs .no, .int .i64 (refAt (bytesL xs) (ctR (refL (bytesL xs) at') e)), .int .i64 (ctE (refL (bytesL xs) at') e)], .agg (cmdL (ctC (refL (bytesL xs) at') e))], none, none⟩))
  | _ => none
def gamRefCt4 : List (Nat × Con) := [(32 + 45056, refByteL4F.orNil), (32, refByteF.orNil), (68, has07F.orNil), (69, refFixedF.orNil), (70, refTextF.orNil), (66, refShortF.orNil), (71, rrightF.orNil)]
def lpRefCt40 (xs : List AV) (at' e : Int) : Nat → Option LoopPlan := fun _ => none
def inRefCt40 (xs : List AV) (at' e : Int) : Prop := awp [] (lpRefCt40 xs at' e) (lookΓ gamRefCt4) Tryz.prog Tryz.f34.ntmps 0 (Tryz.f34.body.getD .skip) (entrySt [.val (.agg [.sl xs .no, .int .i64 at', .int .i64 e])]) (exitQ Tryz.prog Tryz.f34.results.toList [] ⟨.tup [.agg [.sl xs .no, .int .i64 (refAt (bytesL xs) (ctR (refL (bytesL xs) at') e)), .int .i64 (ctE (refL (bytesL xs) at') e)], .agg (cmdL (ctC (refL (bytesL xs) at') e))], none, none⟩)
def OkRefCt40 : Prop := ∀ (xs : List AV) (at' e : Int), inByteV (refL (bytesL xs) at') e = 4 ∧ isBytes xs ∧ 0 ≤ at' ∧ at' ≤ xs.length → inRefCt40 xs at' e
def refCt5F : Con
  | [.val (.agg [.sl xs .no, .int .i64 at', .int .i64 e])] => (some (inByteV (refL (bytesL xs) at') e = 5 ∧ isBytes xs ∧ 0 ≤ at' ∧ at' ≤ xs.length, ⟨.tup [.agg [.sl xs .no, .int .i64 (refAt (bytesL xs) (ctR (refL (bytesL xs) at') e)), .int .i64 (ctE (refL (bytesL xs) at') e)], .agg (cmdL (ctC (refL (bytesL xs) at') e))], none, none⟩))
  | _ => none
def gamRefCt5 : List (Nat × Con) := [(32 + 45056, refByteL5F.orNil), (32, refByteF.orNil), (68, has07F.orNil), (69, refFixedF.orNil), (70, refTextF.orNil), (66, refShortF.orNil), (71, rrightF.orNil)]
def lpRefCt50 (xs : List AV) (at' e : Int) : Nat → Option LoopPlan := fun _ => none
def inRefCt50 (xs : List AV) (at' e : Int) : Prop := awp [] (lpRefCt50 xs at' e) (lookΓ gamRefCt5) Tryz.prog Tryz.f34.ntmps 0 (Tryz.f34.body.getD .skip) (entrySt [.val (.agg [.sl xs .no, .int .i64 at', .int .i64 e])]) (exitQ Tryz.prog Tryz.f34.results.toList [] ⟨.tup [.agg [.sl xs .no, .int .i64 (refAt (bytesL xs) (ctR (refL (bytesL xs) at') e)), .int .i64 (ctE (refL (bytesL xs) at') e)], .agg (cmdL (ctC (refL (bytesL xs) at') e))], none, none⟩)
def OkRefCt50 : Prop := ∀ (xs : List AV) (at' e : Int), inByteV (refL (bytesL xs) at') e = 5 ∧ isBytes xs ∧ 0 ≤ at' ∧ at' ≤ xs.length → inRefCt50 xs at' e
def refCt6F : Con
  | [.val (.agg [.sl xs .no, .int .i64 at', .int .i64 e])] => (some (inByteV (refL (bytesL xs) at') e = 6 ∧ isBytes xs ∧ 0 ≤ at' ∧ at' ≤ xs.length, ⟨.tup [.agg [.sl xs .no, .int .i64 (refAt (bytesL xs) (ctR (refL (bytesL xs) at') e)), .int .i64 (ctE (refL (bytesL xs) at') e)], .agg (cmdL (ctC (refL (bytesL xs) at') e))], none, none⟩))
  | _ => none
def gamRefCt6 : List (Nat × Con) := [(32 + 45056, refByteL6F.orNil), (32, refByteF.orNil), (68, has07F.orNil), (69, refFixedF.orNil), (70, refTextF.orNil), (66, refShortF.orNil), (71, rrightF.orNil)]
def lpRefCt60 (xs : List AV) (at' e : Int) : Nat → Option LoopPlan := fun _ => none
def inRefCt60 (xs : List AV) (at' e : Int) : Prop := awp [] (lpRefCt60 xs at' e) (lookΓ gamRefCt6) Tryz.prog Tryz.f34.ntmps 0 (Tryz.f34.body.getD .skip) (entrySt [.val (.agg [.sl xs .no, .int .i64 at', .int .i64 e])]) (exitQ Tryz.prog Tryz.f34.results.toList [] ⟨.tup [.agg [.sl xs .no, .int .i64 (refAt (bytesL xs) (ctR (refL (bytesL xs) at') e)), .int .i64 (ctE (refL (bytesL xs) at') e)], .agg (cmdL (ctC (refL (bytesL xs) at') e))], none, none⟩)
def OkRefCt60 : Prop := ∀ (xs : List AV) (at' e : Int), inByteV (refL (bytesL xs) at') e = 6 ∧ isBytes xs ∧ 0 ≤ at' ∧ at' ≤ xs.length → inRefCt60 xs at' e
def refCt7F : Con
  | [.val (.agg [.sl xs .no, .int .i64 at', .int .i64 e])] => (some (inByteV (refL (bytesL xs) at') e = 7 ∧ isBytes xs ∧ 0 ≤ at' ∧ at' ≤ xs.length, ⟨.tup [.agg [.sl xs .no, .int .i64 (refAt (bytesL xs) (ctR (refL (bytesL xs) at') e)), .int .i64 (ctE (refL (bytesL xs) at') e)], .agg (cmdL (ctC (refL (bytesL xs) at') e))], none, none⟩))
  | _ => none
def gamRefCt7 : List (Nat × Con) := [(32 + 45056, refByteL7F.orNil), (32, refByteF.orNil), (68, has07F.orNil), (69, refFixedF.orNil), (70, refTextF.orNil), (66, refShortF.orNil), (71, rrightF.orNil)]
def lpRefCt70 (xs : List AV) (at' e : Int) : Nat → Option LoopPlan := fun _ => none
def inRefCt70 (xs : List AV) (at' e : Int) : Prop := awp [] (lpRefCt70 xs at' e) (lookΓ gamRefCt7) Tryz.prog Tryz.f34.ntmps 0 (Tryz.f34.body.getD .skip) (entrySt [.val (.agg [.sl xs .no, .int .i64 at', .int .i64 e])]) (exitQ Tryz.prog Tryz.f34.results.toList [] ⟨.tup [.agg [.sl xs .no, .int .i64 (refAt (bytesL xs) (ctR (refL (bytesL xs) at') e)), .int .i64 (ctE (refL (bytesL xs) at') e)], .agg (cmdL (ctC (refL (bytesL xs) at') e))], none, none⟩)
def OkRefCt70 : Prop := ∀ (xs : List AV) (at' e : Int), inByteV (refL (bytesL xs) at') e = 7 ∧ isBytes xs ∧ 0 ≤ at' ∧ at' ≤ xs.length → inRefCt70 xs at' e
def refCt8F : Con
  | [.val (.agg [.sl xs .no, .int .i64 at', .int .i64 e])] => (some (inByteV (refL (bytesL xs) at') e = 8 ∧ isBytes xs ∧ 0 ≤ at' ∧ at' ≤ xs.length, ⟨.tup [.agg [.sl xs .no, .int .i64 (refAt (bytesL xs) (ctR (refL (bytesL xs) at') e)), .int .i64 (ctE (refL (bytesL xs) at') e)], .agg (cmdL (ctC (refL (bytesL xs) at') e))], none, none⟩))
  | _ => none
def gamRefCt8 : List (Nat × Con) := [(32 + 45056, refByteL8F.orNil), (32, refByteF.orNil), (68, has07F.orNil), (69, refFixedF.orNil), (70, refTextF.orNil), (66, refShortF.orNil), (71, rrightF.orNil)]
def lpRefCt80 (xs : List AV) (at' e : Int) : Nat → Option LoopPlan := fun _ => none
def inRefCt80 (xs : List AV) (at' e : Int) : Prop := awp [] (lpRefCt80 xs at' e) (lookΓ gamRefCt8) Tryz.prog Tryz.f34.ntmps 0 (Tryz.f34.body.getD .skip) (entrySt [.val (.agg [.sl xs .no, .int .i64 at', .int .i64 e])]) (exitQ Tryz.prog Tryz.f34.results.toList [] ⟨.tup [.agg [.sl xs .no, .int .i64 (refAt (bytesL xs) (ctR (refL (bytesL xs) at') e)), .int .i64 (ctE (refL (bytesL xs) at') e)], .agg (cmdL (ctC (refL (bytesL xs) at') e))], none, none⟩)
def OkRefCt80 : Prop := ∀ (xs : List AV) (at' e : Int), inByteV (refL (bytesL xs) at') e = 8 ∧ isBytes xs ∧ 0 ≤ at' ∧ at' ≤ xs.length → inRefCt80 xs at' e
def refCtOF : Con
  | [.val (.agg [.sl xs .no, .int .i64 at', .int .i64 e])] => (some (8 < inByteV (refL (bytesL xs) at') e ∧ isBytes xs ∧ 0 ≤ at' ∧ at' ≤ xs.length, ⟨.tup [.agg [.sl xs .no, .int .i64 (refAt (bytesL xs) (ctR (refL (bytesL xs) at') e)), .int .i64 (ctE (refL (bytesL xs) at') e)], .agg (cmdL (ctC (refL (bytesL xs) at') e))], none, none⟩))
  | _ => none
def gamRefCtO : List (Nat × Con) := [(32, refByteF.orNil)]
def lpRefCtO0 (xs : List AV) (at' e : Int) : Nat → Option LoopPlan := fun _ => none
def inRefCtO0 (xs : List AV) (at' e : Int) : Prop := awp [] (lpRefCtO0 xs at' e) (lookΓ gamRefCtO) Tryz.prog Tryz.f34.ntmps 0 (Tryz.f34.body.getD .skip) (entrySt [.val (.agg [.sl xs .no, .int .i64 at', .int .i64 e])]) (exitQ Tryz.prog Tryz.f34.results.toList [] ⟨.tup [.agg [.sl xs .no, .int .i64 (refAt (bytesL xs) (ctR (refL (bytesL xs) at') e)), .int .i64 (ctE (refL (bytesL xs) at') e)], .agg (cmdL (ctC (refL (bytesL xs) at') e))], none, none⟩)
def OkRefCtO0 : Prop := ∀ (xs : List AV) (at' e : Int), 8 < inByteV (refL (bytesL xs) at') e ∧ isBytes xs ∧ 0 ≤ at' ∧ at' ≤ xs.length → inRefCtO0 xs at' e
end Go.Proofs.YtfoabkkkdcicgaaGreatDoor
/- What the verification conditions come to: printed by a program of ours (wip/lax/ex/Norm.lean). -/
namespace Go.Proofs.YtfoabkkkdcicgaaGreatDoor
set_option linter.unusedVariables false
open Go.RowKit
set_option maxRecDepth 100000
theorem vcRefCt00 (xs : (List AV)) (at' : Int) (e : Int) (h : let q0 := (refL (bytesL xs) at'); let q1 := (ctC q0 e); let q2 := (tkErr (List.length q0) e 1); let q3 := (refAt (bytesL xs) (tkRest q0 e 1)); let q4 := (refAt (bytesL xs) (ctR q0 e)); (tt ∧ T1 ∧ T1 ∧ T1 ∧ tt ∧ tt ∧ (T1 ∧ ((isBytes xs) ∧ (0 : Int) ≤ at' ∧ at' ≤ ((List.length xs) : Int)) ∧ (inByteV q0 e) = 0) ∧ T1 ∧ T1 ∧ T1 ∧ tt ∧ T1 ∧ tt ∧ T1 ∧ T1 ∧ T1 ∧ false = false ∧ tt ∧ T1 ∧ tt ∧ T1 ∧ (bif (q2 != 0) then (tt ∧ tt ∧ T1 ∧ tt ∧ tt ∧ tt ∧ tt ∧ (xs = xs ∧ q4 = q3 ∧ (ctE q0 e) = q2 ∧ q1.k = 0 ∧ q1.num = 0 ∧ q1.foot = [] ∧ q1.rq = 0 ∧ q1.path = [] ∧ q1.mode = 0 ∧ q1.n = 0 ∧ q1.time = 0 ∧ True) ∧ tt) else (tt ∧ T1 ∧ T1 ∧ T1 ∧ T1 ∧ tt ∧ tt ∧ (T1 ∧ True) ∧ T1 ∧ tt ∧ ((0 : Int) ≤ (0 : Int) ∧ (0 : Int) < (9 : Int) ∧ 6 ≤ 54 ∧ (okRead [Kd.bool, Kd.bool, Kd.bool, Kd.bool, Kd.bool, Kd.bool] (AV.agg hasAV) 0)) ∧ T1 ∧ tt ∧ tt ∧ tt ∧ ((0 : Int) ≤ (0 : Int) ∧ (0 : Int) < (6 : Int)) ∧ tt ∧ tt ∧ ((0 : Int) ≤ (1 : Int) ∧ (1 : Int) < (6 : Int)) ∧ tt ∧ tt ∧ ((0 : Int) ≤ (2 : Int) ∧ (2 : Int) < (6 : Int)) ∧ tt ∧ tt ∧ ((0 : Int) ≤ (3 : Int) ∧ (3 : Int) < (6 : Int)) ∧ tt ∧ tt ∧ ((0 : Int) ≤ (4 : Int) ∧ (4 : Int) < (6 : Int)) ∧ tt ∧ tt ∧ ((0 : Int) ≤ (5 : Int) ∧ (5 : Int) < (6 : Int)) ∧ tt ∧ tt ∧ T1 ∧ tt ∧ T1 ∧ T1 ∧ (bif (q2 == 0) then (tt ∧ (T1 ∧ 0 ≤ 900000 ∧ 0 ≤ 900000) ∧ T1 ∧ T1 ∧ tt ∧ T1 ∧ tt ∧ T1 ∧ (bif (q2 != 0) then (tt ∧ tt ∧ T1 ∧ tt ∧ tt ∧ tt ∧ tt ∧ (xs = xs ∧ q4 = q3 ∧ (ctE q0 e) = q2 ∧ q1.k = 0 ∧ q1.num = 0 ∧ q1.foot = [] ∧ q1.rq = 0 ∧ q1.path = [] ∧ q1.mode = 0 ∧ q1.n = 0 ∧ q1.time = 0 ∧ True) ∧ tt) else (tt ∧ tt ∧ tt ∧ tt ∧ tt ∧ tt ∧ tt ∧ tt ∧ (xs = xs ∧ q4 = q3 ∧ (ctE q0 e) = q2 ∧ q1.k = 0 ∧ q1.num = 0 ∧ q1.foot = [] ∧ q1.rq = 0 ∧ q1.path = [] ∧ q1.mode = 0 ∧ q1.n = 0 ∧ q1.time = 0 ∧ True) ∧ tt))) else (false = false ∧ tt ∧ T1 ∧ tt ∧ T1 ∧ (bif (q2 != 0) then (tt ∧ tt ∧ T1 ∧ tt ∧ tt ∧ tt ∧ tt ∧ (xs = xs ∧ q4 = q3 ∧ (ctE q0 e) = q2 ∧ q1.k = 0 ∧ q1.num = 0 ∧ q1.foot = [] ∧ q1.rq = 0 ∧ q1.path = [] ∧ q1.mode = 0 ∧ q1.n = 0 ∧ q1.time = 0 ∧ True) ∧ tt) else (tt ∧ tt ∧ tt ∧ tt ∧ tt ∧ tt ∧ tt ∧ tt ∧ (xs = xs ∧ q4 = q3 ∧ (ctE q0 e) = q2 ∧ q1.k = 0 ∧ q1.num = 0 ∧ q1.foot = [] ∧ q1.rq = 0 ∧ q1.path = [] ∧ q1.mode = 0 ∧ q1.n = 0 ∧ q1.time = 0 ∧ True) ∧ tt)))))))) : inRefCt00 xs at' e :=
  Eq.mp (show _ = _ by kernel_rfl) h
theorem vcRefCt10 (xs : (List AV)) (at' : Int) (e : Int) (h : let q0 := (refL (bytesL xs) at'); let q1 := (ctC q0 e); let q2 := (refAt (bytesL xs) (tkRest q0 e 1)); let q3 := (refAt (bytesL xs) (ctR q0 e)); let q4 := (tkErr (List.length q0) e 1); (tt ∧ T1 ∧ T1 ∧ T1 ∧ tt ∧ tt ∧ (T1 ∧ ((isBytes xs) ∧ (0 : Int) ≤ at' ∧ at' ≤ ((List.length xs) : Int)) ∧ (inByteV q0 e) = 1) ∧ T1 ∧ T1 ∧ T1 ∧ tt ∧ T1 ∧ tt ∧ T1 ∧ T1 ∧ T1 ∧ false = false ∧ tt ∧ T1 ∧ tt ∧ T1 ∧ (bif (q4 != 0) then (tt ∧ tt ∧ T1 ∧ tt ∧ tt ∧ tt ∧ tt ∧ (xs = xs ∧ q3 = q2 ∧ (ctE q0 e) = q4 ∧ q1.k = 0 ∧ q1.num = 0 ∧ q1.foot = [] ∧ q1.rq = 0 ∧ q1.path = [] ∧ q1.mode = 0 ∧ q1.n = 0 ∧ q1.time = 0 ∧ True) ∧ tt) else (tt ∧ T1 ∧ T1 ∧ T1 ∧ T1 ∧ tt ∧ tt ∧ (T1 ∧ True) ∧ T1 ∧ tt ∧ ((0 : Int) ≤ (1 : Int) ∧ (1 : Int) < (9 : Int) ∧ 12 ≤ 54 ∧ (okRead [Kd.bool, Kd.bool, Kd.bool, Kd.bool, Kd.bool, Kd.bool] (AV.agg hasAV) 6)) ∧ T1 ∧ tt ∧ tt ∧ tt ∧ ((0 : Int) ≤ (0 : Int) ∧ (0 : Int) < (6 : Int)) ∧ tt ∧ tt ∧ tt ∧ (T1 ∧ (isBytes xs) ∧ (0 : Int) ≤ q2 ∧ q2 ≤ ((List.length xs) : Int)) ∧ ∀ v0 : (List AV), (v0 = xs) → ∀ v2 : Int, (v2 = (refAt (bytesL xs) (tkRest (refL (bytesL xs) q2) q4 8))) → ∀ v4 : Int, (v4 = (tkErr (List.length (refL (bytesL xs) q2)) q4 8)) → ∀ v6 : Int, (v6 = ((val8 (tkOut (refL (bytesL xs) q2) q4 8)) : Int)) → T1 ∧ T1 ∧ T1 ∧ tt ∧ T1 ∧ tt ∧ tt ∧ tt ∧ (T1 ∧ (isBytes v0) ∧ (0 : Int) ≤ v2 ∧ v2 ≤ ((List.length v0) : Int)) ∧ ∀ v8 : (List AV), (v8 = v0) → ∀ v10 : Int, (v10 = (refAt (bytesL v0) (inTextR (refL (bytesL v0) v2) v4 64))) → ∀ v12 : Int, (v12 = (inTextE (refL (bytesL v0) v2) v4 64)) → ∀ v14 : (List UInt8), (v14 = (inTextV (refL (bytesL v0) v2) v4 64)) → T1 ∧ T1 ∧ T1 ∧ tt ∧ T1 ∧ tt ∧ tt ∧ ((0 : Int) ≤ (1 : Int) ∧ (1 : Int) < (6 : Int)) ∧ tt ∧ tt ∧ tt ∧ (T1 ∧ (isBytes v8) ∧ (0 : Int) ≤ v10 ∧ v10 ≤ ((List.length v8) : Int)) ∧ ∀ v16 : (List AV), (v16 = v8) → ∀ v18 : Int, (v18 = (refAt (bytesL v8) (shRest (refL (bytesL v8) v10) v12 18446744073709551615))) → ∀ v20 : Int, (v20 = (shErr (refL (bytesL v8) v10) v12 18446744073709551615)) → ∀ v22 : Int, (v22 = (shV (refL (bytesL v8) v10) v12 18446744073709551615)) → T1 ∧ T1 ∧ T1 ∧ tt ∧ T1 ∧ tt ∧ tt ∧ ((0 : Int) ≤ (2 : Int) ∧ (2 : Int) < (6 : Int)) ∧ tt ∧ tt ∧ ((0 : Int) ≤ (3 : Int) ∧ (3 : Int) < (6 : Int)) ∧ tt ∧ tt ∧ ((0 : Int) ≤ (4 : Int) ∧ (4 : Int) < (6 : Int)) ∧ tt ∧ tt ∧ tt ∧ (T1 ∧ (isBytes v16) ∧ (0 : Int) ≤ v18 ∧ v18 ≤ ((List.length v16) : Int)) ∧ ∀ v24 : (List AV), (v24 = v16) → ∀ v26 : Int, (v26 = (refAt (bytesL v16) (shRest (refL (bytesL v16) v18) v20 18446744073709551615))) → ∀ v28 : Int, (v28 = (shErr (refL (bytesL v16) v18) v20 18446744073709551615)) → ∀ v30 : Int, (v30 = (shV (refL (bytesL v16) v18) v20 18446744073709551615)) → T1 ∧ T1 ∧ T1 ∧ tt ∧ T1 ∧ tt ∧ tt ∧ ((0 : Int) ≤ (5 : Int) ∧ (5 : Int) < (6 : Int)) ∧ tt ∧ tt ∧ T1 ∧ tt ∧ tt ∧ (T1 ∧ (isBytes v24) ∧ (0 : Int) ≤ v26 ∧ v26 ≤ ((List.length v24) : Int)) ∧ ∀ v32 : (List AV), (v32 = v24) → ∀ v34 : Int, (v34 = (refAt (bytesL v24) (shRest (refL (bytesL v24) v26) v28 1099511627776))) → ∀ v36 : Int, (v36 = (shErr (refL (bytesL v24) v26) v28 1099511627776)) → ∀ v38 : Int, (v38 = (shV (refL (bytesL v24) v26) v28 1099511627776)) → T1 ∧ T1 ∧ T1 ∧ tt ∧ T1 ∧ tt ∧ T1 ∧ T1 ∧ T1 ∧ tt ∧ tt ∧ T1 ∧ tt ∧ T1 ∧ T1 ∧ (bif (v36 == 0) then (tt ∧ (T1 ∧ (List.length v14) ≤ 900000 ∧ 0 ≤ 900000) ∧ T1 ∧ T1 ∧ (bif (Bool.not (rightC (CmdP.mk 1 v6 v14 v22 [] 0 v30 (IntKind.wrap IntKind.i64 v38)))) then (tt ∧ T1 ∧ tt ∧ tt ∧ T1 ∧ tt ∧ T1 ∧ tt ∧ tt ∧ T1 ∧ tt ∧ tt ∧ tt ∧ tt ∧ (xs = v32 ∧ q3 = v34 ∧ (ctE q0 e) = 10 ∧ q1.k = 0 ∧ q1.num = 0 ∧ q1.foot = [] ∧ q1.rq = 0 ∧ q1.path = [] ∧ q1.mode = 0 ∧ q1.n = 0 ∧ q1.time = 0 ∧ True) ∧ tt) else (tt ∧ T1 ∧ tt ∧ T1 ∧ (bif (v36 != 0) then (tt ∧ tt ∧ T1 ∧ tt ∧ tt ∧ tt ∧ tt ∧ (xs = v32 ∧ q3 = v34 ∧ (ctE q0 e) = v36 ∧ q1.k = 0 ∧ q1.num = 0 ∧ q1.foot = [] ∧ q1.rq = 0 ∧ q1.path = [] ∧ q1.mode = 0 ∧ q1.n = 0 ∧ q1.time = 0 ∧ True) ∧ tt) else (tt ∧ tt ∧ tt ∧ tt ∧ tt ∧ tt ∧ tt ∧ tt ∧ (xs = v32 ∧ q3 = v34 ∧ (ctE q0 e) = v36 ∧ q1.k = 1 ∧ q1.num = v6 ∧ q1.foot = v14 ∧ q1.rq = v22 ∧ q1.path = [] ∧ q1.mode = 0 ∧ q1.n = v30 ∧ q1.time = (IntKind.wrap IntKind.i64 v38) ∧ True) ∧ tt))))) else (false = false ∧ tt ∧ T1 ∧ tt ∧ T1 ∧ (bif (v36 != 0) then (tt ∧ tt ∧ T1 ∧ tt ∧ tt ∧ tt ∧ tt ∧ (xs = v32 ∧ q3 = v34 ∧ (ctE q0 e) = v36 ∧ q1.k = 0 ∧ q1.num = 0 ∧ q1.foot = [] ∧ q1.rq = 0 ∧ q1.path = [] ∧ q1.mode = 0 ∧ q1.n = 0 ∧ q1.time = 0 ∧ True) ∧ tt) else (tt ∧ tt ∧ tt ∧ tt ∧ tt ∧ tt ∧ tt ∧ tt ∧ (xs = v32 ∧ q3 = v34 ∧ (ctE q0 e) = v36 ∧ q1.k = 1 ∧ q1.num = v6 ∧ q1.foot = v14 ∧ q1.rq = v22 ∧ q1.path = [] ∧ q1.mode = 0 ∧ q1.n = v30 ∧ q1.time = (IntKind.wrap IntKind.i64 v38) ∧ True) ∧ tt)))))))) : inRefCt10 xs at' e :=
  Eq.mp (show _ = _ by kernel_rfl) h
theorem vcRefCt20 (xs : (List AV)) (at' : Int) (e : Int) (h : let q0 := (refL (bytesL xs) at'); let q1 := (ctC q0 e); let q2 := (refAt (bytesL xs) (tkRest q0 e 1)); let q3 := (refAt (bytesL xs) (ctR q0 e)); let q4 := (tkErr (List.length q0) e 1); (tt ∧ T1 ∧ T1 ∧ T1 ∧ tt ∧ tt ∧ (T1 ∧ ((isBytes xs) ∧ (0 : Int) ≤ at' ∧ at' ≤ ((List.length xs) : Int)) ∧ (inByteV q0 e) = 2) ∧ T1 ∧ T1 ∧ T1 ∧ tt ∧ T1 ∧ tt ∧ T1 ∧ T1 ∧ T1 ∧ false = false ∧ tt ∧ T1 ∧ tt ∧ T1 ∧ (bif (q4 != 0) then (tt ∧ tt ∧ T1 ∧ tt ∧ tt ∧ tt ∧ tt ∧ (xs = xs ∧ q3 = q2 ∧ (ctE q0 e) = q4 ∧ q1.k = 0 ∧ q1.num = 0 ∧ q1.foot = [] ∧ q1.rq = 0 ∧ q1.path = [] ∧ q1.mode = 0 ∧ q1.n = 0 ∧ q1.time = 0 ∧ True) ∧ tt) else (tt ∧ T1 ∧ T1 ∧ T1 ∧ T1 ∧ tt ∧ tt ∧ (T1 ∧ True) ∧ T1 ∧ tt ∧ ((0 : Int) ≤ (2 : Int) ∧ (2 : Int) < (9 : Int) ∧ 18 ≤ 54 ∧ (okRead [Kd.bool, Kd.bool, Kd.bool, Kd.bool, Kd.bool, Kd.bool] (AV.agg hasAV) 12)) ∧ T1 ∧ tt ∧ tt ∧ tt ∧ ((0 : Int) ≤ (0 : Int) ∧ (0 : Int) < (6 : Int)) ∧ tt ∧ tt ∧ tt ∧ (T1 ∧ (isBytes xs) ∧ (0 : Int) ≤ q2 ∧ q2 ≤ ((List.length xs) : Int)) ∧ ∀ v0 : (List AV), (v0 = xs) → ∀ v2 : Int, (v2 = (refAt (bytesL xs) (tkRest (refL (bytesL xs) q2) q4 8))) → ∀ v4 : Int, (v4 = (tkErr (List.length (refL (bytesL xs) q2)) q4 8)) → ∀ v6 : Int, (v6 = ((val8 (tkOut (refL (bytesL xs) q2) q4 8)) : Int)) → T1 ∧ T1 ∧ T1 ∧ tt ∧ T1 ∧ tt ∧ tt ∧ tt ∧ (T1 ∧ (isBytes v0) ∧ (0 : Int) ≤ v2 ∧ v2 ≤ ((List.length v0) : Int)) ∧ ∀ v8 : (List AV), (v8 = v0) → ∀ v10 : Int, (v10 = (refAt (bytesL v0) (inTextR (refL (bytesL v0) v2) v4 64))) → ∀ v12 : Int, (v12 = (inTextE (refL (bytesL v0) v2) v4 64)) → ∀ v14 : (List UInt8), (v14 = (inTextV (refL (bytesL v0) v2) v4 64)) → T1 ∧ T1 ∧ T1 ∧ tt ∧ T1 ∧ tt ∧ tt ∧ ((0 : Int) ≤ (1 : Int) ∧ (1 : Int) < (6 : Int)) ∧ tt ∧ tt ∧ tt ∧ (T1 ∧ (isBytes v8) ∧ (0 : Int) ≤ v10 ∧ v10 ≤ ((List.length v8) : Int)) ∧ ∀ v16 : (List AV), (v16 = v8) → ∀ v18 : Int, (v18 = (refAt (bytesL v8) (shRest (refL (bytesL v8) v10) v12 18446744073709551615))) → ∀ v20 : Int, (v20 = (shErr (refL (bytesL v8) v10) v12 18446744073709551615)) → ∀ v22 : Int, (v22 = (shV (refL (bytesL v8) v10) v12 18446744073709551615)) → T1 ∧ T1 ∧ T1 ∧ tt ∧ T1 ∧ tt ∧ tt ∧ ((0 : Int) ≤ (2 : Int) ∧ (2 : Int) < (6 : Int)) ∧ tt ∧ tt ∧ ((0 : Int) ≤ (3 : Int) ∧ (3 : Int) < (6 : Int)) ∧ tt ∧ tt ∧ ((0 : Int) ≤ (4 : Int) ∧ (4 : Int) < (6 : Int)) ∧ tt ∧ tt ∧ ((0 : Int) ≤ (5 : Int) ∧ (5 : Int) < (6 : Int)) ∧ tt ∧ tt ∧ T1 ∧ tt ∧ T1 ∧ T1 ∧ (bif (v20 == 0) then (tt ∧ (T1 ∧ (List.length v14) ≤ 900000 ∧ 0 ≤ 900000) ∧ T1 ∧ T1 ∧ (bif (Bool.not (rightC (CmdP.mk 2 v6 v14 v22 [] 0 0 0))) then (tt ∧ T1 ∧ tt ∧ tt ∧ T1 ∧ tt ∧ T1 ∧ tt ∧ tt ∧ T1 ∧ tt ∧ tt ∧ tt ∧ tt ∧ (xs = v16 ∧ q3 = v18 ∧ (ctE q0 e) = 10 ∧ q1.k = 0 ∧ q1.num = 0 ∧ q1.foot = [] ∧ q1.rq = 0 ∧ q1.path = [] ∧ q1.mode = 0 ∧ q1.n = 0 ∧ q1.time = 0 ∧ True) ∧ tt) else (tt ∧ T1 ∧ tt ∧ T1 ∧ (bif (v20 != 0) then (tt ∧ tt ∧ T1 ∧ tt ∧ tt ∧ tt ∧ tt ∧ (xs = v16 ∧ q3 = v18 ∧ (ctE q0 e) = v20 ∧ q1.k = 0 ∧ q1.num = 0 ∧ q1.foot = [] ∧ q1.rq = 0 ∧ q1.path = [] ∧ q1.mode = 0 ∧ q1.n = 0 ∧ q1.time = 0 ∧ True) ∧ tt) else (tt ∧ tt ∧ tt ∧ tt ∧ tt ∧ tt ∧ tt ∧ tt ∧ (xs = v16 ∧ q3 = v18 ∧ (ctE q0 e) = v20 ∧ q1.k = 2 ∧ q1.num = v6 ∧ q1.foot = v14 ∧ q1.rq = v22 ∧ q1.path = [] ∧ q1.mode = 0 ∧ q1.n = 0 ∧ q1.time = 0 ∧ True) ∧ tt))))) else (false = false ∧ tt ∧ T1 ∧ tt ∧ T1 ∧ (bif (v20 != 0) then (tt ∧ tt ∧ T1 ∧ tt ∧ tt ∧ tt ∧ tt ∧ (xs = v16 ∧ q3 = v18 ∧ (ctE q0 e) = v20 ∧ q1.k = 0 ∧ q1.num = 0 ∧ q1.foot = [] ∧ q1.rq = 0 ∧ q1.path = [] ∧ q1.mode = 0 ∧ q1.n = 0 ∧ q1.time = 0 ∧ True) ∧ tt) else (tt ∧ tt ∧ tt ∧ tt ∧ tt ∧ tt ∧ tt ∧ tt ∧ (xs = v16 ∧ q3 = v18 ∧ (ctE q0 e) = v20 ∧ q1.k = 2 ∧ q1.num = v6 ∧ q1.foot = v14 ∧ q1.rq = v22 ∧ q1.path = [] ∧ q1.mode = 0 ∧ q1.n = 0 ∧ q1.time = 0 ∧ True) ∧ tt)))))))) : inRefCt20 xs at' e :=
  Eq.mp (show _ = _ by kernel_rfl) h
theorem vcRefCt30 (xs : (List AV)) (at' : Int) (e : Int) (h : let q0 := (refL (bytesL xs) at'); let q1 := (ctC q0 e); let q2 := (refAt (bytesL xs) (tkRest q0 e 1)); let q3 := (refAt (bytesL xs) (ctR q0 e)); let q4 := (tkErr (List.length q0) e 1); (tt ∧ T1 ∧ T1 ∧ T1 ∧ tt ∧ tt ∧ (T1 ∧ ((isBytes xs) ∧ (0 : Int) ≤ at' ∧ at' ≤ ((List.length xs) : Int)) ∧ (inByteV q0 e) = 3) ∧ T1 ∧ T1 ∧ T1 ∧ tt ∧ T1 ∧ tt ∧ T1 ∧ T1 ∧ T1 ∧ false = false ∧ tt ∧ T1 ∧ tt ∧ T1 ∧ (bif (q4 != 0) then (tt ∧ tt ∧ T1 ∧ tt ∧ tt ∧ tt ∧ tt ∧ (xs = xs ∧ q3 = q2 ∧ (ctE q0 e) = q4 ∧ q1.k = 0 ∧ q1.num = 0 ∧ q1.foot = [] ∧ q1.rq = 0 ∧ q1.path = [] ∧ q1.mode = 0 ∧ q1.n = 0 ∧ q1.time = 0 ∧ True) ∧ tt) else (tt ∧ T1 ∧ T1 ∧ T1 ∧ T1 ∧ tt ∧ tt ∧ (T1 ∧ True) ∧ T1 ∧ tt ∧ ((0 : Int) ≤ (3 : Int) ∧ (3 : Int) < (9 : Int) ∧ 24 ≤ 54 ∧ (okRead [Kd.bool, Kd.bool, Kd.bool, Kd.bool, Kd.bool, Kd.bool] (AV.agg hasAV) 18)) ∧ T1 ∧ tt ∧ tt ∧ tt ∧ ((0 : Int) ≤ (0 : Int) ∧ (0 : Int) < (6 : Int)) ∧ tt ∧ tt ∧ tt ∧ (T1 ∧ (isBytes xs) ∧ (0 : Int) ≤ q2 ∧ q2 ≤ ((List.length xs) : Int)) ∧ ∀ v0 : (List AV), (v0 = xs) → ∀ v2 : Int, (v2 = (refAt (bytesL xs) (tkRest (refL (bytesL xs) q2) q4 8))) → ∀ v4 : Int, (v4 = (tkErr (List.length (refL (bytesL xs) q2)) q4 8)) → ∀ v6 : Int, (v6 = ((val8 (tkOut (refL (bytesL xs) q2) q4 8)) : Int)) → T1 ∧ T1 ∧ T1 ∧ tt ∧ T1 ∧ tt ∧ tt ∧ tt ∧ (T1 ∧ (isBytes v0) ∧ (0 : Int) ≤ v2 ∧ v2 ≤ ((List.length v0) : Int)) ∧ ∀ v8 : (List AV), (v8 = v0) → ∀ v10 : Int, (v10 = (refAt (bytesL v0) (inTextR (refL (bytesL v0) v2) v4 64))) → ∀ v12 : Int, (v12 = (inTextE (refL (bytesL v0) v2) v4 64)) → ∀ v14 : (List UInt8), (v14 = (inTextV (refL (bytesL v0) v2) v4 64)) → T1 ∧ T1 ∧ T1 ∧ tt ∧ T1 ∧ tt ∧ tt ∧ ((0 : Int) ≤ (1 : Int) ∧ (1 : Int) < (6 : Int)) ∧ tt ∧ tt ∧ tt ∧ (T1 ∧ (isBytes v8) ∧ (0 : Int) ≤ v10 ∧ v10 ≤ ((List.length v8) : Int)) ∧ ∀ v16 : (List AV), (v16 = v8) → ∀ v18 : Int, (v18 = (refAt (bytesL v8) (shRest (refL (bytesL v8) v10) v12 18446744073709551615))) → ∀ v20 : Int, (v20 = (shErr (refL (bytesL v8) v10) v12 18446744073709551615)) → ∀ v22 : Int, (v22 = (shV (refL (bytesL v8) v10) v12 18446744073709551615)) → T1 ∧ T1 ∧ T1 ∧ tt ∧ T1 ∧ tt ∧ tt ∧ ((0 : Int) ≤ (2 : Int) ∧ (2 : Int) < (6 : Int)) ∧ tt ∧ tt ∧ ((0 : Int) ≤ (3 : Int) ∧ (3 : Int) < (6 : Int)) ∧ tt ∧ tt ∧ ((0 : Int) ≤ (4 : Int) ∧ (4 : Int) < (6 : Int)) ∧ tt ∧ tt ∧ ((0 : Int) ≤ (5 : Int) ∧ (5 : Int) < (6 : Int)) ∧ tt ∧ tt ∧ T1 ∧ tt ∧ tt ∧ (T1 ∧ (isBytes v16) ∧ (0 : Int) ≤ v18 ∧ v18 ≤ ((List.length v16) : Int)) ∧ ∀ v24 : (List AV), (v24 = v16) → ∀ v26 : Int, (v26 = (refAt (bytesL v16) (shRest (refL (bytesL v16) v18) v20 1099511627776))) → ∀ v28 : Int, (v28 = (shErr (refL (bytesL v16) v18) v20 1099511627776)) → ∀ v30 : Int, (v30 = (shV (refL (bytesL v16) v18) v20 1099511627776)) → T1 ∧ T1 ∧ T1 ∧ tt ∧ T1 ∧ tt ∧ T1 ∧ T1 ∧ T1 ∧ tt ∧ tt ∧ T1 ∧ tt ∧ T1 ∧ T1 ∧ (bif (v28 == 0) then (tt ∧ (T1 ∧ (List.length v14) ≤ 900000 ∧ 0 ≤ 900000) ∧ T1 ∧ T1 ∧ (bif (Bool.not (rightC (CmdP.mk 3 v6 v14 v22 [] 0 0 (IntKind.wrap IntKind.i64 v30)))) then (tt ∧ T1 ∧ tt ∧ tt ∧ T1 ∧ tt ∧ T1 ∧ tt ∧ tt ∧ T1 ∧ tt ∧ tt ∧ tt ∧ tt ∧ (xs = v24 ∧ q3 = v26 ∧ (ctE q0 e) = 10 ∧ q1.k = 0 ∧ q1.num = 0 ∧ q1.foot = [] ∧ q1.rq = 0 ∧ q1.path = [] ∧ q1.mode = 0 ∧ q1.n = 0 ∧ q1.time = 0 ∧ True) ∧ tt) else (tt ∧ T1 ∧ tt ∧ T1 ∧ (bif (v28 != 0) then (tt ∧ tt ∧ T1 ∧ tt ∧ tt ∧ tt ∧ tt ∧ (xs = v24 ∧ q3 = v26 ∧ (ctE q0 e) = v28 ∧ q1.k = 0 ∧ q1.num = 0 ∧ q1.foot = [] ∧ q1.rq = 0 ∧ q1.path = [] ∧ q1.mode = 0 ∧ q1.n = 0 ∧ q1.time = 0 ∧ True) ∧ tt) else (tt ∧ tt ∧ tt ∧ tt ∧ tt ∧ tt ∧ tt ∧ tt ∧ (xs = v24 ∧ q3 = v26 ∧ (ctE q0 e) = v28 ∧ q1.k = 3 ∧ q1.num = v6 ∧ q1.foot = v14 ∧ q1.rq = v22 ∧ q1.path = [] ∧ q1.mode = 0 ∧ q1.n = 0 ∧ q1.time = (IntKind.wrap IntKind.i64 v30) ∧ True) ∧ tt))))) else (false = false ∧ tt ∧ T1 ∧ tt ∧ T1 ∧ (bif (v28 != 0) then (tt ∧ tt ∧ T1 ∧ tt ∧ tt ∧ tt ∧ tt ∧ (xs = v24 ∧ q3 = v26 ∧ (ctE q0 e) = v28 ∧ q1.k = 0 ∧ q1.num = 0 ∧ q1.foot = [] ∧ q1.rq = 0 ∧ q1.path = [] ∧ q1.mode = 0 ∧ q1.n = 0 ∧ q1.time = 0 ∧ True) ∧ tt) else (tt ∧ tt ∧ tt ∧ tt ∧ tt ∧ tt ∧ tt ∧ tt ∧ (xs = v24 ∧ q3 = v26 ∧ (ctE q0 e) = v28 ∧ q1.k = 3 ∧ q1.num = v6 ∧ q1.foot = v14 ∧ q1.rq = v22 ∧ q1.path = [] ∧ q1.mode = 0 ∧ q1.n = 0 ∧ q1.time = (IntKind.wrap IntKind.i64 v30) ∧ True) ∧ tt)))))))) : inRefCt30 xs at' e :=
  Eq.mp (show _ = _ by kernel_rfl) h
theorem vcRefCt40 (xs : (List AV)) (at' : Int) (e : Int) (h : let q0 := (refL (bytesL xs) at'); let q1 := (ctC q0 e); let q2 := (refAt (bytesL xs) (tkRest q0 e 1)); let q3 := (refAt (bytesL xs) (ctR q0 e)); let q4 := (tkErr (List.length q0) e 1); (tt ∧ T1 ∧ T1 ∧ T1 ∧ tt ∧ tt ∧ (T1 ∧ ((isBytes xs) ∧ (0 : Int) ≤ at' ∧ at' ≤ ((List.length xs) : Int)) ∧ (inByteV q0 e) = 4) ∧ T1 ∧ T1 ∧ T1 ∧ tt ∧ T1 ∧ tt ∧ T1 ∧ T1 ∧ T1 ∧ false = false ∧ tt ∧ T1 ∧ tt ∧ T1 ∧ (bif (q4 != 0) then (tt ∧ tt ∧ T1 ∧ tt ∧ tt ∧ tt ∧ tt ∧ (xs = xs ∧ q3 = q2 ∧ (ctE q0 e) = q4 ∧ q1.k = 0 ∧ q1.num = 0 ∧ q1.foot = [] ∧ q1.rq = 0 ∧ q1.path = [] ∧ q1.mode = 0 ∧ q1.n = 0 ∧ q1.time = 0 ∧ True) ∧ tt) else (tt ∧ T1 ∧ T1 ∧ T1 ∧ T1 ∧ tt ∧ tt ∧ (T1 ∧ True) ∧ T1 ∧ tt ∧ ((0 : Int) ≤ (4 : Int) ∧ (4 : Int) < (9 : Int) ∧ 30 ≤ 54 ∧ (okRead [Kd.bool, Kd.bool, Kd.bool, Kd.bool, Kd.bool, Kd.bool] (AV.agg hasAV) 24)) ∧ T1 ∧ tt ∧ tt ∧ tt ∧ ((0 : Int) ≤ (0 : Int) ∧ (0 : Int) < (6 : Int)) ∧ tt ∧ tt ∧ tt ∧ (T1 ∧ (isBytes xs) ∧ (0 : Int) ≤ q2 ∧ q2 ≤ ((List.length xs) : Int)) ∧ ∀ v0 : (List AV), (v0 = xs) → ∀ v2 : Int, (v2 = (refAt (bytesL xs) (tkRest (refL (bytesL xs) q2) q4 8))) → ∀ v4 : Int, (v4 = (tkErr (List.length (refL (bytesL xs) q2)) q4 8)) → ∀ v6 : Int, (v6 = ((val8 (tkOut (refL (bytesL xs) q2) q4 8)) : Int)) → T1 ∧ T1 ∧ T1 ∧ tt ∧ T1 ∧ tt ∧ tt ∧ tt ∧ (T1 ∧ (isBytes v0) ∧ (0 : Int) ≤ v2 ∧ v2 ≤ ((List.length v0) : Int)) ∧ ∀ v8 : (List AV), (v8 = v0) → ∀ v10 : Int, (v10 = (refAt (bytesL v0) (inTextR (refL (bytesL v0) v2) v4 64))) → ∀ v12 : Int, (v12 = (inTextE (refL (bytesL v0) v2) v4 64)) → ∀ v14 : (List UInt8), (v14 = (inTextV (refL (bytesL v0) v2) v4 64)) → T1 ∧ T1 ∧ T1 ∧ tt ∧ T1 ∧ tt ∧ tt ∧ ((0 : Int) ≤ (1 : Int) ∧ (1 : Int) < (6 : Int)) ∧ tt ∧ tt ∧ tt ∧ (T1 ∧ (isBytes v8) ∧ (0 : Int) ≤ v10 ∧ v10 ≤ ((List.length v8) : Int)) ∧ ∀ v16 : (List AV), (v16 = v8) → ∀ v18 : Int, (v18 = (refAt (bytesL v8) (shRest (refL (bytesL v8) v10) v12 18446744073709551615))) → ∀ v20 : Int, (v20 = (shErr (refL (bytesL v8) v10) v12 18446744073709551615)) → ∀ v22 : Int, (v22 = (shV (refL (bytesL v8) v10) v12 18446744073709551615)) → T1 ∧ T1 ∧ T1 ∧ tt ∧ T1 ∧ tt ∧ tt ∧ ((0 : Int) ≤ (2 : Int) ∧ (2 : Int) < (6 : Int)) ∧ tt ∧ tt ∧ tt ∧ (T1 ∧ (isBytes v16) ∧ (0 : Int) ≤ v18 ∧ v18 ≤ ((List.length v16) : Int)) ∧ ∀ v24 : (List AV), (v24 = v16) → ∀ v26 : Int, (v26 = (refAt (bytesL v16) (inTextR (refL (bytesL v16) v18) v20 64))) → ∀ v28 : Int, (v28 = (inTextE (refL (bytesL v16) v18) v20 64)) → ∀ v30 : (List UInt8), (v30 = (inTextV (refL (bytesL v16) v18) v20 64)) → T1 ∧ T1 ∧ T1 ∧ tt ∧ T1 ∧ tt ∧ tt ∧ ((0 : Int) ≤ (3 : Int) ∧ (3 : Int) < (6 : Int)) ∧ tt ∧ tt ∧ tt ∧ (T1 ∧ (isBytes v24) ∧ (0 : Int) ≤ v26 ∧ v26 ≤ ((List.length v24) : Int)) ∧ ∀ v32 : (List AV), (v32 = v24) → ∀ v34 : Int, (v34 = (refAt (bytesL v24) (tkRest (refL (bytesL v24) v26) v28 1))) → ∀ v36 : Int, (v36 = (tkErr (List.length (refL (bytesL v24) v26)) v28 1)) → ∀ v38 : Int, (v38 = (inByteV (refL (bytesL v24) v26) v28)) → T1 ∧ T1 ∧ T1 ∧ tt ∧ T1 ∧ tt ∧ T1 ∧ T1 ∧ T1 ∧ tt ∧ tt ∧ ((0 : Int) ≤ (4 : Int) ∧ (4 : Int) < (6 : Int)) ∧ tt ∧ tt ∧ ((0 : Int) ≤ (5 : Int) ∧ (5 : Int) < (6 : Int)) ∧ tt ∧ tt ∧ T1 ∧ tt ∧ T1 ∧ T1 ∧ (bif (v36 == 0) then (tt ∧ (T1 ∧ (List.length v14) ≤ 900000 ∧ (List.length v30) ≤ 900000) ∧ T1 ∧ T1 ∧ (bif (Bool.not (rightC (CmdP.mk 4 v6 v14 v22 v30 (IntKind.wrap IntKind.i64 v38) 0 0))) then (tt ∧ T1 ∧ tt ∧ tt ∧ T1 ∧ tt ∧ T1 ∧ tt ∧ tt ∧ T1 ∧ tt ∧ tt ∧ tt ∧ tt ∧ (xs = v32 ∧ q3 = v34 ∧ (ctE q0 e) = 10 ∧ q1.k = 0 ∧ q1.num = 0 ∧ q1.foot = [] ∧ q1.rq = 0 ∧ q1.path = [] ∧ q1.mode = 0 ∧ q1.n = 0 ∧ q1.time = 0 ∧ True) ∧ tt) else (tt ∧ T1 ∧ tt ∧ T1 ∧ (bif (v36 != 0) then (tt ∧ tt ∧ T1 ∧ tt ∧ tt ∧ tt ∧ tt ∧ (xs = v32 ∧ q3 = v34 ∧ (ctE q0 e) = v36 ∧ q1.k = 0 ∧ q1.num = 0 ∧ q1.foot = [] ∧ q1.rq = 0 ∧ q1.path = [] ∧ q1.mode = 0 ∧ q1.n = 0 ∧ q1.time = 0 ∧ True) ∧ tt) else (tt ∧ tt ∧ tt ∧ tt ∧ tt ∧ tt ∧ tt ∧ tt ∧ (xs = v32 ∧ q3 = v34 ∧ (ctE q0 e) = v36 ∧ q1.k = 4 ∧ q1.num = v6 ∧ q1.foot = v14 ∧ q1.rq = v22 ∧ q1.path = v30 ∧ q1.mode = (IntKind.wrap IntKind.i64 v38) ∧ q1.n = 0 ∧ q1.time = 0 ∧ True) ∧ tt))))) else (false = false ∧ tt ∧ T1 ∧ tt ∧ T1 ∧ (bif (v36 != 0) then (tt ∧ tt ∧ T1 ∧ tt ∧ tt ∧ tt ∧ tt ∧ (xs = v32 ∧ q3 = v34 ∧ (ctE q0 e) = v36 ∧ q1.k = 0 ∧ q1.num = 0 ∧ q1.foot = [] ∧ q1.rq = 0 ∧ q1.path = [] ∧ q1.mode = 0 ∧ q1.n = 0 ∧ q1.time = 0 ∧ True) ∧ tt) else (tt ∧ tt ∧ tt ∧ tt ∧ tt ∧ tt ∧ tt ∧ tt ∧ (xs = v32 ∧ q3 = v34 ∧ (ctE q0 e) = v36 ∧ q1.k = 4 ∧ q1.num = v6 ∧ q1.foot = v14 ∧ q1.rq = v22 ∧ q1.path = v30 ∧ q1.mode = (IntKind.wrap IntKind.i64 v38) ∧ q1.n = 0 ∧ q1.time = 0 ∧ True) ∧ tt)))))))) : inRefCt40 xs at' e :=
  Eq.mp (show _ = _ by kernel_rfl) h
theorem vcRefCt50 (xs : (List AV)) (at' : Int) (e : Int) (h : let q0 := (refL (bytesL xs) at'); let q1 := (ctC q0 e); let q2 := (refAt (bytesL xs) (tkRest q0 e 1)); let q3 := (refAt (bytesL xs) (ctR q0 e)); let q4 := (tkErr (List.length q0) e 1); (tt ∧ T1 ∧ T1 ∧ T1 ∧ tt ∧ tt ∧ (T1 ∧ ((isBytes xs) ∧ (0 : Int) ≤ at' ∧ at' ≤ ((List.length xs) : Int)) ∧ (inByteV q0 e) = 5) ∧ T1 ∧ T1 ∧ T1 ∧ tt ∧ T1 ∧ tt ∧ T1 ∧ T1 ∧ T1 ∧ false = false ∧ tt ∧ T1 ∧ tt ∧ T1 ∧ (bif (q4 != 0) then (tt ∧ tt ∧ T1 ∧ tt ∧ tt ∧ tt ∧ tt ∧ (xs = xs ∧ q3 = q2 ∧ (ctE q0 e) = q4 ∧ q1.k = 0 ∧ q1.num = 0 ∧ q1.foot = [] ∧ q1.rq = 0 ∧ q1.path = [] ∧ q1.mode = 0 ∧ q1.n = 0 ∧ q1.time = 0 ∧ True) ∧ tt) else (tt ∧ T1 ∧ T1 ∧ T1 ∧ T1 ∧ tt ∧ tt ∧ (T1 ∧ True) ∧ T1 ∧ tt ∧ ((0 : Int) ≤ (5 : Int) ∧ (5 : Int) < (9 : Int) ∧ 36 ≤ 54 ∧ (okRead [Kd.bool, Kd.bool, Kd.bool, Kd.bool, Kd.bool, Kd.bool] (AV.agg hasAV) 30)) ∧ T1 ∧ tt ∧ tt ∧ tt ∧ ((0 : Int) ≤ (0 : Int) ∧ (0 : Int) < (6 : Int)) ∧ tt ∧ tt ∧ tt ∧ (T1 ∧ (isBytes xs) ∧ (0 : Int) ≤ q2 ∧ q2 ≤ ((List.length xs) : Int)) ∧ ∀ v0 : (List AV), (v0 = xs) → ∀ v2 : Int, (v2 = (refAt (bytesL xs) (tkRest (refL (bytesL xs) q2) q4 8))) → ∀ v4 : Int, (v4 = (tkErr (List.length (refL (bytesL xs) q2)) q4 8)) → ∀ v6 : Int, (v6 = ((val8 (tkOut (refL (bytesL xs) q2) q4 8)) : Int)) → T1 ∧ T1 ∧ T1 ∧ tt ∧ T1 ∧ tt ∧ tt ∧ tt ∧ (T1 ∧ (isBytes v0) ∧ (0 : Int) ≤ v2 ∧ v2 ≤ ((List.length v0) : Int)) ∧ ∀ v8 : (List AV), (v8 = v0) → ∀ v10 : Int, (v10 = (refAt (bytesL v0) (inTextR (refL (bytesL v0) v2) v4 64))) → ∀ v12 : Int, (v12 = (inTextE (refL (bytesL v0) v2) v4 64)) → ∀ v14 : (List UInt8), (v14 = (inTextV (refL (bytesL v0) v2) v4 64)) → T1 ∧ T1 ∧ T1 ∧ tt ∧ T1 ∧ tt ∧ tt ∧ ((0 : Int) ≤ (1 : Int) ∧ (1 : Int) < (6 : Int)) ∧ tt ∧ tt ∧ tt ∧ (T1 ∧ (isBytes v8) ∧ (0 : Int) ≤ v10 ∧ v10 ≤ ((List.length v8) : Int)) ∧ ∀ v16 : (List AV), (v16 = v8) → ∀ v18 : Int, (v18 = (refAt (bytesL v8) (shRest (refL (bytesL v8) v10) v12 18446744073709551615))) → ∀ v20 : Int, (v20 = (shErr (refL (bytesL v8) v10) v12 18446744073709551615)) → ∀ v22 : Int, (v22 = (shV (refL (bytesL v8) v10) v12 18446744073709551615)) → T1 ∧ T1 ∧ T1 ∧ tt ∧ T1 ∧ tt ∧ tt ∧ ((0 : Int) ≤ (2 : Int) ∧ (2 : Int) < (6 : Int)) ∧ tt ∧ tt ∧ tt ∧ (T1 ∧ (isBytes v16) ∧ (0 : Int) ≤ v18 ∧ v18 ≤ ((List.length v16) : Int)) ∧ ∀ v24 : (List AV), (v24 = v16) → ∀ v26 : Int, (v26 = (refAt (bytesL v16) (inTextR (refL (bytesL v16) v18) v20 64))) → ∀ v28 : Int, (v28 = (inTextE (refL (bytesL v16) v18) v20 64)) → ∀ v30 : (List UInt8), (v30 = (inTextV (refL (bytesL v16) v18) v20 64)) → T1 ∧ T1 ∧ T1 ∧ tt ∧ T1 ∧ tt ∧ tt ∧ ((0 : Int) ≤ (3 : Int) ∧ (3 : Int) < (6 : Int)) ∧ tt ∧ tt ∧ tt ∧ (T1 ∧ (isBytes v24) ∧ (0 : Int) ≤ v26 ∧ v26 ≤ ((List.length v24) : Int)) ∧ ∀ v32 : (List AV), (v32 = v24) → ∀ v34 : Int, (v34 = (refAt (bytesL v24) (tkRest (refL (bytesL v24) v26) v28 1))) → ∀ v36 : Int, (v36 = (tkErr (List.length (refL (bytesL v24) v26)) v28 1)) → ∀ v38 : Int, (v38 = (inByteV (refL (bytesL v24) v26) v28)) → T1 ∧ T1 ∧ T1 ∧ tt ∧ T1 ∧ tt ∧ T1 ∧ T1 ∧ T1 ∧ tt ∧ tt ∧ ((0 : Int) ≤ (4 : Int) ∧ (4 : Int) < (6 : Int)) ∧ tt ∧ tt ∧ ((0 : Int) ≤ (5 : Int) ∧ (5 : Int) < (6 : Int)) ∧ tt ∧ tt ∧ T1 ∧ tt ∧ T1 ∧ T1 ∧ (bif (v36 == 0) then (tt ∧ (T1 ∧ (List.length v14) ≤ 900000 ∧ (List.length v30) ≤ 900000) ∧ T1 ∧ T1 ∧ (bif (Bool.not (rightC (CmdP.mk 5 v6 v14 v22 v30 (IntKind.wrap IntKind.i64 v38) 0 0))) then (tt ∧ T1 ∧ tt ∧ tt ∧ T1 ∧ tt ∧ T1 ∧ tt ∧ tt ∧ T1 ∧ tt ∧ tt ∧ tt ∧ tt ∧ (xs = v32 ∧ q3 = v34 ∧ (ctE q0 e) = 10 ∧ q1.k = 0 ∧ q1.num = 0 ∧ q1.foot = [] ∧ q1.rq = 0 ∧ q1.path = [] ∧ q1.mode = 0 ∧ q1.n = 0 ∧ q1.time = 0 ∧ True) ∧ tt) else (tt ∧ T1 ∧ tt ∧ T1 ∧ (bif (v36 != 0) then (tt ∧ tt ∧ T1 ∧ tt ∧ tt ∧ tt ∧ tt ∧ (xs = v32 ∧ q3 = v34 ∧ (ctE q0 e) = v36 ∧ q1.k = 0 ∧ q1.num = 0 ∧ q1.foot = [] ∧ q1.rq = 0 ∧ q1.path = [] ∧ q1.mode = 0 ∧ q1.n = 0 ∧ q1.time = 0 ∧ True) ∧ tt) else (tt ∧ tt ∧ tt ∧ tt ∧ tt ∧ tt ∧ tt ∧ tt ∧ (xs = v32 ∧ q3 = v34 ∧ (ctE q0 e) = v36 ∧ q1.k = 5 ∧ q1.num = v6 ∧ q1.foot = v14 ∧ q1.rq = v22 ∧ q1.path = v30 ∧ q1.mode = (IntKind.wrap IntKind.i64 v38) ∧ q1.n = 0 ∧ q1.time = 0 ∧ True) ∧ tt))))) else (false = false ∧ tt ∧ T1 ∧ tt ∧ T1 ∧ (bif (v36 != 0) then (tt ∧ tt ∧ T1 ∧ tt ∧ tt ∧ tt ∧ tt ∧ (xs = v32 ∧ q3 = v34 ∧ (ctE q0 e) = v36 ∧ q1.k = 0 ∧ q1.num = 0 ∧ q1.foot = [] ∧ q1.rq = 0 ∧ q1.path = [] ∧ q1.mode = 0 ∧ q1.n = 0 ∧ q1.time = 0 ∧ True) ∧ tt) else (tt ∧ tt ∧ tt ∧ tt ∧ tt ∧ tt ∧ tt ∧ tt ∧ (xs = v32 ∧ q3 = v34 ∧ (ctE q0 e) = v36 ∧ q1.k = 5 ∧ q1.num = v6 ∧ q1.foot = v14 ∧ q1.rq = v22 ∧ q1.path = v30 ∧ q1.mode = (IntKind.wrap IntKind.i64 v38) ∧ q1.n = 0 ∧ q1.time = 0 ∧ True) ∧ tt)))))))) : inRefCt50 xs at' e :=
  Eq.mp (show _ = _ by kernel_rfl) h
theorem vcRefCt60 (xs : (List AV)) (at' : Int) (e : Int) (h : let q0 := (refL (bytesL xs) at'); let q1 := (ctC q0 e); let q2 := (refAt (bytesL xs) (tkRest q0 e 1)); let q3 := (refAt (bytesL xs) (ctR q0 e)); let q4 := (tkErr (List.length q0) e 1); (tt ∧ T1 ∧ T1 ∧ T1 ∧ tt ∧ tt ∧ (T1 ∧ ((isBytes xs) ∧ (0 : Int) ≤ at' ∧ at' ≤ ((List.length xs) : Int)) ∧ (inByteV q0 e) = 6) ∧ T1 ∧ T1 ∧ T1 ∧ tt ∧ T1 ∧ tt ∧ T1 ∧ T1 ∧ T1 ∧ false = false ∧ tt ∧ T1 ∧ tt ∧ T1 ∧ (bif (q4 != 0) then (tt ∧ tt ∧ T1 ∧ tt ∧ tt ∧ tt ∧ tt ∧ (xs = xs ∧ q3 = q2 ∧ (ctE q0 e) = q4 ∧ q1.k = 0 ∧ q1.num = 0 ∧ q1.foot = [] ∧ q1.rq = 0 ∧ q1.path = [] ∧ q1.mode = 0 ∧ q1.n = 0 ∧ q1.time = 0 ∧ True) ∧ tt) else (tt ∧ T1 ∧ T1 ∧ T1 ∧ T1 ∧ tt ∧ tt ∧ (T1 ∧ True) ∧ T1 ∧ tt ∧ ((0 : Int) ≤ (6 : Int) ∧ (6 : Int) < (9 : Int) ∧ 42 ≤ 54 ∧ (okRead [Kd.bool, Kd.bool, Kd.bool, Kd.bool, Kd.bool, Kd.bool] (AV.agg hasAV) 36)) ∧ T1 ∧ tt ∧ tt ∧ tt ∧ ((0 : Int) ≤ (0 : Int) ∧ (0 : Int) < (6 : Int)) ∧ tt ∧ tt ∧ tt ∧ (T1 ∧ (isBytes xs) ∧ (0 : Int) ≤ q2 ∧ q2 ≤ ((List.length xs) : Int)) ∧ ∀ v0 : (List AV), (v0 = xs) → ∀ v2 : Int, (v2 = (refAt (bytesL xs) (tkRest (refL (bytesL xs) q2) q4 8))) → ∀ v4 : Int, (v4 = (tkErr (List.length (refL (bytesL xs) q2)) q4 8)) → ∀ v6 : Int, (v6 = ((val8 (tkOut (refL (bytesL xs) q2) q4 8)) : Int)) → T1 ∧ T1 ∧ T1 ∧ tt ∧ T1 ∧ tt ∧ tt ∧ tt ∧ (T1 ∧ (isBytes v0) ∧ (0 : Int) ≤ v2 ∧ v2 ≤ ((List.length v0) : Int)) ∧ ∀ v8 : (List AV), (v8 = v0) → ∀ v10 : Int, (v10 = (refAt (bytesL v0) (inTextR (refL (bytesL v0) v2) v4 64))) → ∀ v12 : Int, (v12 = (inTextE (refL (bytesL v0) v2) v4 64)) → ∀ v14 : (List UInt8), (v14 = (inTextV (refL (bytesL v0) v2) v4 64)) → T1 ∧ T1 ∧ T1 ∧ tt ∧ T1 ∧ tt ∧ tt ∧ ((0 : Int) ≤ (1 : Int) ∧ (1 : Int) < (6 : Int)) ∧ tt ∧ tt ∧ tt ∧ (T1 ∧ (isBytes v8) ∧ (0 : Int) ≤ v10 ∧ v10 ≤ ((List.length v8) : Int)) ∧ ∀ v16 : (List AV), (v16 = v8) → ∀ v18 : Int, (v18 = (refAt (bytesL v8) (shRest (refL (bytesL v8) v10) v12 18446744073709551615))) → ∀ v20 : Int, (v20 = (shErr (refL (bytesL v8) v10) v12 18446744073709551615)) → ∀ v22 : Int, (v22 = (shV (refL (bytesL v8) v10) v12 18446744073709551615)) → T1 ∧ T1 ∧ T1 ∧ tt ∧ T1 ∧ tt ∧ tt ∧ ((0 : Int) ≤ (2 : Int) ∧ (2 : Int) < (6 : Int)) ∧ tt ∧ tt ∧ tt ∧ (T1 ∧ (isBytes v16) ∧ (0 : Int) ≤ v18 ∧ v18 ≤ ((List.length v16) : Int)) ∧ ∀ v24 : (List AV), (v24 = v16) → ∀ v26 : Int, (v26 = (refAt (bytesL v16) (inTextR (refL (bytesL v16) v18) v20 64))) → ∀ v28 : Int, (v28 = (inTextE (refL (bytesL v16) v18) v20 64)) → ∀ v30 : (List UInt8), (v30 = (inTextV (refL (bytesL v16) v18) v20 64)) → T1 ∧ T1 ∧ T1 ∧ tt ∧ T1 ∧ tt ∧ tt ∧ ((0 : Int) ≤ (3 : Int) ∧ (3 : Int) < (6 : Int)) ∧ tt ∧ tt ∧ ((0 : Int) ≤ (4 : Int) ∧ (4 : Int) < (6 : Int)) ∧ tt ∧ tt ∧ ((0 : Int) ≤ (5 : Int) ∧ (5 : Int) < (6 : Int)) ∧ tt ∧ tt ∧ T1 ∧ tt ∧ T1 ∧ T1 ∧ (bif (v28 == 0) then (tt ∧ (T1 ∧ (List.length v14) ≤ 900000 ∧ (List.length v30) ≤ 900000) ∧ T1 ∧ T1 ∧ (bif (Bool.not (rightC (CmdP.mk 6 v6 v14 v22 v30 0 0 0))) then (tt ∧ T1 ∧ tt ∧ tt ∧ T1 ∧ tt ∧ T1 ∧ tt ∧ tt ∧ T1 ∧ tt ∧ tt ∧ tt ∧ tt ∧ (xs = v24 ∧ q3 = v26 ∧ (ctE q0 e) = 10 ∧ q1.k = 0 ∧ q1.num = 0 ∧ q1.foot = [] ∧ q1.rq = 0 ∧ q1.path = [] ∧ q1.mode = 0 ∧ q1.n = 0 ∧ q1.time = 0 ∧ True) ∧ tt) else (tt ∧ T1 ∧ tt ∧ T1 ∧ (bif (v28 != 0) then (tt ∧ tt ∧ T1 ∧ tt ∧ tt ∧ tt ∧ tt ∧ (xs = v24 ∧ q3 = v26 ∧ (ctE q0 e) = v28 ∧ q1.k = 0 ∧ q1.num = 0 ∧ q1.foot = [] ∧ q1.rq = 0 ∧ q1.path = [] ∧ q1.mode = 0 ∧ q1.n = 0 ∧ q1.time = 0 ∧ True) ∧ tt) else (tt ∧ tt ∧ tt ∧ tt ∧ tt ∧ tt ∧ tt ∧ tt ∧ (xs = v24 ∧ q3 = v26 ∧ (ctE q0 e) = v28 ∧ q1.k = 6 ∧ q1.num = v6 ∧ q1.foot = v14 ∧ q1.rq = v22 ∧ q1.path = v30 ∧ q1.mode = 0 ∧ q1.n = 0 ∧ q1.time = 0 ∧ True) ∧ tt))))) else (false = false ∧ tt ∧ T1 ∧ tt ∧ T1 ∧ (bif (v28 != 0) then (tt ∧ tt ∧ T1 ∧ tt ∧ tt ∧ tt ∧ tt ∧ (xs = v24 ∧ q3 = v26 ∧ (ctE q0 e) = v28 ∧ q1.k = 0 ∧ q1.num = 0 ∧ q1.foot = [] ∧ q1.rq = 0 ∧ q1.path = [] ∧ q1.mode = 0 ∧ q1.n = 0 ∧ q1.time = 0 ∧ True) ∧ tt) else (tt ∧ tt ∧ tt ∧ tt ∧ tt ∧ tt ∧ tt ∧ tt ∧ (xs = v24 ∧ q3 = v26 ∧ (ctE q0 e) = v28 ∧ q1.k = 6 ∧ q1.num = v6 ∧ q1.foot = v14 ∧ q1.rq = v22 ∧ q1.path = v30 ∧ q1.mode = 0 ∧ q1.n = 0 ∧ q1.time = 0 ∧ True) ∧ tt)))))))) : inRefCt60 xs at' e :=
  Eq.mp (show _ = _ by kernel_rfl) h
theorem vcRefCt70 (xs : (List AV)) (at' : Int) (e : Int) (h : let q0 := (refL (bytesL xs) at'); let q1 := (ctC q0 e); let q2 := (refAt (bytesL xs) (tkRest q0 e 1)); let q3 := (refAt (bytesL xs) (ctR q0 e)); let q4 := (tkErr (List.length q0) e 1); (tt ∧ T1 ∧ T1 ∧ T1 ∧ tt ∧ tt ∧ (T1 ∧ ((isBytes xs) ∧ (0 : Int) ≤ at' ∧ at' ≤ ((List.length xs) : Int)) ∧ (inByteV q0 e) = 7) ∧ T1 ∧ T1 ∧ T1 ∧ tt ∧ T1 ∧ tt ∧ T1 ∧ T1 ∧ T1 ∧ false = false ∧ tt ∧ T1 ∧ tt ∧ T1 ∧ (bif (q4 != 0) then (tt ∧ tt ∧ T1 ∧ tt ∧ tt ∧ tt ∧ tt ∧ (xs = xs ∧ q3 = q2 ∧ (ctE q0 e) = q4 ∧ q1.k = 0 ∧ q1.num = 0 ∧ q1.foot = [] ∧ q1.rq = 0 ∧ q1.path = [] ∧ q1.mode = 0 ∧ q1.n = 0 ∧ q1.time = 0 ∧ True) ∧ tt) else (tt ∧ T1 ∧ T1 ∧ T1 ∧ T1 ∧ tt ∧ tt ∧ (T1 ∧ True) ∧ T1 ∧ tt ∧ ((0 : Int) ≤ (7 : Int) ∧ (7 : Int) < (9 : Int) ∧ 48 ≤ 54 ∧ (okRead [Kd.bool, Kd.bool, Kd.bool, Kd.bool, Kd.bool, Kd.bool] (AV.agg hasAV) 42)) ∧ T1 ∧ tt ∧ tt ∧ tt ∧ ((0 : Int) ≤ (0 : Int) ∧ (0 : Int) < (6 : Int)) ∧ tt ∧ tt ∧ tt ∧ (T1 ∧ (isBytes xs) ∧ (0 : Int) ≤ q2 ∧ q2 ≤ ((List.length xs) : Int)) ∧ ∀ v0 : (List AV), (v0 = xs) → ∀ v2 : Int, (v2 = (refAt (bytesL xs) (tkRest (refL (bytesL xs) q2) q4 8))) → ∀ v4 : Int, (v4 = (tkErr (List.length (refL (bytesL xs) q2)) q4 8)) → ∀ v6 : Int, (v6 = ((val8 (tkOut (refL (bytesL xs) q2) q4 8)) : Int)) → T1 ∧ T1 ∧ T1 ∧ tt ∧ T1 ∧ tt ∧ tt ∧ tt ∧ (T1 ∧ (isBytes v0) ∧ (0 : Int) ≤ v2 ∧ v2 ≤ ((List.length v0) : Int)) ∧ ∀ v8 : (List AV), (v8 = v0) → ∀ v10 : Int, (v10 = (refAt (bytesL v0) (inTextR (refL (bytesL v0) v2) v4 64))) → ∀ v12 : Int, (v12 = (inTextE (refL (bytesL v0) v2) v4 64)) → ∀ v14 : (List UInt8), (v14 = (inTextV (refL (bytesL v0) v2) v4 64)) → T1 ∧ T1 ∧ T1 ∧ tt ∧ T1 ∧ tt ∧ tt ∧ ((0 : Int) ≤ (1 : Int) ∧ (1 : Int) < (6 : Int)) ∧ tt ∧ tt ∧ tt ∧ (T1 ∧ (isBytes v8) ∧ (0 : Int) ≤ v10 ∧ v10 ≤ ((List.length v8) : Int)) ∧ ∀ v16 : (List AV), (v16 = v8) → ∀ v18 : Int, (v18 = (refAt (bytesL v8) (shRest (refL (bytesL v8) v10) v12 18446744073709551615))) → ∀ v20 : Int, (v20 = (shErr (refL (bytesL v8) v10) v12 18446744073709551615)) → ∀ v22 : Int, (v22 = (shV (refL (bytesL v8) v10) v12 18446744073709551615)) → T1 ∧ T1 ∧ T1 ∧ tt ∧ T1 ∧ tt ∧ tt ∧ ((0 : Int) ≤ (2 : Int) ∧ (2 : Int) < (6 : Int)) ∧ tt ∧ tt ∧ tt ∧ (T1 ∧ (isBytes v16) ∧ (0 : Int) ≤ v18 ∧ v18 ≤ ((List.length v16) : Int)) ∧ ∀ v24 : (List AV), (v24 = v16) → ∀ v26 : Int, (v26 = (refAt (bytesL v16) (inTextR (refL (bytesL v16) v18) v20 64))) → ∀ v28 : Int, (v28 = (inTextE (refL (bytesL v16) v18) v20 64)) → ∀ v30 : (List UInt8), (v30 = (inTextV (refL (bytesL v16) v18) v20 64)) → T1 ∧ T1 ∧ T1 ∧ tt ∧ T1 ∧ tt ∧ tt ∧ ((0 : Int) ≤ (3 : Int) ∧ (3 : Int) < (6 : Int)) ∧ tt ∧ tt ∧ ((0 : Int) ≤ (4 : Int) ∧ (4 : Int) < (6 : Int)) ∧ tt ∧ tt ∧ tt ∧ (T1 ∧ (isBytes v24) ∧ (0 : Int) ≤ v26 ∧ v26 ≤ ((List.length v24) : Int)) ∧ ∀ v32 : (List AV), (v32 = v24) → ∀ v34 : Int, (v34 = (refAt (bytesL v24) (shRest (refL (bytesL v24) v26) v28 18446744073709551615))) → ∀ v36 : Int, (v36 = (shErr (refL (bytesL v24) v26) v28 18446744073709551615)) → ∀ v38 : Int, (v38 = (shV (refL (bytesL v24) v26) v28 18446744073709551615)) → T1 ∧ T1 ∧ T1 ∧ tt ∧ T1 ∧ tt ∧ tt ∧ ((0 : Int) ≤ (5 : Int) ∧ (5 : Int) < (6 : Int)) ∧ tt ∧ tt ∧ T1 ∧ tt ∧ T1 ∧ T1 ∧ (bif (v36 == 0) then (tt ∧ (T1 ∧ (List.length v14) ≤ 900000 ∧ (List.length v30) ≤ 900000) ∧ T1 ∧ T1 ∧ (bif (Bool.not (rightC (CmdP.mk 7 v6 v14 v22 v30 0 v38 0))) then (tt ∧ T1 ∧ tt ∧ tt ∧ T1 ∧ tt ∧ T1 ∧ tt ∧ tt ∧ T1 ∧ tt ∧ tt ∧ tt ∧ tt ∧ (xs = v32 ∧ q3 = v34 ∧ (ctE q0 e) = 10 ∧ q1.k = 0 ∧ q1.num = 0 ∧ q1.foot = [] ∧ q1.rq = 0 ∧ q1.path = [] ∧ q1.mode = 0 ∧ q1.n = 0 ∧ q1.time = 0 ∧ True) ∧ tt) else (tt ∧ T1 ∧ tt ∧ T1 ∧ (bif (v36 != 0) then (tt ∧ tt ∧ T1 ∧ tt ∧ tt ∧ tt ∧ tt ∧ (xs = v32 ∧ q3 = v34 ∧ (ctE q0 e) = v36 ∧ q1.k = 0 ∧ q1.num = 0 ∧ q1.foot = [] ∧ q1.rq = 0 ∧ q1.path = [] ∧ q1.mode = 0 ∧ q1.n = 0 ∧ q1.time = 0 ∧ True) ∧ tt) else (tt ∧ tt ∧ tt ∧ tt ∧ tt ∧ tt ∧ tt ∧ tt ∧ (xs = v32 ∧ q3 = v34 ∧ (ctE q0 e) = v36 ∧ q1.k = 7 ∧ q1.num = v6 ∧ q1.foot = v14 ∧ q1.rq = v22 ∧ q1.path = v30 ∧ q1.mode = 0 ∧ q1.n = v38 ∧ q1.time = 0 ∧ True) ∧ tt))))) else (false = false ∧ tt ∧ T1 ∧ tt ∧ T1 ∧ (bif (v36 != 0) then (tt ∧ tt ∧ T1 ∧ tt ∧ tt ∧ tt ∧ tt ∧ (xs = v32 ∧ q3 = v34 ∧ (ctE q0 e) = v36 ∧ q1.k = 0 ∧ q1.num = 0 ∧ q1.foot = [] ∧ q1.rq = 0 ∧ q1.path = [] ∧ q1.mode = 0 ∧ q1.n = 0 ∧ q1.time = 0 ∧ True) ∧ tt) else (tt ∧ tt ∧ tt ∧ tt ∧ tt ∧ tt ∧ tt ∧ tt ∧ (xs = v32 ∧ q3 = v34 ∧ (ctE q0 e) = v36 ∧ q1.k = 7 ∧ q1.num = v6 ∧ q1.foot = v14 ∧ q1.rq = v22 ∧ q1.path = v30 ∧ q1.mode = 0 ∧ q1.n = v38 ∧ q1.time = 0 ∧ True) ∧ tt)))))))) : inRefCt70 xs at' e :=
  Eq.mp (show _ = _ by kernel_rfl) h
theorem vcRefCt80 (xs : (List AV)) (at' : Int) (e : Int) (h : let q0 := (refL (bytesL xs) at'); let q1 := (ctC q0 e); let q2 := (refAt (bytesL xs) (tkRest q0 e 1)); let q3 := (refAt (bytesL xs) (ctR q0 e)); let q4 := (tkErr (List.length q0) e 1); (tt ∧ T1 ∧ T1 ∧ T1 ∧ tt ∧ tt ∧ (T1 ∧ ((isBytes xs) ∧ (0 : Int) ≤ at' ∧ at' ≤ ((List.length xs) : Int)) ∧ (inByteV q0 e) = 8) ∧ T1 ∧ T1 ∧ T1 ∧ tt ∧ T1 ∧ tt ∧ T1 ∧ T1 ∧ T1 ∧ false = false ∧ tt ∧ T1 ∧ tt ∧ T1 ∧ (bif (q4 != 0) then (tt ∧ tt ∧ T1 ∧ tt ∧ tt ∧ tt ∧ tt ∧ (xs = xs ∧ q3 = q2 ∧ (ctE q0 e) = q4 ∧ q1.k = 0 ∧ q1.num = 0 ∧ q1.foot = [] ∧ q1.rq = 0 ∧ q1.path = [] ∧ q1.mode = 0 ∧ q1.n = 0 ∧ q1.time = 0 ∧ True) ∧ tt) else (tt ∧ T1 ∧ T1 ∧ T1 ∧ T1 ∧ tt ∧ tt ∧ (T1 ∧ True) ∧ T1 ∧ tt ∧ ((0 : Int) ≤ (8 : Int) ∧ (8 : Int) < (9 : Int) ∧ 54 ≤ 54 ∧ (okRead [Kd.bool, Kd.bool, Kd.bool, Kd.bool, Kd.bool, Kd.bool] (AV.agg hasAV) 48)) ∧ T1 ∧ tt ∧ tt ∧ tt ∧ ((0 : Int) ≤ (0 : Int) ∧ (0 : Int) < (6 : Int)) ∧ tt ∧ tt ∧ tt ∧ (T1 ∧ (isBytes xs) ∧ (0 : Int) ≤ q2 ∧ q2 ≤ ((List.length xs) : Int)) ∧ ∀ v0 : (List AV), (v0 = xs) → ∀ v2 : Int, (v2 = (refAt (bytesL xs) (tkRest (refL (bytesL xs) q2) q4 8))) → ∀ v4 : Int, (v4 = (tkErr (List.length (refL (bytesL xs) q2)) q4 8)) → ∀ v6 : Int, (v6 = ((val8 (tkOut (refL (bytesL xs) q2) q4 8)) : Int)) → T1 ∧ T1 ∧ T1 ∧ tt ∧ T1 ∧ tt ∧ tt ∧ tt ∧ (T1 ∧ (isBytes v0) ∧ (0 : Int) ≤ v2 ∧ v2 ≤ ((List.length v0) : Int)) ∧ ∀ v8 : (List AV), (v8 = v0) → ∀ v10 : Int, (v10 = (refAt (bytesL v0) (inTextR (refL (bytesL v0) v2) v4 64))) → ∀ v12 : Int, (v12 = (inTextE (refL (bytesL v0) v2) v4 64)) → ∀ v14 : (List UInt8), (v14 = (inTextV (refL (bytesL v0) v2) v4 64)) → T1 ∧ T1 ∧ T1 ∧ tt ∧ T1 ∧ tt ∧ tt ∧ ((0 : Int) ≤ (1 : Int) ∧ (1 : Int) < (6 : Int)) ∧ tt ∧ tt ∧ ((0 : Int) ≤ (2 : Int) ∧ (2 : Int) < (6 : Int)) ∧ tt ∧ tt ∧ ((0 : Int) ≤ (3 : Int) ∧ (3 : Int) < (6 : Int)) ∧ tt ∧ tt ∧ ((0 : Int) ≤ (4 : Int) ∧ (4 : Int) < (6 : Int)) ∧ tt ∧ tt ∧ ((0 : Int) ≤ (5 : Int) ∧ (5 : Int) < (6 : Int)) ∧ tt ∧ tt ∧ T1 ∧ tt ∧ tt ∧ (T1 ∧ (isBytes v8) ∧ (0 : Int) ≤ v10 ∧ v10 ≤ ((List.length v8) : Int)) ∧ ∀ v16 : (List AV), (v16 = v8) → ∀ v18 : Int, (v18 = (refAt (bytesL v8) (shRest (refL (bytesL v8) v10) v12 1099511627776))) → ∀ v20 : Int, (v20 = (shErr (refL (bytesL v8) v10) v12 1099511627776)) → ∀ v22 : Int, (v22 = (shV (refL (bytesL v8) v10) v12 1099511627776)) → T1 ∧ T1 ∧ T1 ∧ tt ∧ T1 ∧ tt ∧ T1 ∧ T1 ∧ T1 ∧ tt ∧ tt ∧ T1 ∧ tt ∧ T1 ∧ T1 ∧ (bif (v20 == 0) then (tt ∧ (T1 ∧ (List.length v14) ≤ 900000 ∧ 0 ≤ 900000) ∧ T1 ∧ T1 ∧ (bif (Bool.not (rightC (CmdP.mk 8 v6 v14 0 [] 0 0 (IntKind.wrap IntKind.i64 v22)))) then (tt ∧ T1 ∧ tt ∧ tt ∧ T1 ∧ tt ∧ T1 ∧ tt ∧ tt ∧ T1 ∧ tt ∧ tt ∧ tt ∧ tt ∧ (xs = v16 ∧ q3 = v18 ∧ (ctE q0 e) = 10 ∧ q1.k = 0 ∧ q1.num = 0 ∧ q1.foot = [] ∧ q1.rq = 0 ∧ q1.path = [] ∧ q1.mode = 0 ∧ q1.n = 0 ∧ q1.time = 0 ∧ True) ∧ tt) else (tt ∧ T1 ∧ tt ∧ T1 ∧ (bif (v20 != 0) then (tt ∧ tt ∧ T1 ∧ tt ∧ tt ∧ tt ∧ tt ∧ (xs = v16 ∧ q3 = v18 ∧ (ctE q0 e) = v20 ∧ q1.k = 0 ∧ q1.num = 0 ∧ q1.foot = [] ∧ q1.rq = 0 ∧ q1.path = [] ∧ q1.mode = 0 ∧ q1.n = 0 ∧ q1.time = 0 ∧ True) ∧ tt) else (tt ∧ tt ∧ tt ∧ tt ∧ tt ∧ tt ∧ tt ∧ tt ∧ (xs = v16 ∧ q3 = v18 ∧ (ctE q0 e) = v20 ∧ q1.k = 8 ∧ q1.num = v6 ∧ q1.foot = v14 ∧ q1.rq = 0 ∧ q1.path = [] ∧ q1.mode = 0 ∧ q1.n = 0 ∧ q1.time = (IntKind.wrap IntKind.i64 v22) ∧ True) ∧ tt))))) else (false = false ∧ tt ∧ T1 ∧ tt ∧ T1 ∧ (bif (v20 != 0) then (tt ∧ tt ∧ T1 ∧ tt ∧ tt ∧ tt ∧ tt ∧ (xs = v16 ∧ q3 = v18 ∧ (ctE q0 e) = v20 ∧ q1.k = 0 ∧ q1.num = 0 ∧ q1.foot = [] ∧ q1.rq = 0 ∧ q1.path = [] ∧ q1.mode = 0 ∧ q1.n = 0 ∧ q1.time = 0 ∧ True) ∧ tt) else (tt ∧ tt ∧ tt ∧ tt ∧ tt ∧ tt ∧ tt ∧ tt ∧ (xs = v16 ∧ q3 = v18 ∧ (ctE q0 e) = v20 ∧ q1.k = 8 ∧ q1.num = v6 ∧ q1.foot = v14 ∧ q1.rq = 0 ∧ q1.path = [] ∧ q1.mode = 0 ∧ q1.n = 0 ∧ q1.time = (IntKind.wrap IntKind.i64 v22) ∧ True) ∧ tt)))))))) : inRefCt80 xs at' e :=
  Eq.mp (show _ = _ by kernel_rfl) h
theorem vcRefCtO0 (xs : (List AV)) (at' : Int) (e : Int) (h : let q0 := (refL (bytesL xs) at'); let q1 := (ctC q0 e); let q2 := (tkErr (List.length q0) e 1); let q3 := (refAt (bytesL xs) (tkRest q0 e 1)); let q4 := (refAt (bytesL xs) (ctR q0 e)); (tt ∧ T1 ∧ T1 ∧ T1 ∧ tt ∧ tt ∧ (T1 ∧ (isBytes xs) ∧ (0 : Int) ≤ at' ∧ at' ≤ ((List.length xs) : Int)) ∧ T1 ∧ T1 ∧ T1 ∧ tt ∧ T1 ∧ tt ∧ T1 ∧ T1 ∧ T1 ∧ (bif (decide ((8 : Int) < (inByteV q0 e))) then (T1 ∧ tt ∧ T1 ∧ T1 ∧ (bif (q2 == 0) then (tt ∧ T1 ∧ tt ∧ tt ∧ T1 ∧ tt ∧ T1 ∧ tt ∧ tt ∧ T1 ∧ tt ∧ tt ∧ tt ∧ tt ∧ (xs = xs ∧ q4 = q3 ∧ (ctE q0 e) = 22 ∧ q1.k = 0 ∧ q1.num = 0 ∧ q1.foot = [] ∧ q1.rq = 0 ∧ q1.path = [] ∧ q1.mode = 0 ∧ q1.n = 0 ∧ q1.time = 0 ∧ True) ∧ tt) else (tt ∧ T1 ∧ tt ∧ T1 ∧ (bif (q2 != 0) then (tt ∧ tt ∧ T1 ∧ tt ∧ tt ∧ tt ∧ tt ∧ (xs = xs ∧ q4 = q3 ∧ (ctE q0 e) = q2 ∧ q1.k = 0 ∧ q1.num = 0 ∧ q1.foot = [] ∧ q1.rq = 0 ∧ q1.path = [] ∧ q1.mode = 0 ∧ q1.n = 0 ∧ q1.time = 0 ∧ True) ∧ tt) else (tt ∧ T1 ∧ T1 ∧ T1 ∧ T1 ∧ tt ∧ tt ∧ False))))) else (false = false ∧ tt ∧ T1 ∧ tt ∧ T1 ∧ (bif (q2 != 0) then (tt ∧ tt ∧ T1 ∧ tt ∧ tt ∧ tt ∧ tt ∧ (xs = xs ∧ q4 = q3 ∧ (ctE q0 e) = q2 ∧ q1.k = 0 ∧ q1.num = 0 ∧ q1.foot = [] ∧ q1.rq = 0 ∧ q1.path = [] ∧ q1.mode = 0 ∧ q1.n = 0 ∧ q1.time = 0 ∧ True) ∧ tt) else (tt ∧ T1 ∧ T1 ∧ T1 ∧ T1 ∧ tt ∧ tt ∧ False)))))) : inRefCtO0 xs at' e :=
  Eq.mp (show _ = _ by kernel_rfl) h
end Go.Proofs.YtfoabkkkdcicgaaGreatDoor
/- The conditions hold: the document's reading of a command. -/
namespace Go.Proofs.YtfoabkkkdcicgaaGreatDoor
set_option linter.unusedVariables false
set_option linter.unusedSimpArgs false
open Go.RowKit
set_option maxRecDepth 100000

theorem sufTk {m l : List UInt8} {e k : Int} (h : m <:+ l) : tkRest m e k <:+ l := (tkRest_suf _ _ _).trans h
theorem sufSh {m l : List UInt8} {e k : Int} (h : m <:+ l) : shRest m e k <:+ l := (shRest_suf _ _ _).trans h
theorem sufTx {m l : List UInt8} {e k : Int} (h : m <:+ l) : inTextR m e k <:+ l := by
  unfold inTextR; exact (tkRest_suf _ _ _).trans ((shRest_suf _ _ _).trans h)
theorem refAt_ge (l r : List UInt8) : (0 ≤ refAt l r) = True := by simp [refAt]
theorem refAt_le (l r : List UInt8) : (refAt l r ≤ (l.length : Int)) = True := by simp only [refAt, eq_iff_iff, iff_true]; omega
theorem tk_zero {R : List UInt8} {e : Int} (h : inByteV R e ≠ 0) : tkErr R.length e 1 = 0 := by
  by_cases ho : tkOK R.length e 1 = true
  · have : e = 0 := by simp [tkOK] at ho; exact ho.1
    unfold tkErr; rw [if_pos ho]; exact this
  · exfalso; apply h
    unfold inByteV tkOut
    rw [if_neg ho]; rfl
theorem ct_fin {R : List UInt8} {e k : Int} (hk : inByteV R e = k) (ok : okK k = true) (z : tkErr R.length e 1 = 0) :
    ctR R e = fR (tkRest R e 1) 0 k ∧ (rightC (fC (tkRest R e 1) 0 k) = false → fE (tkRest R e 1) 0 k = 0 → ctE R e = 10 ∧ ctC R e = zC) ∧ (fE (tkRest R e 1) 0 k ≠ 0 → ctE R e = fE (tkRest R e 1) 0 k ∧ ctC R e = zC) ∧
      (fE (tkRest R e 1) 0 k = 0 → rightC (fC (tkRest R e 1) 0 k) = true → ctE R e = 0 ∧ ctC R e = fC (tkRest R e 1) 0 k) := by
  have hK : ctK R e = 0 := by unfold ctK; rw [hk, if_pos ok, z]
  refine ⟨by unfold ctR; rw [hk, hK], fun h1 h2 => ?_, fun h => ?_, fun h1 h2 => ?_⟩
  · have h3 : ctE R e = 10 := by unfold ctE; rw [hk, hK, h1, h2]; rfl
    exact ⟨h3, by unfold ctC; rw [h3, if_neg (by decide)]⟩
  · have h3 : ctE R e = fE (tkRest R e 1) 0 k := by
      unfold ctE; rw [hk, hK]
      split
      · rfl
      · unfold inFail; rw [if_neg h]
    exact ⟨h3, by unfold ctC; rw [h3, if_neg h]⟩
  · have h3 : ctE R e = 0 := by unfold ctE; rw [hk, hK, h2, h1]; rfl
    exact ⟨h3, by unfold ctC; rw [h3, if_pos rfl, hk, hK]⟩
theorem wrap_by (l : List UInt8) (e : Int) : IntKind.i64.wrap (inByteV l e) = inByteV l e := by
  have := inByteV_range l e
  exact wrap_i64 (by omega) (by omega)
theorem wrap_time (l : List UInt8) (e : Int) : IntKind.i64.wrap (shV l e 1099511627776) = shV l e 1099511627776 := by
  have := shV_range l e 1099511627776 (by omega)
  exact wrap_i64 (by omega) (by omega)
theorem textV64 (l : List UInt8) (e : Int) : ((inTextV l e 64).length ≤ 900000) = True := by
  simp only [eq_iff_iff, iff_true]
  have := inTextV_len l e; omega
set_option maxHeartbeats 1000000 in
theorem okRefCt10 : OkRefCt10 := by
  intro xs at' e hq
  refine vcRefCt10 xs at' e ?_
  obtain ⟨hk, hb, h1, h2⟩ := hq
  obtain ⟨l, rfl⟩ := hb.get
  simp only [bytesL_bytesAV, length_bytesAV] at hk h2
  simp only [true_and, and_true, forall_eq, eq_self, bytesL_bytesAV, isBytes_bytesAV, length_bytesAV]
  have z : tkErr (refL l at').length e 1 = 0 := tk_zero (by rw [hk]; decide)
  obtain ⟨r1, r2, r3, r4⟩ := ct_fin hk (by decide) z
  have hS' : hS 1 = true := by decide
  have hR' : hR 1 = true := by decide
  have hP' : hP 1 = false := by decide
  have hM' : hM 1 = false := by decide
  have hN' : hN 1 = true := by decide
  have hT' : hT 1 = true := by decide
  simp only [fC, fE, fR, f1, f2, f3, f4, f5, f6, f7, vNum, vFoot, vRq, vPath, vMode, vN, vTime, hS', hR', hP', hM', hN', hT', if_true, Bool.false_eq_true, if_false] at r1 r2 r3 r4
  refine ⟨⟨⟨h1, h2⟩, hk⟩, cond_prop (fun h => absurd z (by simpa using h)) fun h => ?_⟩
  refine ⟨⟨by omega, by omega, by omega, tab_read 6 (by omega)⟩, ?_⟩
  simp (maxDischargeDepth := 14) only [refL_refAt, sufTk, sufSh, sufTx, refL_suf, refAt_ge, refAt_le, z, true_and, and_true, textV64, wrap_by, wrap_time, List.length_nil, Nat.zero_le]
  generalize ctE (refL l at') e = E at *
  generalize ctC (refL l at') e = C at *
  generalize ctR (refL l at') e = F at *
  subst r1
  have le01 : ∀ a b : Int, a ≤ b → (a ≤ b) = True := fun a b h => by simp [h]
  have lt01 : ∀ a b : Int, a < b → (a < b) = True := fun a b h => by simp [h]
  simp only [le01 0 0 (by omega), le01 0 1 (by omega), le01 0 2 (by omega), le01 0 3 (by omega), le01 0 4 (by omega), le01 0 5 (by omega), lt01 0 6 (by omega), lt01 1 6 (by omega), lt01 2 6 (by omega), lt01 3 6 (by omega), lt01 4 6 (by omega), lt01 5 6 (by omega), true_and, and_true]
  refine cond_prop (fun g => ?_) fun g => ?_
  · have g' := by simpa using g
    refine cond_prop (fun g2 => ?_) fun g2 => ?_
    · obtain ⟨a, b⟩ := r2 (by simpa using g2) g'
      subst a b
      and_intros <;> rfl
    · obtain ⟨a, b⟩ := r4 g' (by simpa using g2)
      subst a b
      refine cond_prop (fun g3 => absurd g' (by simpa using g3)) fun g3 => ?_
      rw [g']
      and_intros <;> rfl
  · have g' := by simpa using g
    obtain ⟨a, b⟩ := r3 g'
    subst a b
    refine cond_prop (fun g3 => ?_) fun g3 => absurd (by simpa using g3) g'
    and_intros <;> rfl
set_option maxHeartbeats 1000000 in
theorem okRefCt20 : OkRefCt20 := by
  intro xs at' e hq
  refine vcRefCt20 xs at' e ?_
  obtain ⟨hk, hb, h1, h2⟩ := hq
  obtain ⟨l, rfl⟩ := hb.get
  simp only [bytesL_bytesAV, length_bytesAV] at hk h2
  simp only [true_and, and_true, forall_eq, eq_self, bytesL_bytesAV, isBytes_bytesAV, length_bytesAV]
  have z : tkErr (refL l at').length e 1 = 0 := tk_zero (by rw [hk]; decide)
  obtain ⟨r1, r2, r3, r4⟩ := ct_fin hk (by decide) z
  have hS' : hS 2 = true := by decide
  have hR' : hR 2 = true := by decide
  have hP' : hP 2 = false := by decide
  have hM' : hM 2 = false := by decide
  have hN' : hN 2 = false := by decide
  have hT' : hT 2 = false := by decide
  simp only [fC, fE, fR, f1, f2, f3, f4, f5, f6, f7, vNum, vFoot, vRq, vPath, vMode, vN, vTime, hS', hR', hP', hM', hN', hT', if_true, Bool.false_eq_true, if_false] at r1 r2 r3 r4
  refine ⟨⟨⟨h1, h2⟩, hk⟩, cond_prop (fun h => absurd z (by simpa using h)) fun h => ?_⟩
  refine ⟨⟨by omega, by omega, by omega, tab_read 12 (by omega)⟩, ?_⟩
  simp (maxDischargeDepth := 14) only [refL_refAt, sufTk, sufSh, sufTx, refL_suf, refAt_ge, refAt_le, z, true_and, and_true, textV64, wrap_by, wrap_time, List.length_nil, Nat.zero_le]
  generalize ctE (refL l at') e = E at *
  generalize ctC (refL l at') e = C at *
  generalize ctR (refL l at') e = F at *
  subst r1
  have le01 : ∀ a b : Int, a ≤ b → (a ≤ b) = True := fun a b h => by simp [h]
  have lt01 : ∀ a b : Int, a < b → (a < b) = True := fun a b h => by simp [h]
  simp only [le01 0 0 (by omega), le01 0 1 (by omega), le01 0 2 (by omega), le01 0 3 (by omega), le01 0 4 (by omega), le01 0 5 (by omega), lt01 0 6 (by omega), lt01 1 6 (by omega), lt01 2 6 (by omega), lt01 3 6 (by omega), lt01 4 6 (by omega), lt01 5 6 (by omega), true_and, and_true]
  refine cond_prop (fun g => ?_) fun g => ?_
  · have g' := by simpa using g
    refine cond_prop (fun g2 => ?_) fun g2 => ?_
    · obtain ⟨a, b⟩ := r2 (by simpa using g2) g'
      subst a b
      and_intros <;> rfl
    · obtain ⟨a, b⟩ := r4 g' (by simpa using g2)
      subst a b
      refine cond_prop (fun g3 => absurd g' (by simpa using g3)) fun g3 => ?_
      rw [g']
      and_intros <;> rfl
  · have g' := by simpa using g
    obtain ⟨a, b⟩ := r3 g'
    subst a b
    refine cond_prop (fun g3 => ?_) fun g3 => absurd (by simpa using g3) g'
    and_intros <;> rfl
set_option maxHeartbeats 1000000 in
theorem okRefCt30 : OkRefCt30 := by
  intro xs at' e hq
  refine vcRefCt30 xs at' e ?_
  obtain ⟨hk, hb, h1, h2⟩ := hq
  obtain ⟨l, rfl⟩ := hb.get
  simp only [bytesL_bytesAV, length_bytesAV] at hk h2
  simp only [true_and, and_true, forall_eq, eq_self, bytesL_bytesAV, isBytes_bytesAV, length_bytesAV]
  have z : tkErr (refL l at').length e 1 = 0 := tk_zero (by rw [hk]; decide)
  obtain ⟨r1, r2, r3, r4⟩ := ct_fin hk (by decide) z
  have hS' : hS 3 = true := by decide
  have hR' : hR 3 = true := by decide
  have hP' : hP 3 = false := by decide
  have hM' : hM 3 = false := by decide
  have hN' : hN 3 = false := by decide
  have hT' : hT 3 = true := by decide
  simp only [fC, fE, fR, f1, f2, f3, f4, f5, f6, f7, vNum, vFoot, vRq, vPath, vMode, vN, vTime, hS', hR', hP', hM', hN', hT', if_true, Bool.false_eq_true, if_false] at r1 r2 r3 r4
  refine ⟨⟨⟨h1, h2⟩, hk⟩, cond_prop (fun h => absurd z (by simpa using h)) fun h => ?_⟩
  refine ⟨⟨by omega, by omega, by omega, tab_read 18 (by omega)⟩, ?_⟩
  simp (maxDischargeDepth := 14) only [refL_refAt, sufTk, sufSh, sufTx, refL_suf, refAt_ge, refAt_le, z, true_and, and_true, textV64, wrap_by, wrap_time, List.length_nil, Nat.zero_le]
  generalize ctE (refL l at') e = E at *
  generalize ctC (refL l at') e = C at *
  generalize ctR (refL l at') e = F at *
  subst r1
  have le01 : ∀ a b : Int, a ≤ b → (a ≤ b) = True := fun a b h => by simp [h]
  have lt01 : ∀ a b : Int, a < b → (a < b) = True := fun a b h => by simp [h]
  simp only [le01 0 0 (by omega), le01 0 1 (by omega), le01 0 2 (by omega), le01 0 3 (by omega), le01 0 4 (by omega), le01 0 5 (by omega), lt01 0 6 (by omega), lt01 1 6 (by omega), lt01 2 6 (by omega), lt01 3 6 (by omega), lt01 4 6 (by omega), lt01 5 6 (by omega), true_and, and_true]
  refine cond_prop (fun g => ?_) fun g => ?_
  · have g' := by simpa using g
    refine cond_prop (fun g2 => ?_) fun g2 => ?_
    · obtain ⟨a, b⟩ := r2 (by simpa using g2) g'
      subst a b
      and_intros <;> rfl
    · obtain ⟨a, b⟩ := r4 g' (by simpa using g2)
      subst a b
      refine cond_prop (fun g3 => absurd g' (by simpa using g3)) fun g3 => ?_
      rw [g']
      and_intros <;> rfl
  · have g' := by simpa using g
    obtain ⟨a, b⟩ := r3 g'
    subst a b
    refine cond_prop (fun g3 => ?_) fun g3 => absurd (by simpa using g3) g'
    and_intros <;> rfl
set_option maxHeartbeats 1000000 in
theorem okRefCt40 : OkRefCt40 := by
  intro xs at' e hq
  refine vcRefCt40 xs at' e ?_
  obtain ⟨hk, hb, h1, h2⟩ := hq
  obtain ⟨l, rfl⟩ := hb.get
  simp only [bytesL_bytesAV, length_bytesAV] at hk h2
  simp only [true_and, and_true, forall_eq, eq_self, bytesL_bytesAV, isBytes_bytesAV, length_bytesAV]
  have z : tkErr (refL l at').length e 1 = 0 := tk_zero (by rw [hk]; decide)
  obtain ⟨r1, r2, r3, r4⟩ := ct_fin hk (by decide) z
  have hS' : hS 4 = true := by decide
  have hR' : hR 4 = true := by decide
  have hP' : hP 4 = true := by decide
  have hM' : hM 4 = true := by decide
  have hN' : hN 4 = false := by decide
  have hT' : hT 4 = false := by decide
  simp only [fC, fE, fR, f1, f2, f3, f4, f5, f6, f7, vNum, vFoot, vRq, vPath, vMode, vN, vTime, hS', hR', hP', hM', hN', hT', if_true, Bool.false_eq_true, if_false] at r1 r2 r3 r4
  refine ⟨⟨⟨h1, h2⟩, hk⟩, cond_prop (fun h => absurd z (by simpa using h)) fun h => ?_⟩
  refine ⟨⟨by omega, by omega, by omega, tab_read 24 (by omega)⟩, ?_⟩
  simp (maxDischargeDepth := 14) only [refL_refAt, sufTk, sufSh, sufTx, refL_suf, refAt_ge, refAt_le, z, true_and, and_true, textV64, wrap_by, wrap_time, List.length_nil, Nat.zero_le]
  generalize ctE (refL l at') e = E at *
  generalize ctC (refL l at') e = C at *
  generalize ctR (refL l at') e = F at *
  subst r1
  have le01 : ∀ a b : Int, a ≤ b → (a ≤ b) = True := fun a b h => by simp [h]
  have lt01 : ∀ a b : Int, a < b → (a < b) = True := fun a b h => by simp [h]
  simp only [le01 0 0 (by omega), le01 0 1 (by omega), le01 0 2 (by omega), le01 0 3 (by omega), le01 0 4 (by omega), le01 0 5 (by omega), lt01 0 6 (by omega), lt01 1 6 (by omega), lt01 2 6 (by omega), lt01 3 6 (by omega), lt01 4 6 (by omega), lt01 5 6 (by omega), true_and, and_true]
  refine cond_prop (fun g => ?_) fun g => ?_
  · have g' := by simpa using g
    refine cond_prop (fun g2 => ?_) fun g2 => ?_
    · obtain ⟨a, b⟩ := r2 (by simpa using g2) g'
      subst a b
      and_intros <;> rfl
    · obtain ⟨a, b⟩ := r4 g' (by simpa using g2)
      subst a b
      refine cond_prop (fun g3 => absurd g' (by simpa using g3)) fun g3 => ?_
      rw [g']
      and_intros <;> rfl
  · have g' := by simpa using g
    obtain ⟨a, b⟩ := r3 g'
    subst a b
    refine cond_prop (fun g3 => ?_) fun g3 => absurd (by simpa using g3) g'
    and_intros <;> rfl
set_option maxHeartbeats 1000000 in
theorem okRefCt50 : OkRefCt50 := by
  intro xs at' e hq
  refine vcRefCt50 xs at' e ?_
  obtain ⟨hk, hb, h1, h2⟩ := hq
  obtain ⟨l, rfl⟩ := hb.get
  simp only [bytesL_bytesAV, length_bytesAV] at hk h2
  simp only [true_and, and_true, forall_eq, eq_self, bytesL_bytesAV, isBytes_bytesAV, length_bytesAV]
  have z : tkErr (refL l at').length e 1 = 0 := tk_zero (by rw [hk]; decide)
  obtain ⟨r1, r2, r3, r4⟩ := ct_fin hk (by decide) z
  have hS' : hS 5 = true := by decide
  have hR' : hR 5 = true := by decide
  have hP' : hP 5 = true := by decide
  have hM' : hM 5 = true := by decide
  have hN' : hN 5 = false := by decide
  have hT' : hT 5 = false := by decide
  simp only [fC, fE, fR, f1, f2, f3, f4, f5, f6, f7, vNum, vFoot, vRq, vPath, vMode, vN, vTime, hS', hR', hP', hM', hN', hT', if_true, Bool.false_eq_true, if_false] at r1 r2 r3 r4
  refine ⟨⟨⟨h1, h2⟩, hk⟩, cond_prop (fun h => absurd z (by simpa using h)) fun h => ?_⟩
  refine ⟨⟨by omega, by omega, by omega, tab_read 30 (by omega)⟩, ?_⟩
  simp (maxDischargeDepth := 14) only [refL_refAt, sufTk, sufSh, sufTx, refL_suf, refAt_ge, refAt_le, z, true_and, and_true, textV64, wrap_by, wrap_time, List.length_nil, Nat.zero_le]
  generalize ctE (refL l at') e = E at *
  generalize ctC (refL l at') e = C at *
  generalize ctR (refL l at') e = F at *
  subst r1
  have le01 : ∀ a b : Int, a ≤ b → (a ≤ b) = True := fun a b h => by simp [h]
  have lt01 : ∀ a b : Int, a < b → (a < b) = True := fun a b h => by simp [h]
  simp only [le01 0 0 (by omega), le01 0 1 (by omega), le01 0 2 (by omega), le01 0 3 (by omega), le01 0 4 (by omega), le01 0 5 (by omega), lt01 0 6 (by omega), lt01 1 6 (by omega), lt01 2 6 (by omega), lt01 3 6 (by omega), lt01 4 6 (by omega), lt01 5 6 (by omega), true_and, and_true]
  refine cond_prop (fun g => ?_) fun g => ?_
  · have g' := by simpa using g
    refine cond_prop (fun g2 => ?_) fun g2 => ?_
    · obtain ⟨a, b⟩ := r2 (by simpa using g2) g'
      subst a b
      and_intros <;> rfl
    · obtain ⟨a, b⟩ := r4 g' (by simpa using g2)
      subst a b
      refine cond_prop (fun g3 => absurd g' (by simpa using g3)) fun g3 => ?_
      rw [g']
      and_intros <;> rfl
  · have g' := by simpa using g
    obtain ⟨a, b⟩ := r3 g'
    subst a b
    refine cond_prop (fun g3 => ?_) fun g3 => absurd (by simpa using g3) g'
    and_intros <;> rfl
set_option maxHeartbeats 1000000 in
theorem okRefCt60 : OkRefCt60 := by
  intro xs at' e hq
  refine vcRefCt60 xs at' e ?_
  obtain ⟨hk, hb, h1, h2⟩ := hq
  obtain ⟨l, rfl⟩ := hb.get
  simp only [bytesL_bytesAV, length_bytesAV] at hk h2
  simp only [true_and, and_true, forall_eq, eq_self, bytesL_bytesAV, isBytes_bytesAV, length_bytesAV]
  have z : tkErr (refL l at').length e 1 = 0 := tk_zero (by rw [hk]; decide)
  obtain ⟨r1, r2, r3, r4⟩ := ct_fin hk (by decide) z
  have hS' : hS 6 = true := by decide
  have hR' : hR 6 = true := by decide
  have hP' : hP 6 = true := by decide
  have hM' : hM 6 = false := by decide
  have hN' : hN 6 = false := by decide
  have hT' : hT 6 = false := by decide
  simp only [fC, fE, fR, f1, f2, f3, f4, f5, f6, f7, vNum, vFoot, vRq, vPath, vMode, vN, vTime, hS', hR', hP', hM', hN', hT', if_true, Bool.false_eq_true, if_false] at r1 r2 r3 r4
  refine ⟨⟨⟨h1, h2⟩, hk⟩, cond_prop (fun h => absurd z (by simpa using h)) fun h => ?_⟩
  refine ⟨⟨by omega, by omega, by omega, tab_read 36 (by omega)⟩, ?_⟩
  simp (maxDischargeDepth := 14) only [refL_refAt, sufTk, sufSh, sufTx, refL_suf, refAt_ge, refAt_le, z, true_and, and_true, textV64, wrap_by, wrap_time, List.length_nil, Nat.zero_le]
  generalize ctE (refL l at') e = E at *
  generalize ctC (refL l at') e = C at *
  generalize ctR (refL l at') e = F at *
  subst r1
  have le01 : ∀ a b : Int, a ≤ b → (a ≤ b) = True := fun a b h => by simp [h]
  have lt01 : ∀ a b : Int, a < b → (a < b) = True := fun a b h => by simp [h]
  simp only [le01 0 0 (by omega), le01 0 1 (by omega), le01 0 2 (by omega), le01 0 3 (by omega), le01 0 4 (by omega), le01 0 5 (by omega), lt01 0 6 (by omega), lt01 1 6 (by omega), lt01 2 6 (by omega), lt01 3 6 (by omega), lt01 4 6 (by omega), lt01 5 6 (by omega), true_and, and_true]
  refine cond_prop (fun g => ?_) fun g => ?_
  · have g' := by simpa using g
    refine cond_prop (fun g2 => ?_) fun g2 => ?_
    · obtain ⟨a, b⟩ := r2 (by simpa using g2) g'
      subst a b
      and_intros <;> rfl
    · obtain ⟨a, b⟩ := r4 g' (by simpa using g2)
      subst a b
      refine cond_prop (fun g3 => absurd g' (by simpa using g3)) fun g3 => ?_
      rw [g']
      and_intros <;> rfl
  · have g' := by simpa using g
    obtain ⟨a, b⟩ := r3 g'
    subst a b
    refine cond_prop (fun g3 => ?_) fun g3 => absurd (by simpa using g3) g'
    and_intros <;> rfl
set_option maxHeartbeats 1000000 in
theorem okRefCt70 : OkRefCt70 := by
  intro xs at' e hq
  refine vcRefCt70 xs at' e ?_
  obtain ⟨hk, hb, h1, h2⟩ := hq
  obtain ⟨l, rfl⟩ := hb.get
  simp only [bytesL_bytesAV, length_bytesAV] at hk h2
  simp only [true_and, and_true, forall_eq, eq_self, bytesL_bytesAV, isBytes_bytesAV, length_bytesAV]
  have z : tkErr (refL l at').length e 1 = 0 := tk_zero (by rw [hk]; decide)
  obtain ⟨r1, r2, r3, r4⟩ := ct_fin hk (by decide) z
  have hS' : hS 7 = true := by decide
  have hR' : hR 7 = true := by decide
  have hP' : hP 7 = true := by decide
  have hM' : hM 7 = false := by decide
  have hN' : hN 7 = true := by decide
  have hT' : hT 7 = false := by decide
  simp only [fC, fE, fR, f1, f2, f3, f4, f5, f6, f7, vNum, vFoot, vRq, vPath, vMode, vN, vTime, hS', hR', hP', hM', hN', hT', if_true, Bool.false_eq_true, if_false] at r1 r2 r3 r4
  refine ⟨⟨⟨h1, h2⟩, hk⟩, cond_prop (fun h => absurd z (by simpa using h)) fun h => ?_⟩
  refine ⟨⟨by omega, by omega, by omega, tab_read 42 (by omega)⟩, ?_⟩
  simp (maxDischargeDepth := 14) only [refL_refAt, sufTk, sufSh, sufTx, refL_suf, refAt_ge, refAt_le, z, true_and, and_true, textV64, wrap_by, wrap_time, List.length_nil, Nat.zero_le]
  generalize ctE (refL l at') e = E at *
  generalize ctC (refL l at') e = C at *
  generalize ctR (refL l at') e = F at *
  subst r1
  have le01 : ∀ a b : Int, a ≤ b → (a ≤ b) = True := fun a b h => by simp [h]
  have lt01 : ∀ a b : Int, a < b → (a < b) = True := fun a b h => by simp [h]
  simp only [le01 0 0 (by omega), le01 0 1 (by omega), le01 0 2 (by omega), le01 0 3 (by omega), le01 0 4 (by omega), le01 0 5 (by omega), lt01 0 6 (by omega), lt01 1 6 (by omega), lt01 2 6 (by omega), lt01 3 6 (by omega), lt01 4 6 (by omega), lt01 5 6 (by omega), true_and, and_true]
  refine cond_prop (fun g => ?_) fun g => ?_
  · have g' := by simpa using g
    refine cond_prop (fun g2 => ?_) fun g2 => ?_
    · obtain ⟨a, b⟩ := r2 (by simpa using g2) g'
      subst a b
      and_intros <;> rfl
    · obtain ⟨a, b⟩ := r4 g' (by simpa using g2)
      subst a b
      refine cond_prop (fun g3 => absurd g' (by simpa using g3)) fun g3 => ?_
      rw [g']
      and_intros <;> rfl
  · have g' := by simpa using g
    obtain ⟨a, b⟩ := r3 g'
    subst a b
    refine cond_prop (fun g3 => ?_) fun g3 => absurd (by simpa using g3) g'
    and_intros <;> rfl
set_option maxHeartbeats 1000000 in
theorem okRefCt80 : OkRefCt80 := by
  intro xs at' e hq
  refine vcRefCt80 xs at' e ?_
  obtain ⟨hk, hb, h1, h2⟩ := hq
  obtain ⟨l, rfl⟩ := hb.get
  simp only [bytesL_bytesAV, length_bytesAV] at hk h2
  simp only [true_and, and_true, forall_eq, eq_self, bytesL_bytesAV, isBytes_bytesAV, length_bytesAV]
  have z : tkErr (refL l at').length e 1 = 0 := tk_zero (by rw [hk]; decide)
  obtain ⟨r1, r2, r3, r4⟩ := ct_fin hk (by decide) z
  have hS' : hS 8 = true := by decide
  have hR' : hR 8 = false := by decide
  have hP' : hP 8 = false := by decide
  have hM' : hM 8 = false := by decide
  have hN' : hN 8 = false := by decide
  have hT' : hT 8 = true := by decide
  simp only [fC, fE, fR, f1, f2, f3, f4, f5, f6, f7, vNum, vFoot, vRq, vPath, vMode, vN, vTime, hS', hR', hP', hM', hN', hT', if_true, Bool.false_eq_true, if_false] at r1 r2 r3 r4
  refine ⟨⟨⟨h1, h2⟩, hk⟩, cond_prop (fun h => absurd z (by simpa using h)) fun h => ?_⟩
  refine ⟨⟨by omega, by omega, by omega, tab_read 48 (by omega)⟩, ?_⟩
  simp (maxDischargeDepth := 14) only [refL_refAt, sufTk, sufSh, sufTx, refL_suf, refAt_ge, refAt_le, z, true_and, and_true, textV64, wrap_by, wrap_time, List.length_nil, Nat.zero_le]
  generalize ctE (refL l at') e = E at *
  generalize ctC (refL l at') e = C at *
  generalize ctR (refL l at') e = F at *
  subst r1
  have le01 : ∀ a b : Int, a ≤ b → (a ≤ b) = True := fun a b h => by simp [h]
  have lt01 : ∀ a b : Int, a < b → (a < b) = True := fun a b h => by simp [h]
  simp only [le01 0 0 (by omega), le01 0 1 (by omega), le01 0 2 (by omega), le01 0 3 (by omega), le01 0 4 (by omega), le01 0 5 (by omega), lt01 0 6 (by omega), lt01 1 6 (by omega), lt01 2 6 (by omega), lt01 3 6 (by omega), lt01 4 6 (by omega), lt01 5 6 (by omega), true_and, and_true]
  refine cond_prop (fun g => ?_) fun g => ?_
  · have g' := by simpa using g
    refine cond_prop (fun g2 => ?_) fun g2 => ?_
    · obtain ⟨a, b⟩ := r2 (by simpa using g2) g'
      subst a b
      and_intros <;> rfl
    · obtain ⟨a, b⟩ := r4 g' (by simpa using g2)
      subst a b
      refine cond_prop (fun g3 => absurd g' (by simpa using g3)) fun g3 => ?_
      rw [g']
      and_intros <;> rfl
  · have g' := by simpa using g
    obtain ⟨a, b⟩ := r3 g'
    subst a b
    refine cond_prop (fun g3 => ?_) fun g3 => absurd (by simpa using g3) g'
    and_intros <;> rfl
theorem okRefCt00 : OkRefCt00 := by
  intro xs at' e hq
  refine vcRefCt00 xs at' e ?_
  obtain ⟨hk, hb, h1, h2⟩ := hq
  obtain ⟨l, rfl⟩ := hb.get
  simp only [bytesL_bytesAV, length_bytesAV] at hk h2
  simp only [true_and, and_true, forall_eq, eq_self, bytesL_bytesAV, isBytes_bytesAV, length_bytesAV]
  have hK : ctK (refL l at') e = tkErr (refL l at').length e 1 := by unfold ctK; rw [hk, if_pos (by decide)]
  have r1 : ctR (refL l at') e = tkRest (refL l at') e 1 := by unfold ctR; rw [hk]; simp [fR, f1, f2, f3, f4, f5, f6, f7, hS, hR, hP, hM, hN, hT]
  have r2 : ctE (refL l at') e = tkErr (refL l at').length e 1 := by
    unfold ctE; rw [hk, hK]
    have : fC (tkRest (refL l at') e 1) (tkErr (refL l at').length e 1) 0 = zC := by simp [fC, zC, vNum, vFoot, vRq, vPath, vMode, vN, vTime, hS, hR, hP, hM, hN, hT]
    rw [this, if_pos (by decide)]
    simp [fE, f1, f2, f3, f4, f5, f6, f7, hS, hR, hP, hM, hN, hT]
  have r3 : ctC (refL l at') e = zC := by
    unfold ctC; rw [hk, hK]
    have : fC (tkRest (refL l at') e 1) (tkErr (refL l at').length e 1) 0 = zC := by simp [fC, zC, vNum, vFoot, vRq, vPath, vMode, vN, vTime, hS, hR, hP, hM, hN, hT]
    rw [this]; simp
  rw [r1, r2, r3]
  refine ⟨⟨⟨h1, h2⟩, hk⟩, cond_prop (fun h => (by and_intros <;> rfl)) fun h => ?_⟩
  refine ⟨⟨by omega, by omega, by omega, tab_read 0 (by omega)⟩, ⟨by omega, by omega⟩, ⟨by omega, by omega⟩, ⟨by omega, by omega⟩, ⟨by omega, by omega⟩, ⟨by omega, by omega⟩, ⟨by omega, by omega⟩, ?_⟩
  refine cond_prop (fun g => ⟨⟨by omega, by omega⟩, cond_prop (fun _ => by and_intros <;> rfl) fun _ => by and_intros <;> rfl⟩) fun g => cond_prop (fun _ => by and_intros <;> rfl) fun _ => by and_intros <;> rfl
theorem okRefCtO0 : OkRefCtO0 := by
  intro xs at' e hq
  refine vcRefCtO0 xs at' e ?_
  obtain ⟨hk, hb, h1, h2⟩ := hq
  obtain ⟨l, rfl⟩ := hb.get
  simp only [bytesL_bytesAV, length_bytesAV] at hk h2
  simp only [true_and, and_true, forall_eq, eq_self, bytesL_bytesAV, isBytes_bytesAV, length_bytesAV]
  have z : tkErr (refL l at').length e 1 = 0 := tk_zero (by omega)
  have hr := inByteV_range (refL l at') e
  obtain ⟨K, hK⟩ : ∃ K, K = inByteV (refL l at') e := ⟨_, rfl⟩
  rw [← hK] at hk
  have no : okK K = false := by unfold okK; simp; omega
  have n1 : hS K = false := by simp [hS]; omega
  have n2 : hR K = false := by simp [hR]; omega
  have n3 : hP K = false := by simp [hP]; omega
  have n4 : hM K = false := by simp [hM]; omega
  have n5 : hN K = false := by simp [hN]; omega
  have n6 : hT K = false := by simp [hT]; omega
  have hc : ctK (refL l at') e = 22 := by unfold ctK; rw [← hK, if_neg (by simp [no]), z]; rfl
  have r1 : ctR (refL l at') e = tkRest (refL l at') e 1 := by unfold ctR; rw [← hK]; simp [fR, f1, f2, f3, f4, f5, f6, f7, n1, n2, n3, n4, n5, n6]
  have r2 : ctE (refL l at') e = 22 := by
    unfold ctE; rw [← hK, hc]
    simp [fE, f1, f2, f3, f4, f5, f6, f7, n1, n2, n3, n4, n5, n6, inFail]
  have r3 : ctC (refL l at') e = zC := by unfold ctC; rw [r2]; simp
  rw [r1, r2, r3, z, ← hK]
  refine ⟨⟨h1, h2⟩, cond_prop (fun h => cond_prop (fun _ => by and_intros <;> rfl) fun g => absurd g (by decide)) fun h => absurd hk (by simpa using h)⟩
end Go.Proofs.YtfoabkkkdcicgaaGreatDoor
/- The contracts are met. -/
namespace Go.Proofs.YtfoabkkkdcicgaaGreatDoor
set_option linter.unusedVariables false
set_option linter.unusedSimpArgs false
open Go.RowKit
theorem sndRefCt0 : Sound Tryz.prog (lookΓ gamRefCt0) := sound_of _ fun p hp => by
  simp only [gamRefCt0, List.mem_cons, List.not_mem_nil, or_false] at hp
  rcases hp with rfl | rfl | rfl | rfl | rfl | rfl | rfl
  · exact meetsRefByteL0.orNil
  · exact meetsRefByte.orNil
  · exact meetsHas07.orNil
  · exact meetsRefFixed.orNil
  · exact meetsRefText.orNil
  · exact meetsRefShort.orNil
  · exact meetsRright.orNil
set_option maxHeartbeats 4000000 in
theorem meetsRefCt0 : Meets Tryz.prog 34 refCt0F := by
  refine meets_of_awp (Γ := lookΓ gamRefCt0) (L := fun _ _ => none) sndRefCt0 mixedOrders Tryz.func34 rfl Tryz.call34 ?_
  intro args q r hF hq ho
  unfold refCt0F at hF
  split at hF
  · cases hF
    exact ⟨by simp only [List.length_cons, List.length_nil]; decide, okRefCt00 _ _ _ hq⟩
  · cases hF
theorem sndRefCt1 : Sound Tryz.prog (lookΓ gamRefCt1) := sound_of _ fun p hp => by
  simp only [gamRefCt1, List.mem_cons, List.not_mem_nil, or_false] at hp
  rcases hp with rfl | rfl | rfl | rfl | rfl | rfl | rfl
  · exact meetsRefByteL1.orNil
  · exact meetsRefByte.orNil
  · exact meetsHas07.orNil
  · exact meetsRefFixed.orNil
  · exact meetsRefText.orNil
  · exact meetsRefShort.orNil
  · exact meetsRright.orNil
set_option maxHeartbeats 4000000 in
theorem meetsRefCt1 : Meets Tryz.prog 34 refCt1F := by
  refine meets_of_awp (Γ := lookΓ gamRefCt1) (L := fun _ _ => none) sndRefCt1 mixedOrders Tryz.func34 rfl Tryz.call34 ?_
  intro args q r hF hq ho
  unfold refCt1F at hF
  split at hF
  · cases hF
    exact ⟨by simp only [List.length_cons, List.length_nil]; decide, okRefCt10 _ _ _ hq⟩
  · cases hF
theorem sndRefCt2 : Sound Tryz.prog (lookΓ gamRefCt2) := sound_of _ fun p hp => by
  simp only [gamRefCt2, List.mem_cons, List.not_mem_nil, or_false] at hp
  rcases hp with rfl | rfl | rfl | rfl | rfl | rfl | rfl
  · exact meetsRefByteL2.orNil
  · exact meetsRefByte.orNil
  · exact meetsHas07.orNil
  · exact meetsRefFixed.orNil
  · exact meetsRefText.orNil
  · exact meetsRefShort.orNil
  · exact meetsRright.orNil
set_option maxHeartbeats 4000000 in
theorem meetsRefCt2 : Meets Tryz.prog 34 refCt2F := by
  refine meets_of_awp (Γ := lookΓ gamRefCt2) (L := fun _ _ => none) sndRefCt2 mixedOrders Tryz.func34 rfl Tryz.call34 ?_
  intro args q r hF hq ho
  unfold refCt2F at hF
  split at hF
  · cases hF
    exact ⟨by simp only [List.length_cons, List.length_nil]; decide, okRefCt20 _ _ _ hq⟩
  · cases hF
theorem sndRefCt3 : Sound Tryz.prog (lookΓ gamRefCt3) := sound_of _ fun p hp => by
  simp only [gamRefCt3, List.mem_cons, List.not_mem_nil, or_false] at hp
  rcases hp with rfl | rfl | rfl | rfl | rfl | rfl | rfl
  · exact meetsRefByteL3.orNil
  · exact meetsRefByte.orNil
  · exact meetsHas07.orNil
  · exact meetsRefFixed.orNil
  · exact meetsRefText.orNil
  · exact meetsRefShort.orNil
  · exact meetsRright.orNil
set_option maxHeartbeats 4000000 in
theorem meetsRefCt3 : Meets Tryz.prog 34 refCt3F := by
  refine meets_of_awp (Γ := lookΓ gamRefCt3) (L := fun _ _ => none) sndRefCt3 mixedOrders Tryz.func34 rfl Tryz.call34 ?_
  intro args q r hF hq ho
  unfold refCt3F at hF
  split at hF
  · cases hF
    exact ⟨by simp only [List.length_cons, List.length_nil]; decide, okRefCt30 _ _ _ hq⟩
  · cases hF
theorem sndRefCt4 : Sound Tryz.prog (lookΓ gamRefCt4) := sound_of _ fun p hp => by
  simp only [gamRefCt4, List.mem_cons, List.not_mem_nil, or_false] at hp
  rcases hp with rfl | rfl | rfl | rfl | rfl | rfl | rfl
  · exact meetsRefByteL4.orNil
  · exact meetsRefByte.orNil
  · exact meetsHas07.orNil
  · exact meetsRefFixed.orNil
  · exact meetsRefText.orNil
  · exact meetsRefShort.orNil
  · exact meetsRright.orNil
set_option maxHeartbeats 4000000 in
theorem meetsRefCt4 : Meets Tryz.prog 34 refCt4F := by
  refine meets_of_awp (Γ := lookΓ gamRefCt4) (L := fun _ _ => none) sndRefCt4 mixedOrders Tryz.func34 rfl Tryz.call34 ?_
  intro args q r hF hq ho
  unfold refCt4F at hF
  split at hF
  · cases hF
    exact ⟨by simp only [List.length_cons, List.length_nil]; decide, okRefCt40 _ _ _ hq⟩
  · cases hF
theorem sndRefCt5 : Sound Tryz.prog (lookΓ gamRefCt5) := sound_of _ fun p hp => by
  simp only [gamRefCt5, List.mem_cons, List.not_mem_nil, or_false] at hp
  rcases hp with rfl | rfl | rfl | rfl | rfl | rfl | rfl
  · exact meetsRefByteL5.orNil
  · exact meetsRefByte.orNil
  · exact meetsHas07.orNil
  · exact meetsRefFixed.orNil
  · exact meetsRefText.orNil
  · exact meetsRefShort.orNil
  · exact meetsRright.orNil
set_option maxHeartbeats 4000000 in
theorem meetsRefCt5 : Meets Tryz.prog 34 refCt5F := by
  refine meets_of_awp (Γ := lookΓ gamRefCt5) (L := fun _ _ => none) sndRefCt5 mixedOrders Tryz.func34 rfl Tryz.call34 ?_
  intro args q r hF hq ho
  unfold refCt5F at hF
  split at hF
  · cases hF
    exact ⟨by simp only [List.length_cons, List.length_nil]; decide, okRefCt50 _ _ _ hq⟩
  · cases hF
theorem sndRefCt6 : Sound Tryz.prog (lookΓ gamRefCt6) := sound_of _ fun p hp => by
  simp only [gamRefCt6, List.mem_cons, List.not_mem_nil, or_false] at hp
  rcases hp with rfl | rfl | rfl | rfl | rfl | rfl | rfl
  · exact meetsRefByteL6.orNil
  · exact meetsRefByte.orNil
  · exact meetsHas07.orNil
  · exact meetsRefFixed.orNil
  · exact meetsRefText.orNil
  · exact meetsRefShort.orNil
  · exact meetsRright.orNil
set_option maxHeartbeats 4000000 in
theorem meetsRefCt6 : Meets Tryz.prog 34 refCt6F := by
  refine meets_of_awp (Γ := lookΓ gamRefCt6) (L := fun _ _ => none) sndRefCt6 mixedOrders Tryz.func34 rfl Tryz.call34 ?_
  intro args q r hF hq ho
  unfold refCt6F at hF
  split at hF
  · cases hF
    exact ⟨by simp only [List.length_cons, List.length_nil]; decide, okRefCt60 _ _ _ hq⟩
  · cases hF
theorem sndRefCt7 : Sound Tryz.prog (lookΓ gamRefCt7) := sound_of _ fun p hp => by
  simp only [gamRefCt7, List.mem_cons, List.not_mem_nil, or_false] at hp
  rcases hp with rfl | rfl | rfl | rfl | rfl | rfl | rfl
  · exact meetsRefByteL7.orNil
  · exact meetsRefByte.orNil
  · exact meetsHas07.orNil
  · exact meetsRefFixed.orNil
  · exact meetsRefText.orNil
  · exact meetsRefShort.orNil
  · exact meetsRright.orNil
set_option maxHeartbeats 4000000 in
theorem meetsRefCt7 : Meets Tryz.prog 34 refCt7F := by
  refine meets_of_awp (Γ := lookΓ gamRefCt7) (L := fun _ _ => none) sndRefCt7 mixedOrders Tryz.func34 rfl Tryz.call34 ?_
  intro args q r hF hq ho
  unfold refCt7F at hF
  split at hF
  · cases hF
    exact ⟨by simp only [List.length_cons, List.length_nil]; decide, okRefCt70 _ _ _ hq⟩
  · cases hF
theorem sndRefCt8 : Sound Tryz.prog (lookΓ gamRefCt8) := sound_of _ fun p hp => by
  simp only [gamRefCt8, List.mem_cons, List.not_mem_nil, or_false] at hp
  rcases hp with rfl | rfl | rfl | rfl | rfl | rfl | rfl
  · exact meetsRefByteL8.orNil
  · exact meetsRefByte.orNil
  · exact meetsHas07.orNil
  · exact meetsRefFixed.orNil
  · exact meetsRefText.orNil
  · exact meetsRefShort.orNil
  · exact meetsRright.orNil
set_option maxHeartbeats 4000000 in
theorem meetsRefCt8 : Meets Tryz.prog 34 refCt8F := by
  refine meets_of_awp (Γ := lookΓ gamRefCt8) (L := fun _ _ => none) sndRefCt8 mixedOrders Tryz.func34 rfl Tryz.call34 ?_
  intro args q r hF hq ho
  unfold refCt8F at hF
  split at hF
  · cases hF
    exact ⟨by simp only [List.length_cons, List.length_nil]; decide, okRefCt80 _ _ _ hq⟩
  · cases hF
theorem sndRefCtO : Sound Tryz.prog (lookΓ gamRefCtO) := sound_of _ fun p hp => by
  simp only [gamRefCtO, List.mem_cons, List.not_mem_nil, or_false] at hp
  subst hp
  exact meetsRefByte.orNil
set_option maxHeartbeats 4000000 in
theorem meetsRefCtO : Meets Tryz.prog 34 refCtOF := by
  refine meets_of_awp (Γ := lookΓ gamRefCtO) (L := fun _ _ => none) sndRefCtO mixedOrders Tryz.func34 rfl Tryz.call34 ?_
  intro args q r hF hq ho
  unfold refCtOF at hF
  split at hF
  · cases hF
    exact ⟨by simp only [List.length_cons, List.length_nil]; decide, okRefCtO0 _ _ _ hq⟩
  · cases hF
end Go.Proofs.YtfoabkkkdcicgaaGreatDoor
