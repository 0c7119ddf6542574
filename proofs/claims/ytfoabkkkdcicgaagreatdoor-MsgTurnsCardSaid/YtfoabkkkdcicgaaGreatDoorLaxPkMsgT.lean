/- Contracts by content, their conditions, and that they are met: MsgT. -/
import Derived.Test.YtfoabkkkdcicgaaGreatDoorLaxPkMsgX
import Derived.Test.YtfoabkkkdcicgaaGreatDoorTurnM
import Derived.Test.YtfoabkkkdcicgaaGreatDoorLaxVec
import Derived.Test.YtfoabkkkdcicgaaGreatDoorLaxMsgP
import Derived.Test.YtfoabkkkdcicgaaGreatDoorLaxWrap
/- Contracts by content, and the conditions that their code must meet. -/
namespace Go.Proofs.YtfoabkkkdcicgaaGreatDoor
set_option linter.unusedVariables false
set_option linter.unusedSimpArgs false
open Go.RowKit
def refMTF : Con
  | [.val (.agg zcm)] => (match msgOf zcm with | some m => some (smallX m.x ∧ rightM m = true, ⟨.bool true, none, none⟩) | _ => none)
  | _ => none
def refMNF : Con
  | [.val (.agg zcm)] => (match msgOf zcm with | some m => some (smallX m.x ∧ rightM m = false, ⟨.bool false, none, none⟩) | _ => none)
  | _ => none
theorem meetsRefMT : Meets Tryz.prog 17 refMTF := meetsRefM.weak fun args q r hF hq => by
  unfold refMTF at hF
  split at hF
  · split at hF
    · rename_i m hz
      obtain rfl := msgOf_some hz
      cases hF
      exact ⟨_, congrArg (fun b => some (smallX m.x, (⟨.bool b, none, none⟩ : Res))) hq.2, hq.1⟩
    · cases hF
  · cases hF
theorem meetsRefMN : Meets Tryz.prog 17 refMNF := meetsRefM.weak fun args q r hF hq => by
  unfold refMNF at hF
  split at hF
  · split at hF
    · rename_i m hz
      obtain rfl := msgOf_some hz
      cases hF
      exact ⟨_, congrArg (fun b => some (smallX m.x, (⟨.bool b, none, none⟩ : Res))) hq.2, hq.1⟩
    · cases hF
  · cases hF
def frmN (m : MsgP) : Nat := (frameM m).length
def frameVF : Con
  | [.val (.agg zcm)] => (match msgOf zcm with | some m => some ((smallX m.x ∧ rightM m = true), ⟨.vec 2000 0 (frmN m) false, none, some [.sl (bytesAV (frameM m)) .no]⟩) | _ => none)
  | _ => none
theorem meetsFrameV : Meets Tryz.prog 18 frameVF := meetsMframeT.vec fun args q r hF hq => by
  unfold frameVF at hF
  split at hF
  · split at hF
    · rename_i m hz
      obtain rfl := msgOf_some hz
      cases hF
      refine ⟨fun x hx => (by simp at hx; exact ⟨_, hx⟩), _, frameM m, 5, none, hq, ts_u8, ?_, fun r h => (by cases h), rfl, rfl⟩
      intro h
      have := sealL_len (bodyM m)
      unfold frameM at h
      rw [h] at this
      simp at this
    · cases hF
  · cases hF
def loopTurn (m : MsgP) (c bits : Int) : LoopInv :=
  { V := Nat
    T := fun i => [(1, .int .i64 c), (2, .int .u32 bits), (7, .vec 25 0 (frmN m) false), (8, .bool (turnedI (frmN m) c bits i)), (35, .int .i64 (i : Int))]
    B := fun i => [(25, bytesAV (turnI (frameM m) c bits i))]
    R := fun i => []
    inv := fun i => i ≤ 32
    mu := fun i => 32 - i }
def lawTurnsTF : Con
  | [.val (.agg zcm), .val (.int .i64 c), .val (.int .u32 bits)] => (match msgOf zcm with | some m => some (maxX m.x ∧ rightM m = true, ⟨.bool true, none, none⟩) | _ => none)
  | _ => none
def gamLawTurnsT : List (Nat × Con) := [(14, anchor11F.orNil), (15, small11F.orNil), (16, of11F.orNil), (17, refMTF.orNil), (18, frameVF.orNil), (20, mopenF.orNil)]
def lpLawTurnsT0 (m : MsgP) (c bits : Int) : Nat → Option LoopPlan := fun b => bif Nat.beq b 0 then some (.inv [.raw] (loopTurn m c bits)) else none
def inLawTurnsT0 (m : MsgP) (c bits : Int) : Prop := awp [] (lpLawTurnsT0 m c bits) (lookΓ gamLawTurnsT) Tryz.prog Tryz.f5.ntmps 0 (Tryz.f5.body.getD .skip) (entrySt [.val (.agg (msgL m)), .val (.int .i64 c), .val (.int .u32 bits)]) (exitQ Tryz.prog Tryz.f5.results.toList [] ⟨.bool true, none, none⟩)
def OkLawTurnsT0 : Prop := ∀ (m : MsgP) (c bits : Int), maxX m.x ∧ rightM m = true → (rangeM m) → (-9223372036854775808 ≤ c ∧ c ≤ 9223372036854775807) → (0 ≤ bits ∧ bits ≤ 4294967295) → inLawTurnsT0 m c bits
def lawTurnsNF : Con
  | [.val (.agg zcm), .val (.int .i64 c), .val (.int .u32 bits)] => (match msgOf zcm with | some m => some (maxX m.x ∧ rightM m = false, ⟨.bool true, none, none⟩) | _ => none)
  | _ => none
def gamLawTurnsN : List (Nat × Con) := [(14, anchor11F.orNil), (15, small11F.orNil), (16, of11F.orNil), (17, refMNF.orNil)]
def lpLawTurnsN0 (m : MsgP) (c bits : Int) : Nat → Option LoopPlan := fun _ => none
def inLawTurnsN0 (m : MsgP) (c bits : Int) : Prop := awp [] (lpLawTurnsN0 m c bits) (lookΓ gamLawTurnsN) Tryz.prog Tryz.f5.ntmps 0 (Tryz.f5.body.getD .skip) (entrySt [.val (.agg (msgL m)), .val (.int .i64 c), .val (.int .u32 bits)]) (exitQ Tryz.prog Tryz.f5.results.toList [] ⟨.bool true, none, none⟩)
def OkLawTurnsN0 : Prop := ∀ (m : MsgP) (c bits : Int), maxX m.x ∧ rightM m = false → inLawTurnsN0 m c bits
end Go.Proofs.YtfoabkkkdcicgaaGreatDoor
/- What the verification conditions come to: printed by a program of ours (wip/lax/ex/Norm.lean). -/
namespace Go.Proofs.YtfoabkkkdcicgaaGreatDoor
set_option linter.unusedVariables false
open Go.RowKit
set_option maxRecDepth 100000
theorem vcLawTurnsT0 (m : MsgP) (c : Int) (bits : Int) (h : let q0 := (frameM m); let q1 := (frmN m); (tt ∧ T1 ∧ T1 ∧ tt ∧ (T1 ∧ True) ∧ T1 ∧ tt ∧ tt ∧ (T1 ∧ (maxX m.x)) ∧ T1 ∧ T1 ∧ (bif (Bool.not (smallB m.x 200)) then (tt ∧ tt ∧ T1 ∧ tt ∧ tt ∧ (tt ∧ True) ∧ tt) else (tt ∧ (T1 ∧ True) ∧ (T1 ∧ (smallX m.x) ∧ (rightM m) = true) ∧ T1 ∧ T1 ∧ tt ∧ tt ∧ (T1 ∧ (smallX m.x) ∧ (rightM m) = true) ∧ T1 ∧ tt ∧ T1 ∧ T1 ∧ T1 ∧ (bif (decide (c < 0)) then (tt ∧ tt ∧ T1 ∧ tt ∧ tt ∧ (tt ∧ True) ∧ tt) else (T1 ∧ T1 ∧ T1 ∧ T1 ∧ T1 ∧ T1 ∧ (bif (decide ((IntKind.wrap IntKind.i64 ((q1 : Int) * (8 : Int))) ≤ c)) then (tt ∧ T1 ∧ tt ∧ tt ∧ (tt ∧ True) ∧ tt) else (tt ∧ T1 ∧ tt ∧ T1 ∧ (@Exists.{1} (loopTurn m c bits).V (fun (v0 : Nat) => ((((AV.int IntKind.i64 c) = (AV.int IntKind.i64 c) ∧ (AV.int IntKind.u32 bits) = (AV.int IntKind.u32 bits) ∧ (AV.vec 25 0 q1 false) = (AV.vec 25 0 q1 false) ∧ (AV.bool false) = (AV.bool (turnedI q1 c bits v0)) ∧ (AV.int IntKind.i64 0) = (AV.int IntKind.i64 (v0 : Int)) ∧ True) ∧ ((@Option.some.{0} (List AV) (bytesAV q0)) = (@Option.some.{0} (List AV) (bytesAV (turnI q0 c bits v0))) ∧ True) ∧ T1 ∧ (Bool.and true (Bool.and (@List.all.{0} AV (bytesAV (turnI q0 c bits v0)) (fun (v1 : AV) => (@AV.knownCell.match_1.{1} (fun (v2 : AV) => Bool) v1 (fun (v2 : Nat) => (fun (v3 : Nat) => (@cond.{1} Bool (@BEq.beq.{0} Nat (@instBEqOfDecidableEq.{0} Nat instDecidableEqNat) v2 25) true false))) (fun (v2 : Nat) => (fun (v3 : Nat) => (fun (v4 : Nat) => (fun (v5 : Bool) => (@cond.{1} Bool (@BEq.beq.{0} Nat (@instBEqOfDecidableEq.{0} Nat instDecidableEqNat) v2 25) true false))))) (fun (v2 : (List AV)) => (fun (v3 : Nat) => (fun (v4 : Nat) => (fun (v5 : Nat) => false)))) (fun (v2 : AV) => true)))) true)) = true ∧ tt) ∧ v0 ≤ 32))) ∧ ∀ v0 : Nat, (v0 ≤ 32) → tt ∧ T1 ∧ (bif (decide ((v0 : Int) < 32)) then (tt ∧ T1 ∧ T1 ∧ tt ∧ T1 ∧ T1 ∧ T1 ∧ T1 ∧ tt ∧ T1 ∧ T1 ∧ T1 ∧ T1 ∧ T1 ∧ T1 ∧ (bif (decide ((IntKind.wrap IntKind.i64 (c + (v0 : Int))) < (IntKind.wrap IntKind.i64 ((q1 : Int) * (8 : Int))))) then (T1 ∧ T1 ∧ T1 ∧ (0 : Int) ≤ (IntKind.wrap IntKind.u64 (v0 : Int)) ∧ T1 ∧ T1 ∧ T1 ∧ (bif ((intBits Go.BinOp.and IntKind.u32 (Int.fdiv bits (@HPow.hPow.{0, 0, 0} Int Nat Int (@instHPow.{0, 0} Int Nat (@instPowNat.{0} Int Int.instNatPow)) (2 : Int) (@Min.min.{0} Nat instMinNat (Int.toNat (IntKind.wrap IntKind.u64 (v0 : Int))) 32))) 1) == 1) then (tt ∧ T1 ∧ T1 ∧ (@Ne.{1} Int (8 : Int) (0 : Int)) ∧ ((0 : Int) ≤ (IntKind.wrap IntKind.i64 (Int.tdiv (IntKind.wrap IntKind.i64 (c + (v0 : Int))) 8)) ∧ (IntKind.wrap IntKind.i64 (Int.tdiv (IntKind.wrap IntKind.i64 (c + (v0 : Int))) 8)) < (q1 : Int)) ∧ ((0 + (Int.toNat (IntKind.wrap IntKind.i64 (Int.tdiv (IntKind.wrap IntKind.i64 (c + (v0 : Int))) 8)))) < (List.length (bytesAV (turnI q0 c bits v0))) ∧ (isBytes (bytesAV (turnI q0 c bits v0)))) ∧ T1 ∧ (@Ne.{1} Int (8 : Int) (0 : Int)) ∧ T1 ∧ (0 : Int) ≤ (IntKind.wrap IntKind.u64 (Int.tmod (IntKind.wrap IntKind.i64 (c + (v0 : Int))) 8)) ∧ T1 ∧ ((0 : Int) ≤ (IntKind.wrap IntKind.i64 (Int.tdiv (IntKind.wrap IntKind.i64 (c + (v0 : Int))) 8)) ∧ (IntKind.wrap IntKind.i64 (Int.tdiv (IntKind.wrap IntKind.i64 (c + (v0 : Int))) 8)) < (q1 : Int)) ∧ (0 + (Int.toNat (IntKind.wrap IntKind.i64 (Int.tdiv (IntKind.wrap IntKind.i64 (c + (v0 : Int))) 8)))) < (List.length (bytesAV (turnI q0 c bits v0))) ∧ tt ∧ T1 ∧ tt ∧ T1 ∧ T1 ∧ (@Exists.{1} (loopTurn m c bits).V (fun (v2 : Nat) => ((((AV.int IntKind.i64 c) = (AV.int IntKind.i64 c) ∧ (AV.int IntKind.u32 bits) = (AV.int IntKind.u32 bits) ∧ (AV.vec 25 0 q1 false) = (AV.vec 25 0 q1 false) ∧ (AV.bool true) = (AV.bool (turnedI q1 c bits v2)) ∧ (AV.int IntKind.i64 (IntKind.wrap IntKind.i64 ((v0 : Int) + (1 : Int)))) = (AV.int IntKind.i64 (v2 : Int)) ∧ True) ∧ ((@Option.some.{0} (List AV) (putL (bytesAV (turnI q0 c bits v0)) (0 + (Int.toNat (IntKind.wrap IntKind.i64 (Int.tdiv (IntKind.wrap IntKind.i64 (c + (v0 : Int))) 8)))) (AV.int IntKind.u8 (intBits Go.BinOp.xor IntKind.u8 (rdInt (elemAt (bytesAV (turnI q0 c bits v0)) (0 + (Int.toNat (IntKind.wrap IntKind.i64 (Int.tdiv (IntKind.wrap IntKind.i64 (c + (v0 : Int))) 8))))) 0) (IntKind.wrap IntKind.u8 ((1 : Int) * (@HPow.hPow.{0, 0, 0} Int Nat Int (@instHPow.{0, 0} Int Nat (@instPowNat.{0} Int Int.instNatPow)) (2 : Int) (@Min.min.{0} Nat instMinNat (Int.toNat (IntKind.wrap IntKind.u64 (Int.tmod (IntKind.wrap IntKind.i64 (c + (v0 : Int))) 8))) 8)))))))) = (@Option.some.{0} (List AV) (bytesAV (turnI q0 c bits v2))) ∧ True) ∧ T1 ∧ (Bool.and true (Bool.and (@List.all.{0} AV (bytesAV (turnI q0 c bits v2)) (fun (v3 : AV) => (@AV.knownCell.match_1.{1} (fun (v4 : AV) => Bool) v3 (fun (v4 : Nat) => (fun (v5 : Nat) => (@cond.{1} Bool (@BEq.beq.{0} Nat (@instBEqOfDecidableEq.{0} Nat instDecidableEqNat) v4 25) true false))) (fun (v4 : Nat) => (fun (v5 : Nat) => (fun (v6 : Nat) => (fun (v7 : Bool) => (@cond.{1} Bool (@BEq.beq.{0} Nat (@instBEqOfDecidableEq.{0} Nat instDecidableEqNat) v4 25) true false))))) (fun (v4 : (List AV)) => (fun (v5 : Nat) => (fun (v6 : Nat) => (fun (v7 : Nat) => false)))) (fun (v4 : AV) => true)))) true)) = true ∧ tt) ∧ v2 ≤ 32 ∧ (32 - v2) < (32 - v0))))) else (tt ∧ T1 ∧ T1 ∧ (@Exists.{1} (loopTurn m c bits).V (fun (v2 : Nat) => ((((AV.int IntKind.i64 c) = (AV.int IntKind.i64 c) ∧ (AV.int IntKind.u32 bits) = (AV.int IntKind.u32 bits) ∧ (AV.vec 25 0 q1 false) = (AV.vec 25 0 q1 false) ∧ (AV.bool (turnedI q1 c bits v0)) = (AV.bool (turnedI q1 c bits v2)) ∧ (AV.int IntKind.i64 (IntKind.wrap IntKind.i64 ((v0 : Int) + (1 : Int)))) = (AV.int IntKind.i64 (v2 : Int)) ∧ True) ∧ ((@Option.some.{0} (List AV) (bytesAV (turnI q0 c bits v0))) = (@Option.some.{0} (List AV) (bytesAV (turnI q0 c bits v2))) ∧ True) ∧ T1 ∧ (Bool.and true (Bool.and (@List.all.{0} AV (bytesAV (turnI q0 c bits v2)) (fun (v3 : AV) => (@AV.knownCell.match_1.{1} (fun (v4 : AV) => Bool) v3 (fun (v4 : Nat) => (fun (v5 : Nat) => (@cond.{1} Bool (@BEq.beq.{0} Nat (@instBEqOfDecidableEq.{0} Nat instDecidableEqNat) v4 25) true false))) (fun (v4 : Nat) => (fun (v5 : Nat) => (fun (v6 : Nat) => (fun (v7 : Bool) => (@cond.{1} Bool (@BEq.beq.{0} Nat (@instBEqOfDecidableEq.{0} Nat instDecidableEqNat) v4 25) true false))))) (fun (v4 : (List AV)) => (fun (v5 : Nat) => (fun (v6 : Nat) => (fun (v7 : Nat) => false)))) (fun (v4 : AV) => true)))) true)) = true ∧ tt) ∧ v2 ≤ 32 ∧ (32 - v2) < (32 - v0))))))) else (false = false ∧ tt ∧ T1 ∧ T1 ∧ (@Exists.{1} (loopTurn m c bits).V (fun (v2 : Nat) => ((((AV.int IntKind.i64 c) = (AV.int IntKind.i64 c) ∧ (AV.int IntKind.u32 bits) = (AV.int IntKind.u32 bits) ∧ (AV.vec 25 0 q1 false) = (AV.vec 25 0 q1 false) ∧ (AV.bool (turnedI q1 c bits v0)) = (AV.bool (turnedI q1 c bits v2)) ∧ (AV.int IntKind.i64 (IntKind.wrap IntKind.i64 ((v0 : Int) + (1 : Int)))) = (AV.int IntKind.i64 (v2 : Int)) ∧ True) ∧ ((@Option.some.{0} (List AV) (bytesAV (turnI q0 c bits v0))) = (@Option.some.{0} (List AV) (bytesAV (turnI q0 c bits v2))) ∧ True) ∧ T1 ∧ (Bool.and true (Bool.and (@List.all.{0} AV (bytesAV (turnI q0 c bits v2)) (fun (v3 : AV) => (@AV.knownCell.match_1.{1} (fun (v4 : AV) => Bool) v3 (fun (v4 : Nat) => (fun (v5 : Nat) => (@cond.{1} Bool (@BEq.beq.{0} Nat (@instBEqOfDecidableEq.{0} Nat instDecidableEqNat) v4 25) true false))) (fun (v4 : Nat) => (fun (v5 : Nat) => (fun (v6 : Nat) => (fun (v7 : Bool) => (@cond.{1} Bool (@BEq.beq.{0} Nat (@instBEqOfDecidableEq.{0} Nat instDecidableEqNat) v4 25) true false))))) (fun (v4 : (List AV)) => (fun (v5 : Nat) => (fun (v6 : Nat) => (fun (v7 : Nat) => false)))) (fun (v4 : AV) => true)))) true)) = true ∧ tt) ∧ v2 ≤ 32 ∧ (32 - v2) < (32 - v0))))))) else (tt ∧ T1 ∧ ((T1 ∧ (isBytes (@cutL AV (bytesAV (turnI q0 c bits v0)) 0 q1)) ∧ (List.length (@cutL AV (bytesAV (turnI q0 c bits v0)) 0 q1)) ≤ 140737488355100) ∧ (isBytes (bytesAV (turnI q0 c bits v0))) ∧ q1 ≤ (List.length (bytesAV (turnI q0 c bits v0))) ∧ True) ∧ T1 ∧ T1 ∧ T1 ∧ T1 ∧ tt ∧ T1 ∧ tt ∧ T1 ∧ T1 ∧ T1 ∧ (bif ((mopenE (bytesL (@cutL AV (bytesAV (turnI q0 c bits v0)) 0 q1))) == 23) then (tt ∧ T1 ∧ tt ∧ tt ∧ (tt ∧ True) ∧ tt) else (T1 ∧ T1 ∧ T1 ∧ T1 ∧ tt ∧ tt ∧ (true = (Bool.not (turnedI q1 c bits v0)) ∧ True) ∧ tt)))))))))))) : inLawTurnsT0 m c bits :=
  Eq.mp (show _ = _ by kernel_rfl) h
theorem vcLawTurnsN0 (m : MsgP) (c : Int) (bits : Int) (h : (tt ∧ T1 ∧ T1 ∧ tt ∧ (T1 ∧ True) ∧ T1 ∧ tt ∧ tt ∧ (T1 ∧ (maxX m.x)) ∧ T1 ∧ T1 ∧ (bif (Bool.not (smallB m.x 200)) then (tt ∧ tt ∧ T1 ∧ tt ∧ tt ∧ (tt ∧ True) ∧ tt) else (tt ∧ (T1 ∧ True) ∧ (T1 ∧ (smallX m.x) ∧ (rightM m) = false) ∧ T1 ∧ T1 ∧ tt ∧ T1 ∧ tt ∧ tt ∧ (tt ∧ True) ∧ tt)))) : inLawTurnsN0 m c bits :=
  Eq.mp (show _ = _ by kernel_rfl) h
end Go.Proofs.YtfoabkkkdcicgaaGreatDoor
/- The law of turned bits in a message's frame: its condition holds. -/
namespace Go.Proofs.YtfoabkkkdcicgaaGreatDoor
set_option linter.unusedVariables false
set_option linter.unusedSimpArgs false
set_option maxRecDepth 100000
theorem knownB (l : List UInt8) (f : AV → Bool) (hf : ∀ b, f (byteAV b) = true) : (bytesAV l).all f = true := by
  rw [List.all_eq_true]
  intro x hx
  obtain ⟨b, _, rfl⟩ := List.mem_map.1 hx
  exact hf b
theorem bit_of (bits : Int) (h0 : 0 ≤ bits) (h1 : bits ≤ 4294967295) (i : Nat) (hi : i < 32) : (intBits .and .u32 (Int.fdiv bits (2 ^ (min (IntKind.u64.wrap (i : Int)).toNat 32))) 1 == 1) = bitV bits i := by
  rw [wrap_u64 (by omega) (by omega), Int.toNat_natCast, Nat.min_eq_left (by omega)]
  obtain ⟨n, rfl⟩ : ∃ n : Nat, bits = (n : Int) := ⟨bits.toNat, by omega⟩
  have e1 : Int.fdiv (n : Int) (2 ^ i) = ((n / 2 ^ i : Nat) : Int) := by
    rw [Int.fdiv_eq_ediv_of_nonneg _ (by exact Int.le_of_lt (Int.pow_pos (by decide)))]
    rw [Int.natCast_ediv, Int.natCast_pow]; rfl
  rw [e1]
  obtain ⟨m, hm⟩ : ∃ m, m = n / 2 ^ i := ⟨_, rfl⟩
  have hml : m ≤ n := by rw [hm]; exact Nat.div_le_self _ _
  have e2 : intBits .and .u32 ((n / 2 ^ i : Nat) : Int) 1 = ((m % 2 : Nat) : Int) := by
    rw [← hm]
    unfold intBits
    show IntKind.u32.wrap (((BitVec.ofInt 32 (m : Int) &&& BitVec.ofInt 32 1).toNat : Nat) : Int) = _
    have e3 : (BitVec.ofInt 32 (m : Int) &&& BitVec.ofInt 32 1).toNat = m % 2 := by
      rw [BitVec.toNat_and]
      have : (BitVec.ofInt 32 (m : Int)).toNat = m := by
        rw [BitVec.toNat_ofInt]; omega
      rw [this]
      show m &&& 1 = m % 2
      exact Nat.and_one_is_mod m
    rw [e3, wrap_u32 (by omega) (by omega)]
  rw [e2]
  unfold bitV
  rw [Int.toNat_natCast, Nat.testBit_eq_decide_div_mod_eq, ← hm]
  by_cases h : m % 2 = 1
  · rw [h]; simp
  · have : m % 2 = 0 := by omega
    rw [this]; simp
theorem put_flip (l : List UInt8) (k : Nat) (hk : k < 8 * l.length) (hb : k ≤ 1000000000) :
    putL (bytesAV l) (0 + (IntKind.i64.wrap (Int.tdiv (k : Int) 8)).toNat) (.int .u8 (intBits .xor .u8 (rdInt (elemAt (bytesAV l) (0 + (IntKind.i64.wrap (Int.tdiv (k : Int) 8)).toNat)) 0) (IntKind.u8.wrap (1 * 2 ^ (min (IntKind.u64.wrap (Int.tmod (k : Int) 8)).toNat 8))))) = bytesAV (flipL l k) := by
  have e1 : Int.tdiv (k : Int) 8 = ((k / 8 : Nat) : Int) := by rw [Int.tdiv_eq_ediv_of_nonneg (by omega)]; omega
  have e2 : Int.tmod (k : Int) 8 = ((k % 8 : Nat) : Int) := by rw [Int.tmod_eq_emod_of_nonneg (by omega)]; omega
  have e3 : IntKind.i64.wrap ((k / 8 : Nat) : Int) = ((k / 8 : Nat) : Int) := wrap_i64 (by omega) (by omega)
  have e4 : IntKind.u64.wrap ((k % 8 : Nat) : Int) = ((k % 8 : Nat) : Int) := wrap_u64 (by omega) (by omega)
  rw [e1, e2, e3, e4, Int.toNat_natCast, Int.toNat_natCast, Nat.zero_add, rdInt_bytes, Nat.min_eq_left (by omega)]
  have hm : k % 8 < 8 := Nat.mod_lt _ (by omega)
  have hk8 : k / 8 < l.length := by omega
  have e5 : IntKind.u8.wrap (1 * 2 ^ (k % 8)) = ((2 ^ (k % 8) : Nat) : Int) ∧ 2 ^ (k % 8) < 256 := by
    have h1 : k % 8 = 0 ∨ k % 8 = 1 ∨ k % 8 = 2 ∨ k % 8 = 3 ∨ k % 8 = 4 ∨ k % 8 = 5 ∨ k % 8 = 6 ∨ k % 8 = 7 := by omega
    rcases h1 with h1 | h1 | h1 | h1 | h1 | h1 | h1 | h1 <;> rw [h1] <;> decide
  rw [e5.1]
  have e6 : ∀ (x y : UInt8), intBits .xor .u8 (x.toNat : Int) (y.toNat : Int) = ((x ^^^ y).toNat : Int) := by
    intro x y
    unfold intBits
    show IntKind.u8.wrap (((BitVec.ofInt 8 (x.toNat : Int) ^^^ BitVec.ofInt 8 (y.toNat : Int)).toNat : Nat) : Int) = _
    have e7 : ∀ z : UInt8, (BitVec.ofInt 8 (z.toNat : Int)).toNat = z.toNat := by
      intro z
      rw [BitVec.toNat_ofInt]
      have := z.toNat_lt
      omega
    rw [BitVec.toNat_xor, e7, e7, ← UInt8.toNat_xor]
    have := (x ^^^ y).toNat_lt
    exact wrap_u8 (by omega) (by omega)
  have e8 : ((2 ^ (k % 8) : Nat) : Int) = ((UInt8.ofNat (2 ^ (k % 8))).toNat : Int) := by
    rw [UInt8.toNat_ofNat', Nat.mod_eq_of_lt e5.2]
  rw [e8, e6]
  unfold putL flipL bytesAV
  rw [List.set_eq_take_append_cons_drop, if_pos hk8]
  simp [byteAV]
theorem cut_all (l : List UInt8) : cutL (bytesAV l) 0 l.length = bytesAV l := by
  unfold cutL
  rw [List.drop_zero, List.take_of_length_le (by rw [length_bytesAV]; omega)]
theorem smallT {x : InstP} (h : (!smallB x 200) = false) : smallX x := by
  simp [smallB] at h; unfold smallX; omega
theorem okLawTurnsT0 : OkLawTurnsT0 := by
  intro m c bits ⟨hq, hr⟩ hrg hc hbits
  refine vcLawTurnsT0 m c bits ?_
  simp only [true_and, and_true, eq_self, length_bytesAV, bytesL_bytesAV, isBytes_bytesAV]
  refine ⟨hq, cond_prop (fun h => trivial) fun h1 => ?_⟩
  have sx := smallT h1
  obtain ⟨_, _, hl5⟩ := frame_opens sx hr hrg
  have hfr : frameM m = sealL (bodyM m) := rfl
  have hn : (frameM m).length = frmN m := rfl
  have h4 : 4 ≤ frmN m := by rw [← hn, hfr, sealL_len]; omega
  have hw : IntKind.i64.wrap ((frmN m : Int) * 8) = (frmN m : Int) * 8 := wrap_i64 (by omega) (by omega)
  refine ⟨⟨sx, hr⟩, ⟨sx, hr⟩, ?_⟩
  refine cond_prop (fun h => trivial) fun h0 => ?_
  have hc0 : 0 ≤ c := by have := of_decide_eq_false h0; omega
  rw [hw]
  refine cond_prop (fun h => trivial) fun h1 => ?_
  have hc1 : c < (frmN m : Int) * 8 := by have := of_decide_eq_false h1; omega
  obtain ⟨k, rfl⟩ : ∃ k : Nat, c = (k : Int) := ⟨c.toNat, by omega⟩
  refine ⟨⟨(0 : Nat), ⟨⟨rfl, rfl⟩, rfl, ?_⟩, by omega⟩, fun (v : Nat) (hv : v ≤ 32) => ?_⟩
  · rw [knownB _ _ (fun b => rfl)]; rfl
  have hlen : (turnI (frameM m) (k : Int) bits v).length = frmN m := by rw [turnI_len, hn]
  refine cond_prop (fun hv2 => ?_) fun hv2 => ?_
  · have hv3 : v < 32 := by have := of_decide_eq_true hv2; omega
    have hkv : IntKind.i64.wrap ((k : Int) + (v : Int)) = ((k + v : Nat) : Int) := by rw [wrap_i64 (by omega) (by omega)]; omega
    have hv1 : IntKind.i64.wrap ((v : Int) + 1) = ((v + 1 : Nat) : Int) := by rw [wrap_i64 (by omega) (by omega)]; omega
    rw [hkv, hv1, bit_of bits hbits.1 hbits.2 v hv3]
    refine cond_prop (fun hlt => ?_) fun hlt => ?_
    · have hlt' : k + v < (frmN m) * 8 := by have := of_decide_eq_true hlt; omega
      have e0 : IntKind.u64.wrap (v : Int) = v := wrap_u64 (by omega) (by omega)
      refine ⟨by rw [e0]; omega, ?_⟩
      refine cond_prop (fun hbt => ?_) fun hbt => ?_
      · have e1 : Int.tdiv ((k + v : Nat) : Int) 8 = (((k + v) / 8 : Nat) : Int) := by rw [Int.tdiv_eq_ediv_of_nonneg (by omega)]; omega
        have e3 : IntKind.i64.wrap (((k + v) / 8 : Nat) : Int) = (((k + v) / 8 : Nat) : Int) := wrap_i64 (by omega) (by omega)
        have e2 : Int.tmod ((k + v : Nat) : Int) 8 = (((k + v) % 8 : Nat) : Int) := by rw [Int.tmod_eq_emod_of_nonneg (by omega)]; omega
        have e4 : IntKind.u64.wrap (((k + v) % 8 : Nat) : Int) = (((k + v) % 8 : Nat) : Int) := wrap_u64 (by omega) (by omega)
        have hpf := put_flip (turnI (frameM m) (k : Int) bits v) (k + v) (by rw [hlen]; omega) (by omega)
        rw [hpf]
        have hcond : ((k : Int) + (v : Int) < ((frameM m).length : Int) * 8 ∧ bitV bits v = true) := ⟨by rw [hn]; omega, hbt⟩
        have hcond2 : ((k : Int) + (v : Int) < ((frmN m : Nat) : Int) * 8 ∧ bitV bits v = true) := ⟨by omega, hbt⟩
        have et : flipL (turnI (frameM m) (k : Int) bits v) (k + v) = turnI (frameM m) (k : Int) bits (v + 1) := by
          simp only [turnI]
          rw [if_pos hcond, show ((k : Int) + (v : Int)).toNat = k + v from by omega]
        have ed : true = turnedI (frmN m) (k : Int) bits (v + 1) := by
          simp only [turnedI]
          rw [if_pos hcond2]
        rw [e1, e3, e2, e4, hlen]
        refine ⟨by decide, ⟨by omega, by omega⟩, by omega, by decide, by omega, ⟨by omega, by omega⟩, by omega, (v + 1 : Nat), ⟨⟨?_, rfl⟩, ?_, ?_⟩, by omega, by omega⟩
        · exact congrArg AV.bool ed
        · rw [et]
        · rw [knownB _ _ (fun b => rfl)]; rfl
      · have et : turnI (frameM m) (k : Int) bits v = turnI (frameM m) (k : Int) bits (v + 1) := by
          simp only [turnI]
          rw [if_neg (by rintro ⟨_, h⟩; rw [hbt] at h; cases h)]
        have ed : turnedI (frmN m) (k : Int) bits v = turnedI (frmN m) (k : Int) bits (v + 1) := by
          simp only [turnedI]
          rw [if_neg (by rintro ⟨_, h⟩; rw [hbt] at h; cases h)]
        refine ⟨(v + 1 : Nat), ⟨⟨?_, rfl⟩, ?_, ?_⟩, by omega, by omega⟩
        · exact congrArg AV.bool ed
        · rw [← et]
        · rw [knownB _ _ (fun b => rfl)]; rfl
    · have hge : ¬ k + v < (frmN m) * 8 := by have := of_decide_eq_false hlt; omega
      have et : turnI (frameM m) (k : Int) bits v = turnI (frameM m) (k : Int) bits (v + 1) := by
        simp only [turnI]
        rw [if_neg (by rintro ⟨h, _⟩; rw [hn] at h; omega)]
      have ed : turnedI (frmN m) (k : Int) bits v = turnedI (frmN m) (k : Int) bits (v + 1) := by
        simp only [turnedI]
        rw [if_neg (by rintro ⟨h, _⟩; omega)]
      refine ⟨(v + 1 : Nat), ⟨⟨?_, rfl⟩, ?_, ?_⟩, by omega, by omega⟩
      · exact congrArg AV.bool ed
      · rw [← et]
      · rw [knownB _ _ (fun b => rfl)]; rfl
  · have hv3 : v = 32 := by have := of_decide_eq_false hv2; omega
    subst hv3
    have ec : cutL (bytesAV (turnI (frameM m) (k : Int) bits 32)) 0 (frmN m) = bytesAV (turnI (frameM m) (k : Int) bits 32) := by
      have := cut_all (turnI (frameM m) (k : Int) bits 32)
      rw [hlen] at this; exact this
    rw [ec]
    simp only [isBytes_bytesAV, length_bytesAV, bytesL_bytesAV, hlen, true_and]
    refine ⟨⟨by omega, by omega⟩, cond_prop (fun h => trivial) fun h23 => ?_⟩
    cases ht : turnedI (frmN m) (k : Int) bits 32 with
    | false => rfl
    | true =>
      exfalso
      have ho : openOK (turnI (frameM m) (k : Int) bits 32) = false := turned_told (bodyM m) k bits hbits.1 hbits.2 (by show k ≤ 8 * (frameM m).length; rw [hn]; omega) (by show turnedI (frameM m).length (k : Int) bits 32 = true; rw [hn]; exact ht)
      have he : openE (turnI (frameM m) (k : Int) bits 32) = 23 := by
        unfold openE
        rw [ho, hlen, if_neg (by omega)]
        rfl
      unfold mopenE at h23
      rw [he, hlen, if_neg (by omega)] at h23
      simp at h23
theorem okLawTurnsN0 : OkLawTurnsN0 := by
  intro m c bits hq
  refine vcLawTurnsN0 m c bits ?_
  simp only [true_and, and_true, forall_eq, eq_self]
  refine ⟨hq.1, cond_prop (fun _ => trivial) fun h => ?_⟩
  have hs := smallT h
  exact ⟨hs, hq.2⟩
end Go.Proofs.YtfoabkkkdcicgaaGreatDoor
/- The contracts are met. -/
namespace Go.Proofs.YtfoabkkkdcicgaaGreatDoor
set_option linter.unusedVariables false
set_option linter.unusedSimpArgs false
open Go.RowKit
theorem sndLawTurnsT : Sound Tryz.prog (lookΓ gamLawTurnsT) := sound_of _ fun p hp => by
  simp only [gamLawTurnsT, List.mem_cons, List.not_mem_nil, or_false] at hp
  rcases hp with rfl | rfl | rfl | rfl | rfl | rfl
  · exact meetsAnchor11.orNil
  · exact meetsSmall11.orNil
  · exact meetsOf11.orNil
  · exact meetsRefMT.orNil
  · exact meetsFrameV.orNil
  · exact meetsMopen.orNil
set_option maxHeartbeats 4000000 in
theorem meetsLawTurnsT : Meets Tryz.prog 5 lawTurnsTF := by
  refine meets_of_awp (Γ := lookΓ gamLawTurnsT) (L := fun args => match args with | [.val (.agg zcm), .val (.int .i64 c), .val (.int .u32 bits)] => (match msgOf zcm with | some m => lpLawTurnsT0 m c bits | _ => fun _ => none) | _ => fun _ => none) sndLawTurnsT mixedOrders Tryz.func5 rfl Tryz.call5 ?_
  intro args q r hF hq ho
  unfold lawTurnsTF at hF
  split at hF
  · split at hF
    · rename_i m hzm
      obtain rfl := msgOf_some hzm
      cases hF
      exact ⟨by simp only [List.length_cons, List.length_nil]; decide, okLawTurnsT0 _ _ _ hq (⟨okay_u32 (argA 0 5 ho rfl rfl), okay_u32 (argA 0 10 ho rfl rfl), okay_u32 (argA 0 11 ho rfl rfl), okay_u64 (argA 0 14 ho rfl rfl), okay_u64 (argA 0 16 ho rfl rfl), okay_u64 (argA 0 19 ho rfl rfl)⟩) (okay_i64 (argI 1 ho rfl rfl)) (okay_u32 (argI 2 ho rfl rfl))⟩
    · cases hF
  · cases hF
theorem sndLawTurnsN : Sound Tryz.prog (lookΓ gamLawTurnsN) := sound_of _ fun p hp => by
  simp only [gamLawTurnsN, List.mem_cons, List.not_mem_nil, or_false] at hp
  rcases hp with rfl | rfl | rfl | rfl
  · exact meetsAnchor11.orNil
  · exact meetsSmall11.orNil
  · exact meetsOf11.orNil
  · exact meetsRefMN.orNil
set_option maxHeartbeats 4000000 in
theorem meetsLawTurnsN : Meets Tryz.prog 5 lawTurnsNF := by
  refine meets_of_awp (Γ := lookΓ gamLawTurnsN) (L := fun _ _ => none) sndLawTurnsN mixedOrders Tryz.func5 rfl Tryz.call5 ?_
  intro args q r hF hq ho
  unfold lawTurnsNF at hF
  split at hF
  · split at hF
    · rename_i m hzm
      obtain rfl := msgOf_some hzm
      cases hF
      exact ⟨by simp only [List.length_cons, List.length_nil]; decide, okLawTurnsN0 _ _ _ hq⟩
    · cases hF
  · cases hF
end Go.Proofs.YtfoabkkkdcicgaaGreatDoor
