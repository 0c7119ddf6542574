/- Contracts by content, their conditions, and that they are met: LogT. -/
import Derived.Test.YtddilmocngedjaaLaxPkLogV
import Derived.Test.YtddilmocngedjaaLaxLogP
import Derived.Test.YtddilmocngedjaaLaxPkLogS
import Derived.Test.YtddilmocngedjaaTurnB
/- Contracts by content, and the conditions that their code must meet. -/
namespace Go.Proofs.Ytddilmocngedjaa
set_option linter.unusedVariables false
set_option linter.unusedSimpArgs false
open Go.RowKit
def frN (n : Nat) : Nat := (short (n + 4)).length + (n + 4)
def frameVF : Con
  | [.val (.sl xs .no)] => some (isBytes xs ∧ xs.length ≤ 16384, ⟨.tup [.vec 2000 0 (frN xs.length) false, .int .i64 0], none, some [.sl (bytesAV (frameL (bytesL xs))) .no]⟩)
  | _ => none
theorem frame_len (l : List UInt8) : (frameL l).length = frN l.length := by simp [frameL, frN, sealL_len]
theorem meetsFrameV : Meets Try.prog 32 frameVF := meetsFrameR.vec fun args q r hF hq => by
  unfold frameVF at hF
  split at hF
  · rename_i xs
    cases hF
    refine ⟨fun x hx => (by simp at hx; exact ⟨_, hx⟩), _, frameL (bytesL xs), 5, some [.int .i64 0], hq, ts_u8, ?_, fun r h => (by cases h; rfl), rfl, ?_⟩
    · intro h
      have := frame_len (bytesL xs)
      rw [h] at this
      simp [frN] at this
    · have : (frameL (bytesL xs)).length = frN xs.length := by rw [frame_len]; simp [bytesL]
      rw [this]; rfl
  · cases hF
def lawTurns14F : Con
  | [.val (.sl ps .no), .val (.sl xs .no), .val (.sl ys .no), .val (.int .i64 c)] => (some ((isRecs ps ∧ ps.length ≤ 9223372036854775807 ∧ (∀ l ∈ recL ps, l.length ≤ 9223372036854775807)) ∧ (isBytes xs ∧ xs.length ≤ 9223372036854775807) ∧ (isBytes ys ∧ ys.length ≤ 9223372036854775807), ⟨.bool true, none, none⟩))
  | _ => none
def gamLawTurns14 : List (Nat × Con) := [(27, anchor14F.orNil), (31, small14F.orNil), (30, joinF.orNil), (32, frameVF.orNil), (28, scanF.orNil)]
def lpLawTurns140 (ps xs ys : List AV) (c : Int) : Nat → Option LoopPlan := fun _ => none
def inLawTurns140 (ps xs ys : List AV) (c : Int) : Prop := awp [] (lpLawTurns140 ps xs ys c) (lookΓ gamLawTurns14) Try.prog Try.f7.ntmps 0 (Try.f7.body.getD .skip) (entrySt [.val (.sl ps .no), .val (.sl xs .no), .val (.sl ys .no), .val (.int .i64 c)]) (exitQ Try.prog Try.f7.results.toList [] ⟨.bool true, none, none⟩)
def OkLawTurns140 : Prop := ∀ (ps xs ys : List AV) (c : Int), (isRecs ps ∧ ps.length ≤ 9223372036854775807 ∧ (∀ l ∈ recL ps, l.length ≤ 9223372036854775807)) ∧ (isBytes xs ∧ xs.length ≤ 9223372036854775807) ∧ (isBytes ys ∧ ys.length ≤ 9223372036854775807) → (-9223372036854775808 ≤ c ∧ c ≤ 9223372036854775807) → inLawTurns140 ps xs ys c
end Go.Proofs.Ytddilmocngedjaa
/- What the verification conditions come to: printed by a program of ours (wip/lax/ex/Norm.lean). -/
namespace Go.Proofs.Ytddilmocngedjaa
set_option linter.unusedVariables false
open Go.RowKit
set_option maxRecDepth 100000
theorem vcLawTurns140 (ps : (List AV)) (xs : (List AV)) (ys : (List AV)) (c : Int) (h : let q0 := (0 + (Int.toNat (IntKind.wrap IntKind.i64 (Int.tdiv c 8)))); let q1 := (bytesAV (frameL (bytesL xs))); let q2 := (Int.toNat (IntKind.wrap IntKind.u64 (Int.tmod c 8))); let q3 := (frN (List.length xs)); let q4 := (rdInt (elemAt q1 q0) 0); let q5 := (IntKind.wrap IntKind.i64 (Int.tdiv c 8)); (tt ∧ T1 ∧ tt ∧ (T1 ∧ True) ∧ T1 ∧ tt ∧ T1 ∧ (T1 ∧ (isRecs ps) ∧ (List.length ps) ≤ 9223372036854775807 ∧ ∀ v0 : (List UInt8), ∀ v1 : (@Membership.mem.{0, 0} (List UInt8) (List (List UInt8)) (@List.instMembership.{0} (List UInt8)) (recL ps) v0), ((List.length v0) ≤ 9223372036854775807)) ∧ T1 ∧ T1 ∧ (bif (Bool.not (Bool.and (decide ((sumL (recL ps)) ≤ 2000)) (decide ((List.length ps) ≤ 40)))) then (tt ∧ T1 ∧ tt ∧ tt ∧ T1 ∧ tt ∧ tt ∧ (tt ∧ True) ∧ tt) else (T1 ∧ T1 ∧ T1 ∧ T1 ∧ T1 ∧ (bif (decide ((400 : Int) < ((List.length xs) : Int))) then (tt ∧ tt ∧ T1 ∧ tt ∧ tt ∧ (tt ∧ True) ∧ tt) else (T1 ∧ T1 ∧ T1 ∧ T1 ∧ (bif (decide ((400 : Int) < ((List.length ys) : Int))) then (tt ∧ T1 ∧ tt ∧ tt ∧ (tt ∧ True) ∧ tt) else (tt ∧ T1 ∧ (T1 ∧ (isRecs ps) ∧ (List.length ps) ≤ 100000 ∧ ∀ v0 : (List UInt8), ∀ v1 : (@Membership.mem.{0, 0} (List UInt8) (List (List UInt8)) (@List.instMembership.{0} (List UInt8)) (recL ps) v0), ((List.length v0) ≤ 16384)) ∧ ∀ v0 : (List AV), (v0 = (bytesAV (joinL (recL ps)))) → ∀ v2 : Int, (v2 = 0) → T1 ∧ T1 ∧ T1 ∧ T1 ∧ T1 ∧ tt ∧ T1 ∧ (T1 ∧ (isBytes xs) ∧ (List.length xs) ≤ 16384) ∧ T1 ∧ T1 ∧ T1 ∧ T1 ∧ T1 ∧ tt ∧ T1 ∧ T1 ∧ T1 ∧ (bif (v2 != 0) then (tt ∧ tt ∧ T1 ∧ tt ∧ tt ∧ (true = false ∧ True) ∧ tt) else (T1 ∧ T1 ∧ T1 ∧ tt ∧ T1 ∧ T1 ∧ T1 ∧ T1 ∧ T1 ∧ T1 ∧ T1 ∧ tt ∧ T1 ∧ T1 ∧ T1 ∧ T1 ∧ T1 ∧ (bif (decide (c < (IntKind.wrap IntKind.i64 ((IntKind.wrap IntKind.i64 ((IntKind.wrap IntKind.i64 ((q3 : Int) - ((List.length xs) : Int))) - (4 : Int))) * (8 : Int))))) then (tt ∧ tt ∧ T1 ∧ tt ∧ tt ∧ (tt ∧ True) ∧ tt) else (T1 ∧ T1 ∧ T1 ∧ T1 ∧ T1 ∧ T1 ∧ (bif (decide ((IntKind.wrap IntKind.i64 ((q3 : Int) * (8 : Int))) ≤ c)) then (tt ∧ T1 ∧ tt ∧ tt ∧ (tt ∧ True) ∧ tt) else (tt ∧ T1 ∧ T1 ∧ (@Ne.{1} Int (8 : Int) (0 : Int)) ∧ ((0 : Int) ≤ q5 ∧ q5 < (q3 : Int)) ∧ (q0 < (List.length q1) ∧ (isBytes q1)) ∧ T1 ∧ (@Ne.{1} Int (8 : Int) (0 : Int)) ∧ T1 ∧ (0 : Int) ≤ (IntKind.wrap IntKind.u64 (Int.tmod c 8)) ∧ T1 ∧ ((0 : Int) ≤ q5 ∧ q5 < (q3 : Int)) ∧ q0 < (List.length q1) ∧ tt ∧ T1 ∧ T1 ∧ (@Eq.{1} Nat 0 0 ∧ ((0 + (List.length v0)) * 1) ≤ 140737488355328 ∧ (0 + (List.length v0)) ≤ 9223372036854775807 ∧ (okWidth 1 []) ∧ (okWidth 1 v0)) ∧ T1 ∧ (((0 + (List.length v0)) = (List.length (@catL AV (@List.nil.{0} AV) v0)) ∧ (((List.length (@catL AV (@List.nil.{0} AV) v0)) + (List.length (@cutL AV (putL q1 q0 (AV.int IntKind.u8 (intBits Go.BinOp.xor IntKind.u8 q4 (IntKind.wrap IntKind.u8 ((1 : Int) * (@HPow.hPow.{0, 0, 0} Int Nat Int (@instHPow.{0, 0} Int Nat (@instPowNat.{0} Int Int.instNatPow)) (2 : Int) (@Min.min.{0} Nat instMinNat q2 8))))))) 0 q3))) * 1) ≤ 140737488355328 ∧ ((List.length (@catL AV (@List.nil.{0} AV) v0)) + (List.length (@cutL AV (putL q1 q0 (AV.int IntKind.u8 (intBits Go.BinOp.xor IntKind.u8 q4 (IntKind.wrap IntKind.u8 ((1 : Int) * (@HPow.hPow.{0, 0, 0} Int Nat Int (@instHPow.{0, 0} Int Nat (@instPowNat.{0} Int Int.instNatPow)) (2 : Int) (@Min.min.{0} Nat instMinNat q2 8))))))) 0 q3))) ≤ 9223372036854775807 ∧ (okWidth 1 (@catL AV (@List.nil.{0} AV) v0)) ∧ (okWidth 1 (@cutL AV (putL q1 q0 (AV.int IntKind.u8 (intBits Go.BinOp.xor IntKind.u8 q4 (IntKind.wrap IntKind.u8 ((1 : Int) * (@HPow.hPow.{0, 0, 0} Int Nat Int (@instHPow.{0, 0} Int Nat (@instPowNat.{0} Int Int.instNatPow)) (2 : Int) (@Min.min.{0} Nat instMinNat q2 8))))))) 0 q3))) ∧ (isBytes (putL q1 q0 (AV.int IntKind.u8 (intBits Go.BinOp.xor IntKind.u8 q4 (IntKind.wrap IntKind.u8 ((1 : Int) * (@HPow.hPow.{0, 0, 0} Int Nat Int (@instHPow.{0, 0} Int Nat (@instPowNat.{0} Int Int.instNatPow)) (2 : Int) (@Min.min.{0} Nat instMinNat q2 8)))))))) ∧ q3 ≤ (List.length (putL q1 q0 (AV.int IntKind.u8 (intBits Go.BinOp.xor IntKind.u8 q4 (IntKind.wrap IntKind.u8 ((1 : Int) * (@HPow.hPow.{0, 0, 0} Int Nat Int (@instHPow.{0, 0} Int Nat (@instPowNat.{0} Int Int.instNatPow)) (2 : Int) (@Min.min.{0} Nat instMinNat q2 8)))))))) ∧ True) ∧ T1 ∧ (((List.length (@catL AV (@List.nil.{0} AV) v0)) + (List.length (@cutL AV (putL q1 q0 (AV.int IntKind.u8 (intBits Go.BinOp.xor IntKind.u8 q4 (IntKind.wrap IntKind.u8 ((1 : Int) * (@HPow.hPow.{0, 0, 0} Int Nat Int (@instHPow.{0, 0} Int Nat (@instPowNat.{0} Int Int.instNatPow)) (2 : Int) (@Min.min.{0} Nat instMinNat q2 8))))))) 0 q3))) = (List.length (@catL AV (@catL AV (@List.nil.{0} AV) v0) (@cutL AV (putL q1 q0 (AV.int IntKind.u8 (intBits Go.BinOp.xor IntKind.u8 q4 (IntKind.wrap IntKind.u8 ((1 : Int) * (@HPow.hPow.{0, 0, 0} Int Nat Int (@instHPow.{0, 0} Int Nat (@instPowNat.{0} Int Int.instNatPow)) (2 : Int) (@Min.min.{0} Nat instMinNat q2 8))))))) 0 q3))) ∧ (((List.length (@catL AV (@catL AV (@List.nil.{0} AV) v0) (@cutL AV (putL q1 q0 (AV.int IntKind.u8 (intBits Go.BinOp.xor IntKind.u8 q4 (IntKind.wrap IntKind.u8 ((1 : Int) * (@HPow.hPow.{0, 0, 0} Int Nat Int (@instHPow.{0, 0} Int Nat (@instPowNat.{0} Int Int.instNatPow)) (2 : Int) (@Min.min.{0} Nat instMinNat q2 8))))))) 0 q3))) + (List.length ys)) * 1) ≤ 140737488355328 ∧ ((List.length (@catL AV (@catL AV (@List.nil.{0} AV) v0) (@cutL AV (putL q1 q0 (AV.int IntKind.u8 (intBits Go.BinOp.xor IntKind.u8 q4 (IntKind.wrap IntKind.u8 ((1 : Int) * (@HPow.hPow.{0, 0, 0} Int Nat Int (@instHPow.{0, 0} Int Nat (@instPowNat.{0} Int Int.instNatPow)) (2 : Int) (@Min.min.{0} Nat instMinNat q2 8))))))) 0 q3))) + (List.length ys)) ≤ 9223372036854775807 ∧ (okWidth 1 (@catL AV (@catL AV (@List.nil.{0} AV) v0) (@cutL AV (putL q1 q0 (AV.int IntKind.u8 (intBits Go.BinOp.xor IntKind.u8 q4 (IntKind.wrap IntKind.u8 ((1 : Int) * (@HPow.hPow.{0, 0, 0} Int Nat Int (@instHPow.{0, 0} Int Nat (@instPowNat.{0} Int Int.instNatPow)) (2 : Int) (@Min.min.{0} Nat instMinNat q2 8))))))) 0 q3))) ∧ (okWidth 1 ys)) ∧ T1 ∧ tt ∧ T1 ∧ (T1 ∧ (isBytes (@catL AV (@catL AV (@catL AV (@List.nil.{0} AV) v0) (@cutL AV (putL q1 q0 (AV.int IntKind.u8 (intBits Go.BinOp.xor IntKind.u8 q4 (IntKind.wrap IntKind.u8 ((1 : Int) * (@HPow.hPow.{0, 0, 0} Int Nat Int (@instHPow.{0, 0} Int Nat (@instPowNat.{0} Int Int.instNatPow)) (2 : Int) (@Min.min.{0} Nat instMinNat q2 8))))))) 0 q3)) ys)) ∧ (List.length (@catL AV (@catL AV (@catL AV (@List.nil.{0} AV) v0) (@cutL AV (putL q1 q0 (AV.int IntKind.u8 (intBits Go.BinOp.xor IntKind.u8 q4 (IntKind.wrap IntKind.u8 ((1 : Int) * (@HPow.hPow.{0, 0, 0} Int Nat Int (@instHPow.{0, 0} Int Nat (@instPowNat.{0} Int Int.instNatPow)) (2 : Int) (@Min.min.{0} Nat instMinNat q2 8))))))) 0 q3)) ys)) ≤ 1000000) ∧ ∀ v4 : (List AV), (v4 = (recAV (scanR (bytesL (@catL AV (@catL AV (@catL AV (@List.nil.{0} AV) v0) (@cutL AV (putL q1 q0 (AV.int IntKind.u8 (intBits Go.BinOp.xor IntKind.u8 q4 (IntKind.wrap IntKind.u8 ((1 : Int) * (@HPow.hPow.{0, 0, 0} Int Nat Int (@instHPow.{0, 0} Int Nat (@instPowNat.{0} Int Int.instNatPow)) (2 : Int) (@Min.min.{0} Nat instMinNat q2 8))))))) 0 q3)) ys))))) → ∀ v6 : Int, (v6 = (scanG (bytesL (@catL AV (@catL AV (@catL AV (@List.nil.{0} AV) v0) (@cutL AV (putL q1 q0 (AV.int IntKind.u8 (intBits Go.BinOp.xor IntKind.u8 q4 (IntKind.wrap IntKind.u8 ((1 : Int) * (@HPow.hPow.{0, 0, 0} Int Nat Int (@instHPow.{0, 0} Int Nat (@instPowNat.{0} Int Int.instNatPow)) (2 : Int) (@Min.min.{0} Nat instMinNat q2 8))))))) 0 q3)) ys)))) → T1 ∧ T1 ∧ T1 ∧ T1 ∧ T1 ∧ tt ∧ T1 ∧ T1 ∧ T1 ∧ T1 ∧ T1 ∧ T1 ∧ (bif (((List.length v4) : Int) == ((List.length ps) : Int)) then (T1 ∧ T1 ∧ T1 ∧ T1 ∧ T1 ∧ T1 ∧ tt ∧ tt ∧ (true = (v6 == ((List.length v0) : Int)) ∧ True) ∧ tt) else (false = false ∧ T1 ∧ tt ∧ tt ∧ (true = false ∧ True) ∧ tt)))))))))))))))) : inLawTurns140 ps xs ys c :=
  Eq.mp (show _ = _ by kernel_rfl) h
end Go.Proofs.Ytddilmocngedjaa
/- The law of a turned bit in a log: its condition holds. -/
namespace Go.Proofs.Ytddilmocngedjaa
set_option linter.unusedVariables false
set_option linter.unusedSimpArgs false
open Go.RowKit
set_option maxRecDepth 100000
theorem scan_join_bad : ∀ (ls : List (List UInt8)) (t : List UInt8), (∀ l ∈ ls, l.length ≤ 16384) → firK t = false → scanR (joinL ls ++ t) = ls ∧ scanG (joinL ls ++ t) = ((joinL ls).length : Int)
  | [], t, _, h => by simp [joinL, scanR_no h, scanG_no h]
  | l :: ls, t, hl, h => by
    obtain ⟨i1, i2⟩ := scan_join_bad ls t (fun x hx => hl x (by simp [hx])) h
    have e : joinL (l :: ls) ++ t = frameL l ++ (joinL ls ++ t) := by simp [joinL]
    obtain ⟨_, k2⟩ := firK_cut l (joinL ls ++ t) ((frameL l ++ (joinL ls ++ t)).length) (hl l (by simp))
    rw [List.take_of_length_le (Nat.le_refl _)] at k2
    obtain ⟨k3, k4, k5⟩ := k2 (by rw [List.length_append]; omega)
    rw [e, scanR_yes k3, scanG_yes k3, k4, k5, List.drop_left', i1, i2]
    · refine ⟨rfl, ?_⟩
      simp [joinL]
    · rfl
theorem turn_one (s : List UInt8) (c : Nat) (hc : c < 8 * s.length) : ∀ i, turnI s (c : Int) 1 (i + 1) = flipL s c ∧ turnedI s.length (c : Int) 1 (i + 1) = true
  | 0 => by
    have h : ((c : Int) + ((0 : Nat) : Int) < (s.length : Int) * 8 ∧ bitV 1 0 = true) := ⟨by omega, rfl⟩
    simp only [turnI, turnedI]
    rw [if_pos h, if_pos h]
    exact ⟨by congr 1, rfl⟩
  | i + 1 => by
    obtain ⟨h1, h2⟩ := turn_one s c hc i
    have hb : ¬ ((c : Int) + ((i + 1 : Nat) : Int) < (s.length : Int) * 8 ∧ bitV 1 (i + 1) = true) := by
      rintro ⟨_, h⟩
      unfold bitV at h
      have e1 : (1 : Int).toNat = 2 ^ 0 := rfl
      rw [e1, Nat.testBit_two_pow] at h
      simp at h
    have a1 : turnI s (c : Int) 1 (i + 1 + 1) = turnI s (c : Int) 1 (i + 1) := by
      conv => lhs; unfold turnI
      rw [if_neg hb]
    have a2 : turnedI s.length (c : Int) 1 (i + 1 + 1) = turnedI s.length (c : Int) 1 (i + 1) := by
      conv => lhs; unfold turnedI
      rw [if_neg hb]
    rw [a1, a2]
    exact ⟨h1, h2⟩
theorem flip_sealed (r : List UInt8) (c : Nat) (hc : c < 8 * (sealL r).length) : openOK (flipL (sealL r) c) = false := by
  obtain ⟨h1, h2⟩ := turn_one (sealL r) c hc 31
  have := turned_told r c 1 (by omega) (by omega) (by omega) h2
  rw [h1] at this
  exact this
theorem flip_app (a s : List UInt8) (k : Nat) (hk : 8 * a.length ≤ k) : flipL (a ++ s) k = a ++ flipL s (k - 8 * a.length) := by
  unfold flipL
  have e1 : k / 8 = a.length + (k - 8 * a.length) / 8 := by omega
  have e2 : (k - 8 * a.length) % 8 = k % 8 := by omega
  rw [e2, e1]
  have e3 : (a ++ s).getD (a.length + (k - 8 * a.length) / 8) 0 = s.getD ((k - 8 * a.length) / 8) 0 := by
    rw [List.getD_eq_getElem?_getD, List.getD_eq_getElem?_getD, List.getElem?_append_right (by omega), Nat.add_sub_cancel_left]
  rw [e3, List.set_append_right _ _ (by omega), Nat.add_sub_cancel_left]
theorem firK_flip (r more : List UInt8) (hr : r.length ≤ 16384) (k : Nat) (h1 : 8 * (short (r.length + 4)).length ≤ k) (h2 : k < 8 * (frameL r).length) : firK (flipL (frameL r) k ++ more) = false := by
  obtain ⟨n, hn⟩ : ∃ n, n = (short (r.length + 4)).length := ⟨_, rfl⟩
  have hfl : (frameL r).length = n + (r.length + 4) := by rw [hn]; unfold frameL; rw [List.length_append, seal_len]
  have e : flipL (frameL r) k ++ more = short (r.length + 4) ++ (flipL (sealL r) (k - 8 * n) ++ more) := by
    unfold frameL
    rw [flip_app _ _ _ h1, ← hn, List.append_assoc]
  rw [e]
  obtain ⟨m, hm⟩ : ∃ m, m = short (r.length + 4) ++ (flipL (sealL r) (k - 8 * n) ++ more) := ⟨_, rfl⟩
  rw [← hm]
  have hk : rShort m = (r.length + 4, n, 0) := by rw [hm, rShort_short _ _ (by omega), hn]
  have hs : segL m = flipL (sealL r) (k - 8 * n) := by
    unfold segL
    rw [hk, hm]
    simp only []
    rw [List.drop_left' hn.symm, List.take_left']
    rw [flipL_len, seal_len]
  unfold firK
  rw [hs, flip_sealed r _ (by rw [seal_len]; omega), Bool.and_false]
theorem okLawTurns140 : OkLawTurns140 := by
  intro ps xs ys c ⟨⟨hps, hpl, hpe⟩, ⟨hxb, hxl⟩, hyb, hyl⟩ hc
  obtain ⟨r, rfl⟩ := hxb.get
  obtain ⟨more, rfl⟩ := hyb.get
  obtain ⟨ls, rfl⟩ : ∃ ls, ps = recAV ls := ⟨_, hps⟩
  rw [length_bytesAV] at hxl hyl
  refine vcLawTurns140 _ _ _ c ?_
  simp only [true_and, and_true, eq_self, length_bytesAV, bytesL_bytesAV, isBytes_bytesAV, recL_recAV, length_recAV, isRecs_recAV] at hpl hpe ⊢
  refine ⟨⟨hpl, hpe⟩, ?_⟩
  refine cond_prop (fun h => trivial) fun hsm => cond_prop (fun h => trivial) fun hr => cond_prop (fun h => trivial) fun hm => ?_
  have hr4 : r.length ≤ 400 := by have := of_decide_eq_false hr; omega
  have hm4 : more.length ≤ 400 := by have := of_decide_eq_false hm; omega
  have hs2 : sumL ls ≤ 2000 ∧ ls.length ≤ 40 := by simpa using hsm
  have hle : ∀ l ∈ ls, l.length ≤ 2000 := by
    intro l hl
    have := mem_sum hl
    omega
  refine ⟨⟨by omega, fun l hl => by have := hle l hl; omega⟩, fun v0 e0 v2 e2 => ?_⟩
  subst e0 e2
  have hj0 := join_len ls (fun l hl => by have := hle l hl; omega)
  have hj : (joinL ls).length ≤ 700000 := by omega
  refine ⟨by omega, ?_⟩
  have hd : (0 != (0 : Int)) = false := rfl
  rw [hd, cond_false]
  obtain ⟨n, hn⟩ : ∃ n, n = (short (r.length + 4)).length := ⟨_, rfl⟩
  have hn10 : n ≤ 10 := by rw [hn]; exact short_le10' (r.length + 4) (by omega)
  have hfr : frN r.length = n + (r.length + 4) := by unfold frN; rw [hn]
  have hfl := frame_len r
  rw [hfr]
  rw [hfr] at hfl
  have w1 : IntKind.i64.wrap (((n + (r.length + 4) : Nat) : Int) - (r.length : Int)) = (n : Int) + 4 := by rw [wrap_i64 (by omega) (by omega)]; omega
  have w2 : IntKind.i64.wrap ((n : Int) + 4 - 4) = (n : Int) := by rw [wrap_i64 (by omega) (by omega)]; omega
  have w3 : IntKind.i64.wrap ((n : Int) * 8) = (n : Int) * 8 := wrap_i64 (by omega) (by omega)
  have w4 : IntKind.i64.wrap (((n + (r.length + 4) : Nat) : Int) * 8) = ((n + (r.length + 4) : Nat) : Int) * 8 := wrap_i64 (by omega) (by omega)
  rw [w1, w2, w3, w4]
  refine cond_prop (fun h => trivial) fun h0 => cond_prop (fun h => trivial) fun h1 => ?_
  have hc0 : (n : Int) * 8 ≤ c := by have := of_decide_eq_false h0; omega
  have hc1 : c < ((n + (r.length + 4) : Nat) : Int) * 8 := by have := of_decide_eq_false h1; omega
  obtain ⟨k, rfl⟩ : ∃ k : Nat, c = (k : Int) := ⟨c.toNat, by omega⟩
  have e1 : Int.tdiv (k : Int) 8 = ((k / 8 : Nat) : Int) := by rw [Int.tdiv_eq_ediv_of_nonneg (by omega)]; omega
  have e2 : Int.tmod (k : Int) 8 = ((k % 8 : Nat) : Int) := by rw [Int.tmod_eq_emod_of_nonneg (by omega)]; omega
  have e3 : IntKind.i64.wrap ((k / 8 : Nat) : Int) = ((k / 8 : Nat) : Int) := wrap_i64 (by omega) (by omega)
  have e4 : IntKind.u64.wrap ((k % 8 : Nat) : Int) = ((k % 8 : Nat) : Int) := wrap_u64 (by omega) (by omega)
  have hpf := put_flip (frameL r) k (by rw [hfl]; omega) (by omega)
  have hbad := firK_flip r more (by omega) k (by rw [← hn]; omega) (by rw [hfl]; omega)
  have hcut : cutL (bytesAV (flipL (frameL r) k)) 0 (n + (r.length + 4)) = bytesAV (flipL (frameL r) k) := by
    have := cut_all (flipL (frameL r) k)
    rw [flipL_len, hfl] at this; exact this
  have hcat : catL (catL (catL [] (bytesAV (joinL ls))) (bytesAV (flipL (frameL r) k))) (bytesAV more) = bytesAV (joinL ls ++ (flipL (frameL r) k ++ more)) := by
    rw [catL_nil, catL_bytes, catL_bytes, List.append_assoc]
  obtain ⟨g1, g2⟩ := scan_join_bad ls (flipL (frameL r) k ++ more) (fun l hl => by have := hle l hl; omega) hbad
  rw [hpf, hcut, hcat]
  simp only [catL_nil, catL_bytes, isBytes_bytesAV, length_bytesAV, bytesL_bytesAV, okWidth_bytes, flipL_len, List.length_append, hfl, true_and, and_true, g1, g2, e1, e2, e3, e4, Int.toNat_natCast]
  have ok0 : okWidth 1 [] := okWidth_nil 1
  and_intros
  all_goals first | omega | decide | exact ok0 | skip
  intro v4 e4' v6 e6
  subst e4' e6
  rw [length_recAV]
  simp
end Go.Proofs.Ytddilmocngedjaa
/- The contracts are met. -/
namespace Go.Proofs.Ytddilmocngedjaa
set_option linter.unusedVariables false
set_option linter.unusedSimpArgs false
open Go.RowKit
theorem sndLawTurns14 : Sound Try.prog (lookΓ gamLawTurns14) := sound_of _ fun p hp => by
  simp only [gamLawTurns14, List.mem_cons, List.not_mem_nil, or_false] at hp
  rcases hp with rfl | rfl | rfl | rfl | rfl
  · exact meetsAnchor14.orNil
  · exact meetsSmall14.orNil
  · exact meetsJoin.orNil
  · exact meetsFrameV.orNil
  · exact meetsScan.orNil
set_option maxHeartbeats 4000000 in
theorem meetsLawTurns14 : Meets Try.prog 7 lawTurns14F := by
  refine meets_of_awp (Γ := lookΓ gamLawTurns14) (L := fun _ _ => none) sndLawTurns14 mixedOrders Try.func7 rfl Try.call7 ?_
  intro args q r hF hq ho
  unfold lawTurns14F at hF
  split at hF
  · cases hF
    exact ⟨by simp only [List.length_cons, List.length_nil]; decide, okLawTurns140 _ _ _ _ hq (okay_i64 (argI 3 ho rfl rfl))⟩
  · cases hF
end Go.Proofs.Ytddilmocngedjaa
