/- Contracts by content, their conditions, and that they are met: SumW. -/
import Derived.Test.YtpomloangafbkaaGreatDoorLaxTailM
import Derived.Test.YtpomloangafbkaaGreatDoorLaxWrap
/- Contracts by content, and the conditions that their code must meet. -/
namespace Go.Proofs.YtpomloangafbkaaGreatDoor
set_option linter.unusedVariables false
set_option linter.unusedSimpArgs false
open Go.RowKit
def sealL (l : List UInt8) : List UInt8 := l ++ tailL (crcI l)
def bodyL (l : List UInt8) : List UInt8 := l.take (l.length - 4)
def openOK (l : List UInt8) : Bool := decide (4 ≤ l.length ∧ l.drop (l.length - 4) = tailL (crcI (bodyL l)))
def openV (l : List UInt8) : List UInt8 := if openOK l then bodyL l else []
def openE (l : List UInt8) : Int := if l.length < 4 then 20 else if openOK l then 0 else 23
def equalF : Con
  | [.val (.sl xs .no), .val (.sl ys .no)] => (some (isBytes xs ∧ isBytes ys, ⟨.bool (decide (bytesL xs = bytesL ys)), none, none⟩))
  | _ => none
def gamEqual : List (Nat × Con) := []
def lpEqual0 (xs ys : List AV) : Nat → Option LoopPlan := fun _ => none
def inEqual0 (xs ys : List AV) : Prop := awp [] (lpEqual0 xs ys) (lookΓ gamEqual) Tryz.prog Tryz.f112.ntmps 0 (Tryz.f112.body.getD .skip) (entrySt [.val (.sl xs .no), .val (.sl ys .no)]) (exitQ Tryz.prog Tryz.f112.results.toList [] ⟨.bool (decide (bytesL xs = bytesL ys)), none, none⟩)
def OkEqual0 : Prop := ∀ (xs ys : List AV), isBytes xs ∧ isBytes ys → inEqual0 xs ys
def sealF : Con
  | [.val (.sl xs .no)] => (some (isBytes xs ∧ xs.length ≤ 140737488355000, ⟨.sl (bytesAV (sealL (bytesL xs))) (.row 0 0 5), none, none⟩))
  | _ => none
def gamSeal : List (Nat × Con) := [(97, cloneF.orNil), (111, sumOfF.orNil), (110, tailF.orNil)]
def lpSeal0 (xs : List AV) : Nat → Option LoopPlan := fun _ => none
def inSeal0 (xs : List AV) : Prop := awp [] (lpSeal0 xs) (lookΓ gamSeal) Tryz.prog Tryz.f84.ntmps 0 (Tryz.f84.body.getD .skip) (entrySt [.val (.sl xs .no)]) (exitQ Tryz.prog Tryz.f84.results.toList [] ⟨.sl (bytesAV (sealL (bytesL xs))) (.row 0 0 5), none, none⟩)
def OkSeal0 : Prop := ∀ (xs : List AV), isBytes xs ∧ xs.length ≤ 140737488355000 → inSeal0 xs
def openF : Con
  | [.val (.sl xs .no)] => (some (isBytes xs ∧ xs.length ≤ 140737488355100, ⟨.tup [.sl (bytesAV (openV (bytesL xs))) .no, .int .i64 (openE (bytesL xs))], none, none⟩))
  | _ => none
def gamOpen : List (Nat × Con) := [(97, cloneF.orNil), (111, sumOfF.orNil), (110, tailF.orNil), (112, equalF.orNil)]
def lpOpen0 (xs : List AV) : Nat → Option LoopPlan := fun _ => none
def inOpen0 (xs : List AV) : Prop := awp [] (lpOpen0 xs) (lookΓ gamOpen) Tryz.prog Tryz.f85.ntmps 0 (Tryz.f85.body.getD .skip) (entrySt [.val (.sl xs .no)]) (exitQ Tryz.prog Tryz.f85.results.toList [] ⟨.tup [.sl (bytesAV (openV (bytesL xs))) .no, .int .i64 (openE (bytesL xs))], none, none⟩)
def OkOpen0 : Prop := ∀ (xs : List AV), isBytes xs ∧ xs.length ≤ 140737488355100 → inOpen0 xs
end Go.Proofs.YtpomloangafbkaaGreatDoor
/- What the verification conditions come to: printed by a program of ours (wip/lax/ex/Norm.lean). -/
namespace Go.Proofs.YtpomloangafbkaaGreatDoor
set_option linter.unusedVariables false
open Go.RowKit
set_option maxRecDepth 100000
theorem vcEqual0 (xs : (List AV)) (ys : (List AV)) (h : (tt ∧ T1 ∧ tt ∧ T1 ∧ (isBytes xs) ∧ T1 ∧ (isBytes ys) ∧ T1 ∧ T1 ∧ tt ∧ tt ∧ ((@Decidable.decide ((bytesL xs) = (bytesL ys)) (@instDecidableEqList.{0} UInt8 instDecidableEqUInt8 (bytesL xs) (bytesL ys))) = (@BEq.beq.{0} (List UInt8) (@List.instBEq.{0} UInt8 (@instBEqOfDecidableEq.{0} UInt8 instDecidableEqUInt8)) (bytesL xs) (bytesL ys)) ∧ True) ∧ tt)) : inEqual0 xs ys :=
  Eq.mp (show _ = _ by kernel_rfl) h
theorem vcSeal0 (xs : (List AV)) (h : (tt ∧ T1 ∧ tt ∧ T1 ∧ (T1 ∧ (isBytes xs) ∧ (List.length xs) ≤ 140737488355328) ∧ ∀ v0 : (List AV), (v0 = xs) → ∀ v2 : Nat, (v2 = (List.length xs)) → T1 ∧ T1 ∧ (T1 ∧ (isParts [(AV.sl xs Own.no)])) ∧ ∀ v4 : Int, (v4 = (crcI (flatL [(AV.sl xs Own.no)]))) → (T1 ∧ True) ∧ ∀ v6 : (List AV), let w0_6 := ((List.length v0) + (List.length v6)); (v6 = (bytesAV (tailL v4))) → ∀ v8 : Nat, (v8 = (List.length (bytesAV (tailL v4)))) → (v2 = (List.length v0) ∧ (w0_6 * 1) ≤ 140737488355328 ∧ w0_6 ≤ 9223372036854775807 ∧ (okWidth 1 v0) ∧ (okWidth 1 v6)) ∧ T1 ∧ tt ∧ tt ∧ ((0 < 1 ∧ (bytesAV (sealL (bytesL xs))) = (@catL AV v0 v6) ∧ w0_6 = (List.length (@catL AV v0 v6))) ∧ True) ∧ tt)) : inSeal0 xs :=
  Eq.mp (show _ = _ by kernel_rfl) h
theorem vcOpen0 (xs : (List AV)) (h : let q0 := (List.length xs); let q1 := (bytesAV (openV (bytesL xs))); (tt ∧ T1 ∧ T1 ∧ tt ∧ T1 ∧ T1 ∧ T1 ∧ (bif (decide ((q0 : Int) < 4)) then (tt ∧ T1 ∧ T1 ∧ tt ∧ tt ∧ (q1 = [] ∧ (openE (bytesL xs)) = 20 ∧ True) ∧ tt) else (tt ∧ T1 ∧ T1 ∧ T1 ∧ T1 ∧ tt ∧ T1 ∧ T1 ∧ (((0 : Int) ≤ (IntKind.wrap IntKind.i64 ((q0 : Int) - (4 : Int))) ∧ (IntKind.wrap IntKind.i64 ((q0 : Int) - (4 : Int))) ≤ (q0 : Int)) ∧ (okWidth 1 xs)) ∧ T1 ∧ T1 ∧ (((0 : Int) ≤ (IntKind.wrap IntKind.i64 ((q0 : Int) - (4 : Int))) ∧ (IntKind.wrap IntKind.i64 ((q0 : Int) - (4 : Int))) ≤ (q0 : Int)) ∧ (okWidth 1 xs)) ∧ T1 ∧ (T1 ∧ (isParts [(AV.sl (@cutL AV xs 0 (Int.toNat (IntKind.wrap IntKind.i64 ((q0 : Int) - (4 : Int))))) Own.no)])) ∧ ∀ v0 : Int, (v0 = (crcI (flatL [(AV.sl (@cutL AV xs 0 (Int.toNat (IntKind.wrap IntKind.i64 ((q0 : Int) - (4 : Int))))) Own.no)]))) → (T1 ∧ True) ∧ ∀ v2 : (List AV), (v2 = (bytesAV (tailL v0))) → ∀ v4 : Nat, (v4 = (List.length (bytesAV (tailL v0)))) → (T1 ∧ (isBytes (@cutL AV xs (Int.toNat (IntKind.wrap IntKind.i64 ((q0 : Int) - (4 : Int)))) q0)) ∧ (isBytes v2)) ∧ T1 ∧ tt ∧ (bif (Bool.not (@Decidable.decide ((bytesL (@cutL AV xs (Int.toNat (IntKind.wrap IntKind.i64 ((q0 : Int) - (4 : Int)))) q0)) = (bytesL v2)) (@instDecidableEqList.{0} UInt8 instDecidableEqUInt8 (bytesL (@cutL AV xs (Int.toNat (IntKind.wrap IntKind.i64 ((q0 : Int) - (4 : Int)))) q0)) (bytesL v2)))) then (tt ∧ T1 ∧ T1 ∧ tt ∧ tt ∧ (q1 = [] ∧ (openE (bytesL xs)) = 23 ∧ True) ∧ tt) else (tt ∧ T1 ∧ T1 ∧ (((0 : Int) ≤ (IntKind.wrap IntKind.i64 ((q0 : Int) - (4 : Int))) ∧ (IntKind.wrap IntKind.i64 ((q0 : Int) - (4 : Int))) ≤ (q0 : Int)) ∧ (okWidth 1 xs)) ∧ (T1 ∧ (isBytes (@cutL AV xs 0 (Int.toNat (IntKind.wrap IntKind.i64 ((q0 : Int) - (4 : Int)))))) ∧ (List.length (@cutL AV xs 0 (Int.toNat (IntKind.wrap IntKind.i64 ((q0 : Int) - (4 : Int)))))) ≤ 140737488355328) ∧ ∀ v6 : (List AV), (v6 = (@cutL AV xs 0 (Int.toNat (IntKind.wrap IntKind.i64 ((q0 : Int) - (4 : Int)))))) → ∀ v8 : Nat, (v8 = (List.length (@cutL AV xs 0 (Int.toNat (IntKind.wrap IntKind.i64 ((q0 : Int) - (4 : Int))))))) → T1 ∧ T1 ∧ tt ∧ tt ∧ (q1 = v6 ∧ (openE (bytesL xs)) = 0 ∧ True) ∧ tt)))))) : inOpen0 xs :=
  Eq.mp (show _ = _ by kernel_rfl) h
end Go.Proofs.YtpomloangafbkaaGreatDoor
/- The conditions hold: sums that seal and open. -/
namespace Go.Proofs.YtpomloangafbkaaGreatDoor
set_option linter.unusedVariables false
set_option linter.unusedSimpArgs false
open Go.RowKit
set_option maxRecDepth 100000
theorem okEqual0 : OkEqual0 := by
  intro xs ys hq
  refine vcEqual0 xs ys ?_
  simp only [true_and, and_true, forall_eq, eq_self]
  exact ⟨hq.1, hq.2, by by_cases h : bytesL xs = bytesL ys <;> simp [h]⟩
theorem flat_one (l : List UInt8) : flatL [AV.sl (bytesAV l) Own.no] = l := by
  have : partL (AV.sl (bytesAV l) Own.no) = l := bytesL_bytesAV l
  simp [flatL, this]
theorem parts_one (l : List UInt8) : isParts [AV.sl (bytesAV l) Own.no] := by
  intro x hx; simp at hx; subst hx; exact ⟨l, _, rfl⟩
theorem tailL_len (v : Int) : (tailL v).length = 4 := rfl
theorem okSeal0 : OkSeal0 := by
  intro xs hq
  refine vcSeal0 xs ?_
  obtain ⟨hb, hl⟩ := hq
  obtain ⟨l, rfl⟩ := hb.get
  simp only [true_and, and_true, forall_eq, eq_self, bytesL_bytesAV, isBytes_bytesAV, length_bytesAV, flat_one, tailL_len] at hl ⊢
  exact ⟨by omega, parts_one l, ⟨by omega, by omega, by first | exact ⟨okWidth_bytes _, okWidth_bytes _⟩ | exact okWidth_bytes _⟩, by omega, by rw [catL_bytes]; exact ⟨rfl, by rw [length_bytesAV, List.length_append, tailL_len]⟩⟩
theorem cutS (l : List UInt8) (a b : Nat) : cutL (bytesAV l) a b = bytesAV (cutL l a b) := by simp [cutL, bytesAV]
theorem okOpen0 : OkOpen0 := by
  intro xs hq
  refine vcOpen0 xs ?_
  obtain ⟨hb, hl⟩ := hq
  obtain ⟨l, rfl⟩ := hb.get
  simp only [true_and, and_true, forall_eq, eq_self, bytesL_bytesAV, isBytes_bytesAV, length_bytesAV, cutS, flat_one] at hl ⊢
  refine cond_prop (fun h => ?_) fun h => ?_
  · have h' : l.length < 4 := by simp at h; omega
    have ho : openOK l = false := by simp [openOK]; omega
    exact ⟨by simp [openV, ho, bytesAV], by simp [openE, h']⟩
  · have h4 : 4 ≤ l.length := by simp at h; omega
    have ew : IntKind.i64.wrap ((l.length : Int) - 4) = (l.length : Int) - 4 := wrap_i64 (by omega) (by omega)
    rw [ew]
    have et : ((l.length : Int) - 4).toNat = l.length - 4 := by omega
    rw [et]
    have c1 : cutL l 0 (l.length - 4) = bodyL l := by simp [cutL, bodyL]
    have c2 : cutL l (l.length - 4) l.length = l.drop (l.length - 4) := by simp [cutL]
    have hbl : (bodyL l).length ≤ l.length := by simp [bodyL]
    rw [c1, c2]
    refine ⟨⟨⟨by omega, by omega⟩, okWidth_bytes _⟩, ⟨⟨by omega, by omega⟩, okWidth_bytes _⟩, parts_one _, cond_prop (fun h => ?_) fun h => ?_⟩
    · have h2 : ¬ (l.drop (l.length - 4) = tailL (crcI (bodyL l))) := by simpa using h
      have ho : openOK l = false := by simp [openOK, h2]
      have h5 : ¬ l.length < 4 := by omega
      exact ⟨by simp [openV, ho, bytesAV], by simp [openE, h5, ho]⟩
    · have h2 : l.drop (l.length - 4) = tailL (crcI (bodyL l)) := by simpa using h
      have ho : openOK l = true := by simp [openOK, h2, h4]
      have h5 : ¬ l.length < 4 := by omega
      exact ⟨⟨⟨by omega, by omega⟩, okWidth_bytes _⟩, by omega, by simp [openV, ho], by simp [openE, h5, ho]⟩
theorem seal_len (l : List UInt8) : (sealL l).length = l.length + 4 := by simp [sealL, tailL_len]
end Go.Proofs.YtpomloangafbkaaGreatDoor
/- The contracts are met. -/
namespace Go.Proofs.YtpomloangafbkaaGreatDoor
set_option linter.unusedVariables false
set_option linter.unusedSimpArgs false
open Go.RowKit
theorem sndEqual : Sound Tryz.prog (lookΓ gamEqual) := sound_of _ fun p hp => by
  simp [gamEqual] at hp
set_option maxHeartbeats 4000000 in
theorem meetsEqual : Meets Tryz.prog 112 equalF := by
  refine meets_of_awp (Γ := lookΓ gamEqual) (L := fun _ _ => none) sndEqual mixedOrders Tryz.func112 rfl Tryz.call112 ?_
  intro args q r hF hq ho
  unfold equalF at hF
  split at hF
  · cases hF
    exact ⟨by simp only [List.length_cons, List.length_nil]; decide, okEqual0 _ _ hq⟩
  · cases hF
theorem sndSeal : Sound Tryz.prog (lookΓ gamSeal) := sound_of _ fun p hp => by
  simp only [gamSeal, List.mem_cons, List.not_mem_nil, or_false] at hp
  rcases hp with rfl | rfl | rfl
  · exact meetsClone.orNil
  · exact meetsSumOf.orNil
  · exact meetsTail.orNil
set_option maxHeartbeats 4000000 in
theorem meetsSeal : Meets Tryz.prog 84 sealF := by
  refine meets_of_awp (Γ := lookΓ gamSeal) (L := fun _ _ => none) sndSeal mixedOrders Tryz.func84 rfl Tryz.call84 ?_
  intro args q r hF hq ho
  unfold sealF at hF
  split at hF
  · cases hF
    exact ⟨by simp only [List.length_cons, List.length_nil]; decide, okSeal0 _ hq⟩
  · cases hF
theorem sndOpen : Sound Tryz.prog (lookΓ gamOpen) := sound_of _ fun p hp => by
  simp only [gamOpen, List.mem_cons, List.not_mem_nil, or_false] at hp
  rcases hp with rfl | rfl | rfl | rfl
  · exact meetsClone.orNil
  · exact meetsSumOf.orNil
  · exact meetsTail.orNil
  · exact meetsEqual.orNil
set_option maxHeartbeats 4000000 in
theorem meetsOpen : Meets Tryz.prog 85 openF := by
  refine meets_of_awp (Γ := lookΓ gamOpen) (L := fun _ _ => none) sndOpen mixedOrders Tryz.func85 rfl Tryz.call85 ?_
  intro args q r hF hq ho
  unfold openF at hF
  split at hF
  · cases hF
    exact ⟨by simp only [List.length_cons, List.length_nil]; decide, okOpen0 _ hq⟩
  · cases hF
end Go.Proofs.YtpomloangafbkaaGreatDoor
