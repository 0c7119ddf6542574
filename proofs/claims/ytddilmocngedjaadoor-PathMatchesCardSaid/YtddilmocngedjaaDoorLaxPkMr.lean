/- Contracts by content, their conditions, and that they are met: Mr. -/
import Derived.Test.YtddilmocngedjaaDoorPthM
import Derived.Test.YtddilmocngedjaaDoorPathQ
import Derived.Test.YtddilmocngedjaaDoorLaxWrap
import Derived.Test.YtddilmocngedjaaDoorMtD
import Derived.Test.YtddilmocngedjaaDoorLaxPkPth
/- Contracts by content, and the conditions that their code must meet. -/
namespace Go.Proofs.YtddilmocngedjaaDoor
set_option linter.unusedVariables false
set_option linter.unusedSimpArgs false
open Go.RowKit
class HasRec0 where
  n : Nat
set_option linter.unusedSectionVars false
variable [HasRec0]
def recN : Nat := HasRec0.n
def meansRF : Con
  | [.val (.sl l .no), .val (.sl p .no)] => (some (isStrs l ∧ isStrs p ∧ l.length + p.length < recN, ⟨.bool (meansP (strsL l) (strsL p)), none, none⟩))
  | _ => none
def meansSF : Con
  | [.val (.sl l .no), .val (.sl p .no)] => (some (isStrs l ∧ isStrs p ∧ l.length + p.length < recN + 1, ⟨.bool (meansP (strsL l) (strsL p)), none, none⟩))
  | _ => none
class HasRec extends HasRec0 where
  ok : Meets Tryd.prog 18 meansRF
def gamMeansS : List (Nat × Con) := [(18, meansRF.orNil)]
def lpMeansS0 (l : List AV) (p : List AV) : Nat → Option LoopPlan := fun _ => none
def inMeansS0 (l : List AV) (p : List AV) : Prop := awp [] (lpMeansS0 l p) (lookΓ gamMeansS) Tryd.prog Tryd.f18.ntmps 0 (Tryd.f18.body.getD .skip) (entrySt [.val (.sl l .no), .val (.sl p .no)]) (exitQ Tryd.prog Tryd.f18.results.toList [] ⟨.bool (meansP (strsL l) (strsL p)), none, none⟩)
def OkMeansS0 : Prop := ∀ (l : List AV) (p : List AV), isStrs l ∧ isStrs p ∧ l.length + p.length < recN + 1 → inMeansS0 l p
end Go.Proofs.YtddilmocngedjaaDoor
/- What the verification conditions come to: printed by a program of ours (wip/lax/ex/Norm.lean). -/
namespace Go.Proofs.YtddilmocngedjaaDoor
set_option linter.unusedVariables false
open Go.RowKit
set_option linter.unusedSectionVars false
variable [HasRec0]
set_option maxRecDepth 100000
theorem vcMeansS0 (l : (List AV)) (p : (List AV)) (h : let q0 := (List.length l); let q1 := (List.length p); let q2 := (meansP (strsL l) (strsL p)); let q3 := (okRead [Kd.str] (elemAt l 0) 0); let w1_x := (@cutL AV l 1 q0); let w2_x := (@cutL AV p 1 q1); let w0_x := (T1 ∧ (isStrs w1_x) ∧ (isStrs w2_x) ∧ ((List.length w1_x) + (List.length w2_x)) < recN); (tt ∧ T1 ∧ tt ∧ T1 ∧ T1 ∧ T1 ∧ T1 ∧ (bif ((q0 : Int) == 0) then (tt ∧ T1 ∧ T1 ∧ T1 ∧ T1 ∧ tt ∧ tt ∧ (q2 = ((q1 : Int) == 0) ∧ True) ∧ tt) else (tt ∧ T1 ∧ ((0 : Int) ≤ (0 : Int) ∧ (0 : Int) < (q0 : Int) ∧ (okElem 1 l 0)) ∧ q3 ∧ T1 ∧ T1 ∧ (bif (@BEq.beq.{0} (List UInt8) (@List.instBEq.{0} UInt8 (@instBEqOfDecidableEq.{0} UInt8 instDecidableEqUInt8)) (rdStr (elemAt l 0) 0) [(42 : UInt8), 42]) then (tt ∧ T1 ∧ (((0 : Int) ≤ (1 : Int) ∧ (1 : Int) ≤ (q0 : Int)) ∧ (okWidth 1 l)) ∧ T1 ∧ (T1 ∧ (isStrs w1_x) ∧ (isStrs p) ∧ ((List.length w1_x) + q1) < recN) ∧ T1 ∧ (bif (meansP (strsL w1_x) (strsL p)) then (tt ∧ T1 ∧ tt ∧ tt ∧ (q2 = true ∧ True) ∧ tt) else (T1 ∧ T1 ∧ T1 ∧ T1 ∧ (bif (decide ((0 : Int) < (q1 : Int))) then (T1 ∧ T1 ∧ (((0 : Int) ≤ (1 : Int) ∧ (1 : Int) ≤ (q1 : Int)) ∧ (okWidth 1 p)) ∧ (T1 ∧ (isStrs l) ∧ (isStrs w2_x) ∧ (q0 + (List.length w2_x)) < recN) ∧ T1 ∧ T1 ∧ T1 ∧ tt ∧ tt ∧ (q2 = (meansP (strsL l) (strsL w2_x)) ∧ True) ∧ tt) else (false = false ∧ T1 ∧ T1 ∧ tt ∧ tt ∧ (q2 = false ∧ True) ∧ tt))))) else (tt ∧ T1 ∧ T1 ∧ T1 ∧ T1 ∧ (bif ((q1 : Int) == 0) then (tt ∧ T1 ∧ tt ∧ tt ∧ (q2 = false ∧ True) ∧ tt) else (tt ∧ T1 ∧ ((0 : Int) ≤ (0 : Int) ∧ (0 : Int) < (q0 : Int) ∧ (okElem 1 l 0)) ∧ q3 ∧ T1 ∧ T1 ∧ (bif (@BEq.beq.{0} (List UInt8) (@List.instBEq.{0} UInt8 (@instBEqOfDecidableEq.{0} UInt8 instDecidableEqUInt8)) (rdStr (elemAt l 0) 0) [(42 : UInt8)]) then (tt ∧ T1 ∧ T1 ∧ (((0 : Int) ≤ (1 : Int) ∧ (1 : Int) ≤ (q0 : Int)) ∧ (okWidth 1 l)) ∧ T1 ∧ (((0 : Int) ≤ (1 : Int) ∧ (1 : Int) ≤ (q1 : Int)) ∧ (okWidth 1 p)) ∧ w0_x ∧ T1 ∧ T1 ∧ tt ∧ tt ∧ tt ∧ (q2 = (meansP (strsL w1_x) (strsL w2_x)) ∧ True) ∧ tt) else (T1 ∧ ((0 : Int) ≤ (0 : Int) ∧ (0 : Int) < (q0 : Int) ∧ (okElem 1 l 0)) ∧ q3 ∧ T1 ∧ ((0 : Int) ≤ (0 : Int) ∧ (0 : Int) < (q1 : Int) ∧ (okElem 1 p 0)) ∧ (okRead [Kd.str] (elemAt p 0) 0) ∧ T1 ∧ T1 ∧ T1 ∧ (bif (@BEq.beq.{0} (List UInt8) (@List.instBEq.{0} UInt8 (@instBEqOfDecidableEq.{0} UInt8 instDecidableEqUInt8)) (rdStr (elemAt l 0) 0) (rdStr (elemAt p 0) 0)) then (T1 ∧ (((0 : Int) ≤ (1 : Int) ∧ (1 : Int) ≤ (q0 : Int)) ∧ (okWidth 1 l)) ∧ T1 ∧ (((0 : Int) ≤ (1 : Int) ∧ (1 : Int) ≤ (q1 : Int)) ∧ (okWidth 1 p)) ∧ w0_x ∧ T1 ∧ T1 ∧ tt ∧ tt ∧ tt ∧ (q2 = (meansP (strsL w1_x) (strsL w2_x)) ∧ True) ∧ tt) else (false = false ∧ T1 ∧ tt ∧ tt ∧ tt ∧ (q2 = false ∧ True) ∧ tt)))))))))))) : inMeansS0 l p :=
  Eq.mp (show _ = _ by kernel_rfl) h
end Go.Proofs.YtddilmocngedjaaDoor
/- The conditions hold. -/
namespace Go.Proofs.YtddilmocngedjaaDoor
set_option linter.unusedVariables false
set_option linter.unusedSimpArgs false
open Go.RowKit
set_option linter.unusedSectionVars false
variable [HasRec0]

omit [HasRec0] in
theorem cut1_strs (a : List UInt8) (l : List (List UInt8)) : @cutL AV (strsAV (a :: l)) 1 (l.length + 1) = strsAV l := by
  rw [cutL_strs]; simp [cutL]
theorem okMeansS0 : OkMeansS0 := by
  rintro l p ⟨hl, hp, hm⟩
  obtain ⟨l, rfl⟩ := hl.get
  obtain ⟨p, rfl⟩ := hp.get
  rw [length_strsAV, length_strsAV] at hm
  refine vcMeansS0 _ _ ?_
  simp only [true_and, and_true, forall_eq, eq_self, strsL_strsAV, length_strsAV, okWidth_strs, isStrs_strsAV]
  cases l with
  | nil =>
    rw [meansP]
    refine cond_prop (fun h => ?_) fun h => ?_
    · cases p <;> simp; omega
    · simp at h
  | cons a l =>
    simp only [List.length_cons, cut1_strs, length_strsAV, isStrs_strsAV, strsL_strsAV, true_and, and_true] at hm ⊢
    rw [rdStr_strs (l := a :: l) (i := 0) (by simp)]
    have he := okElem_strs (l := a :: l) (i := 0) (by simp)
    have hr := okRead_strs (l := a :: l) (i := 0) (by simp)
    simp only [List.getD_cons_zero]
    refine cond_prop (fun h => (by simp at h; omega)) fun h => ?_
    refine ⟨⟨by omega, by omega, he⟩, hr, cond_prop (fun h1 => ?_) fun h1 => ?_⟩
    · have h1' : a = [42, 42] := by simpa using h1
      cases p with
      | nil =>
        refine ⟨⟨by omega, by omega⟩, by simp at hm ⊢; omega, ?_⟩
        have e : meansP (a :: l) [] = meansP l [] := by rw [meansP]; simp [h1']
        rw [e]
        refine cond_prop (fun h2 => h2) fun h2 => ?_
        refine cond_prop (fun h3 => (by simp at h3)) fun h3 => h2
      | cons x p =>
        have e : meansP (a :: l) (x :: p) = (meansP l (x :: p) || meansP (a :: l) p) := by rw [meansP, if_pos h1']
        simp only [List.length_cons, cut1_strs, length_strsAV, isStrs_strsAV, strsL_strsAV, true_and, and_true] at hm ⊢
        refine ⟨⟨by omega, by omega⟩, by omega, ?_⟩
        rw [e]
        refine cond_prop (fun h2 => by rw [h2]; rfl) fun h2 => ?_
        refine cond_prop (fun h3 => ?_) fun h3 => ?_
        · exact ⟨⟨by omega, by omega⟩, by omega, by rw [h2]; rfl⟩
        · simp at h3
    · have h1' : a ≠ [42, 42] := by simpa using h1
      cases p with
      | nil =>
        have e : meansP (a :: l) [] = false := by rw [meansP]; simp [h1']
        rw [e]
        refine cond_prop (fun h2 => rfl) fun h2 => (by simp at h2)
      | cons x p =>
        have e : meansP (a :: l) (x :: p) = (decide (a = [42] ∨ a = x) && meansP l p) := by rw [meansP, if_neg h1']
        simp only [List.length_cons, cut1_strs, length_strsAV, isStrs_strsAV, strsL_strsAV, true_and, and_true] at hm ⊢
        have he' := okElem_strs (l := x :: p) (i := 0) (by simp)
        have hr' := okRead_strs (l := x :: p) (i := 0) (by simp)
        rw [rdStr_strs (l := x :: p) (i := 0) (by simp), e]
        simp only [List.getD_cons_zero]
        refine cond_prop (fun h => (by simp at h; omega)) fun h => ?_
        refine ⟨⟨by omega, by omega, he⟩, hr, cond_prop (fun h2 => ?_) fun h2 => ?_⟩
        · have h2' : a = [42] := by simpa using h2
          exact ⟨⟨by omega, by omega⟩, ⟨by omega, by omega⟩, by omega, by simp [h2']⟩
        · have h2' : a ≠ [42] := by simpa using h2
          refine ⟨⟨by omega, by omega, he⟩, hr, ⟨by omega, by omega, he'⟩, hr', cond_prop (fun h3 => ?_) fun h3 => ?_⟩
          · have h3' : a = x := by simpa using h3
            exact ⟨⟨by omega, by omega⟩, ⟨by omega, by omega⟩, by omega, by simp [h3']⟩
          · have h3' : a ≠ x := by simpa using h3
            simp [h2', h3']
end Go.Proofs.YtddilmocngedjaaDoor
/- The contracts are met. -/
namespace Go.Proofs.YtddilmocngedjaaDoor
set_option linter.unusedVariables false
set_option linter.unusedSimpArgs false
open Go.RowKit
set_option linter.unusedSectionVars false
variable [HasRec]
theorem meetsMeansR : Meets Tryd.prog 18 meansRF := HasRec.ok
theorem sndMeansS : Sound Tryd.prog (lookΓ gamMeansS) := sound_of _ fun p hp => by
  simp only [gamMeansS, List.mem_cons, List.not_mem_nil, or_false] at hp
  subst hp
  exact meetsMeansR.orNil
set_option maxHeartbeats 4000000 in
theorem meetsMeansS : Meets Tryd.prog 18 meansSF := by
  refine meets_of_awp (Γ := lookΓ gamMeansS) (L := fun _ _ => none) sndMeansS mixedOrders Tryd.func18 rfl Tryd.call18 ?_
  intro args q r hF hq ho
  unfold meansSF at hF
  split at hF
  · cases hF
    exact ⟨by simp only [List.length_cons, List.length_nil]; decide, okMeansS0 _ _ hq⟩
  · cases hF
def meansF : Con
  | [.val (.sl l .no), .val (.sl p .no)] => (some (isStrs l ∧ isStrs p, ⟨.bool (meansP (strsL l) (strsL p)), none, none⟩))
  | _ => none
omit [HasRec] in
theorem meetsMeansAll : ∀ n : Nat, Meets Tryd.prog 18 (@meansRF ⟨n⟩)
  | 0 => by
    refine ⟨Tryd.call18, ?_⟩
    intro args us w GE own d site q r hF hq
    exfalso
    unfold meansRF at hF
    split at hF
    · cases hF
      exact Nat.not_lt_zero _ hq.2.2
    · cases hF
  | n + 1 => @meetsMeansS (@HasRec.mk ⟨n⟩ (meetsMeansAll n))
omit [HasRec] in
theorem meetsMeans : Meets Tryd.prog 18 meansF := by
  refine ⟨Tryd.call18, ?_⟩
  intro args us w GE own d site q r hF hq
  unfold meansF at hF
  split at hF
  · rename_i l p
    cases hF
    exact (meetsMeansAll (l.length + p.length + 1)).calls _ us w GE own d site _ _ rfl ⟨hq.1, hq.2, Nat.lt_succ_self _⟩
  · cases hF
end Go.Proofs.YtddilmocngedjaaDoor
