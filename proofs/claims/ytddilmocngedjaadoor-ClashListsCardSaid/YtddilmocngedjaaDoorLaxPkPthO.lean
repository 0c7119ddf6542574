/- Contracts by content, their conditions, and that they are met: PthO. -/
import Derived.Test.YtddilmocngedjaaDoorLaxPkPth
import Derived.Test.YtddilmocngedjaaDoorPrefix
/- Contracts by content, and the conditions that their code must meet. -/
namespace Go.Proofs.YtddilmocngedjaaDoor
set_option linter.unusedVariables false
set_option linter.unusedSimpArgs false
open Go.RowKit

def aboveF : Con
  | [.val (.str p), .val (.str q)] => (some (p.length ≤ 1000000 ∧ q.length ≤ 1000000, ⟨.bool (aboveP p q), none, none⟩))
  | _ => none
def gamAbove : List (Nat × Con) := [(69, rightF.orNil), (88, hasPrefixF.orNil)]
def lpAbove0 (p q : List UInt8) : Nat → Option LoopPlan := fun _ => none
def inAbove0 (p q : List UInt8) : Prop := awp [] (lpAbove0 p q) (lookΓ gamAbove) Tryd.prog Tryd.f64.ntmps 0 (Tryd.f64.body.getD .skip) (entrySt [.val (.str p), .val (.str q)]) (exitQ Tryd.prog Tryd.f64.results.toList [] ⟨.bool (aboveP p q), none, none⟩)
def OkAbove0 : Prop := ∀ (p q : List UInt8), p.length ≤ 1000000 ∧ q.length ≤ 1000000 → inAbove0 p q
def overlapF : Con
  | [.val (.str p), .val (.str q)] => (some (p.length ≤ 1000000 ∧ q.length ≤ 1000000, ⟨.bool (aboveP p q || aboveP q p), none, none⟩))
  | _ => none
def gamOverlap : List (Nat × Con) := [(64, aboveF.orNil)]
def lpOverlap0 (p q : List UInt8) : Nat → Option LoopPlan := fun _ => none
def inOverlap0 (p q : List UInt8) : Prop := awp [] (lpOverlap0 p q) (lookΓ gamOverlap) Tryd.prog Tryd.f32.ntmps 0 (Tryd.f32.body.getD .skip) (entrySt [.val (.str p), .val (.str q)]) (exitQ Tryd.prog Tryd.f32.results.toList [] ⟨.bool (aboveP p q || aboveP q p), none, none⟩)
def OkOverlap0 : Prop := ∀ (p q : List UInt8), p.length ≤ 1000000 ∧ q.length ≤ 1000000 → inOverlap0 p q
def refAboveF : Con
  | [.val (.str p), .val (.str q)] => (some (p.length ≤ 900000 ∧ q.length ≤ 900000, ⟨.bool (refAboveP p q), none, none⟩))
  | _ => none
def gamRefAbove : List (Nat × Con) := [(15, refRightF.orNil), (67, refPartsF.orNil)]
def lpRefAbove0 (p q : List UInt8) : Nat → Option LoopPlan := fun b => bif Nat.beq b 0 then some (.inv [] (loopAbove (strsAV (partsO p)) (strsAV (partsO q)))) else none
def inRefAbove0 (p q : List UInt8) : Prop := awp [] (lpRefAbove0 p q) (lookΓ gamRefAbove) Tryd.prog Tryd.f61.ntmps 0 (Tryd.f61.body.getD .skip) (entrySt [.val (.str p), .val (.str q)]) (exitQ Tryd.prog Tryd.f61.results.toList [] ⟨.bool (refAboveP p q), none, none⟩)
def OkRefAbove0 : Prop := ∀ (p q : List UInt8), p.length ≤ 900000 ∧ q.length ≤ 900000 → inRefAbove0 p q
def refOverlapF : Con
  | [.val (.str p), .val (.str q)] => (some (p.length ≤ 900000 ∧ q.length ≤ 900000, ⟨.bool (refAboveP p q || refAboveP q p), none, none⟩))
  | _ => none
def gamRefOverlap : List (Nat × Con) := [(61, refAboveF.orNil)]
def lpRefOverlap0 (p q : List UInt8) : Nat → Option LoopPlan := fun _ => none
def inRefOverlap0 (p q : List UInt8) : Prop := awp [] (lpRefOverlap0 p q) (lookΓ gamRefOverlap) Tryd.prog Tryd.f29.ntmps 0 (Tryd.f29.body.getD .skip) (entrySt [.val (.str p), .val (.str q)]) (exitQ Tryd.prog Tryd.f29.results.toList [] ⟨.bool (refAboveP p q || refAboveP q p), none, none⟩)
def OkRefOverlap0 : Prop := ∀ (p q : List UInt8), p.length ≤ 900000 ∧ q.length ≤ 900000 → inRefOverlap0 p q
end Go.Proofs.YtddilmocngedjaaDoor
/- What the verification conditions come to: printed by a program of ours (wip/lax/ex/Norm.lean). -/
namespace Go.Proofs.YtddilmocngedjaaDoor
set_option linter.unusedVariables false
open Go.RowKit
set_option maxRecDepth 100000
theorem vcAbove0 (p : (List UInt8)) (q : (List UInt8)) (h : (tt ∧ T1 ∧ tt ∧ T1 ∧ (T1 ∧ (List.length p) ≤ 1000000) ∧ T1 ∧ (bif (rightP p) then (T1 ∧ (T1 ∧ (List.length q) ≤ 1000000) ∧ T1 ∧ T1 ∧ (bif (rightP q) then (T1 ∧ T1 ∧ T1 ∧ T1 ∧ (bif (@BEq.beq.{0} (List UInt8) (@List.instBEq.{0} UInt8 (@instBEqOfDecidableEq.{0} UInt8 instDecidableEqUInt8)) p q) then (tt ∧ T1 ∧ T1 ∧ tt ∧ tt ∧ ((aboveP p q) = true ∧ True) ∧ tt) else (T1 ∧ T1 ∧ ((List.length p) + 1) ≤ 9223372036854775807 ∧ (T1 ∧ True) ∧ T1 ∧ T1 ∧ T1 ∧ tt ∧ tt ∧ ((aboveP p q) = (@List.isPrefixOf.{0} UInt8 (@instBEqOfDecidableEq.{0} UInt8 instDecidableEqUInt8) (@catL UInt8 p [(47 : UInt8)]) q) ∧ True) ∧ tt))) else (false = false ∧ T1 ∧ tt ∧ tt ∧ ((aboveP p q) = false ∧ True) ∧ tt))) else (false = false ∧ T1 ∧ false = false ∧ T1 ∧ tt ∧ tt ∧ ((aboveP p q) = false ∧ True) ∧ tt)))) : inAbove0 p q :=
  Eq.mp (show _ = _ by kernel_rfl) h
theorem vcOverlap0 (p : (List UInt8)) (q : (List UInt8)) (h : (tt ∧ T1 ∧ tt ∧ T1 ∧ T1 ∧ (T1 ∧ (List.length p) ≤ 1000000 ∧ (List.length q) ≤ 1000000) ∧ T1 ∧ (bif (aboveP p q) then (tt ∧ T1 ∧ tt ∧ tt ∧ ((Bool.or (aboveP p q) (aboveP q p)) = true ∧ True) ∧ tt) else (T1 ∧ T1 ∧ (T1 ∧ (List.length q) ≤ 1000000 ∧ (List.length p) ≤ 1000000) ∧ T1 ∧ T1 ∧ tt ∧ tt ∧ ((Bool.or (aboveP p q) (aboveP q p)) = (aboveP q p) ∧ True) ∧ tt)))) : inOverlap0 p q :=
  Eq.mp (show _ = _ by kernel_rfl) h
theorem vcRefAbove0 (p : (List UInt8)) (q : (List UInt8)) (h : let q0 := (strsAV (partsO p)); let q1 := (strsAV (partsO q)); let q2 := (List.length q0); let w0_x := (tt ∧ T1 ∧ tt ∧ tt ∧ ((refAboveP p q) = false ∧ True) ∧ tt); (tt ∧ T1 ∧ tt ∧ T1 ∧ (T1 ∧ (List.length p) ≤ 900000) ∧ T1 ∧ T1 ∧ (bif (Bool.not (rightP p)) then (tt ∧ tt ∧ T1 ∧ tt ∧ tt ∧ ((refAboveP p q) = false ∧ True) ∧ tt) else (T1 ∧ (T1 ∧ (List.length q) ≤ 900000) ∧ T1 ∧ T1 ∧ (bif (Bool.not (rightP q)) then w0_x else (tt ∧ T1 ∧ (T1 ∧ (List.length p) ≤ 900000) ∧ ∀ v0 : (List AV), (v0 = q0) → ∀ v2 : Int, (v2 = (walkE p)) → T1 ∧ T1 ∧ T1 ∧ T1 ∧ T1 ∧ tt ∧ T1 ∧ (T1 ∧ (List.length q) ≤ 900000) ∧ ∀ v4 : (List AV), (v4 = q1) → ∀ v6 : Int, (v6 = (walkE q)) → T1 ∧ T1 ∧ T1 ∧ T1 ∧ T1 ∧ tt ∧ T1 ∧ T1 ∧ T1 ∧ T1 ∧ T1 ∧ (bif (decide (((List.length v4) : Int) < ((List.length v0) : Int))) then w0_x else (tt ∧ T1 ∧ (@Exists.{1} (loopAbove q0 q1).V (fun (v8 : Nat) => ((((AV.sl v0 Own.no) = (AV.sl q0 Own.no) ∧ (AV.sl v4 Own.no) = (AV.sl q1 Own.no) ∧ (AV.int IntKind.i64 0) = (AV.int IntKind.i64 (v8 : Int)) ∧ True) ∧ T1 ∧ T1 ∧ tt ∧ tt) ∧ v8 ≤ q2 ∧ q2 ≤ (List.length q1) ∧ (@List.take.{0} (List UInt8) v8 (strsL q0)) = (@List.take.{0} (List UInt8) v8 (strsL q1))))) ∧ ∀ v8 : Nat, (v8 ≤ q2 ∧ q2 ≤ (List.length q1) ∧ (@List.take.{0} (List UInt8) v8 (strsL q0)) = (@List.take.{0} (List UInt8) v8 (strsL q1))) → tt ∧ T1 ∧ T1 ∧ T1 ∧ T1 ∧ (bif (decide ((v8 : Int) < (q2 : Int))) then (tt ∧ T1 ∧ T1 ∧ ((0 : Int) ≤ (v8 : Int) ∧ (v8 : Int) < (q2 : Int) ∧ (okElem 1 q0 (Int.toNat (v8 : Int)))) ∧ (okRead [Kd.str] (elemAt q0 (Int.toNat (v8 : Int))) 0) ∧ T1 ∧ T1 ∧ ((0 : Int) ≤ (v8 : Int) ∧ (v8 : Int) < ((List.length q1) : Int) ∧ (okElem 1 q1 (Int.toNat (v8 : Int)))) ∧ (okRead [Kd.str] (elemAt q1 (Int.toNat (v8 : Int))) 0) ∧ T1 ∧ tt ∧ (bif (Bool.not (@BEq.beq.{0} (List UInt8) (@List.instBEq.{0} UInt8 (@instBEqOfDecidableEq.{0} UInt8 instDecidableEqUInt8)) (rdStr (elemAt q0 (Int.toNat (v8 : Int))) 0) (rdStr (elemAt q1 (Int.toNat (v8 : Int))) 0))) then w0_x else (tt ∧ T1 ∧ T1 ∧ T1 ∧ (@Exists.{1} (loopAbove q0 q1).V (fun (v10 : Nat) => ((((AV.sl q0 Own.no) = (AV.sl q0 Own.no) ∧ (AV.sl q1 Own.no) = (AV.sl q1 Own.no) ∧ (AV.int IntKind.i64 (IntKind.wrap IntKind.i64 ((v8 : Int) + (1 : Int)))) = (AV.int IntKind.i64 (v10 : Int)) ∧ True) ∧ T1 ∧ T1 ∧ tt ∧ tt) ∧ (v10 ≤ q2 ∧ q2 ≤ (List.length q1) ∧ (@List.take.{0} (List UInt8) v10 (strsL q0)) = (@List.take.{0} (List UInt8) v10 (strsL q1))) ∧ (q2 - v10) < (q2 - v8))))))) else (tt ∧ T1 ∧ tt ∧ tt ∧ ((refAboveP p q) = true ∧ True) ∧ tt)))))))))) : inRefAbove0 p q :=
  Eq.mp (show _ = _ by kernel_rfl) h
theorem vcRefOverlap0 (p : (List UInt8)) (q : (List UInt8)) (h : (tt ∧ T1 ∧ tt ∧ T1 ∧ T1 ∧ (T1 ∧ (List.length p) ≤ 900000 ∧ (List.length q) ≤ 900000) ∧ T1 ∧ (bif (refAboveP p q) then (tt ∧ T1 ∧ tt ∧ tt ∧ ((Bool.or (refAboveP p q) (refAboveP q p)) = true ∧ True) ∧ tt) else (T1 ∧ T1 ∧ (T1 ∧ (List.length q) ≤ 900000 ∧ (List.length p) ≤ 900000) ∧ T1 ∧ T1 ∧ tt ∧ tt ∧ ((Bool.or (refAboveP p q) (refAboveP q p)) = (refAboveP q p) ∧ True) ∧ tt)))) : inRefOverlap0 p q :=
  Eq.mp (show _ = _ by kernel_rfl) h
end Go.Proofs.YtddilmocngedjaaDoor
/- What lies above, and overlaps: the conditions hold. -/
namespace Go.Proofs.YtddilmocngedjaaDoor
set_option linter.unusedVariables false
set_option linter.unusedSimpArgs false
open Go.RowKit
set_option maxRecDepth 100000
theorem okAbove0 : OkAbove0 := by
  intro p q hq
  refine vcAbove0 p q ?_
  simp only [true_and, and_true, forall_eq, eq_self]
  refine ⟨hq.1, cond_prop (fun h => ⟨hq.2, cond_prop (fun h2 => cond_prop (fun h3 => ?_) fun h3 => ?_) fun h2 => ?_⟩) fun h => ?_⟩
  · simp [aboveP, h, h2, eq_of_beq h3]
  · refine ⟨by omega, ?_⟩
    have : p ≠ q := by simpa using h3
    simp [aboveP, h, h2, this, catL]
  · simp [aboveP, h2]
  · simp [aboveP, h]
theorem okOverlap0 : OkOverlap0 := by
  intro p q hq
  refine vcOverlap0 p q ?_
  simp only [true_and, and_true, forall_eq, eq_self]
  exact ⟨hq, cond_prop (fun h => by rw [h]; rfl) fun h => ⟨⟨hq.2, hq.1⟩, by rw [h]; rfl⟩⟩
theorem okRefAbove0 : OkRefAbove0 := by
  intro p q hq
  refine vcRefAbove0 p q ?_
  simp only [true_and, and_true, forall_eq, eq_self, length_strsAV, strsL_strsAV, isStrs_strsAV]
  refine ⟨hq.1, cond_prop (fun h => ?_) fun h => ⟨hq.2, cond_prop (fun h2 => ?_) fun h2 => ⟨hq.1, hq.2, cond_prop (fun h3 => ?_) fun h3 => ⟨⟨(0 : Nat), rfl, by omega, ?_, by simp⟩, ?_⟩⟩⟩⟩
  · have h' : rightP p = false := by simpa using h
    simp [refAboveP, h']
  · have h' : rightP q = false := by simpa using h2
    simp [refAboveP, h']
  · have h4 : (partsO q).length < (partsO p).length := by simp at h3; omega
    have : (partsO p).isPrefixOf (partsO q) = false := by
      cases hp : (partsO p).isPrefixOf (partsO q) with
      | false => rfl
      | true =>
        have := (List.isPrefixOf_iff_prefix.1 hp).length_le
        omega
    simp [refAboveP, this]
  · simp at h3; omega
  · have hlen : (partsO p).length ≤ (partsO q).length := by simp at h3; omega
    have r1 : rightP p = true := by simpa using h
    have r2 : rightP q = true := by simpa using h2
    rintro i ⟨hi, _, ht⟩
    have hpo := partsO_len p
    refine cond_prop (fun h4 => ?_) fun h4 => ?_
    · have hlt : i < (partsO p).length := by simpa using h4
      have hlt2 : i < (partsO q).length := by omega
      rw [show ((i : Int)).toNat = i from by omega, rdStr_strs hlt, rdStr_strs hlt2]
      refine ⟨⟨by omega, by omega, okElem_strs hlt⟩, okRead_strs hlt, ⟨by omega, by omega, okElem_strs hlt2⟩, okRead_strs hlt2, cond_prop (fun h5 => ?_) fun h5 => ⟨(i + 1 : Nat), ?_, ⟨by omega, hlen, ?_⟩, by omega⟩⟩
      · have hne : (partsO p).getD i [] ≠ (partsO q).getD i [] := by simpa using h5
        have : (partsO p).isPrefixOf (partsO q) = false := by
          rw [prefix_iff_take hlen]
          simp only [decide_eq_false_iff_not]
          intro e
          apply hne
          rw [List.getD_eq_getElem?_getD, List.getD_eq_getElem?_getD]
          conv => lhs; rw [e]
          rw [List.getElem?_take, if_pos hlt]
        simp [refAboveP, this]
      · rw [wrap_i64 (by omega) (by omega)]; rfl
      · have he : (partsO p).getD i [] = (partsO q).getD i [] := by simpa using h5
        rw [List.take_succ_eq_append_getElem hlt, List.take_succ_eq_append_getElem hlt2, ht]
        simp [List.getD_eq_getElem?_getD, List.getElem?_eq_getElem hlt, List.getElem?_eq_getElem hlt2] at he
        rw [he]
    · have hge : ¬ i < (partsO p).length := by simpa using h4
      have hi' : i = (partsO p).length := by omega
      subst hi'
      rw [List.take_of_length_le (Nat.le_refl _)] at ht
      have : (partsO p).isPrefixOf (partsO q) = true := by
        rw [prefix_iff_take hlen]; simp only [decide_eq_true_eq]; exact ht
      simp [refAboveP, r1, r2, this]
theorem okRefOverlap0 : OkRefOverlap0 := by
  intro p q hq
  refine vcRefOverlap0 p q ?_
  simp only [true_and, and_true, forall_eq, eq_self]
  exact ⟨hq, cond_prop (fun h => by rw [h]; rfl) fun h => ⟨⟨hq.2, hq.1⟩, by rw [h]; rfl⟩⟩
theorem above_ref (p q : List UInt8) : aboveP p q = refAboveP p q := by
  unfold aboveP refAboveP
  cases h1 : rightP p with
  | false => rfl
  | true =>
    cases h2 : rightP q with
    | false => rfl
    | true =>
      obtain ⟨a, ha⟩ := (rightP_iff p).1 h1
      obtain ⟨b, hb⟩ := (rightP_iff q).1 h2
      have e1 : partsO p = a := by simp [partsO, ha.parts]
      have e2 : partsO q = b := by simp [partsO, hb.parts]
      rw [e1, e2, Bool.true_and, Bool.true_and, Bool.true_and, Bool.eq_iff_iff]
      simp only [Bool.or_eq_true, decide_eq_true_eq, List.isPrefixOf_iff_prefix]
      exact above_iff ha hb
end Go.Proofs.YtddilmocngedjaaDoor
/- The contracts are met. -/
namespace Go.Proofs.YtddilmocngedjaaDoor
set_option linter.unusedVariables false
set_option linter.unusedSimpArgs false
open Go.RowKit
theorem sndAbove : Sound Tryd.prog (lookΓ gamAbove) := sound_of _ fun p hp => by
  simp only [gamAbove, List.mem_cons, List.not_mem_nil, or_false] at hp
  rcases hp with rfl | rfl
  · exact meetsRight.orNil
  · exact meetsHasPrefix.orNil
set_option maxHeartbeats 4000000 in
theorem meetsAbove : Meets Tryd.prog 64 aboveF := by
  refine meets_of_awp (Γ := lookΓ gamAbove) (L := fun _ _ => none) sndAbove mixedOrders Tryd.func64 rfl Tryd.call64 ?_
  intro args q r hF hq ho
  unfold aboveF at hF
  split at hF
  · cases hF
    exact ⟨by simp only [List.length_cons, List.length_nil]; decide, okAbove0 _ _ hq⟩
  · cases hF
theorem sndOverlap : Sound Tryd.prog (lookΓ gamOverlap) := sound_of _ fun p hp => by
  simp only [gamOverlap, List.mem_cons, List.not_mem_nil, or_false] at hp
  subst hp
  exact meetsAbove.orNil
set_option maxHeartbeats 4000000 in
theorem meetsOverlap : Meets Tryd.prog 32 overlapF := by
  refine meets_of_awp (Γ := lookΓ gamOverlap) (L := fun _ _ => none) sndOverlap mixedOrders Tryd.func32 rfl Tryd.call32 ?_
  intro args q r hF hq ho
  unfold overlapF at hF
  split at hF
  · cases hF
    exact ⟨by simp only [List.length_cons, List.length_nil]; decide, okOverlap0 _ _ hq⟩
  · cases hF
theorem sndRefAbove : Sound Tryd.prog (lookΓ gamRefAbove) := sound_of _ fun p hp => by
  simp only [gamRefAbove, List.mem_cons, List.not_mem_nil, or_false] at hp
  rcases hp with rfl | rfl
  · exact meetsRefRight.orNil
  · exact meetsRefParts.orNil
set_option maxHeartbeats 4000000 in
theorem meetsRefAbove : Meets Tryd.prog 61 refAboveF := by
  refine meets_of_awp (Γ := lookΓ gamRefAbove) (L := fun args => match args with | [.val (.str p), .val (.str q)] => lpRefAbove0 p q | _ => fun _ => none) sndRefAbove mixedOrders Tryd.func61 rfl Tryd.call61 ?_
  intro args q r hF hq ho
  unfold refAboveF at hF
  split at hF
  · cases hF
    exact ⟨by simp only [List.length_cons, List.length_nil]; decide, okRefAbove0 _ _ hq⟩
  · cases hF
theorem sndRefOverlap : Sound Tryd.prog (lookΓ gamRefOverlap) := sound_of _ fun p hp => by
  simp only [gamRefOverlap, List.mem_cons, List.not_mem_nil, or_false] at hp
  subst hp
  exact meetsRefAbove.orNil
set_option maxHeartbeats 4000000 in
theorem meetsRefOverlap : Meets Tryd.prog 29 refOverlapF := by
  refine meets_of_awp (Γ := lookΓ gamRefOverlap) (L := fun _ _ => none) sndRefOverlap mixedOrders Tryd.func29 rfl Tryd.call29 ?_
  intro args q r hF hq ho
  unfold refOverlapF at hF
  split at hF
  · cases hF
    exact ⟨by simp only [List.length_cons, List.length_nil]; decide, okRefOverlap0 _ _ hq⟩
  · cases hF
end Go.Proofs.YtddilmocngedjaaDoor
