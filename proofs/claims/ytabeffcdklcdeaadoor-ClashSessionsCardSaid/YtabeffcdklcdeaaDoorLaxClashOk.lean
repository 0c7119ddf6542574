/- The conditions of clashes hold. -/
import Derived.Test.YtabeffcdklcdeaaDoorLaxClashVc
namespace Go.Proofs.YtabeffcdklcdeaaDoor
set_option linter.unusedVariables false
set_option linter.unusedSimpArgs false
open Go.RowKit
set_option maxRecDepth 100000

theorem footV_len {c : CmdP} (h : c.foot.length ≤ 900000 ∧ c.path.length ≤ 900000) : (footV c).length ≤ 900000 := by
  unfold footV
  split
  · split
    · exact h.2
    · exact h.1
  · simp
theorem overP_comm (p q : List UInt8) : overP p q = overP q p := by unfold overP; exact Bool.or_comm _ _
theorem clashC_comm (a b : CmdP) : clashC a b = clashC b a := by
  unfold clashC
  rw [overP_comm (footV a) (footV b), Bool.and_comm (footOK a) (footOK b)]
  have : decide (a.num = b.num) = decide (b.num = a.num) := by rw [Bool.eq_iff_iff]; simp [eq_comm]
  rw [this]
theorem clashC_self (a : CmdP) : clashC a a = footOK a := by
  unfold clashC
  simp
theorem right_facts {c : CmdP} (h : rightC c = true) : okK c.k = true ∧ (hP c.k = true ∨ c.path = []) ∧ (hP c.k = true → rightP c.path = true) ∧ (hS c.k = true → rightP c.foot = true) := by
  unfold rightC at h
  simp only [Bool.and_eq_true, Bool.or_eq_true, Bool.not_eq_true', decide_eq_true_eq] at h
  obtain ⟨⟨⟨⟨⟨⟨⟨⟨⟨⟨⟨⟨⟨a1, a2⟩, a3⟩, a4⟩, a5⟩, a6⟩, a7⟩, a8⟩, a9⟩, b1⟩, b2⟩, b3⟩, b4⟩, b5⟩ := h
  refine ⟨a1, a4, fun h => ?_, fun h => ?_⟩
  · rcases b1 with h' | h'
    · rw [h] at h'; cases h'
    · exact h'
  · rcases a8 with h' | h'
    · rw [h] at h'; cases h'
    · exact h'
theorem footOK_right {c : CmdP} (h : rightC c = true) : footOK c = (c.k != 0) := by
  have h1 := (right_facts h).1
  unfold footOK
  rw [h, Bool.true_and, Bool.eq_iff_iff]
  unfold hS
  unfold okK at h1
  simp only [Bool.and_eq_true, decide_eq_true_eq] at h1
  simp only [Bool.and_eq_true, decide_eq_true_eq, bne_iff_ne, ne_eq]
  omega
theorem footOK_wrong {c : CmdP} (h : rightC c = false) : footOK c = false := by unfold footOK; rw [h]; rfl
theorem over_above (p q : List UInt8) : (aboveP p q || aboveP q p) = overP p q := by unfold overP; rw [above_ref, above_ref]
theorem tab_path (k : Int) (h : 0 ≤ k ∧ k ≤ 8) : rdBool (.agg hasAV) (k.toNat * 6 + 1 + 1) = hP k := by
  have hk : k = 0 ∨ k = 1 ∨ k = 2 ∨ k = 3 ∨ k = 4 ∨ k = 5 ∨ k = 6 ∨ k = 7 ∨ k = 8 := by omega
  rcases hk with rfl | rfl | rfl | rfl | rfl | rfl | rfl | rfl | rfl <;> rfl
theorem okRfoot0 : OkRfoot0 := by
  intro k num foot rq path mode n time hq
  refine vcRfoot0 k num foot rq path mode n time ?_
  simp only [true_and, and_true, forall_eq, eq_self]
  have e1 : footV ⟨k, num, foot, rq, path, mode, n, time⟩ = if rightC ⟨k, num, foot, rq, path, mode, n, time⟩ then (if hP k then path else foot) else [] := rfl
  refine ⟨hq, cond_prop (fun h => ?_) fun h => ?_⟩
  · have h' : rightC ⟨k, num, foot, rq, path, mode, n, time⟩ = false := by simpa using h
    rw [e1, h', footOK_wrong h']; exact ⟨rfl, rfl⟩
  have h' : rightC ⟨k, num, foot, rq, path, mode, n, time⟩ = true := by simpa using h
  have f := right_facts h'
  have e2 := footOK_right h'
  have hk : 0 ≤ k ∧ k ≤ 8 := by
    have := f.1
    unfold okK at this
    simpa using this
  rw [e1, h', e2]
  refine cond_prop (fun h0 => ?_) fun h0 => ?_
  · have hk0 : k = 0 := by simpa using h0
    subst hk0
    have hf : foot = [] := by
      unfold rightC at h'
      simp only [Bool.and_eq_true] at h'
      have := h'.1.1.1.1.1.1.1.1.1.1.1.1.2
      simp [hS] at this
      exact this.2
    rw [hf]; exact ⟨rfl, rfl⟩
  · have hk0 : ¬ k = 0 := by simpa using h0
    refine ⟨⟨by omega, by omega, by omega, tab_read _ (by omega)⟩, ⟨by omega, by omega, by omega⟩, ?_⟩
    have hn : (k != 0) = true := by simp [hk0]
    have tp := tab_path k hk
    refine cond_prop (fun h3 => ?_) fun h3 => ?_
    · have h4 : hP k = true := tp.symm.trans h3
      simp [h4, hk0]
    · have h4 : hP k = false := tp.symm.trans h3
      simp [h4, hk0]
theorem okRclash0 : OkRclash0 := by
  intro k num foot rq path mode n time k2 num2 foot2 rq2 path2 mode2 n2 time2 hq
  refine vcRclash0 k num foot rq path mode n time k2 num2 foot2 rq2 path2 mode2 n2 time2 ?_
  simp only [true_and, and_true, forall_eq, eq_self]
  have fa := footV_len (c := ⟨k, num, foot, rq, path, mode, n, time⟩) ⟨hq.1, hq.2.1⟩
  have fb := footV_len (c := ⟨k2, num2, foot2, rq2, path2, mode2, n2, time2⟩) ⟨hq.2.2.1, hq.2.2.2⟩
  have e : clashC ⟨k, num, foot, rq, path, mode, n, time⟩ ⟨k2, num2, foot2, rq2, path2, mode2, n2, time2⟩ = (footOK ⟨k, num, foot, rq, path, mode, n, time⟩ && footOK ⟨k2, num2, foot2, rq2, path2, mode2, n2, time2⟩ && (decide (num = num2) || overP (footV ⟨k, num, foot, rq, path, mode, n, time⟩) (footV ⟨k2, num2, foot2, rq2, path2, mode2, n2, time2⟩))) := rfl
  rw [e]
  generalize (⟨k, num, foot, rq, path, mode, n, time⟩ : CmdP) = A at *
  generalize (⟨k2, num2, foot2, rq2, path2, mode2, n2, time2⟩ : CmdP) = B at *
  refine ⟨⟨hq.1, hq.2.1⟩, ⟨hq.2.2.1, hq.2.2.2⟩, cond_prop (fun h => ?_) fun h => cond_prop (fun h2 => ?_) fun h2 => cond_prop (fun h3 => ?_) fun h3 => ⟨⟨fa, fb⟩, ?_⟩⟩
  · simp at h; simp [h]
  · simp at h2; simp [h2]
  · simp at h h2 h3; simp [h, h2, h3]
  · simp at h h2 h3; simp [h, h2, h3, overP]
theorem okOf080 : OkOf080 := by
  intro k num foot rq path mode n time hq
  refine vcOf080 k num foot rq path mode n time ?_
  simp only [true_and, and_true, forall_eq, eq_self]
theorem okSmall080 : OkSmall080 := by
  intro k num foot rq path mode n time hq
  refine vcSmall080 k num foot rq path mode n time ?_
  simp only [true_and, and_true, forall_eq, eq_self]
  have e1 : decide ((path.length : Int) < 200) = decide (path.length < 200) := by rw [Bool.eq_iff_iff]; simp; omega
  have e2 : decide ((foot.length : Int) < 200) = decide (foot.length < 200) := by rw [Bool.eq_iff_iff]; simp; omega
  rw [e1, e2]
  exact cond_prop (fun h => by rw [h, Bool.true_and]) fun h => by rw [h, Bool.false_and]
theorem okKeyOf0 : OkKeyOf0 := by
  intro k num foot rq path mode n time hq
  refine vcKeyOf0 k num foot rq path mode n time ?_
  simp only [true_and, and_true, forall_eq, eq_self]
  generalize (⟨k, num, foot, rq, path, mode, n, time⟩ : CmdP) = A at *
  refine ⟨hq, ?_⟩
  cases footOK A <;> simp
theorem okKeyClash0 : OkKeyClash0 := by
  intro p a q b hq
  refine vcKeyClash0 p a q b ?_
  simp only [true_and, and_true, forall_eq, eq_self, over_above]
  refine cond_prop (fun h => ?_) fun h => ⟨⟨by omega, by omega⟩, ?_⟩
  · simp at h; simp [h]
  · simp at h; simp [h]
theorem okClash0 : OkClash0 := by
  intro k num foot rq path mode n time k2 num2 foot2 rq2 path2 mode2 n2 time2 hq
  refine vcClash0 k num foot rq path mode n time k2 num2 foot2 rq2 path2 mode2 n2 time2 ?_
  simp only [true_and, and_true, forall_eq, eq_self]
  have fa := footV_len (c := ⟨k, num, foot, rq, path, mode, n, time⟩) ⟨hq.1, hq.2.1⟩
  have fb := footV_len (c := ⟨k2, num2, foot2, rq2, path2, mode2, n2, time2⟩) ⟨hq.2.2.1, hq.2.2.2⟩
  have e : clashC ⟨k, num, foot, rq, path, mode, n, time⟩ ⟨k2, num2, foot2, rq2, path2, mode2, n2, time2⟩ = (footOK ⟨k, num, foot, rq, path, mode, n, time⟩ && footOK ⟨k2, num2, foot2, rq2, path2, mode2, n2, time2⟩ && (decide (num = num2) || overP (footV ⟨k, num, foot, rq, path, mode, n, time⟩) (footV ⟨k2, num2, foot2, rq2, path2, mode2, n2, time2⟩))) := rfl
  rw [e]
  generalize (⟨k, num, foot, rq, path, mode, n, time⟩ : CmdP) = A at *
  generalize (⟨k2, num2, foot2, rq2, path2, mode2, n2, time2⟩ : CmdP) = B at *
  refine ⟨⟨hq.1, hq.2.1⟩, ⟨hq.2.2.1, hq.2.2.2⟩, ?_⟩
  cases hA : footOK A <;> cases hB : footOK B <;> simp [fa, fb]
theorem okAnchor080 : OkAnchor080 := by
  intro hq
  refine vcAnchor080 ?_
  have e1 : clashC ⟨2, 1, [97], 1, [], 0, 0, 0⟩ ⟨4, 2, [97, 47, 98], 1, [97, 47, 98], 2, 0, 0⟩ = true := by decide +kernel
  have e2 : clashC ⟨4, 2, [97, 47, 98], 1, [97, 47, 98], 2, 0, 0⟩ ⟨2, 3, [98], 1, [], 0, 0, 0⟩ = false := by decide +kernel
  simp only [true_and, and_true, forall_eq, eq_self, e1, e2, cond_true, Bool.not_false]
  omega
theorem okLawPairs0 : OkLawPairs0 := by
  intro k num foot rq path mode n time k2 num2 foot2 rq2 path2 mode2 n2 time2 hq
  refine vcLawPairs0 k num foot rq path mode n time k2 num2 foot2 rq2 path2 mode2 n2 time2 ?_
  simp only [true_and, and_true, forall_eq, eq_self]
  have r1 := @footOK_right ⟨k, num, foot, rq, path, mode, n, time⟩
  have r2 := @footOK_wrong ⟨k, num, foot, rq, path, mode, n, time⟩
  have e1 := clashC_comm ⟨k2, num2, foot2, rq2, path2, mode2, n2, time2⟩ ⟨k, num, foot, rq, path, mode, n, time⟩
  have e2 := clashC_self ⟨k, num, foot, rq, path, mode, n, time⟩
  rw [e1, e2]
  simp only [beq_self_eq_true, cond_true]
  refine ⟨by omega, cond_prop (fun _ => trivial) fun h => ⟨by omega, cond_prop (fun _ => trivial) fun h2 => ?_⟩⟩
  simp at h h2
  refine ⟨by omega, by omega, by omega, by omega, by omega, by omega, cond_prop (fun h3 => ?_) fun h3 => ?_⟩
  · rw [r1 h3]; simp
  · rw [r2 h3]; rfl
theorem okLawKeys0 : OkLawKeys0 := by
  intro k num foot rq path mode n time p a q b hq
  refine vcLawKeys0 k num foot rq path mode n time p a q b ?_
  simp only [true_and, and_true, forall_eq, eq_self]
  generalize (⟨k, num, foot, rq, path, mode, n, time⟩ : CmdP) = A at *
  refine ⟨by omega, cond_prop (fun _ => trivial) fun h => cond_prop (fun _ => trivial) fun h2 => cond_prop (fun _ => trivial) fun h3 => ?_⟩
  simp at h h2 h3
  have o1 : (refAboveP p q || refAboveP q p) = overP p q := rfl
  have o2 : overP q p = overP p q := overP_comm q p
  have o3 : decide (b = a) = decide (a = b) := by rw [Bool.eq_iff_iff]; simp [eq_comm]
  rw [o1, o2, o3]
  have b1 : p.length ≤ 900000 := by omega
  have b2 : q.length ≤ 900000 := by omega
  have b3 : foot.length ≤ 900000 := by omega
  have b4 : path.length ≤ 900000 := by omega
  simp only [b1, b2, b3, b4, true_and]
  by_cases hab : a = b
  · cases footOK A <;> simp [hab]
  · cases footOK A <;> simp [hab]
theorem okLawSessions0 : OkLawSessions0 := by
  intro k num foot rq path mode n time k2 num2 foot2 rq2 path2 mode2 n2 time2 hq
  refine vcLawSessions0 k num foot rq path mode n time k2 num2 foot2 rq2 path2 mode2 n2 time2 ?_
  simp only [true_and, and_true, forall_eq, eq_self]
  refine ⟨by omega, cond_prop (fun _ => trivial) fun h => ⟨by omega, cond_prop (fun _ => trivial) fun h2 => ?_⟩⟩
  simp at h h2
  have b1 : foot2.length ≤ 900000 := by omega
  have b2 : path2.length ≤ 900000 := by omega
  have b3 : foot.length ≤ 900000 := by omega
  have b4 : path.length ≤ 900000 := by omega
  have b5 : path.length + 2 ≤ 9223372036854775807 := by omega
  have b6 : (catL path [47, 120]).length ≤ 900000 := by simp [catL]; omega
  simp only [b1, b2, b3, b4, b5, b6, true_and]
  refine cond_prop (fun _ => trivial) fun h3 => cond_prop (fun _ => trivial) fun h4 => ?_
  have rA : rightC ⟨k, num, foot, rq, path, mode, n, time⟩ = true := by simpa using h3
  have fA := right_facts rA
  have hp : hP k = true := by
    rcases fA.2.1 with h5 | h5
    · exact h5
    · have h5' : path = [] := h5
      rw [h5'] at h4; simp at h4
  have okA : footOK ⟨k, num, foot, rq, path, mode, n, time⟩ = true := by
    have : hS k = true := by unfold hP at hp; unfold hS; simp only [Bool.and_eq_true, decide_eq_true_eq] at hp ⊢; omega
    unfold footOK; rw [rA]; exact this
  have vA : footV ⟨k, num, foot, rq, path, mode, n, time⟩ = path := by unfold footV; rw [if_pos rA]; exact if_pos hp
  have T : (k2 = 2 ∨ k2 = 8) → rightC ⟨k2, num2, foot2, rq2, path2, mode2, n2, time2⟩ = true →
      clashC ⟨k, num, foot, rq, path, mode, n, time⟩ ⟨k2, num2, foot2, rq2, path2, mode2, n2, time2⟩ = (decide (num = num2) || overP path foot2) ∧ (rightP (catL path [47, 120]) = true → refAboveP foot2 (catL path [47, 120]) = true → overP path foot2 = true) := by
    intro hk rB
    have hp2 : hP k2 = false := by rcases hk with rfl | rfl <;> rfl
    have hs2 : hS k2 = true := by rcases hk with rfl | rfl <;> rfl
    have okB : footOK ⟨k2, num2, foot2, rq2, path2, mode2, n2, time2⟩ = true := by unfold footOK; rw [rB]; exact hs2
    have vB : footV ⟨k2, num2, foot2, rq2, path2, mode2, n2, time2⟩ = foot2 := by
      unfold footV; rw [if_pos rB]; exact if_neg (by show ¬ hP k2 = true; rw [hp2]; simp)
    refine ⟨?_, fun g1 g2 => ?_⟩
    · unfold clashC
      rw [okA, okB, vA, vB]; rfl
    · have q1 := rightP_parts (fA.2.2.1 hp)
      have q2 := rightP_parts ((right_facts rB).2.2.2 hs2)
      have q3 := rightP_parts g1
      have e : partsV (catL path [47, 120]) = partsV path ++ [[120]] := by
        have h6 := q3.segs
        have : catL path [47, 120] = path ++ 47 :: [120] := rfl
        rw [this, segs_app, q1.segs, segs_plain (x := [120]) (by decide)] at h6
        exact h6.symm
      rw [← above_ref] at g2
      have g3 := (above_path q2 q3).1 g2
      rw [e] at g3
      unfold overP
      rw [← above_ref, ← above_ref, Bool.or_eq_true, above_path q1 q2, above_path q2 q1]
      rcases List.prefix_concat_iff.1 g3 with g4 | g4
      · left; exact ⟨[[120]], by simpa using g4.symm⟩
      · right; exact g4
  have W : (k2 = 2 ∨ k2 = 8) → bif !rightC ⟨k2, num2, foot2, rq2, path2, mode2, n2, time2⟩ then True else
      bif !refAboveP foot path then True else
      bif rightP (catL path [47, 120]) then
        bif refAboveP (catL path [47, 120]) foot2 || refAboveP foot2 (catL path [47, 120]) then
          bif refAboveP foot2 (catL path [47, 120]) then
            bif !clashC ⟨k, num, foot, rq, path, mode, n, time⟩ ⟨k2, num2, foot2, rq2, path2, mode2, n2, time2⟩ then true = false
            else bif num == num2 then true = (clashC ⟨k, num, foot, rq, path, mode, n, time⟩ ⟨k2, num2, foot2, rq2, path2, mode2, n2, time2⟩ == true) else true = (clashC ⟨k, num, foot, rq, path, mode, n, time⟩ ⟨k2, num2, foot2, rq2, path2, mode2, n2, time2⟩ == (refAboveP path foot2 || refAboveP foot2 path))
          else bif num == num2 then true = (clashC ⟨k, num, foot, rq, path, mode, n, time⟩ ⟨k2, num2, foot2, rq2, path2, mode2, n2, time2⟩ == true) else true = (clashC ⟨k, num, foot, rq, path, mode, n, time⟩ ⟨k2, num2, foot2, rq2, path2, mode2, n2, time2⟩ == (refAboveP path foot2 || refAboveP foot2 path))
        else bif num == num2 then true = (clashC ⟨k, num, foot, rq, path, mode, n, time⟩ ⟨k2, num2, foot2, rq2, path2, mode2, n2, time2⟩ == true) else true = (clashC ⟨k, num, foot, rq, path, mode, n, time⟩ ⟨k2, num2, foot2, rq2, path2, mode2, n2, time2⟩ == (refAboveP path foot2 || refAboveP foot2 path))
      else bif num == num2 then true = (clashC ⟨k, num, foot, rq, path, mode, n, time⟩ ⟨k2, num2, foot2, rq2, path2, mode2, n2, time2⟩ == true) else true = (clashC ⟨k, num, foot, rq, path, mode, n, time⟩ ⟨k2, num2, foot2, rq2, path2, mode2, n2, time2⟩ == (refAboveP path foot2 || refAboveP foot2 path)) := by
    intro hk
    refine cond_prop (fun _ => trivial) fun h5 => cond_prop (fun _ => trivial) fun h6 => ?_
    obtain ⟨t1, t2⟩ := T hk (by simpa using h5)
    rw [t1]
    have o1 : (refAboveP path foot2 || refAboveP foot2 path) = overP path foot2 := rfl
    rw [o1]
    have Z : bif num == num2 then true = ((decide (num = num2) || overP path foot2) == true) else true = ((decide (num = num2) || overP path foot2) == overP path foot2) := by
      refine cond_prop (fun h7 => ?_) fun h7 => ?_
      · simp at h7; simp [h7]
      · simp at h7; simp [h7]
    refine cond_prop (fun h8 => cond_prop (fun _ => cond_prop (fun h9 => cond_prop (fun h7 => ?_) fun _ => Z) fun _ => Z) fun _ => Z) fun _ => Z
    rw [t2 h8 h9] at h7
    simp at h7
  refine cond_prop (fun h5 => cond_prop (fun _ => trivial) fun h6 => ?_) fun h5 => ?_
  · exact W (.inr (by simpa using h6))
  · exact W (.inl (by simpa using h5))
end Go.Proofs.YtabeffcdklcdeaaDoor
