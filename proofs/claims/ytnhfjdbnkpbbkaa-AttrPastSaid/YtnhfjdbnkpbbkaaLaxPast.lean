/- AttrPast: the law's walk. -/
import Derived.Test.YtnhfjdbnkpbbkaaLaxPastVc
namespace Go.Proofs.Ytnhfjdbnkpbbkaa
set_option linter.unusedVariables false
set_option linter.unusedSimpArgs false
open Go.RowKit

def wrapped (k : Int) : Int := if k ≤ 1073741823 then k + 1 else 1073741824
theorem okPast (s d0 d1 d2 d3 d4 d5 d6 k : Int) : inPast s d0 d1 d2 d3 d4 d5 d6 k := by
  refine vcPast s d0 d1 d2 d3 d4 d5 d6 k ?_
  simp only [true_and, and_true]
  refine cond_prop (fun h => ?_) fun h => ?_
  · simp only [decide_eq_true_eq] at h
    have hw : IntKind.i64.wrap ((if 1073741823 < k then 1073741823 else k) + 1) = wrapped k := by
      unfold wrapped
      rw [IntKind.wrap_i64]
      split <;> split <;> omega
    rw [hw]
    unfold past wrapped
    rw [if_pos h]
    by_cases h1 : k ≤ 1073741823
    · simp only [if_pos h1]; split <;> split <;> omega
    · simp only [if_neg h1]; split <;> split <;> omega
  · simp only [decide_eq_false_iff_not] at h
    unfold past
    rw [if_neg h]
theorem past_facts (s k : Int) : s ≤ past s k ∧ (k < 0 → past s k = s) ∧ (0 ≤ k → (k < past s k ∨ 1073741824 ≤ k) ∧ (past s k = s ∨ past s k = 1073741824 ∨ (past s k = k + 1 ∧ 0 ≤ k ∧ k ≤ 1073741823))) ∧ (s ≤ 1073741824 → past s k ≤ 1073741824) := by
  unfold past
  by_cases h : 0 ≤ k
  · by_cases h1 : k ≤ 1073741823
    · simp only [if_pos h, if_pos h1]; split <;> omega
    · simp only [if_pos h, if_neg h1]; split <;> omega
  · simp only [if_neg h]
    exact ⟨Int.le_refl _, fun _ => trivial, fun h' => absurd h' h, fun h' => h'⟩
theorem past_tail {p s k : Int} (h2 : k < 0 → p = s) (h3 : 0 ≤ k → (k < p ∨ 1073741824 ≤ k) ∧ (p = s ∨ p = 1073741824 ∨ (p = k + 1 ∧ 0 ≤ k ∧ k ≤ 1073741823))) :
    bif decide (k < 0) then true = (p == s) else bif decide (k < p) then (bif p == s then True else bif p == 1073741824 then True else true = (p == IntKind.i64.wrap (k + 1)))
      else bif decide (1073741824 ≤ k) then (bif p == s then True else bif p == 1073741824 then True else true = (p == IntKind.i64.wrap (k + 1))) else true = false := by
  have inner : 0 ≤ k → (bif p == s then True else bif p == 1073741824 then True else true = (p == IntKind.i64.wrap (k + 1))) := by
    intro h
    refine cond_prop (fun _ => trivial) fun h1 => cond_prop (fun _ => trivial) fun h4 => ?_
    have h1' : p ≠ s := by simpa using h1
    have h4' : p ≠ 1073741824 := by simpa using h4
    have := (h3 h).2
    rw [IntKind.wrap_i64]
    symm
    rw [beq_iff_eq]
    omega
  refine cond_prop (fun h => ?_) fun h => ?_
  · simp only [decide_eq_true_eq] at h
    rw [h2 h]; simp
  · simp only [decide_eq_false_iff_not] at h
    have hk : 0 ≤ k := by omega
    refine cond_prop (fun _ => inner hk) fun h5 => cond_prop (fun _ => inner hk) fun h6 => ?_
    simp only [decide_eq_false_iff_not] at h5 h6
    have := (h3 hk).1
    omega
theorem okLawPast (s d0 d1 d2 d3 d4 d5 d6 k : Int) : inLawPast s d0 d1 d2 d3 d4 d5 d6 k := by
  refine vcLawPast s d0 d1 d2 d3 d4 d5 d6 k ?_
  simp only [true_and, and_true]
  obtain ⟨h1, h2, h3, h4⟩ := past_facts s k
  have hR : rightA s d0 d1 d2 d3 d4 d5 d6 = true → rightA (past s k) d0 d1 d2 d3 d4 d5 d6 = true := by
    intro h
    simp only [rightA, Bool.and_eq_true, decide_eq_true_eq] at h ⊢
    exact ⟨h.1, by omega⟩
  have ht := past_tail h2 h3
  generalize past s k = p at *
  simp only [beq_self_eq_true, Bool.and_true, Bool.true_and, Bool.not_true, cond_false]
  refine cond_prop (fun h => ?_) fun h => cond_prop (fun h' => cond_prop (fun h'' => ?_) fun h'' => ht) fun h' => ht
  · simp only [decide_eq_true_eq] at h; omega
  · rw [hR h'] at h''; simp at h''
theorem meetsPast : Meets Try.prog 38 pastF := by
  refine meets_of_awp (Γ := lookΓ []) (L := fun _ _ => none) (sound_of [] (by simp)) mixed Try.func38 rfl Try.call38 ?_
  intro args q r hF hq ho
  unfold pastF at hF
  split at hF
  · cases hF
    exact ⟨by simp only [List.length_cons, List.length_nil]; decide, okPast _ _ _ _ _ _ _ _ _⟩
  · cases hF
theorem past_sound : Sound Try.prog (lookΓ pastL) := sound_of _ fun p hp => by
  simp only [pastL, attrL4, attrL3, attrL2, attrL1, List.mem_cons, List.not_mem_nil, or_false] at hp
  rcases hp with rfl | rfl | rfl | rfl | rfl | rfl | rfl
  · exact meetsPast
  · exact meetsAnchor
  · exact meetsOwns
  · exact meetsCovers
  · exact meetsOwn
  · exact meetsRightId
  · exact meetsRightA
theorem meetsLawPast : Meets Try.prog 11 lawPastF := by
  refine meets_of_awp (Γ := lookΓ pastL) (L := fun _ _ => none) past_sound mixed Try.func11 rfl Try.call11 ?_
  intro args q r hF hq ho
  unfold lawPastF at hF
  split at hF
  · cases hF
    exact ⟨by simp only [List.length_cons, List.length_nil]; decide, okLawPast _ _ _ _ _ _ _ _ _⟩
  · cases hF
theorem attrPast_walk {W : World} {base : Nat} {v0 : Value} {k : Int} (h0 : Value.okWide Try.prog W .any base 45 v0) (h1 : -9223372036854775808 ≤ k) (h2 : k ≤ 9223372036854775807) :
    Calls Try.prog 11 #[v0, .int .i64 k] W fun e W' => e = .returned (.bool true) ∧ Below W.heap.size W W' := by
  obtain ⟨l0, rfl, n0, r0⟩ := flat_ints (k := .i64) (by kernel_rfl) (ts := List.replicate 8 3) (by kernel_rfl) (by kernel_rfl) (by decide) (by kernel_rfl) h0
  simp only [List.length_replicate] at n0
  match l0, n0, r0 with
  | [s, d0, d1, d2, d3, d4, d5, d6], _, r0 =>
    refine law_of_meets meetsLawPast (l := [att s d0 d1 d2 d3 d4 d5 d6, .int .i64 k]) rfl trivial rfl ?_
    intro i v hv
    match i, hv with
    | 0, hv =>
      obtain rfl : att s d0 d1 d2 d3 d4 d5 d6 = v := by simpa using hv
      exact ⟨_, rfl, rep_flat r0⟩
    | 1, hv =>
      obtain rfl : AV.int .i64 k = v := by simpa using hv
      exact ⟨_, rfl, Rep.of1 (RepP.int .i64 k h1 h2 : RepP W _ (.int .i64 k) (.int .i64 k))⟩
    | i + 2, hv => simp at hv
end Go.Proofs.Ytnhfjdbnkpbbkaa
