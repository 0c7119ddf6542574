/- AttrOrder. -/
import Derived.Test.YtnhfjdbnkpbbkabLaxOrderVc
namespace Go.Proofs.Ytnhfjdbnkpbbkab
set_option linter.unusedVariables false
set_option linter.unusedSimpArgs false
open Go.RowKit

theorem okMerge (s d0 d1 d2 d3 d4 d5 d6 s' e0 e1 e2 e3 e4 e5 e6 : Int) : inMerge s d0 d1 d2 d3 d4 d5 d6 s' e0 e1 e2 e3 e4 e5 e6 := by
  refine vcMerge s d0 d1 d2 d3 d4 d5 d6 s' e0 e1 e2 e3 e4 e5 e6 ?_
  simp only [true_and, and_true]
  refine ⟨⟨(0 : Nat), ⟨rfl, ?_⟩, Nat.zero_le 7⟩, ?_⟩
  · simp [mx, mj]
  · intro i hi
    refine cond_prop (fun h => ?_) fun h => ?_
    · simp only [decide_eq_true_eq] at h
      have hi7 : i < 7 := by omega
      rcases seven hi7 with rfl | rfl | rfl | rfl | rfl | rfl | rfl
      · refine ⟨by decide, by decide, by decide, by decide, by decide, by decide, (1 : Nat), ⟨rfl, ?_⟩, by decide, by decide⟩; simp [beq_dec, mj, mx]
      · refine ⟨by decide, by decide, by decide, by decide, by decide, by decide, (2 : Nat), ⟨rfl, ?_⟩, by decide, by decide⟩; simp [beq_dec, mj, mx]
      · refine ⟨by decide, by decide, by decide, by decide, by decide, by decide, (3 : Nat), ⟨rfl, ?_⟩, by decide, by decide⟩; simp [beq_dec, mj, mx]
      · refine ⟨by decide, by decide, by decide, by decide, by decide, by decide, (4 : Nat), ⟨rfl, ?_⟩, by decide, by decide⟩; simp [beq_dec, mj, mx]
      · refine ⟨by decide, by decide, by decide, by decide, by decide, by decide, (5 : Nat), ⟨rfl, ?_⟩, by decide, by decide⟩; simp [beq_dec, mj, mx]
      · refine ⟨by decide, by decide, by decide, by decide, by decide, by decide, (6 : Nat), ⟨rfl, ?_⟩, by decide, by decide⟩; simp [beq_dec, mj, mx]
      · refine ⟨by decide, by decide, by decide, by decide, by decide, by decide, (7 : Nat), ⟨rfl, ?_⟩, by decide, by decide⟩; simp [beq_dec, mj, mx]
    · simp only [decide_eq_false_iff_not] at h
      have : i = 7 := by omega
      subst this
      simp [mj]
theorem mx_beq (a b : Int) : (mx a b == b) = decide (a ≤ b) := by
  rw [Bool.eq_iff_iff]
  unfold mx
  simp only [beq_iff_eq, decide_eq_true_eq]
  split <;> omega
theorem okWithin (s d0 d1 d2 d3 d4 d5 d6 s' e0 e1 e2 e3 e4 e5 e6 : Int) : inWithin s d0 d1 d2 d3 d4 d5 d6 s' e0 e1 e2 e3 e4 e5 e6 := by
  refine vcWithin s d0 d1 d2 d3 d4 d5 d6 s' e0 e1 e2 e3 e4 e5 e6 ?_
  simp only [true_and, and_true, mx_beq, Bool.and_true, withinB]
  refine cond_prop (fun h => ?_) fun h => ?_
  · simp only [h, Bool.true_and, Bool.and_assoc]
  · simp only [h, Bool.false_and]
theorem within_self (s d0 d1 d2 d3 d4 d5 d6 : Int) : withinB s d0 d1 d2 d3 d4 d5 d6 s d0 d1 d2 d3 d4 d5 d6 = true := by
  simp [withinB]
theorem within_iff {s d0 d1 d2 d3 d4 d5 d6 s' e0 e1 e2 e3 e4 e5 e6 : Int} : withinB s d0 d1 d2 d3 d4 d5 d6 s' e0 e1 e2 e3 e4 e5 e6 = true ↔ s ≤ s' ∧ d0 ≤ e0 ∧ d1 ≤ e1 ∧ d2 ≤ e2 ∧ d3 ≤ e3 ∧ d4 ≤ e4 ∧ d5 ≤ e5 ∧ d6 ≤ e6 := by
  simp only [withinB, Bool.and_eq_true, decide_eq_true_eq, and_assoc]
theorem sel_mono {r d0 d1 d2 d3 d4 d5 d6 e0 e1 e2 e3 e4 e5 e6 : Int} (h : d0 ≤ e0 ∧ d1 ≤ e1 ∧ d2 ≤ e2 ∧ d3 ≤ e3 ∧ d4 ≤ e4 ∧ d5 ≤ e5 ∧ d6 ≤ e6) : sel r d0 d1 d2 d3 d4 d5 d6 ≤ sel r e0 e1 e2 e3 e4 e5 e6 := by
  unfold sel
  by_cases h0 : r = 0
  · simp only [if_pos h0]; omega
  simp only [if_neg h0]
  by_cases h1 : r = 1
  · simp only [if_pos h1]; omega
  simp only [if_neg h1]
  by_cases h2 : r = 2
  · simp only [if_pos h2]; omega
  simp only [if_neg h2]
  by_cases h3 : r = 3
  · simp only [if_pos h3]; omega
  simp only [if_neg h3]
  by_cases h4 : r = 4
  · simp only [if_pos h4]; omega
  simp only [if_neg h4]
  by_cases h5 : r = 5
  · simp only [if_pos h5]; omega
  simp only [if_neg h5]
  omega
theorem okLawOrder (s d0 d1 d2 d3 d4 d5 d6 s' e0 e1 e2 e3 e4 e5 e6 s'' g0 g1 g2 g3 g4 g5 g6 r n : Int) : inLawOrder s d0 d1 d2 d3 d4 d5 d6 s' e0 e1 e2 e3 e4 e5 e6 s'' g0 g1 g2 g3 g4 g5 g6 r n := by
  refine vcLawOrder s d0 d1 d2 d3 d4 d5 d6 s' e0 e1 e2 e3 e4 e5 e6 s'' g0 g1 g2 g3 g4 g5 g6 r n ?_
  simp only [true_and, and_true]
  have h1 := within_self s d0 d1 d2 d3 d4 d5 d6
  have h2 : withinB s d0 d1 d2 d3 d4 d5 d6 s' e0 e1 e2 e3 e4 e5 e6 = true → withinB s' e0 e1 e2 e3 e4 e5 e6 s d0 d1 d2 d3 d4 d5 d6 = true →
      (s == s' && (d0 == e0 && (d1 == e1 && (d2 == e2 && (d3 == e3 && (d4 == e4 && (d5 == e5 && (d6 == e6 && true)))))))) = true := by
    intro a b
    rw [within_iff] at a b
    simp only [Bool.and_eq_true, beq_iff_eq]
    exact ⟨by omega, by omega, by omega, by omega, by omega, by omega, by omega, by omega, trivial⟩
  have h3 : withinB s d0 d1 d2 d3 d4 d5 d6 s' e0 e1 e2 e3 e4 e5 e6 = true → withinB s' e0 e1 e2 e3 e4 e5 e6 s'' g0 g1 g2 g3 g4 g5 g6 = true → withinB s d0 d1 d2 d3 d4 d5 d6 s'' g0 g1 g2 g3 g4 g5 g6 = true := by
    intro a b
    rw [within_iff] at a b ⊢
    exact ⟨by omega, by omega, by omega, by omega, by omega, by omega, by omega, by omega⟩
  have h4 : withinB s d0 d1 d2 d3 d4 d5 d6 s' e0 e1 e2 e3 e4 e5 e6 = true → covB r n d0 d1 d2 d3 d4 d5 d6 = true → covB r n e0 e1 e2 e3 e4 e5 e6 = true := by
    intro a b
    rw [within_iff] at a
    have hm := sel_mono (r := r) a.2
    simp only [covB, Bool.and_eq_true, decide_eq_true_eq] at b ⊢
    exact ⟨b.1, by omega⟩
  generalize withinB s d0 d1 d2 d3 d4 d5 d6 s d0 d1 d2 d3 d4 d5 d6 = b0 at *
  generalize withinB s d0 d1 d2 d3 d4 d5 d6 s' e0 e1 e2 e3 e4 e5 e6 = b1 at *
  generalize withinB s' e0 e1 e2 e3 e4 e5 e6 s d0 d1 d2 d3 d4 d5 d6 = b2 at *
  generalize withinB s' e0 e1 e2 e3 e4 e5 e6 s'' g0 g1 g2 g3 g4 g5 g6 = b3 at *
  generalize withinB s d0 d1 d2 d3 d4 d5 d6 s'' g0 g1 g2 g3 g4 g5 g6 = b4 at *
  generalize covB r n d0 d1 d2 d3 d4 d5 d6 = b5 at *
  generalize covB r n e0 e1 e2 e3 e4 e5 e6 = b6 at *
  generalize (s == s' && (d0 == e0 && (d1 == e1 && (d2 == e2 && (d3 == e3 && (d4 == e4 && (d5 == e5 && (d6 == e6 && true)))))))) = b7 at *
  revert h1 h2 h3 h4
  cases b0 <;> cases b1 <;> cases b2 <;> cases b3 <;> cases b4 <;> cases b5 <;> cases b6 <;> cases b7 <;> simp
theorem meetsMerge : Meets Try.prog 10 mergeF := by
  refine meets_of_awp (Γ := lookΓ []) (L := fun args b => bif Nat.beq b 0 then (match args with | [.val (.agg [.int .i64 s, .int .i64 d0, .int .i64 d1, .int .i64 d2, .int .i64 d3, .int .i64 d4, .int .i64 d5, .int .i64 d6]), .val (.agg [.int .i64 s', .int .i64 e0, .int .i64 e1, .int .i64 e2, .int .i64 e3, .int .i64 e4, .int .i64 e5, .int .i64 e6])] => some (loopMerge s d0 d1 d2 d3 d4 d5 d6 s' e0 e1 e2 e3 e4 e5 e6) | _ => none) else none) (sound_of [] (by simp)) mixed Try.func10 rfl Try.call10 ?_
  intro args q r hF hq ho
  unfold mergeF at hF
  split at hF
  · cases hF
    exact ⟨by simp only [List.length_cons, List.length_nil]; decide, okMerge _ _ _ _ _ _ _ _ _ _ _ _ _ _ _ _⟩
  · cases hF
theorem merge_sound : Sound Try.prog (lookΓ mergeL) := sound_of _ fun p hp => by
  simp only [mergeL, attrL4, attrL3, attrL2, attrL1, List.mem_cons, List.not_mem_nil, or_false] at hp
  rcases hp with rfl | rfl | rfl | rfl | rfl | rfl | rfl
  · exact meetsMerge
  · exact meetsAnchor
  · exact meetsOwns
  · exact meetsCovers
  · exact meetsOwn
  · exact meetsRightId
  · exact meetsRightA
theorem meetsWithin : Meets Try.prog 12 withinF := by
  refine meets_of_awp (Γ := lookΓ mergeL) (L := fun _ _ => none) merge_sound mixed Try.func12 rfl Try.call12 ?_
  intro args q r hF hq ho
  unfold withinF at hF
  split at hF
  · cases hF
    exact ⟨by simp only [List.length_cons, List.length_nil]; decide, okWithin _ _ _ _ _ _ _ _ _ _ _ _ _ _ _ _⟩
  · cases hF
theorem within_sound : Sound Try.prog (lookΓ withinL) := sound_of _ fun p hp => by
  simp only [withinL, mergeL, attrL4, attrL3, attrL2, attrL1, List.mem_cons, List.not_mem_nil, or_false] at hp
  rcases hp with rfl | rfl | rfl | rfl | rfl | rfl | rfl | rfl
  · exact meetsWithin
  · exact meetsMerge
  · exact meetsAnchor
  · exact meetsOwns
  · exact meetsCovers
  · exact meetsOwn
  · exact meetsRightId
  · exact meetsRightA
theorem meetsLawOrder : Meets Try.prog 4 lawOrderF := by
  refine meets_of_awp (Γ := lookΓ withinL) (L := fun _ _ => none) within_sound mixed Try.func4 rfl Try.call4 ?_
  intro args q r hF hq ho
  unfold lawOrderF at hF
  split at hF
  · cases hF
    exact ⟨by simp only [List.length_cons, List.length_nil]; decide, okLawOrder _ _ _ _ _ _ _ _ _ _ _ _ _ _ _ _ _ _ _ _ _ _ _ _ _ _⟩
  · cases hF
theorem flat8 {W : World} {base : Nat} {v : Value} (h : Value.okWide Try.prog W .any base 24 v) : ∃ s d0 d1 d2 d3 d4 d5 d6 : Int, ∀ st G w, Rep Try.prog st G w (att s d0 d1 d2 d3 d4 d5 d6) v := by
  obtain ⟨l, rfl, n, r⟩ := flat_ints (k := .i64) (by kernel_rfl) (ts := List.replicate 8 3) (by kernel_rfl) (by kernel_rfl) (by decide) (by kernel_rfl) h
  simp only [List.length_replicate] at n
  match l, n, r with
  | [s, d0, d1, d2, d3, d4, d5, d6], _, r => exact ⟨s, d0, d1, d2, d3, d4, d5, d6, fun st G w => rep_flat r⟩
theorem flat2 {W : World} {base : Nat} {v : Value} (h : Value.okWide Try.prog W .any base 33 v) : ∃ r n : Int, ∀ st G w, Rep Try.prog st G w (idAV r n) v := by
  obtain ⟨l, rfl, n, r⟩ := flat_ints (k := .i64) (by kernel_rfl) (ts := List.replicate 2 3) (by kernel_rfl) (by kernel_rfl) (by decide) (by kernel_rfl) h
  simp only [List.length_replicate] at n
  match l, n, r with
  | [a, b], _, r => exact ⟨a, b, fun st G w => rep_flat r⟩
theorem attrOrder_walk {W : World} {base : Nat} {v0 v1 v2 v3 : Value} (h0 : Value.okWide Try.prog W .any base 24 v0) (h1 : Value.okWide Try.prog W .any base 24 v1) (h2 : Value.okWide Try.prog W .any base 24 v2) (h3 : Value.okWide Try.prog W .any base 33 v3) :
    Calls Try.prog 4 #[v0, v1, v2, v3] W fun e W' => e = .returned (.bool true) ∧ Below W.heap.size W W' := by
  obtain ⟨s, d0, d1, d2, d3, d4, d5, d6, r0⟩ := flat8 h0
  obtain ⟨s', e0, e1, e2, e3, e4, e5, e6, r1⟩ := flat8 h1
  obtain ⟨s'', g0, g1, g2, g3, g4, g5, g6, r2⟩ := flat8 h2
  obtain ⟨r, n, r3⟩ := flat2 h3
  refine law_of_meets meetsLawOrder (l := [att s d0 d1 d2 d3 d4 d5 d6, att s' e0 e1 e2 e3 e4 e5 e6, att s'' g0 g1 g2 g3 g4 g5 g6, idAV r n]) rfl trivial rfl ?_
  intro i v hv
  match i, hv with
  | 0, hv =>
    obtain rfl : att s d0 d1 d2 d3 d4 d5 d6 = v := by simpa using hv
    exact ⟨_, rfl, r0 _ _ _⟩
  | 1, hv =>
    obtain rfl : att s' e0 e1 e2 e3 e4 e5 e6 = v := by simpa using hv
    exact ⟨_, rfl, r1 _ _ _⟩
  | 2, hv =>
    obtain rfl : att s'' g0 g1 g2 g3 g4 g5 g6 = v := by simpa using hv
    exact ⟨_, rfl, r2 _ _ _⟩
  | 3, hv =>
    obtain rfl : idAV r n = v := by simpa using hv
    exact ⟨_, rfl, r3 _ _ _⟩
  | i + 4, hv => simp at hv
end Go.Proofs.Ytnhfjdbnkpbbkab
