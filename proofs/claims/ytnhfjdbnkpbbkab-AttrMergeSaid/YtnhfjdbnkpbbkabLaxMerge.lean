/- AttrMerge. -/
import Derived.Test.YtnhfjdbnkpbbkabLaxMergeVc
namespace Go.Proofs.Ytnhfjdbnkpbbkab
set_option linter.unusedVariables false
set_option linter.unusedSimpArgs false
open Go.RowKit

theorem pick8 (s d0 d1 d2 d3 d4 d5 d6 : Int) {i : Nat} (h : i < 7) : (bif Nat.beq (1 + (i : Int).toNat * 1) 0 then s else bif Nat.beq (1 + (i : Int).toNat * 1) 1 then d0 else bif Nat.beq (1 + (i : Int).toNat * 1) 2 then d1 else bif Nat.beq (1 + (i : Int).toNat * 1) 3 then d2 else bif Nat.beq (1 + (i : Int).toNat * 1) 4 then d3 else bif Nat.beq (1 + (i : Int).toNat * 1) 5 then d4 else bif Nat.beq (1 + (i : Int).toNat * 1) 6 then d5 else d6) = sel (i : Int) d0 d1 d2 d3 d4 d5 d6 := by
  rcases seven h with rfl | rfl | rfl | rfl | rfl | rfl | rfl <;> rfl
theorem next_eq {i : Nat} (h : i < 7) : AV.int IntKind.i64 (IntKind.i64.wrap ((i : Int) + 1)) = AV.int IntKind.i64 ((i + 1 : Nat) : Int) := by
  have hw : IntKind.i64.wrap ((i : Int) + 1) = ((i + 1 : Nat) : Int) := by rw [IntKind.wrap_i64]; omega
  exact congrArg (AV.int .i64) hw
theorem okRefRight (s d0 d1 d2 d3 d4 d5 d6 : Int) : inRefRight s d0 d1 d2 d3 d4 d5 d6 := by
  refine vcRefRight s d0 d1 d2 d3 d4 d5 d6 ?_
  simp only [true_and, and_true]
  refine ⟨⟨(0 : Nat), rfl, Nat.zero_le 7, fun j hj => absurd hj (Nat.not_lt_zero j)⟩, ?_⟩
  rintro i ⟨hi, hinv⟩
  refine cond_prop (fun h => ?_) fun h => ?_
  · simp only [decide_eq_true_eq] at h
    have hi7 : i < 7 := by omega
    rw [pick8 s d0 d1 d2 d3 d4 d5 d6 hi7]
    refine ⟨⟨by omega, by omega⟩, by simp only [decide_eq_true_eq]; omega, cond_prop (fun h1 => ?_) fun h1 => ⟨⟨by omega, by omega⟩, by simp only [decide_eq_true_eq]; omega, cond_prop (fun h2 => ?_) fun h2 => ?_⟩⟩
    · simp only [decide_eq_true_eq] at h1
      exact rightA_false hi7 (by simp only [inLen, decide_eq_false_iff_not]; omega)
    · simp only [decide_eq_true_eq] at h2
      exact rightA_false hi7 (by simp only [inLen, decide_eq_false_iff_not]; omega)
    · simp only [decide_eq_false_iff_not] at h1 h2
      refine ⟨(i + 1 : Nat), next_eq hi7, ⟨hi7, fun j hj => ?_⟩, Nat.sub_lt_sub_left hi7 (Nat.lt_succ_self i)⟩
      by_cases hj' : j < i
      · exact hinv j hj'
      · have : j = i := Nat.le_antisymm (Nat.le_of_lt_succ hj) (Nat.le_of_not_lt hj')
        subst this
        simp only [inLen, decide_eq_true_eq]; omega
  · simp only [decide_eq_false_iff_not] at h
    have e := rightA_true (s := s) (fun j hj => hinv j (by omega))
    rw [e]
    refine cond_prop (fun h1 => ?_) fun h1 => ?_
    · simp only [decide_eq_true_eq] at h1
      simp only [decide_eq_decide]; omega
    · simp only [decide_eq_false_iff_not] at h1
      simp only [decide_eq_false_iff_not]; omega
theorem within_false {s d0 d1 d2 d3 d4 d5 d6 s' e0 e1 e2 e3 e4 e5 e6 : Int} {i : Nat} (h : i < 7) (hs : sel (i : Int) e0 e1 e2 e3 e4 e5 e6 < sel (i : Int) d0 d1 d2 d3 d4 d5 d6) : withinB s d0 d1 d2 d3 d4 d5 d6 s' e0 e1 e2 e3 e4 e5 e6 = false := by
  rw [← Bool.not_eq_true, within_iff]
  intro hw
  have := sel_mono (r := (i : Int)) hw.2
  omega
theorem okRefWithin (s d0 d1 d2 d3 d4 d5 d6 s' e0 e1 e2 e3 e4 e5 e6 : Int) : inRefWithin s d0 d1 d2 d3 d4 d5 d6 s' e0 e1 e2 e3 e4 e5 e6 := by
  refine vcRefWithin s d0 d1 d2 d3 d4 d5 d6 s' e0 e1 e2 e3 e4 e5 e6 ?_
  simp only [true_and, and_true]
  refine ⟨⟨(0 : Nat), rfl, Nat.zero_le 7, fun j hj => absurd hj (Nat.not_lt_zero j)⟩, ?_⟩
  rintro i ⟨hi, hinv⟩
  refine cond_prop (fun h => ?_) fun h => ?_
  · simp only [decide_eq_true_eq] at h
    have hi7 : i < 7 := by omega
    rw [pick8 s d0 d1 d2 d3 d4 d5 d6 hi7, pick8 s' e0 e1 e2 e3 e4 e5 e6 hi7]
    refine ⟨⟨by omega, by omega⟩, by simp only [decide_eq_true_eq]; omega, ⟨by omega, by omega⟩, by simp only [decide_eq_true_eq]; omega, cond_prop (fun h1 => ?_) fun h1 => ?_⟩
    · simp only [decide_eq_true_eq] at h1
      exact within_false hi7 h1
    · simp only [decide_eq_false_iff_not] at h1
      refine ⟨(i + 1 : Nat), next_eq hi7, ⟨hi7, fun j hj => ?_⟩, Nat.sub_lt_sub_left hi7 (Nat.lt_succ_self i)⟩
      by_cases hj' : j < i
      · exact hinv j hj'
      · have : j = i := Nat.le_antisymm (Nat.le_of_lt_succ hj) (Nat.le_of_not_lt hj')
        subst this
        omega
  · simp only [decide_eq_false_iff_not] at h
    have f0 : d0 ≤ e0 := hinv 0 (by omega)
    have f1 : d1 ≤ e1 := hinv 1 (by omega)
    have f2 : d2 ≤ e2 := hinv 2 (by omega)
    have f3 : d3 ≤ e3 := hinv 3 (by omega)
    have f4 : d4 ≤ e4 := hinv 4 (by omega)
    have f5 : d5 ≤ e5 := hinv 5 (by omega)
    have f6 : d6 ≤ e6 := hinv 6 (by omega)
    simp [withinB, f0, f1, f2, f3, f4, f5, f6]
theorem okRefMerge (s d0 d1 d2 d3 d4 d5 d6 s' e0 e1 e2 e3 e4 e5 e6 : Int) : inRefMerge s d0 d1 d2 d3 d4 d5 d6 s' e0 e1 e2 e3 e4 e5 e6 := by
  refine vcRefMerge s d0 d1 d2 d3 d4 d5 d6 s' e0 e1 e2 e3 e4 e5 e6 ?_
  simp only [true_and, and_true]
  refine cond_prop (fun h => ⟨⟨(0 : Nat), ⟨rfl, ?_⟩, Nat.zero_le 7⟩, ?_⟩) fun h => ⟨⟨(0 : Nat), ⟨rfl, ?_⟩, Nat.zero_le 7⟩, ?_⟩
  · simp only [decide_eq_true_eq] at h
    simp [mx, mj, h]
  rotate_left
  · simp only [decide_eq_false_iff_not] at h
    simp [mx, mj, h]
  all_goals
    intro i hi
    refine cond_prop (fun h' => ?_) fun h' => ?_
    · simp only [decide_eq_true_eq] at h'
      have hi7 : i < 7 := by omega
      refine ⟨⟨by omega, by omega⟩, by simp only [decide_eq_true_eq]; omega, ⟨by omega, by omega⟩, by simp only [decide_eq_true_eq]; omega, cond_prop (fun h1 => ?_) fun h1 => ?_⟩
      · refine ⟨⟨by omega, by omega⟩, by simp only [decide_eq_true_eq]; omega, ⟨by omega, by omega⟩, by simp only [decide_eq_true_eq]; omega, (i + 1 : Nat), ⟨next_eq hi7, ?_⟩, hi7, Nat.sub_lt_sub_left hi7 (Nat.lt_succ_self i)⟩
        rcases seven hi7 with rfl | rfl | rfl | rfl | rfl | rfl | rfl <;> simp [beq_dec, mj, mx] at h1 ⊢ <;> omega
      · refine ⟨(i + 1 : Nat), ⟨next_eq hi7, ?_⟩, hi7, Nat.sub_lt_sub_left hi7 (Nat.lt_succ_self i)⟩
        rcases seven hi7 with rfl | rfl | rfl | rfl | rfl | rfl | rfl <;> simp [beq_dec, mj, mx] at h1 ⊢ <;> omega
    · simp only [decide_eq_false_iff_not] at h'
      have : i = 7 := by omega
      subst this
      simp [mj]
theorem mx_comm (a b : Int) : (mx a b == mx b a) = true := by
  rw [beq_iff_eq]; unfold mx; split <;> split <;> omega
theorem mx_self (a : Int) : (mx a a == a) = true := by
  rw [beq_iff_eq]; unfold mx; split <;> rfl
theorem mx_assoc (a b c : Int) : (mx (mx a b) c == mx a (mx b c)) = true := by
  rw [beq_iff_eq]; unfold mx; split <;> split <;> (try split) <;> (try split) <;> omega
theorem mx_l (a b : Int) : a ≤ mx a b := by unfold mx; split <;> omega
theorem mx_r (a b : Int) : b ≤ mx a b := by unfold mx; split <;> omega
theorem mx_le {a b c : Int} (h1 : a ≤ c) (h2 : b ≤ c) : mx a b ≤ c := by unfold mx; split <;> omega
theorem okLawMerge (s d0 d1 d2 d3 d4 d5 d6 s' e0 e1 e2 e3 e4 e5 e6 s'' g0 g1 g2 g3 g4 g5 g6 : Int) : inLawMerge s d0 d1 d2 d3 d4 d5 d6 s' e0 e1 e2 e3 e4 e5 e6 s'' g0 g1 g2 g3 g4 g5 g6 := by
  refine vcLawMerge s d0 d1 d2 d3 d4 d5 d6 s' e0 e1 e2 e3 e4 e5 e6 s'' g0 g1 g2 g3 g4 g5 g6 ?_
  have w1 : withinB s d0 d1 d2 d3 d4 d5 d6 (mx s s') (mx d0 e0) (mx d1 e1) (mx d2 e2) (mx d3 e3) (mx d4 e4) (mx d5 e5) (mx d6 e6) = true := within_iff.2 ⟨mx_l _ _, mx_l _ _, mx_l _ _, mx_l _ _, mx_l _ _, mx_l _ _, mx_l _ _, mx_l _ _⟩
  have w2 : withinB s' e0 e1 e2 e3 e4 e5 e6 (mx s s') (mx d0 e0) (mx d1 e1) (mx d2 e2) (mx d3 e3) (mx d4 e4) (mx d5 e5) (mx d6 e6) = true := within_iff.2 ⟨mx_r _ _, mx_r _ _, mx_r _ _, mx_r _ _, mx_r _ _, mx_r _ _, mx_r _ _, mx_r _ _⟩
  simp only [true_and, and_true, mx_comm, mx_self, mx_assoc, w1, w2, beq_self_eq_true, Bool.and_true, Bool.true_and, Bool.not_true, cond_false]
  refine cond_prop (fun _ => trivial) fun h1 => cond_prop (fun _ => trivial) fun h2 => ?_
  simp only [Bool.not_eq_false'] at h1 h2
  rw [within_iff] at h1 h2
  obtain ⟨a0, a1, a2, a3, a4, a5, a6, a7⟩ := h1
  obtain ⟨b0, b1, b2, b3, b4, b5, b6, b7⟩ := h2
  exact (within_iff.2 ⟨mx_le a0 b0, mx_le a1 b1, mx_le a2 b2, mx_le a3 b3, mx_le a4 b4, mx_le a5 b5, mx_le a6 b6, mx_le a7 b7⟩).symm
end Go.Proofs.Ytnhfjdbnkpbbkab
