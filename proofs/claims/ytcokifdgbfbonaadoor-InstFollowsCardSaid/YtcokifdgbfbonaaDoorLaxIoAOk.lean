/- The conditions hold: names, ballots, attributes. -/
import Derived.Test.YtcokifdgbfbonaaDoorLaxIoAVc
namespace Go.Proofs.YtcokifdgbfbonaaDoor
set_option linter.unusedVariables false
set_option linter.unusedSimpArgs false
open Go.RowKit
set_option maxRecDepth 100000

theorem beq_dec (a b : Nat) : Nat.beq a b = decide (a = b) := by
  by_cases h : a = b
  · subst h; simp
  · rw [decide_eq_false h]
    cases hq : Nat.beq a b with
    | false => rfl
    | true => exact absurd (Nat.eq_of_beq_eq_true hq) h
theorem and7 {b : Int} (h0 : 0 ≤ b) (h1 : b ≤ 4294967295) : intBits .and .u32 b 7 = b % 8 := by
  obtain ⟨n, rfl⟩ : ∃ n : Nat, b = n := ⟨b.toNat, by omega⟩
  have e1 : (BitVec.ofInt 32 (n : Int) &&& BitVec.ofInt 32 7).toNat = n % 8 := by
    rw [BitVec.toNat_and]
    have : (BitVec.ofInt 32 (n : Int)).toNat = n := by
      rw [BitVec.toNat_ofInt]; omega
    rw [this]
    have h7 : (BitVec.ofInt 32 7).toNat = 2 ^ 3 - 1 := by decide
    rw [h7, Nat.and_two_pow_sub_one_eq_mod]
  show IntKind.u32.wrap ((BitVec.ofInt 32 (n : Int) &&& BitVec.ofInt 32 7).toNat : Int) = _
  rw [e1, IntKind.wrap_u32]
  omega
theorem okIdRight0 : OkIdRight0 := by
  intro r n hq
  refine vcIdRight0 r n ?_
  simp only [true_and, and_true, forall_eq, eq_self]
  refine cond_prop (fun h => cond_prop (fun h' => cond_prop (fun h'' => ?_) fun h'' => ?_) fun h' => ?_) fun h => ?_
  all_goals
    simp [rightId] at *
    first | omega | (rw [Bool.eq_iff_iff]; simp; omega)
theorem okBalRound0 : OkBalRound0 := by
  intro b hq hb
  refine vcBalRound0 b ?_
  simp only [true_and, and_true, forall_eq, eq_self]
  refine ⟨by omega, ?_⟩
  rw [Int.fdiv_eq_ediv_of_nonneg _ (by omega), wrap_i64 (by omega) (by omega)]
theorem okBalRep0 : OkBalRep0 := by
  intro b hq hb
  refine vcBalRep0 b ?_
  simp only [true_and, and_true, forall_eq, eq_self]
  rw [and7 hb.1 hb.2, wrap_i64 (by omega) (by omega)]
theorem okBalRight0 : OkBalRight0 := by
  intro b hq hb
  refine vcBalRight0 b ?_
  simp only [true_and, and_true, forall_eq, eq_self]
  refine cond_prop (fun h => ?_) fun h => cond_prop (fun h' => cond_prop (fun h'' => ?_) fun h'' => ?_) fun h' => ?_
  all_goals
    simp [balOK] at *
    first | omega | (rw [Bool.eq_iff_iff]; simp; omega)
theorem okAttRight0 : OkAttRight0 := by
  intro s d0 d1 d2 d3 d4 d5 d6 hq
  refine vcAttRight0 s d0 d1 d2 d3 d4 d5 d6 ?_
  simp only [true_and, and_true, forall_eq, eq_self]
  simp only [rightA, inLen]
  repeat' (first | (refine ⟨by omega, ?_⟩) | (refine cond_prop (fun h => ?_) fun h => ?_))
  all_goals simp only [decide_eq_true_eq, decide_eq_false_iff_not] at *
  all_goals (rw [Bool.eq_iff_iff]; simp only [Bool.and_eq_true, decide_eq_true_eq, Bool.false_eq_true, iff_false]; omega)
theorem sel_cases (r d0 d1 d2 d3 d4 d5 d6 : Int) (h0 : 0 ≤ r) (h1 : r ≤ 6) : (r = 0 ∧ sel r d0 d1 d2 d3 d4 d5 d6 = d0) ∨ (r = 1 ∧ sel r d0 d1 d2 d3 d4 d5 d6 = d1) ∨ (r = 2 ∧ sel r d0 d1 d2 d3 d4 d5 d6 = d2) ∨ (r = 3 ∧ sel r d0 d1 d2 d3 d4 d5 d6 = d3) ∨ (r = 4 ∧ sel r d0 d1 d2 d3 d4 d5 d6 = d4) ∨ (r = 5 ∧ sel r d0 d1 d2 d3 d4 d5 d6 = d5) ∨ (r = 6 ∧ sel r d0 d1 d2 d3 d4 d5 d6 = d6) := by
  have : r = 0 ∨ r = 1 ∨ r = 2 ∨ r = 3 ∨ r = 4 ∨ r = 5 ∨ r = 6 := by omega
  rcases this with rfl | rfl | rfl | rfl | rfl | rfl | rfl <;> simp [sel]
theorem rightId_range {r n : Int} (h : rightId r n = true) : 0 ≤ r ∧ r ≤ 6 := by
  simp [rightId] at h; omega
theorem okAttOwn0 : OkAttOwn0 := by
  intro s d0 d1 d2 d3 d4 d5 d6 r n hq
  refine vcAttOwn0 s d0 d1 d2 d3 d4 d5 d6 r n ?_
  simp only [true_and, and_true, forall_eq, eq_self]
  refine cond_prop (fun h => ?_) fun h => ?_
  · obtain ⟨h0, h1⟩ := rightId_range h
    rcases sel_cases r d0 d1 d2 d3 d4 d5 d6 h0 h1 with ⟨rfl, e⟩ | ⟨rfl, e⟩ | ⟨rfl, e⟩ | ⟨rfl, e⟩ | ⟨rfl, e⟩ | ⟨rfl, e⟩ | ⟨rfl, e⟩ <;> simp [ow, h, beq_dec]
  · simp [ow, h]
theorem okAttOwns0 : OkAttOwns0 := by
  intro s d0 d1 d2 d3 d4 d5 d6 r n hq
  refine vcAttOwns0 s d0 d1 d2 d3 d4 d5 d6 r n ?_
  simp only [true_and, and_true, forall_eq, eq_self]
  refine cond_prop (fun h => ?_) fun h => ?_
  · obtain ⟨h0, h1⟩ := rightId_range h
    refine cond_prop (fun h' => ?_) fun h' => ?_
    · rcases sel_cases r d0 d1 d2 d3 d4 d5 d6 h0 h1 with ⟨rfl, e⟩ | ⟨rfl, e⟩ | ⟨rfl, e⟩ | ⟨rfl, e⟩ | ⟨rfl, e⟩ | ⟨rfl, e⟩ | ⟨rfl, e⟩ <;> simp [ownsB, ow, h, h', e, beq_dec] <;> rw [Bool.eq_iff_iff] <;> simp <;> omega
    · simp [ownsB, h, h']
  · simp [ownsB, h]
theorem okAttMerge0 : OkAttMerge0 := by
  intro s d0 d1 d2 d3 d4 d5 d6 s' e0 e1 e2 e3 e4 e5 e6 hq
  refine vcAttMerge0 s d0 d1 d2 d3 d4 d5 d6 s' e0 e1 e2 e3 e4 e5 e6 ?_
  simp only [true_and, and_true, forall_eq, eq_self]
  simp [mx]
theorem mx_le_iff (a b : Int) : (mx a b == b) = decide (a ≤ b) := by
  unfold mx
  rw [Bool.eq_iff_iff]
  simp only [beq_iff_eq, decide_eq_true_eq]
  split <;> omega
theorem okAttWithin0 : OkAttWithin0 := by
  intro s d0 d1 d2 d3 d4 d5 d6 s' e0 e1 e2 e3 e4 e5 e6 hq
  refine vcAttWithin0 s d0 d1 d2 d3 d4 d5 d6 s' e0 e1 e2 e3 e4 e5 e6 ?_
  simp only [true_and, and_true, forall_eq, eq_self, mx_le_iff, withinB]
  cases decide (s ≤ s') <;> simp [Bool.and_assoc]
theorem okRefIdRight0 : OkRefIdRight0 := by
  intro r n hq
  refine vcRefIdRight0 r n ?_
  simp only [true_and, and_true, forall_eq, eq_self]
  refine cond_prop (fun h => cond_prop (fun h' => cond_prop (fun h'' => ?_) fun h'' => ?_) fun h' => ?_) fun h => ?_
  all_goals
    simp [rightId] at *
    first | omega | (rw [Bool.eq_iff_iff]; simp; omega)
theorem okRefBal0 : OkRefBal0 := by
  intro b hq hb
  refine vcRefBal0 b ?_
  simp only [true_and, and_true, forall_eq, eq_self]
  have e1 : b.tdiv 8 = b / 8 := Int.tdiv_eq_ediv_of_nonneg hb.1
  have e2 : b.tmod 8 = b % 8 := Int.tmod_eq_emod_of_nonneg hb.1
  rw [e1, e2, wrap_u32 (by omega) (by omega)]
  refine ⟨by omega, by omega, cond_prop (fun h => ?_) fun h => cond_prop (fun h' => ?_) fun h' => ?_⟩
  all_goals
    simp [balOK] at *
    first | omega | (rw [Bool.eq_iff_iff]; simp; omega)
theorem okRefARight0 : OkRefARight0 := by
  intro s d0 d1 d2 d3 d4 d5 d6 hq
  refine vcRefARight0 s d0 d1 d2 d3 d4 d5 d6 ?_
  simp only [true_and, and_true, forall_eq, eq_self]
  simp only [rightA, inLen]
  repeat' (first | (refine ⟨by omega, ?_⟩) | (refine cond_prop (fun h => ?_) fun h => ?_))
  all_goals simp only [decide_eq_true_eq, decide_eq_false_iff_not] at *
  all_goals (rw [Bool.eq_iff_iff]; simp only [Bool.and_eq_true, decide_eq_true_eq, Bool.false_eq_true, iff_false]; omega)
end Go.Proofs.YtcokifdgbfbonaaDoor
