/- Attributes: the contracts. -/
import Derived.Test.YtnhfjdbnkpbbkabLaxAttrBVc
namespace Go.Proofs.Ytnhfjdbnkpbbkab
set_option linter.unusedVariables false
set_option linter.unusedSimpArgs false
open Go.RowKit

theorem cond_prop {b : Bool} {X Y : Prop} (h1 : b = true → X) (h2 : b = false → Y) : cond b X Y := by
  cases b
  · exact h2 rfl
  · exact h1 rfl

theorem beq_dec (a b : Nat) : Nat.beq a b = decide (a = b) := by
  by_cases h : a = b
  · subst h; simp
  · rw [decide_eq_false h]
    cases hq : Nat.beq a b with
    | false => rfl
    | true => exact absurd (Nat.eq_of_beq_eq_true hq) h
theorem okRightId (r n : Int) : inRightId r n := by
  refine vcRightId r n ?_
  simp only [true_and, and_true]
  refine cond_prop (fun h => cond_prop (fun h' => cond_prop (fun h'' => ?_) fun h'' => ?_) fun h' => ?_) fun h => ?_
  · simp only [decide_eq_true_eq] at h h' h''
    simp only [rightId, decide_eq_decide]; omega
  · simp only [decide_eq_true_eq, decide_eq_false_iff_not] at h h' h''
    simp only [rightId, decide_eq_false_iff_not]; omega
  · simp only [decide_eq_true_eq, decide_eq_false_iff_not] at h h'
    simp only [rightId, decide_eq_false_iff_not]; omega
  · simp only [decide_eq_true_eq, decide_eq_false_iff_not] at h
    simp only [rightId, decide_eq_false_iff_not]; omega
theorem sel_cases (r d0 d1 d2 d3 d4 d5 d6 : Int) (h0 : 0 ≤ r) (h1 : r ≤ 6) : (r = 0 ∧ sel r d0 d1 d2 d3 d4 d5 d6 = d0) ∨ (r = 1 ∧ sel r d0 d1 d2 d3 d4 d5 d6 = d1) ∨ (r = 2 ∧ sel r d0 d1 d2 d3 d4 d5 d6 = d2) ∨ (r = 3 ∧ sel r d0 d1 d2 d3 d4 d5 d6 = d3) ∨ (r = 4 ∧ sel r d0 d1 d2 d3 d4 d5 d6 = d4) ∨ (r = 5 ∧ sel r d0 d1 d2 d3 d4 d5 d6 = d5) ∨ (r = 6 ∧ sel r d0 d1 d2 d3 d4 d5 d6 = d6) := by
  have : r = 0 ∨ r = 1 ∨ r = 2 ∨ r = 3 ∨ r = 4 ∨ r = 5 ∨ r = 6 := by omega
  rcases this with rfl | rfl | rfl | rfl | rfl | rfl | rfl <;> simp [sel]
theorem rightId_range {r n : Int} (h : rightId r n = true) : 0 ≤ r ∧ r ≤ 6 := by
  simp [rightId] at h; omega
theorem okCovers (s d0 d1 d2 d3 d4 d5 d6 r n : Int) : inCovers s d0 d1 d2 d3 d4 d5 d6 r n := by
  refine vcCovers s d0 d1 d2 d3 d4 d5 d6 r n ?_
  simp only [true_and, and_true]
  refine cond_prop (fun h => ?_) fun h => ?_
  · obtain ⟨h0, h1⟩ := rightId_range h
    rcases sel_cases r d0 d1 d2 d3 d4 d5 d6 h0 h1 with ⟨rfl, e⟩ | ⟨rfl, e⟩ | ⟨rfl, e⟩ | ⟨rfl, e⟩ | ⟨rfl, e⟩ | ⟨rfl, e⟩ | ⟨rfl, e⟩ <;> simp [covB, h, e, beq_dec]
  · simp [covB, h]
theorem okOwn (s d0 d1 d2 d3 d4 d5 d6 r n : Int) : inOwn s d0 d1 d2 d3 d4 d5 d6 r n := by
  refine vcOwn s d0 d1 d2 d3 d4 d5 d6 r n ?_
  simp only [true_and, and_true]
  refine cond_prop (fun h => ?_) fun h => ?_
  · obtain ⟨h0, h1⟩ := rightId_range h
    rcases sel_cases r d0 d1 d2 d3 d4 d5 d6 h0 h1 with ⟨rfl, e⟩ | ⟨rfl, e⟩ | ⟨rfl, e⟩ | ⟨rfl, e⟩ | ⟨rfl, e⟩ | ⟨rfl, e⟩ | ⟨rfl, e⟩ <;> simp [ow, h, beq_dec]
  · simp [ow, h]
theorem okOwns (s d0 d1 d2 d3 d4 d5 d6 r n : Int) : inOwns s d0 d1 d2 d3 d4 d5 d6 r n := by
  refine vcOwns s d0 d1 d2 d3 d4 d5 d6 r n ?_
  simp only [true_and, and_true]
  refine cond_prop (fun h => ?_) fun h => ?_
  · obtain ⟨h0, h1⟩ := rightId_range h
    refine cond_prop (fun h' => ?_) fun h' => ?_
    · rcases sel_cases r d0 d1 d2 d3 d4 d5 d6 h0 h1 with ⟨rfl, e⟩ | ⟨rfl, e⟩ | ⟨rfl, e⟩ | ⟨rfl, e⟩ | ⟨rfl, e⟩ | ⟨rfl, e⟩ | ⟨rfl, e⟩ <;> simp [ownsB, ow, h, h', e, beq_dec] <;> rw [Bool.eq_iff_iff] <;> simp <;> omega
    · simp [ownsB, h, h']
  · simp [ownsB, h]
theorem okAnchor : inAnchor := by
  refine vcAnchor ?_
  simp [covB, ownsB, rightId, rightA, inLen, sel]
theorem seven {i : Nat} (h : i < 7) : i = 0 ∨ i = 1 ∨ i = 2 ∨ i = 3 ∨ i = 4 ∨ i = 5 ∨ i = 6 := by omega
theorem pick7 (d0 d1 d2 d3 d4 d5 d6 : Int) {i : Nat} (h : i < 7) : (bif Nat.beq ((i : Int).toNat * 1) 0 then d0 else bif Nat.beq ((i : Int).toNat * 1) 1 then d1 else bif Nat.beq ((i : Int).toNat * 1) 2 then d2 else bif Nat.beq ((i : Int).toNat * 1) 3 then d3 else bif Nat.beq ((i : Int).toNat * 1) 4 then d4 else bif Nat.beq ((i : Int).toNat * 1) 5 then d5 else d6) = sel (i : Int) d0 d1 d2 d3 d4 d5 d6 := by
  rcases seven h with rfl | rfl | rfl | rfl | rfl | rfl | rfl <;> rfl
theorem rightA_false {s d0 d1 d2 d3 d4 d5 d6 : Int} {i : Nat} (h : i < 7) (hs : inLen (sel (i : Int) d0 d1 d2 d3 d4 d5 d6) = false) : rightA s d0 d1 d2 d3 d4 d5 d6 = false := by
  rcases seven h with rfl | rfl | rfl | rfl | rfl | rfl | rfl <;> simp [sel] at hs <;> simp [rightA, hs]
theorem rightA_true {s d0 d1 d2 d3 d4 d5 d6 : Int} (h : ∀ j : Nat, j < 7 → inLen (sel (j : Int) d0 d1 d2 d3 d4 d5 d6) = true) : rightA s d0 d1 d2 d3 d4 d5 d6 = decide (0 ≤ s ∧ s ≤ 1073741824) := by
  have h0 : inLen d0 = true := h 0 (by omega)
  have h1 : inLen d1 = true := h 1 (by omega)
  have h2 : inLen d2 = true := h 2 (by omega)
  have h3 : inLen d3 = true := h 3 (by omega)
  have h4 : inLen d4 = true := h 4 (by omega)
  have h5 : inLen d5 = true := h 5 (by omega)
  have h6 : inLen d6 = true := h 6 (by omega)
  simp [rightA, h0, h1, h2, h3, h4, h5, h6]
theorem okRightA (s d0 d1 d2 d3 d4 d5 d6 : Int) : inRightA s d0 d1 d2 d3 d4 d5 d6 := by
  refine vcRightA s d0 d1 d2 d3 d4 d5 d6 ?_
  simp only [true_and, and_true]
  refine ⟨⟨Nat.zero, rfl, Nat.zero_le 7, fun j hj => absurd hj (Nat.not_lt_zero j)⟩, ?_⟩
  rintro i ⟨hi, hinv⟩
  refine cond_prop (fun h => ?_) fun h => ?_
  · simp only [decide_eq_true_eq] at h
    have hi7 : i < 7 := by omega
    rw [pick7 d0 d1 d2 d3 d4 d5 d6 hi7]
    refine ⟨⟨by omega, by omega, by omega⟩, cond_prop (fun h1 => ?_) fun h1 => cond_prop (fun h2 => ?_) fun h2 => ?_⟩
    · simp only [decide_eq_true_eq] at h1
      exact rightA_false hi7 (by simp only [inLen, decide_eq_false_iff_not]; omega)
    · simp only [decide_eq_true_eq] at h2
      exact rightA_false hi7 (by simp only [inLen, decide_eq_false_iff_not]; omega)
    · simp only [decide_eq_false_iff_not] at h1 h2
      refine ⟨i + 1, ?_, ⟨by omega, fun j hj => ?_⟩, by omega⟩
      · have hw : IntKind.i64.wrap ((i : Int) + 1) = ((i + 1 : Nat) : Int) := by rw [IntKind.wrap_i64]; omega
        exact congrArg (AV.int .i64) hw
      · by_cases hj' : j < i
        · exact hinv j hj'
        · have : j = i := by omega
          subst this
          simp only [inLen, decide_eq_true_eq]; omega
  · simp only [decide_eq_false_iff_not] at h
    have e := rightA_true (s := s) (fun j hj => hinv j (by omega))
    rw [e]
    refine cond_prop (fun h1 => ?_) fun h1 => ?_
    · simp only [decide_eq_true_eq] at h1
      simp only [decide_eq_decide]; omega
    · simp only [decide_eq_false_iff_not] at h1
      simp only [decide_eq_false_iff_not]; omega
end Go.Proofs.Ytnhfjdbnkpbbkab
