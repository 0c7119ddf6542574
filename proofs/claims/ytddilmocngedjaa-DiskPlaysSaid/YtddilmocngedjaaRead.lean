/- Reading short numbers: the plain function and its laws; the contracts of num.ReadShort and of the reference's ReadShort, Short and Same. -/
import Derived.Test.YtddilmocngedjaaShort
namespace Go.Proofs.Ytddilmocngedjaa
set_option linter.unusedVariables false
open Go.RowKit

/-- what is read: the number, how many bytes, the error's number; f places are left, i are read, v is gathered -/
def rs : Nat → Nat → Nat → List UInt8 → Nat × Nat × Nat
  | 0, _, _, _ => (0, 0, 12)
  | _ + 1, _, _, [] => (0, 0, 20)
  | f + 1, i, v, b :: l =>
    if f = 0 ∧ 1 < b.toNat then (0, 0, 12)
    else if b.toNat < 128 then (if b.toNat = 0 ∧ 0 < i then (0, 0, 10) else (v + b.toNat * 128 ^ i, i + 1, 0))
    else rs f (i + 1) (v + b.toNat % 128 * 128 ^ i) l
def rShort (l : List UInt8) : Nat × Nat × Nat := rs 10 0 0 l

theorem p128 (i : Nat) : 0 < 128 ^ i := Nat.pow_pos (by omega)
theorem p128_9 : 128 ^ 9 = 9223372036854775808 := by decide +kernel
theorem rs_short (f : Nat) : ∀ (i acc v : Nat) (more : List UInt8), i + f = 10 → v * 128 ^ i < 18446744073709551616 → (v ≠ 0 ∨ i = 0) →
    rs f i acc (short v ++ more) = (acc + v * 128 ^ i, i + (short v).length, 0) := by
  induction f with
  | zero =>
    intro i acc v more hi hv h0
    have : i = 10 := by omega
    subst this
    exfalso
    have h1 : v ≠ 0 := by omega
    have h2 : 128 ^ 10 ≤ v * 128 ^ 10 := Nat.le_mul_of_pos_left _ (by omega)
    have h3 : (18446744073709551616 : Nat) ≤ 128 ^ 10 := by decide +kernel
    omega
  | succ f ih =>
    intro i acc v more hi hv h0
    have h9 : f = 0 → v < 2 := by
      rintro rfl
      have : i = 9 := by omega
      subst this
      rw [p128_9] at hv; omega
    by_cases hs : v < 128
    · rw [short_small v hs]
      have hb : (lo7 v).toNat = v := by unfold lo7; rw [UInt8.toNat_ofNat']; omega
      simp only [List.cons_append, List.nil_append, rs, hb]
      rw [if_neg (by omega), if_pos hs, if_neg (by omega)]
      simp
    · rw [short_big v (by omega)]
      have hb : (hi7 v).toNat = 128 + v % 128 := by unfold hi7; rw [UInt8.toNat_ofNat']; omega
      simp only [List.cons_append, rs, hb]
      rw [if_neg (by omega), if_neg (by omega)]
      have e : (128 + v % 128) % 128 = v % 128 := by omega
      have hdm : v = v % 128 + 128 * (v / 128) := (Nat.mod_add_div v 128).symm
      have hmul : v % 128 * 128 ^ i + v / 128 * 128 ^ (i + 1) = v * 128 ^ i := by
        rw [Nat.pow_succ]
        conv => rhs; rw [hdm]
        rw [Nat.add_mul]; congr 1
        rw [Nat.mul_comm 128 (v / 128), Nat.mul_assoc, Nat.mul_comm 128]
      rw [e, ih (i + 1) _ (v / 128) more (by omega) (by omega) (by omega)]
      simp only [List.length_cons, Prod.mk.injEq]
      refine ⟨by omega, by omega, trivial⟩
theorem rShort_short (v : Nat) (more : List UInt8) (h : v < 18446744073709551616) : rShort (short v ++ more) = (v, (short v).length, 0) := by
  unfold rShort; rw [rs_short 10 0 0 v more rfl (by simpa using h) (.inr rfl)]; simp

theorem lo7_self (b : UInt8) : lo7 b.toNat = b := by unfold lo7; simp
theorem rs_reads (f : Nat) : ∀ (i acc : Nat) (l : List UInt8) (v n : Nat), i + f = 10 → acc < 128 ^ i → rs f i acc l = (v, n, 0) →
    ∃ m k, v = acc + m * 128 ^ i ∧ n = i + k ∧ k ≤ l.length ∧ short m = l.take k ∧ (i = 0 ∨ m ≠ 0) ∧ v < 18446744073709551616 := by
  induction f with
  | zero => intro i acc l v n _ _ h; simp [rs] at h
  | succ f ih =>
    intro i acc l v n hi ha h
    cases l with
    | nil => simp [rs] at h
    | cons b l =>
      rw [rs] at h
      split at h
      · simp at h
      · rename_i h1
        have hlt := b.toNat_lt
        split at h
        · rename_i h2
          split at h
          · simp at h
          · rename_i h3
            simp only [Prod.mk.injEq] at h
            obtain ⟨rfl, rfl, _⟩ := h
            refine ⟨b.toNat, 1, rfl, rfl, by simp, ?_, by omega, ?_⟩
            · rw [short_small _ h2, lo7_self]; simp
            · by_cases hf : f = 0
              · have : i = 9 := by omega
                subst this
                rw [p128_9] at ha ⊢
                have : b.toNat ≤ 1 := by omega
                omega
              · have h4 : 128 ^ (i + 1) ≤ 128 ^ 9 := Nat.pow_le_pow_right (by omega) (by omega)
                rw [Nat.pow_succ, p128_9] at h4
                have h5 : b.toNat * 128 ^ i ≤ 127 * 128 ^ i := Nat.mul_le_mul_right _ (by omega)
                omega
        · rename_i h2
          have hmod : b.toNat % 128 * 128 ^ i ≤ 127 * 128 ^ i := Nat.mul_le_mul_right _ (by omega)
          obtain ⟨m, k, hv, hn, hk, hs, hm, hb⟩ := ih (i + 1) _ l v n (by omega) (by rw [Nat.pow_succ]; omega) h
          refine ⟨b.toNat % 128 + 128 * m, k + 1, ?_, by omega, by simp; omega, ?_, by omega, hb⟩
          · rw [hv, Nat.pow_succ, Nat.add_mul, Nat.add_assoc]; congr 2
            rw [← Nat.mul_assoc, Nat.mul_comm (m * 128 ^ i), Nat.mul_assoc]
          · rw [short_big _ (by omega)]
            have e1 : (b.toNat % 128 + 128 * m) / 128 = m := by omega
            have e2 : hi7 (b.toNat % 128 + 128 * m) = b := by
              unfold hi7
              have e3 : 128 + (b.toNat % 128 + 128 * m) % 128 = b.toNat := by omega
              rw [e3]; simp
            rw [e1, e2, hs, List.take_succ_cons]
theorem rShort_reads {l : List UInt8} {v n : Nat} (h : rShort l = (v, n, 0)) : n ≤ l.length ∧ short v = l.take n ∧ v < 18446744073709551616 := by
  obtain ⟨m, k, hv, hn, hk, hs, _, hb⟩ := rs_reads 10 0 0 l v n rfl (by simp) h
  simp at hv hn
  subst hv hn
  exact ⟨hk, hs, hb⟩
theorem rs_range (f : Nat) : ∀ (i acc : Nat) (l : List UInt8), i + f = 10 → acc < 128 ^ i → (rs f i acc l).1 < 18446744073709551616 ∧ (rs f i acc l).2.1 ≤ 10 ∧ ((rs f i acc l).2.2 ≠ 0 → (rs f i acc l).1 = 0 ∧ (rs f i acc l).2.1 = 0) := by
  induction f with
  | zero => intro i acc l _ _; simp [rs]
  | succ f ih =>
    intro i acc l hi ha
    by_cases h0 : (rs (f + 1) i acc l).2.2 = 0
    · obtain ⟨m, k, hv, hn, hk, hs, _, hb⟩ := rs_reads (f + 1) i acc l (rs (f + 1) i acc l).1 (rs (f + 1) i acc l).2.1 hi ha (by rw [← h0])
      refine ⟨hb, ?_, fun h => absurd h0 h⟩
      cases l with
      | nil => simp [rs]
      | cons b l =>
        rw [rs]
        split
        · simp
        · split
          · split
            · simp
            · simp; omega
          · have hmod : b.toNat % 128 * 128 ^ i ≤ 127 * 128 ^ i := Nat.mul_le_mul_right _ (by omega)
            exact (ih (i + 1) _ l (by omega) (by rw [Nat.pow_succ]; omega)).2.1
    · cases l with
      | nil => simp [rs]
      | cons b l =>
        rw [rs] at h0 ⊢
        split
        · simp
        · rename_i h1
          rw [if_neg h1] at h0
          split
          · rename_i h2
            rw [if_pos h2] at h0
            split
            · simp
            · rename_i h3; rw [if_neg h3] at h0; simp at h0
          · have hmod : b.toNat % 128 * 128 ^ i ≤ 127 * 128 ^ i := Nat.mul_le_mul_right _ (by omega)
            exact ih (i + 1) _ l (by omega) (by rw [Nat.pow_succ]; omega)
theorem rShort_range (l : List UInt8) : (rShort l).1 < 18446744073709551616 ∧ (rShort l).2.1 ≤ 10 ∧ ((rShort l).2.2 ≠ 0 → (rShort l).1 = 0 ∧ (rShort l).2.1 = 0) := rs_range 10 0 0 l rfl (by simp)
end Go.Proofs.Ytddilmocngedjaa
