/- The document's sum: bits of a word as numbers; the contract of moothillref02.Of. -/
import Derived.Test.YtddilmocngedjaaSumRef
namespace Go.Proofs.Ytddilmocngedjaa
set_option linter.unusedVariables false
set_option linter.unusedSimpArgs false
open Go.RowKit

def bitI (y : BitVec 32) (j : Nat) : Int := if y.getLsbD j then 1 else 0
theorem bitI_range (y : BitVec 32) (j : Nat) : 0 ≤ bitI y j ∧ bitI y j ≤ 1 := by unfold bitI; split <;> omega
theorem bit_xor (y : BitVec 32) (b : UInt8) (k : Nat) (h : k < 32) : (bitI y k + ((b.toNat / 2 ^ k : Nat) : Int)) % 2 = bitI (y ^^^ BitVec.ofNat 32 b.toNat) k := by
  have hb : (BitVec.ofNat 32 b.toNat).getLsbD k = decide (b.toNat / 2 ^ k % 2 = 1) := by
    rw [BitVec.getLsbD_ofNat, Nat.testBit_eq_decide_div_mod_eq]; simp [h]
  unfold bitI
  rw [BitVec.getLsbD_xor, hb]
  generalize b.toNat / 2 ^ k = q
  have h2 := Nat.mod_two_eq_zero_or_one q
  rcases h2 with h2 | h2
  · have e : decide (q % 2 = 1) = false := by simp [h2]
    rw [e]; cases y.getLsbD k
    · show (0 + (q : Int)) % 2 = 0; omega
    · show (1 + (q : Int)) % 2 = 1; omega
  · have e : decide (q % 2 = 1) = true := by simp [h2]
    rw [e]; cases y.getLsbD k
    · show (0 + (q : Int)) % 2 = 1; omega
    · show (1 + (q : Int)) % 2 = 0; omega
theorem bit_high (y : BitVec 32) (b : UInt8) (k : Nat) (h : 8 ≤ k) : bitI (y ^^^ BitVec.ofNat 32 b.toNat) k = bitI y k := by
  have hb : (BitVec.ofNat 32 b.toNat).getLsbD k = false := by
    rw [BitVec.getLsbD_ofNat]
    have : b.toNat < 2 ^ k := Nat.lt_of_lt_of_le b.toNat_lt (Nat.pow_le_pow_right (by omega) h)
    simp [Nat.testBit_lt_two_pow this]
  unfold bitI
  rw [BitVec.getLsbD_xor, hb]; simp
theorem bit_shift (z : BitVec 32) (j : Nat) : bitI (z >>> 1) j = bitI z (j + 1) := by
  unfold bitI; rw [BitVec.getLsbD_ushiftRight, Nat.add_comm]
theorem bit_top (z : BitVec 32) (j : Nat) (h : 32 ≤ j) : bitI z j = 0 := by
  unfold bitI; rw [BitVec.getLsbD_of_ge _ _ h]; rfl
theorem bit_cbit (z : BitVec 32) (j : Nat) : (bitI (z >>> 1) j + bitI z 0 * bitI poly j) % 2 = bitI (cbit z) j := by
  unfold cbit bitI
  cases h0 : z.getLsbD 0
  · simp; split <;> rfl
  · simp only [if_true, BitVec.getLsbD_xor]
    cases (z >>> 1).getLsbD j <;> cases poly.getLsbD j <;> rfl
theorem bit_not (y : BitVec 32) (i : Nat) (h : i < 32) : (((~~~ y).toNat / 2 ^ (i + 1) : Nat) : Int) * 2 + (1 - bitI y i) = (((~~~ y).toNat / 2 ^ i : Nat) : Int) := by
  have hb : (~~~ y).getLsbD i = decide ((~~~ y).toNat / 2 ^ i % 2 = 1) := by rw [BitVec.getLsbD, Nat.testBit_eq_decide_div_mod_eq]
  rw [BitVec.getLsbD_not] at hb
  have hd : (~~~ y).toNat / 2 ^ (i + 1) = (~~~ y).toNat / 2 ^ i / 2 := by rw [Nat.div_div_eq_div_mul, Nat.pow_succ]
  unfold bitI
  rw [hd]
  generalize (~~~ y).toNat / 2 ^ i = q at hb ⊢
  cases hy : y.getLsbD i
  · rw [hy] at hb
    have h2 : q % 2 = 1 := by simpa [h] using hb.symm
    show ((q / 2 : Nat) : Int) * 2 + (1 - 0) = q; omega
  · rw [hy] at hb
    have h2 : q % 2 ≠ 1 := by simpa [h] using hb.symm
    show ((q / 2 : Nat) : Int) * 2 + (1 - 1) = q; omega
end Go.Proofs.Ytddilmocngedjaa
