/- Bits that are turned in place, as the program computes them. -/
import Derived.Test.YtddilmocngedjaaTurnQ
import Derived.Test.YtddilmocngedjaaLaxWrap
import Derived.Test.YtddilmocngedjaaLaxByt
namespace Go.Proofs.Ytddilmocngedjaa
set_option linter.unusedVariables false
set_option linter.unusedSimpArgs false
theorem knownB (l : List UInt8) (f : AV → Bool) (hf : ∀ b, f (byteAV b) = true) : (bytesAV l).all f = true := by
  rw [List.all_eq_true]
  intro x hx
  obtain ⟨b, _, rfl⟩ := List.mem_map.1 hx
  exact hf b
theorem bit_of (bits : Int) (h0 : 0 ≤ bits) (h1 : bits ≤ 4294967295) (i : Nat) (hi : i < 32) : (intBits .and .u32 (Int.fdiv bits (2 ^ (min (IntKind.u64.wrap (i : Int)).toNat 32))) 1 == 1) = bitV bits i := by
  rw [wrap_u64 (by omega) (by omega), Int.toNat_natCast, Nat.min_eq_left (by omega)]
  obtain ⟨n, rfl⟩ : ∃ n : Nat, bits = (n : Int) := ⟨bits.toNat, by omega⟩
  have e1 : Int.fdiv (n : Int) (2 ^ i) = ((n / 2 ^ i : Nat) : Int) := by
    rw [Int.fdiv_eq_ediv_of_nonneg _ (by exact Int.le_of_lt (Int.pow_pos (by decide)))]
    rw [Int.natCast_ediv, Int.natCast_pow]; rfl
  rw [e1]
  obtain ⟨m, hm⟩ : ∃ m, m = n / 2 ^ i := ⟨_, rfl⟩
  have hml : m ≤ n := by rw [hm]; exact Nat.div_le_self _ _
  have e2 : intBits .and .u32 ((n / 2 ^ i : Nat) : Int) 1 = ((m % 2 : Nat) : Int) := by
    rw [← hm]
    unfold intBits
    show IntKind.u32.wrap (((BitVec.ofInt 32 (m : Int) &&& BitVec.ofInt 32 1).toNat : Nat) : Int) = _
    have e3 : (BitVec.ofInt 32 (m : Int) &&& BitVec.ofInt 32 1).toNat = m % 2 := by
      rw [BitVec.toNat_and]
      have : (BitVec.ofInt 32 (m : Int)).toNat = m := by
        rw [BitVec.toNat_ofInt]; omega
      rw [this]
      show m &&& 1 = m % 2
      exact Nat.and_one_is_mod m
    rw [e3, wrap_u32 (by omega) (by omega)]
  rw [e2]
  unfold bitV
  rw [Int.toNat_natCast, Nat.testBit_eq_decide_div_mod_eq, ← hm]
  by_cases h : m % 2 = 1
  · rw [h]; simp
  · have : m % 2 = 0 := by omega
    rw [this]; simp
theorem put_flip (l : List UInt8) (k : Nat) (hk : k < 8 * l.length) (hb : k ≤ 1000000000) :
    putL (bytesAV l) (0 + (IntKind.i64.wrap (Int.tdiv (k : Int) 8)).toNat) (.int .u8 (intBits .xor .u8 (rdInt (elemAt (bytesAV l) (0 + (IntKind.i64.wrap (Int.tdiv (k : Int) 8)).toNat)) 0) (IntKind.u8.wrap (1 * 2 ^ (min (IntKind.u64.wrap (Int.tmod (k : Int) 8)).toNat 8))))) = bytesAV (flipL l k) := by
  have e1 : Int.tdiv (k : Int) 8 = ((k / 8 : Nat) : Int) := by rw [Int.tdiv_eq_ediv_of_nonneg (by omega)]; omega
  have e2 : Int.tmod (k : Int) 8 = ((k % 8 : Nat) : Int) := by rw [Int.tmod_eq_emod_of_nonneg (by omega)]; omega
  have e3 : IntKind.i64.wrap ((k / 8 : Nat) : Int) = ((k / 8 : Nat) : Int) := wrap_i64 (by omega) (by omega)
  have e4 : IntKind.u64.wrap ((k % 8 : Nat) : Int) = ((k % 8 : Nat) : Int) := wrap_u64 (by omega) (by omega)
  rw [e1, e2, e3, e4, Int.toNat_natCast, Int.toNat_natCast, Nat.zero_add, rdInt_bytes, Nat.min_eq_left (by omega)]
  have hm : k % 8 < 8 := Nat.mod_lt _ (by omega)
  have hk8 : k / 8 < l.length := by omega
  have e5 : IntKind.u8.wrap (1 * 2 ^ (k % 8)) = ((2 ^ (k % 8) : Nat) : Int) ∧ 2 ^ (k % 8) < 256 := by
    have h1 : k % 8 = 0 ∨ k % 8 = 1 ∨ k % 8 = 2 ∨ k % 8 = 3 ∨ k % 8 = 4 ∨ k % 8 = 5 ∨ k % 8 = 6 ∨ k % 8 = 7 := by omega
    rcases h1 with h1 | h1 | h1 | h1 | h1 | h1 | h1 | h1 <;> rw [h1] <;> decide
  rw [e5.1]
  have e6 : ∀ (x y : UInt8), intBits .xor .u8 (x.toNat : Int) (y.toNat : Int) = ((x ^^^ y).toNat : Int) := by
    intro x y
    unfold intBits
    show IntKind.u8.wrap (((BitVec.ofInt 8 (x.toNat : Int) ^^^ BitVec.ofInt 8 (y.toNat : Int)).toNat : Nat) : Int) = _
    have e7 : ∀ z : UInt8, (BitVec.ofInt 8 (z.toNat : Int)).toNat = z.toNat := by
      intro z
      rw [BitVec.toNat_ofInt]
      have := z.toNat_lt
      omega
    rw [BitVec.toNat_xor, e7, e7, ← UInt8.toNat_xor]
    have := (x ^^^ y).toNat_lt
    exact wrap_u8 (by omega) (by omega)
  have e8 : ((2 ^ (k % 8) : Nat) : Int) = ((UInt8.ofNat (2 ^ (k % 8))).toNat : Int) := by
    rw [UInt8.toNat_ofNat', Nat.mod_eq_of_lt e5.2]
  rw [e8, e6]
  unfold putL flipL bytesAV
  rw [List.set_eq_take_append_cons_drop, if_pos hk8]
  simp [byteAV]
theorem cut_all (l : List UInt8) : cutL (bytesAV l) 0 l.length = bytesAV l := by
  unfold cutL
  rw [List.drop_zero, List.take_of_length_le (by rw [length_bytesAV]; omega)]
end Go.Proofs.Ytddilmocngedjaa
