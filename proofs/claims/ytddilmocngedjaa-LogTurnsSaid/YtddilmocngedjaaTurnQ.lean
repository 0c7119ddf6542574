/- Turned bits of a sealed text are told: the plain law. -/
import Derived.Test.YtddilmocngedjaaCrcP
import Derived.Test.YtddilmocngedjaaLaxPkLog
namespace Go.Proofs.Ytddilmocngedjaa
set_option linter.unusedVariables false
set_option linter.unusedSimpArgs false
theorem sealL_len (l : List UInt8) : (sealL l).length = l.length + 4 := by simp [sealL, tailL]
/-- one bit turned -/
def flipL (s : List UInt8) (k : Nat) : List UInt8 := s.set (k / 8) (s.getD (k / 8) 0 ^^^ UInt8.ofNat (2 ^ (k % 8)))
def bitV (bits : Int) (i : Nat) : Bool := bits.toNat.testBit i
/-- what is turned in so many rounds -/
def turnI (s : List UInt8) (c bits : Int) : Nat → List UInt8
  | 0 => s
  | i + 1 => if c + i < s.length * 8 ∧ bitV bits i = true then flipL (turnI s c bits i) (c + i).toNat else turnI s c bits i
def turnedI (n : Nat) (c bits : Int) : Nat → Bool
  | 0 => false
  | i + 1 => if c + i < n * 8 ∧ bitV bits i = true then true else turnedI n c bits i
theorem flipL_len (s : List UInt8) (k : Nat) : (flipL s k).length = s.length := by simp [flipL]
theorem turnI_len (s : List UInt8) (c bits : Int) (i : Nat) : (turnI s c bits i).length = s.length := by
  induction i with
  | zero => rfl
  | succ i ih =>
    simp only [turnI]
    split
    · rw [flipL_len, ih]
    · exact ih
theorem bitL_flip (s : List UInt8) (k j : Nat) (hk : k < 8 * s.length) : bitL (flipL s k) j = (bitL s j ^^ decide (j = k)) := by
  unfold bitL flipL
  have hk8 : k / 8 < s.length := by omega
  by_cases h : j / 8 = k / 8
  · rw [h]
    have e1 : (s.set (k / 8) (s.getD (k / 8) 0 ^^^ UInt8.ofNat (2 ^ (k % 8)))).getD (k / 8) 0 = s.getD (k / 8) 0 ^^^ UInt8.ofNat (2 ^ (k % 8)) := by
      rw [List.getD_eq_getElem?_getD, List.getElem?_set_self hk8]; rfl
    rw [e1, UInt8.toNat_xor, Nat.testBit_xor]
    congr 1
    have hp : 2 ^ (k % 8) < 256 := by
      have : k % 8 < 8 := Nat.mod_lt _ (by omega)
      have h1 : k % 8 = 0 ∨ k % 8 = 1 ∨ k % 8 = 2 ∨ k % 8 = 3 ∨ k % 8 = 4 ∨ k % 8 = 5 ∨ k % 8 = 6 ∨ k % 8 = 7 := by omega
      rcases h1 with h1 | h1 | h1 | h1 | h1 | h1 | h1 | h1 <;> rw [h1] <;> decide
    have e2 : (UInt8.ofNat (2 ^ (k % 8))).toNat = 2 ^ (k % 8) := by
      rw [UInt8.toNat_ofNat']; exact Nat.mod_eq_of_lt hp
    rw [e2, Nat.testBit_two_pow]
    rw [decide_eq_decide]
    omega
  · have e1 : (s.set (k / 8) (s.getD (k / 8) 0 ^^^ UInt8.ofNat (2 ^ (k % 8)))).getD (j / 8) 0 = s.getD (j / 8) 0 := by
      rw [List.getD_eq_getElem?_getD, List.getElem?_set_ne (fun e => h e.symm), List.getD_eq_getElem?_getD]
    rw [e1]
    have : ¬ j = k := by rintro rfl; exact h rfl
    simp [this]
theorem bitL_turn (s : List UInt8) (c : Nat) (bits : Int) (i : Nat) (j : Nat) (hj : j < 8 * s.length) : bitL (turnI s (c : Int) bits i) j = (bitL s j ^^ (decide (c ≤ j) && decide (j < c + i) && bitV bits (j - c))) := by
  induction i with
  | zero =>
    have : (decide (c ≤ j) && decide (j < c + 0)) = false := by
      by_cases h : c ≤ j
      · simp [show ¬ j < c from by omega]
      · simp [h]
    rw [this]
    simp [turnI]
  | succ i ih =>
    simp only [turnI]
    have hi : ((c : Int) + (i : Int)).toNat = c + i := by omega
    split
    · rename_i h
      rw [hi, bitL_flip _ _ _ (by rw [turnI_len]; omega), ih]
      by_cases hji : j = c + i
      · subst hji
        have e : c + i - c = i := by omega
        rw [e, h.2]
        simp
      · have : decide (j < c + (i + 1)) = decide (j < c + i) := by rw [decide_eq_decide]; omega
        rw [this]
        simp [hji]
    · rename_i h
      rw [ih]
      congr 1
      by_cases hji : j = c + i
      · subst hji
        have e : c + i - c = i := by omega
        rw [e]
        have hb : bitV bits i = false := by
          cases hq : bitV bits i with
          | false => rfl
          | true => exact absurd ⟨by omega, hq⟩ h
        rw [hb]; simp
      · have : decide (j < c + (i + 1)) = decide (j < c + i) := by rw [decide_eq_decide]; omega
        rw [this]
theorem turnedI_spec (n c : Nat) (bits : Int) (i : Nat) : turnedI n (c : Int) bits i = true → ∃ k, k < i ∧ c + k < n * 8 ∧ bitV bits k = true := by
  induction i with
  | zero => intro h; cases h
  | succ i ih =>
    simp only [turnedI]
    split
    · rename_i h
      intro _
      exact ⟨i, by omega, by omega, h.2⟩
    · intro h
      obtain ⟨k, h1, h2⟩ := ih h
      exact ⟨k, by omega, h2⟩
theorem tail_bits (v : BitVec 32) (k : Nat) (hk : k < 32) : bitL (tailL (v.toNat : Int)) k = v.getLsbD k := by
  unfold bitL tailL
  have hv := v.isLt
  have h0 : ∀ i, i < 4 → (byteAt (v.toNat : Int) i).toNat = v.toNat / 2 ^ (8 * i) % 256 := by
    intro i hi
    have h1 : i = 0 ∨ i = 1 ∨ i = 2 ∨ i = 3 := by omega
    rcases h1 with rfl | rfl | rfl | rfl <;> simp [byteAt] <;> omega
  have key : ∀ i m, i < 4 → m < 8 → (byteAt (v.toNat : Int) i).toNat.testBit m = v.getLsbD (8 * i + m) := by
    intro i m hi hm
    rw [h0 i hi, show (256 : Nat) = 2 ^ 8 from rfl, Nat.testBit_mod_two_pow, Nat.testBit_div_two_pow]
    simp [hm, BitVec.getLsbD, Nat.add_comm]
  have h1 : k / 8 = 0 ∨ k / 8 = 1 ∨ k / 8 = 2 ∨ k / 8 = 3 := by omega
  have hm : k % 8 < 8 := Nat.mod_lt _ (by omega)
  have e : k = 8 * (k / 8) + k % 8 := by omega
  rcases h1 with h | h | h | h <;> rw [h] at e ⊢ <;> rw [show v.getLsbD k = v.getLsbD (8 * _ + k % 8) from congrArg _ e, ← key _ _ (by omega) hm] <;> rfl
theorem tail_crc (m : List UInt8) : crcFrom (BitVec.allOnes 32) (m ++ tailL (crcI m)) = cbits 32 (BitVec.allOnes 32) :=
  crc_tail m _ rfl (fun k hk => tail_bits (crc m) k hk)
theorem openOK_crc {l : List UInt8} (h : openOK l = true) : crcFrom (BitVec.allOnes 32) l = cbits 32 (BitVec.allOnes 32) := by
  unfold openOK at h
  obtain ⟨h1, h2⟩ := of_decide_eq_true h
  have e : l = bodyL l ++ tailL (crcI (bodyL l)) := by
    rw [← h2]
    unfold bodyL
    exact (List.take_append_drop _ _).symm
  rw [e]
  exact tail_crc (bodyL l)
/-- a sealed text whose bits were turned isn't opened -/
theorem turned_told (l : List UInt8) (c : Nat) (bits : Int) (h0 : 0 ≤ bits) (h1 : bits ≤ 4294967295) (hc : c ≤ 8 * (sealL l).length) (ht : turnedI (sealL l).length (c : Int) bits 32 = true) : openOK (turnI (sealL l) (c : Int) bits 32) = false := by
  cases hq : openOK (turnI (sealL l) (c : Int) bits 32) with
  | false => rfl
  | true =>
    exfalso
    obtain ⟨k, hk, hkn, hkb⟩ := turnedI_spec _ _ _ _ ht
    obtain ⟨v, hv⟩ : ∃ v : BitVec 32, v = BitVec.ofNat 32 bits.toNat := ⟨_, rfl⟩
    have hvb : ∀ i, v.getLsbD i = (decide (i < 32) && bitV bits i) := by
      intro i
      rw [hv, BitVec.getLsbD_ofNat]
      rfl
    have e1 := openOK_crc hq
    have e2 : crcFrom (BitVec.allOnes 32) (sealL l) = cbits 32 (BitVec.allOnes 32) := tail_crc l
    have := crc_turned (sealL l) (turnI (sealL l) (c : Int) bits 32) (turnI_len _ _ _ _) c v hc (fun j hj => by
      rw [bitL_turn _ _ _ _ _ hj, hvb]
      congr 1
      by_cases h : c ≤ j
      · have : decide (j < c + 32) = decide (j - c < 32) := by rw [decide_eq_decide]; omega
        rw [this]; simp [h]
      · simp [h]) (by rw [e1, e2]) (c + k) (by omega) (by omega)
    rw [show c + k - c = k from by omega, hvb, hkb] at this
    simp [hk] at this
end Go.Proofs.Ytddilmocngedjaa
