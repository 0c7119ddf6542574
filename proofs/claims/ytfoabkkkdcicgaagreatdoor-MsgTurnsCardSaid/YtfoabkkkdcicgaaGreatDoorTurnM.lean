/- Turned bits of a sealed text are told: the plain law. -/
import Derived.Test.YtfoabkkkdcicgaaGreatDoorLaxPkSumW
namespace Go.Proofs.YtfoabkkkdcicgaaGreatDoor
set_option linter.unusedVariables false
set_option linter.unusedSimpArgs false
/-- one bit -/
def bit1 (b : Bool) : BitVec 32 := if b then 1#32 else 0#32
/-- bits taken in, one by one -/
def feed (s : BitVec 32) (f : Nat → Bool) : Nat → BitVec 32
  | 0 => s
  | k + 1 => cbit (feed s f k ^^^ bit1 (f k))
theorem feed_congr {s : BitVec 32} {f g : Nat → Bool} {n : Nat} (h : ∀ k, k < n → f k = g k) : feed s f n = feed s g n := by
  induction n with
  | zero => rfl
  | succ n ih => simp only [feed]; rw [ih fun k hk => h k (by omega), h n (by omega)]
theorem feed_add (s : BitVec 32) (f : Nat → Bool) (a b : Nat) : feed s f (a + b) = feed (feed s f a) (fun k => f (a + k)) b := by
  induction b with
  | zero => rfl
  | succ b ih => show cbit (feed s f (a + b) ^^^ _) = _; rw [ih]; rfl
theorem bit1_xor (a b : Bool) : bit1 (a ^^ b) = bit1 a ^^^ bit1 b := by cases a <;> cases b <;> decide
theorem feed_xor (s t : BitVec 32) (f g : Nat → Bool) (n : Nat) : feed (s ^^^ t) (fun k => f k ^^ g k) n = feed s f n ^^^ feed t g n := by
  induction n with
  | zero => rfl
  | succ n ih => simp only [feed]; rw [ih, bit1_xor, xor_mid, cbit_xor]
theorem cbit_zero : cbit 0#32 = 0#32 := by decide
theorem cbits_zero (n : Nat) : cbits n 0#32 = 0#32 := by
  induction n with
  | zero => rfl
  | succ n ih => show cbit (cbits n _) = _; rw [ih, cbit_zero]
theorem cbit_inj0 (a : BitVec 32) (h : cbit a = 0#32) : a = 0#32 := by
  unfold cbit at h
  have h31 := congrArg (fun x : BitVec 32 => x.getLsbD 31) h
  simp only [BitVec.getLsbD_xor, BitVec.getLsbD_ushiftRight] at h31
  by_cases h0 : a.getLsbD 0 = true
  · rw [if_pos h0] at h31
    have e1 : a.getLsbD (1 + 31) = false := BitVec.getLsbD_of_ge a 32 (by omega)
    rw [e1] at h31
    exact absurd h31 (by decide)
  · rw [if_neg h0] at h
    apply BitVec.eq_of_getLsbD_eq
    intro i hi
    have e0 : (0#32).getLsbD i = false := by simp
    rw [e0]
    match i with
    | 0 => simpa using h0
    | j + 1 =>
      have hj := congrArg (fun x : BitVec 32 => x.getLsbD j) h
      simp only [BitVec.getLsbD_xor, BitVec.getLsbD_ushiftRight] at hj
      rw [show 1 + j = j + 1 from by omega] at hj
      simpa using hj
theorem cbits_inj0 (n : Nat) (a : BitVec 32) (h : cbits n a = 0#32) : a = 0#32 := by
  induction n with
  | zero => exact h
  | succ n ih => exact ih (cbit_inj0 _ h)
/-- the lowest bits -/
def low (n : Nat) (v : BitVec 32) : BitVec 32 := BitVec.ofNat 32 (v.toNat % 2 ^ n)
theorem low_get (n : Nat) (v : BitVec 32) (i : Nat) (hi : i < 32) : (low n v).getLsbD i = (decide (i < n) && v.getLsbD i) := by
  unfold low
  rw [BitVec.getLsbD_ofNat, Nat.testBit_mod_two_pow]
  simp [hi, BitVec.getLsbD]
theorem low_zero (v : BitVec 32) : low 0 v = 0#32 := by unfold low; simp [Nat.mod_one]
theorem low_all (n : Nat) (h : 32 ≤ n) (v : BitVec 32) : low n v = v := by
  apply BitVec.eq_of_getLsbD_eq
  intro i hi
  rw [low_get _ _ _ hi]
  simp [show i < n from by omega]
theorem one_get (k i : Nat) (hk : k < 32) (hi : i < 32) : (BitVec.ofNat 32 (2 ^ k)).getLsbD i = decide (k = i) := by
  rw [BitVec.getLsbD_ofNat, Nat.testBit_two_pow]
  simp [hi]
theorem cbits_one : ∀ k, k < 32 → cbits k (BitVec.ofNat 32 (2 ^ k)) = 1#32 := by decide
theorem low_succ (n : Nat) (v : BitVec 32) (h : n < 32) : low (n + 1) v = low n v ^^^ (if v.getLsbD n then BitVec.ofNat 32 (2 ^ n) else 0#32) := by
  apply BitVec.eq_of_getLsbD_eq
  intro i hi
  rw [low_get _ _ _ hi, BitVec.getLsbD_xor, low_get _ _ _ hi]
  by_cases hn : v.getLsbD n = true
  · rw [if_pos hn, one_get _ _ h hi]
    by_cases hin : i = n
    · subst hin; simp [hn]
    · by_cases h1 : i < n
      · simp [h1, show i < n + 1 from by omega, show ¬ n = i from fun e => hin e.symm]
      · simp [h1, show ¬ i < n + 1 from by omega, show ¬ n = i from fun e => hin e.symm]
  · rw [if_neg hn]
    by_cases hin : i = n
    · subst hin; simp [hn]
    · by_cases h1 : i < n
      · simp [h1, show i < n + 1 from by omega]
      · simp [h1, show ¬ i < n + 1 from by omega]
theorem feed_word (x v : BitVec 32) (n : Nat) : feed x (fun k => v.getLsbD k) n = cbits n (x ^^^ low n v) := by
  induction n with
  | zero => show x = x ^^^ low 0 v; rw [low_zero, BitVec.xor_zero]
  | succ n ih =>
    show cbit (feed x _ n ^^^ bit1 (v.getLsbD n)) = cbit (cbits n _)
    rw [ih]
    by_cases h : n < 32
    · rw [low_succ n v h, ← BitVec.xor_assoc, cbits_xor n (x ^^^ low n v)]
      congr 2
      unfold bit1
      by_cases hb : v.getLsbD n = true
      · rw [if_pos hb, if_pos hb, cbits_one n h]
      · rw [if_neg hb, if_neg hb, cbits_zero]
    · have e : v.getLsbD n = false := BitVec.getLsbD_of_ge v n (by omega)
      rw [low_all n (by omega), low_all (n + 1) (by omega), e]
      show cbit (_ ^^^ 0#32) = _
      rw [BitVec.xor_zero]
/-- a text's bits -/
def bitL (l : List UInt8) (k : Nat) : Bool := (l.getD (k / 8) 0).toNat.testBit (k % 8)
theorem cstep_feed (s : BitVec 32) (b : UInt8) : cstep s b = feed s (fun k => b.toNat.testBit k) 8 := by
  have h := feed_word s (BitVec.ofNat 32 b.toNat) 8
  unfold cstep
  have hb := b.toNat_lt
  have e : low 8 (BitVec.ofNat 32 b.toNat) = BitVec.ofNat 32 b.toNat := by
    unfold low
    congr 1
    rw [BitVec.toNat_ofNat]
    omega
  rw [e] at h
  rw [← h]
  apply feed_congr
  intro k hk
  rw [BitVec.getLsbD_ofNat]
  simp [show k < 32 from by omega]
theorem crc_feed (s : BitVec 32) (l : List UInt8) : crcFrom s l = feed s (bitL l) (8 * l.length) := by
  induction l generalizing s with
  | nil => rfl
  | cons b l ih =>
    show crcFrom (cstep s b) l = _
    rw [ih, show 8 * (b :: l).length = 8 + 8 * l.length from by simp [Nat.mul_add]; omega, feed_add, cstep_feed]
    have e1 : feed s (fun k => b.toNat.testBit k) 8 = feed s (bitL (b :: l)) 8 := by
      apply feed_congr
      intro k hk
      unfold bitL
      rw [Nat.div_eq_of_lt hk, Nat.mod_eq_of_lt hk]; rfl
    rw [e1]
    apply feed_congr
    intro k hk
    unfold bitL
    rw [show (8 + k) / 8 = k / 8 + 1 from by omega, show (8 + k) % 8 = k % 8 from by omega]
    simp
/-- a text that ends with its sum -/
theorem crc_tail (m t : List UInt8) (ht : t.length = 4) (h : ∀ k, k < 32 → bitL t k = (crc m).getLsbD k) :
    crcFrom (BitVec.allOnes 32) (m ++ t) = cbits 32 (BitVec.allOnes 32) := by
  rw [crcFrom_append, crc_feed _ t, ht]
  have e := feed_congr (s := crcFrom (BitVec.allOnes 32) m) (n := 8 * 4) h
  rw [e, feed_word, low_all 32 (by omega)]
  unfold crc
  congr 1
  apply BitVec.eq_of_getLsbD_eq
  intro i hi
  rw [BitVec.getLsbD_xor, BitVec.getLsbD_not, BitVec.getLsbD_allOnes]
  cases (crcFrom (BitVec.allOnes 32) m).getLsbD i <;> simp [hi]
theorem feed_zero (f : Nat → Bool) (n : Nat) (h : ∀ k, k < n → f k = false) : feed 0#32 f n = 0#32 := by
  induction n with
  | zero => rfl
  | succ n ih => simp only [feed]; rw [ih fun k hk => h k (by omega), h n (by omega)]; decide
/-- bits turned within a window of 32 are told -/
theorem crc_turned (s t : List UInt8) (hl : t.length = s.length) (a : Nat) (v : BitVec 32) (ha : a ≤ 8 * s.length)
    (h : ∀ k, k < 8 * s.length → bitL t k = (bitL s k ^^ (decide (a ≤ k) && v.getLsbD (k - a))))
    (he : crcFrom (BitVec.allOnes 32) s = crcFrom (BitVec.allOnes 32) t) :
    ∀ k, k < 8 * s.length → a ≤ k → v.getLsbD (k - a) = false := by
  obtain ⟨n, hn⟩ : ∃ n, 8 * s.length = a + n := ⟨8 * s.length - a, by omega⟩
  have e1 := feed_xor (BitVec.allOnes 32) (BitVec.allOnes 32) (bitL s) (bitL t) (8 * s.length)
  rw [← crc_feed, show feed (BitVec.allOnes 32) (bitL t) (8 * s.length) = crcFrom (BitVec.allOnes 32) t from by rw [crc_feed, hl], he, BitVec.xor_self, BitVec.xor_self] at e1
  rw [feed_congr (g := fun k => decide (a ≤ k) && v.getLsbD (k - a)) (fun k hk => by rw [h k hk]; cases bitL s k <;> simp), hn, feed_add, feed_zero _ a (fun k hk => by simp [show ¬ a ≤ k from by omega]), feed_congr (g := fun k => v.getLsbD k) (fun k _ => by simp), feed_word, BitVec.zero_xor] at e1
  have e2 := cbits_inj0 _ _ e1
  intro k hk hak
  by_cases h32 : k - a < 32
  · have := congrArg (fun x : BitVec 32 => x.getLsbD (k - a)) e2
    simp only [low_get _ _ _ h32] at this
    simpa [show k - a < n from by omega] using this
  · exact BitVec.getLsbD_of_ge v _ (by omega)
theorem sealL_len (l : List UInt8) : (sealL l).length = l.length + 4 := by simp [sealL, tailL]
/-- one bit turned -/
def flipL (s : List UInt8) (k : Nat) : List UInt8 := s.set (k / 8) (s.getD (k / 8) 0 ^^^ UInt8.ofNat (2 ^ (k % 8)))
def bitV (bits : Int) (i : Nat) : Bool := bits.toNat.testBit i
/-- what is turned in so many rounds -/
def turnI (s : List UInt8) (c bits : Int) : Nat → List UInt8
  | 0 => s
  | i + 1 => if c + i < s.length * 8 ∧ bitV bits i = true then flipL (turnI s c bits i) (c + i).toNat else turnI s c bits i
def turnedI (n : Nat) (c bits : Int) : Nat → Bool
  | 0 => false
  | i + 1 => if c + i < n * 8 ∧ bitV bits i = true then true else turnedI n c bits i
theorem flipL_len (s : List UInt8) (k : Nat) : (flipL s k).length = s.length := by simp [flipL]
theorem turnI_len (s : List UInt8) (c bits : Int) (i : Nat) : (turnI s c bits i).length = s.length := by
  induction i with
  | zero => rfl
  | succ i ih =>
    simp only [turnI]
    split
    · rw [flipL_len, ih]
    · exact ih
theorem bitL_flip (s : List UInt8) (k j : Nat) (hk : k < 8 * s.length) : bitL (flipL s k) j = (bitL s j ^^ decide (j = k)) := by
  unfold bitL flipL
  have hk8 : k / 8 < s.length := by omega
  by_cases h : j / 8 = k / 8
  · rw [h]
    have e1 : (s.set (k / 8) (s.getD (k / 8) 0 ^^^ UInt8.ofNat (2 ^ (k % 8)))).getD (k / 8) 0 = s.getD (k / 8) 0 ^^^ UInt8.ofNat (2 ^ (k % 8)) := by
      rw [List.getD_eq_getElem?_getD, List.getElem?_set_self hk8]; rfl
    rw [e1, UInt8.toNat_xor, Nat.testBit_xor]
    congr 1
    have hp : 2 ^ (k % 8) < 256 := by
      have : k % 8 < 8 := Nat.mod_lt _ (by omega)
      have h1 : k % 8 = 0 ∨ k % 8 = 1 ∨ k % 8 = 2 ∨ k % 8 = 3 ∨ k % 8 = 4 ∨ k % 8 = 5 ∨ k % 8 = 6 ∨ k % 8 = 7 := by omega
      rcases h1 with h1 | h1 | h1 | h1 | h1 | h1 | h1 | h1 <;> rw [h1] <;> decide
    have e2 : (UInt8.ofNat (2 ^ (k % 8))).toNat = 2 ^ (k % 8) := by
      rw [UInt8.toNat_ofNat']; exact Nat.mod_eq_of_lt hp
    rw [e2, Nat.testBit_two_pow]
    rw [decide_eq_decide]
    omega
  · have e1 : (s.set (k / 8) (s.getD (k / 8) 0 ^^^ UInt8.ofNat (2 ^ (k % 8)))).getD (j / 8) 0 = s.getD (j / 8) 0 := by
      rw [List.getD_eq_getElem?_getD, List.getElem?_set_ne (fun e => h e.symm), List.getD_eq_getElem?_getD]
    rw [e1]
    have : ¬ j = k := by rintro rfl; exact h rfl
    simp [this]
theorem bitL_turn (s : List UInt8) (c : Nat) (bits : Int) (i : Nat) (j : Nat) (hj : j < 8 * s.length) : bitL (turnI s (c : Int) bits i) j = (bitL s j ^^ (decide (c ≤ j) && decide (j < c + i) && bitV bits (j - c))) := by
  induction i with
  | zero =>
    have : (decide (c ≤ j) && decide (j < c + 0)) = false := by
      by_cases h : c ≤ j
      · simp [show ¬ j < c from by omega]
      · simp [h]
    rw [this]
    simp [turnI]
  | succ i ih =>
    simp only [turnI]
    have hi : ((c : Int) + (i : Int)).toNat = c + i := by omega
    split
    · rename_i h
      rw [hi, bitL_flip _ _ _ (by rw [turnI_len]; omega), ih]
      by_cases hji : j = c + i
      · subst hji
        have e : c + i - c = i := by omega
        rw [e, h.2]
        simp
      · have : decide (j < c + (i + 1)) = decide (j < c + i) := by rw [decide_eq_decide]; omega
        rw [this]
        simp [hji]
    · rename_i h
      rw [ih]
      congr 1
      by_cases hji : j = c + i
      · subst hji
        have e : c + i - c = i := by omega
        rw [e]
        have hb : bitV bits i = false := by
          cases hq : bitV bits i with
          | false => rfl
          | true => exact absurd ⟨by omega, hq⟩ h
        rw [hb]; simp
      · have : decide (j < c + (i + 1)) = decide (j < c + i) := by rw [decide_eq_decide]; omega
        rw [this]
theorem turnedI_spec (n c : Nat) (bits : Int) (i : Nat) : turnedI n (c : Int) bits i = true → ∃ k, k < i ∧ c + k < n * 8 ∧ bitV bits k = true := by
  induction i with
  | zero => intro h; cases h
  | succ i ih =>
    simp only [turnedI]
    split
    · rename_i h
      intro _
      exact ⟨i, by omega, by omega, h.2⟩
    · intro h
      obtain ⟨k, h1, h2⟩ := ih h
      exact ⟨k, by omega, h2⟩
theorem tail_bits (v : BitVec 32) (k : Nat) (hk : k < 32) : bitL (tailL (v.toNat : Int)) k = v.getLsbD k := by
  unfold bitL tailL
  have hv := v.isLt
  have h0 : ∀ i, i < 4 → (byteAt (v.toNat : Int) i).toNat = v.toNat / 2 ^ (8 * i) % 256 := by
    intro i hi
    have h1 : i = 0 ∨ i = 1 ∨ i = 2 ∨ i = 3 := by omega
    rcases h1 with rfl | rfl | rfl | rfl <;> simp [byteAt] <;> omega
  have key : ∀ i m, i < 4 → m < 8 → (byteAt (v.toNat : Int) i).toNat.testBit m = v.getLsbD (8 * i + m) := by
    intro i m hi hm
    rw [h0 i hi, show (256 : Nat) = 2 ^ 8 from rfl, Nat.testBit_mod_two_pow, Nat.testBit_div_two_pow]
    simp [hm, BitVec.getLsbD, Nat.add_comm]
  have h1 : k / 8 = 0 ∨ k / 8 = 1 ∨ k / 8 = 2 ∨ k / 8 = 3 := by omega
  have hm : k % 8 < 8 := Nat.mod_lt _ (by omega)
  have e : k = 8 * (k / 8) + k % 8 := by omega
  rcases h1 with h | h | h | h <;> rw [h] at e ⊢ <;> rw [show v.getLsbD k = v.getLsbD (8 * _ + k % 8) from congrArg _ e, ← key _ _ (by omega) hm] <;> rfl
theorem tail_crc (m : List UInt8) : crcFrom (BitVec.allOnes 32) (m ++ tailL (crcI m)) = cbits 32 (BitVec.allOnes 32) :=
  crc_tail m _ rfl (fun k hk => tail_bits (crc m) k hk)
theorem openOK_crc {l : List UInt8} (h : openOK l = true) : crcFrom (BitVec.allOnes 32) l = cbits 32 (BitVec.allOnes 32) := by
  unfold openOK at h
  obtain ⟨h1, h2⟩ := of_decide_eq_true h
  have e : l = bodyL l ++ tailL (crcI (bodyL l)) := by
    rw [← h2]
    unfold bodyL
    exact (List.take_append_drop _ _).symm
  rw [e]
  exact tail_crc (bodyL l)
/-- a sealed text whose bits were turned isn't opened -/
theorem turned_told (l : List UInt8) (c : Nat) (bits : Int) (h0 : 0 ≤ bits) (h1 : bits ≤ 4294967295) (hc : c ≤ 8 * (sealL l).length) (ht : turnedI (sealL l).length (c : Int) bits 32 = true) : openOK (turnI (sealL l) (c : Int) bits 32) = false := by
  cases hq : openOK (turnI (sealL l) (c : Int) bits 32) with
  | false => rfl
  | true =>
    exfalso
    obtain ⟨k, hk, hkn, hkb⟩ := turnedI_spec _ _ _ _ ht
    obtain ⟨v, hv⟩ : ∃ v : BitVec 32, v = BitVec.ofNat 32 bits.toNat := ⟨_, rfl⟩
    have hvb : ∀ i, v.getLsbD i = (decide (i < 32) && bitV bits i) := by
      intro i
      rw [hv, BitVec.getLsbD_ofNat]
      rfl
    have e1 := openOK_crc hq
    have e2 : crcFrom (BitVec.allOnes 32) (sealL l) = cbits 32 (BitVec.allOnes 32) := tail_crc l
    have := crc_turned (sealL l) (turnI (sealL l) (c : Int) bits 32) (turnI_len _ _ _ _) c v hc (fun j hj => by
      rw [bitL_turn _ _ _ _ _ hj, hvb]
      congr 1
      by_cases h : c ≤ j
      · have : decide (j < c + 32) = decide (j - c < 32) := by rw [decide_eq_decide]; omega
        rw [this]; simp [h]
      · simp [h]) (by rw [e1, e2]) (c + k) (by omega) (by omega)
    rw [show c + k - c = k from by omega, hvb, hkb] at this
    simp [hk] at this
end Go.Proofs.YtfoabkkkdcicgaaGreatDoor
