/- Digits: what is shown is read again; plain laws. -/
import Derived.Test.YtpomloangafbkaaGreatDoorLaxStr
namespace Go.Proofs.YtpomloangafbkaaGreatDoor
set_option linter.unusedVariables false
set_option linter.unusedSimpArgs false
open Go.RowKit

def isDig (c : UInt8) : Prop := 48 ≤ c.toNat ∧ c.toNat ≤ 57
theorem dig_of {n : Nat} (h : n < 10) : isDig (UInt8.ofNat (48 + n)) ∧ (UInt8.ofNat (48 + n)).toNat = 48 + n := by
  have : (UInt8.ofNat (48 + n)).toNat = 48 + n := by rw [UInt8.toNat_ofNat']; omega
  exact ⟨⟨by omega, by omega⟩, this⟩
theorem dec_dig : ∀ u : Nat, ∀ c ∈ Lib.decDigits u, isDig c := by
  intro u
  induction u using Nat.strongRecOn with
  | ind u ih =>
    intro c hc
    rw [Lib.decDigits] at hc
    split at hc
    · rename_i h
      obtain rfl := List.mem_singleton.1 hc; exact (dig_of h).1
    · rename_i h
      rcases List.mem_append.1 hc with hc | hc
      · exact ih (u / 10) (by omega) c hc
      · obtain rfl := List.mem_singleton.1 hc; exact (dig_of (show u % 10 < 10 by omega)).1
theorem dec_ne (u : Nat) : Lib.decDigits u ≠ [] := by
  rw [Lib.decDigits]; split <;> simp
/-- what digits come to -/
def valD : Nat → List UInt8 → Nat
  | a, [] => a
  | a, c :: r => valD (a * 10 + (c.toNat - 48)) r
theorem valD_app : ∀ (l : List UInt8) (a : Nat) (c : UInt8), valD a (l ++ [c]) = valD a l * 10 + (c.toNat - 48)
  | [], a, c => rfl
  | d :: l, a, c => valD_app l _ c
theorem valD_le : ∀ (l : List UInt8) (a : Nat), a ≤ valD a l
  | [], a => Nat.le_refl _
  | c :: l, a => Nat.le_trans (by omega) (valD_le l (a * 10 + (c.toNat - 48)))
theorem valD_dec (u : Nat) : valD 0 (Lib.decDigits u) = u := by
  induction u using Nat.strongRecOn with
  | ind u ih =>
    rw [Lib.decDigits]
    split
    · rename_i h
      show 0 * 10 + ((UInt8.ofNat (48 + u)).toNat - 48) = u
      rw [(dig_of h).2]; omega
    · rename_i h
      rw [valD_app, ih (u / 10) (by omega), (dig_of (show u % 10 < 10 by omega)).2]; omega
theorem parse_val : ∀ (l : List UInt8) (a : Nat), (∀ c ∈ l, isDig c) → valD a l < 18446744073709551616 → Lib.parseUint10 a l = .ok (valD a l)
  | [], a, _, _ => rfl
  | c :: l, a, hd, hv => by
    obtain ⟨d1, d2⟩ := hd c (by simp)
    have h1 : valD (a * 10 + (c.toNat - 48)) l < 18446744073709551616 := hv
    have h2 := valD_le l (a * 10 + (c.toNat - 48))
    unfold Lib.parseUint10
    rw [if_pos ⟨d1, d2⟩, if_neg (by omega), if_neg (by omega)]
    exact parse_val l _ (fun x hx => hd x (by simp [hx])) h1
theorem atoi_dec {u : Nat} (h : u < 9223372036854775808) : atoiV (Lib.decDigits u) = (u : Int) := by
  have hp : Lib.parseMag (Lib.decDigits u) = .ok u := by
    unfold Lib.parseMag
    rw [if_neg (dec_ne u), parse_val _ 0 (dec_dig u) (by rw [valD_dec]; omega), valD_dec]
  have ha : Lib.atoiAll (Lib.decDigits u) = .ok (u : Int) := by
    cases hd : Lib.decDigits u with
    | nil => exact absurd hd (dec_ne u)
    | cons c r =>
      obtain ⟨d1, d2⟩ := dec_dig u c (by rw [hd]; simp)
      rw [hd] at hp
      unfold Lib.atoiAll
      simp only []
      rw [if_neg (show ¬ (c.toNat = 43 ∨ c.toNat = 45) by omega), hp]
      simp only []
      rw [if_neg (by omega), if_neg (by omega), if_neg (by omega)]
  unfold atoiV
  rw [ha]
theorem index_at : ∀ (l r : List UInt8) (b : UInt8), (∀ c ∈ l, c ≠ b) → Lib.index (l ++ b :: r) [b] = (l.length : Int)
  | [], r, b, _ => by simp [Lib.index]
  | c :: l, r, b, h => by
    have hc : c ≠ b := h c (by simp)
    have ih := index_at l r b (fun x hx => h x (by simp [hx]))
    show Lib.index (c :: (l ++ b :: r)) [b] = _
    unfold Lib.index
    have hp : ([b] : List UInt8).isPrefixOf (c :: (l ++ b :: r)) = false := by
      simp [List.isPrefixOf]; exact fun e => hc e.symm
    rw [hp, ih]
    have hn : ((l.length : Int) == -1) = false := by simp
    rw [hn]
    simp
theorem cut_at (l r : List UInt8) (b : UInt8) (h : ∀ c ∈ l, c ≠ b) : Lib.cut (l ++ b :: r) [b] = (l, r, true) := by
  unfold Lib.cut
  rw [index_at l r b h, if_pos (by omega)]
  have : ((l.length : Int)).toNat = l.length := by omega
  rw [this]
  simp
end Go.Proofs.YtpomloangafbkaaGreatDoor
