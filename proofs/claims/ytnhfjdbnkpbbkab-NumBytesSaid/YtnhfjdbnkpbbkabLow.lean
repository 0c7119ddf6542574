/- A number's lowest bits: the plain function and the contract of num.Low. -/
import Derived.Test.YtnhfjdbnkpbbkabKit
import Derived.Laws.BitsAllLaws
namespace Go.Proofs.Ytnhfjdbnkpbbkab
set_option linter.unusedVariables false
open Go.RowKit

def p2 (n : Int) : Int := 2 ^ n.toNat
theorem p2_pos (n : Int) : 0 < p2 n := by unfold p2; exact Int.pow_pos (by omega)
theorem p2_le (n : Int) (h : n < 64) : p2 n ≤ 9223372036854775808 := by
  unfold p2
  have h1 : 2 ^ n.toNat ≤ 2 ^ 63 := Nat.pow_le_pow_right (by omega) (by omega)
  have h2 : ((2 ^ n.toNat : Nat) : Int) = (2 : Int) ^ n.toNat := by simp
  rw [← h2]; omega
theorem p2_succ (n : Int) (h : 0 ≤ n) : p2 (n + 1) = p2 n + p2 n := by
  unfold p2
  have e : (n + 1).toNat = n.toNat + 1 := by omega
  rw [e, Int.pow_succ]; omega
/-- a number's lowest bits -/
def lowOf (v n : Int) : Int := if 64 ≤ n then v else if n ≤ 0 then 0 else v % p2 n

theorem low_bits (v n : Int) (h0 : 0 ≤ v) (h1 : v ≤ 18446744073709551615) (h3 : n < 64) :
    bits BinOp.and IntKind.u64 v (IntKind.u64.wrap (IntKind.u64.wrap (2 ^ n.toNat) - 1)) = v % p2 n := by
  have hp := p2_pos n
  have hl := p2_le n h3
  have e : (2 : Int) ^ n.toNat = p2 n := rfl
  rw [e]
  simp only [IntKind.wrap_u64]
  have e2 : (p2 n % 18446744073709551616 - 1) % 18446744073709551616 = p2 n - 1 := by omega
  rw [e2, u64_and _ _ h0 (by omega) (by omega) (by omega)]
  have e3 : (p2 n - 1).toNat = 2 ^ n.toNat - 1 := by
    have h2 : ((2 ^ n.toNat : Nat) : Int) = p2 n := by unfold p2; simp
    omega
  rw [e3, Nat.and_two_pow_sub_one_eq_mod]
  have h2 : p2 n = ((2 ^ n.toNat : Nat) : Int) := by unfold p2; simp
  have h4 : v = (v.toNat : Int) := by omega
  rw [h2]
  rw [h4]
  simp

theorem low_any (v n : Int) (w : World) (h0 : 0 ≤ v) (h1 : v ≤ 18446744073709551615) (h2 : -9223372036854775808 ≤ n) (h3 : n ≤ 9223372036854775807) :
    Calls Try.prog 22 #[.int .u64 v, .int .i64 n] w fun e w' => e = .returned (.int .u64 (lowOf v n)) ∧ w = w' := by
  by_cases k1 : 64 ≤ n
  · have e : lowOf v n = v := by unfold lowOf; rw [if_pos k1]
    go_enter Try.func22, Try.ntmps22
    go_wp2
    go_ret
    exact ⟨by first | rfl | (rw [e]; rfl), rfl⟩
  · by_cases k2 : n ≤ 0
    · have e : lowOf v n = 0 := by unfold lowOf; rw [if_neg k1, if_pos k2]
      have e2 : Hid (bits BinOp.and IntKind.u64 v (IntKind.u64.wrap (IntKind.u64.wrap 1 - 1)) = 0) := by
        show _ = _
        simp only [IntKind.wrap_u64]
        have e3 : ((1 : Int) % 18446744073709551616 - 1) % 18446744073709551616 = 0 := by omega
        rw [e3, u64_and v 0 h0 (by omega) (by omega) (by omega)]; simp
      have e4 : Hid (bits BinOp.and IntKind.u64 v (IntKind.u64.wrap (IntKind.u64.wrap (2 ^ n.toNat) - 1)) = 0) := by
        have h5 : n.toNat = 0 := by omega
        rw [h5]; exact e2.out
      go_enter Try.func22, Try.ntmps22
      go_wp2
      all_goals
        go_ret
        try rw [e]
        first | exact ⟨ret_int e2.out, rfl⟩ | exact ⟨ret_int e4.out, rfl⟩
    · have e : lowOf v n = v % p2 n := by unfold lowOf; rw [if_neg k1, if_neg k2]
      have e2 := Lib.hid (low_bits v n h0 h1 (by omega))
      go_enter Try.func22, Try.ntmps22
      go_wp2
      go_ret
      try rw [e]
      exact ⟨ret_int e2.out, rfl⟩
theorem lowOf_range (v n : Int) (h0 : 0 ≤ v) (h1 : v ≤ 18446744073709551615) : 0 ≤ lowOf v n ∧ lowOf v n ≤ 18446744073709551615 := by
  unfold lowOf
  split
  · omega
  · split
    · omega
    · have hp := p2_pos n
      have hl := p2_le n (by omega)
      have hm := Int.emod_lt_of_pos v hp
      exact ⟨Int.emod_nonneg _ (by omega), by omega⟩
end Go.Proofs.Ytnhfjdbnkpbbkab
