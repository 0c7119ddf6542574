/- NumLows: num.Low, num.Fits, the reference's Pow, and the law's walk. -/
import Derived.Test.YtnhfjdbnkpbbkaaNumZigs
import Derived.Laws.BitsAllLaws
namespace Go.Proofs.Ytnhfjdbnkpbbkaa
open Go.RowKit

def p2 (n : Int) : Int := 2 ^ n.toNat
theorem p2_pos (n : Int) : 0 < p2 n := by unfold p2; exact Int.pow_pos (by omega)
theorem p2_le (n : Int) (h : n < 64) : p2 n ≤ 9223372036854775808 := by
  unfold p2
  have h1 : 2 ^ n.toNat ≤ 2 ^ 63 := Nat.pow_le_pow_right (by omega) (by omega)
  have h2 : ((2 ^ n.toNat : Nat) : Int) = (2 : Int) ^ n.toNat := by simp
  rw [← h2]; omega
theorem p2_succ (n : Int) (h : 0 ≤ n) : p2 (n + 1) = p2 n + p2 n := by
  unfold p2
  have e : (n + 1).toNat = n.toNat + 1 := by omega
  rw [e, Int.pow_succ]; omega
/-- a number's lowest bits -/
def lowOf (v n : Int) : Int := if 64 ≤ n then v else if n ≤ 0 then 0 else v % p2 n

theorem low_bits (v n : Int) (h0 : 0 ≤ v) (h1 : v ≤ 18446744073709551615) (h3 : n < 64) :
    bits BinOp.and IntKind.u64 v (IntKind.u64.wrap (IntKind.u64.wrap (2 ^ n.toNat) - 1)) = v % p2 n := by
  have hp := p2_pos n
  have hl := p2_le n h3
  have e : (2 : Int) ^ n.toNat = p2 n := rfl
  rw [e]
  simp only [IntKind.wrap_u64]
  have e2 : (p2 n % 18446744073709551616 - 1) % 18446744073709551616 = p2 n - 1 := by omega
  rw [e2, u64_and _ _ h0 (by omega) (by omega) (by omega)]
  have e3 : (p2 n - 1).toNat = 2 ^ n.toNat - 1 := by
    have h2 : ((2 ^ n.toNat : Nat) : Int) = p2 n := by unfold p2; simp
    omega
  rw [e3, Nat.and_two_pow_sub_one_eq_mod]
  have h2 : p2 n = ((2 ^ n.toNat : Nat) : Int) := by unfold p2; simp
  have h4 : v = (v.toNat : Int) := by omega
  rw [h2]
  rw [h4]
  simp

theorem low_any (v n : Int) (w : World) (h0 : 0 ≤ v) (h1 : v ≤ 18446744073709551615) (h2 : -9223372036854775808 ≤ n) (h3 : n ≤ 9223372036854775807) :
    Calls Try.prog 26 #[.int .u64 v, .int .i64 n] w fun e w' => e = .returned (.int .u64 (lowOf v n)) ∧ w = w' := by
  by_cases k1 : 64 ≤ n
  · have e : lowOf v n = v := by unfold lowOf; rw [if_pos k1]
    go_enter Try.func26, Try.ntmps26
    go_wp2
    go_ret
    exact ⟨by first | rfl | (rw [e]; rfl), rfl⟩
  · by_cases k2 : n ≤ 0
    · have e : lowOf v n = 0 := by unfold lowOf; rw [if_neg k1, if_pos k2]
      have e2 : Hid (bits BinOp.and IntKind.u64 v (IntKind.u64.wrap (IntKind.u64.wrap 1 - 1)) = 0) := by
        show _ = _
        simp only [IntKind.wrap_u64]
        have e3 : ((1 : Int) % 18446744073709551616 - 1) % 18446744073709551616 = 0 := by omega
        rw [e3, u64_and v 0 h0 (by omega) (by omega) (by omega)]; simp
      have e4 : Hid (bits BinOp.and IntKind.u64 v (IntKind.u64.wrap (IntKind.u64.wrap (2 ^ n.toNat) - 1)) = 0) := by
        have h5 : n.toNat = 0 := by omega
        rw [h5]; exact e2.out
      go_enter Try.func26, Try.ntmps26
      go_wp2
      all_goals
        go_ret
        try rw [e]
        first | exact ⟨ret_int e2.out, rfl⟩ | exact ⟨ret_int e4.out, rfl⟩
    · have e : lowOf v n = v % p2 n := by unfold lowOf; rw [if_neg k1, if_neg k2]
      have e2 := Lib.hid (low_bits v n h0 h1 (by omega))
      go_enter Try.func26, Try.ntmps26
      go_wp2
      go_ret
      try rw [e]
      exact ⟨ret_int e2.out, rfl⟩
theorem lowOf_range (v n : Int) (h0 : 0 ≤ v) (h1 : v ≤ 18446744073709551615) : 0 ≤ lowOf v n ∧ lowOf v n ≤ 18446744073709551615 := by
  unfold lowOf
  split
  · omega
  · split
    · omega
    · have hp := p2_pos n
      have hl := p2_le n (by omega)
      have hm := Int.emod_lt_of_pos v hp
      exact ⟨Int.emod_nonneg _ (by omega), by omega⟩
theorem fits_any (v n : Int) (w : World) (h0 : 0 ≤ v) (h1 : v ≤ 18446744073709551615) (h2 : -9223372036854775808 ≤ n) (h3 : n ≤ 9223372036854775807) :
    Calls Try.prog 27 #[.int .u64 v, .int .i64 n] w fun e w' => e = .returned (.bool (lowOf v n == v)) ∧ w = w' := by
  go_enter Try.func27, Try.ntmps27
  go_wp2_with (go_at_call 26; refine (low_any _ _ _ (by omega) (by omega) (by omega) (by omega)).mono ?_; rintro e w2 ⟨rfl, rfl⟩)
  go_ret
  exact ⟨rfl, rfl⟩
theorem pow_any (n : Int) (w : World) (h2 : 0 ≤ n) (h3 : n < 64) :
    Calls Try.prog 25 #[.int .i64 n] w fun e w' => e = .returned (.int .u64 (p2 n)) ∧ w = w' := by
  go_enter Try.func25, Try.ntmps25
  go_wp2
  go_loop [3, 4] (fun p i => ∃ (k : Int) (x : Int), 0 ≤ k ∧ k ≤ n ∧ i = .int .i64 k ∧ p = .int .u64 x ∧ 0 < x ∧ x ≤ 9223372036854775808 ∧ Hid (x = p2 k)) (fun _ i => (n - intOf i).toNat)
  case atStart => exact ⟨0, 1, by omega, h2, rfl, rfl, by omega, by omega, (rfl : (1 : Int) = p2 0)⟩
  case round =>
    obtain ⟨k, x, hk0, hk, rfl, rfl, hx0, hx1, hx⟩ := hrel
    by_cases hlt : k < n
    · have hs : x + x = p2 (k + 1) := by rw [p2_succ k hk0, ← hx.out]
      have hle : x + x ≤ 9223372036854775808 := by rw [hs]; exact p2_le _ (by omega)
      have HS : Hid (x + x = p2 (k + 1)) := hs
      clear hs
      go_wp2
      go_round
      case rel => exact ⟨k + 1, x + x, by omega, by omega, by go_num, by go_num, by omega, hle, HS⟩
      case measure => simp [intOf]; omega
    · have hkn : n = k := by omega
      have hf : x = p2 n := by rw [hkn]; exact hx.out
      have HF : Hid (x = p2 n) := hf
      clear hf hkn
      go_wp2
      go_ret
      exact ⟨by rw [← HF.out]; rfl, rfl⟩
theorem beq_both (a b : Int) : ((a == b) == (b == a)) = true := by rw [Bool.beq_comm (a := a) (b := b)]; exact beq_self_eq_true _
theorem lows_walk (v n : Int) (w : World) (h0 : 0 ≤ v) (h1 : v ≤ 18446744073709551615) (h2 : -9223372036854775808 ≤ n) (h3 : n ≤ 9223372036854775807) :
    Calls Try.prog 5 #[.int .u64 v, .int .i64 n] w fun e w' => e = .returned (.bool true) ∧ Below w.heap.size w w' := by
  have hr := lowOf_range v n h0 h1
  by_cases k2 : n ≤ 0
  · have e : lowOf v n = 0 := by unfold lowOf; rw [if_neg (by omega), if_pos k2]
    go_enter Try.func5, Try.ntmps5
    go_wp2_with (first
      | (go_at_call 15; refine (anchor01 _).mono ?_; rintro e w1 ⟨rfl, hb⟩)
      | (go_at_call 26; refine (low_any _ _ _ (by omega) (by omega) (by omega) (by omega)).mono ?_; rintro e w2 ⟨rfl, rfl⟩)
      | (go_at_call 27; refine (fits_any _ _ _ (by omega) (by omega) (by omega) (by omega)).mono ?_; rintro e w2 ⟨rfl, rfl⟩))
    go_ret
    exact ⟨by first | rfl | exact ret_bool (beq_both _ _), hb⟩
  · by_cases k1 : n < 64
    · have e : lowOf v n = v % p2 n := by unfold lowOf; rw [if_neg (by omega), if_neg k2]
      have hp := p2_pos n
      go_enter Try.func5, Try.ntmps5
      go_wp2_with (first
        | (go_at_call 15; refine (anchor01 _).mono ?_; rintro e w1 ⟨rfl, hb⟩)
        | (go_at_call 25; refine (pow_any _ _ (by omega) (by omega)).mono ?_; rintro e w2 ⟨rfl, rfl⟩)
        | (go_at_call 26; refine (low_any _ _ _ (by omega) (by omega) (by omega) (by omega)).mono ?_; rintro e w2 ⟨rfl, rfl⟩)
        | (go_at_call 27; refine (fits_any _ _ _ (by omega) (by omega) (by omega) (by omega)).mono ?_; rintro e w2 ⟨rfl, rfl⟩))
      go_ret
      exact ⟨by first | rfl | exact ret_bool (beq_both _ _), hb⟩
    · have e : lowOf v n = v := by unfold lowOf; rw [if_pos (by omega)]
      go_enter Try.func5, Try.ntmps5
      go_wp2_with (first
        | (go_at_call 15; refine (anchor01 _).mono ?_; rintro e w1 ⟨rfl, hb⟩)
        | (go_at_call 26; refine (low_any _ _ _ (by omega) (by omega) (by omega) (by omega)).mono ?_; rintro e w2 ⟨rfl, rfl⟩)
        | (go_at_call 27; refine (fits_any _ _ _ (by omega) (by omega) (by omega) (by omega)).mono ?_; rintro e w2 ⟨rfl, rfl⟩))
      go_ret
      exact ⟨by first | rfl | exact ret_bool (beq_both _ _), hb⟩
end Go.Proofs.Ytnhfjdbnkpbbkaa
