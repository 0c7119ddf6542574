/- Plain facts on zigzags, and the contracts of num.Zig and num.Zag. -/
import Derived.Test.YtnhfjdbnkpbbkabKit
import Derived.Laws.BitsAllLaws
namespace Go.Proofs.Ytnhfjdbnkpbbkab
set_option linter.unusedVariables false
open Go.RowKit

theorem xor_ones (a : Nat) (ha : a < 18446744073709551616) : a ^^^ 18446744073709551615 = 18446744073709551615 - a := by
  have h := congrArg BitVec.toNat (BitVec.xor_allOnes (x := BitVec.ofNat 64 a))
  rw [BitVec.toNat_xor, BitVec.toNat_not, BitVec.toNat_allOnes, BitVec.toNat_ofNat] at h
  have e : a % 2 ^ 64 = a := Nat.mod_eq_of_lt (by omega)
  rw [e] at h
  simpa using h

def zig (i : Int) : Int := if 0 ≤ i then 2 * i else -2 * i - 1
def zag (v : Int) : Int := if v % 2 = 0 then v / 2 else -(v / 2) - 1
theorem zag_zig (i : Int) : zag (zig i) = i := by unfold zag zig; split <;> split <;> omega
theorem zig_zag (v : Int) (h : 0 ≤ v) : zig (zag v) = v := by unfold zag zig; split <;> split <;> omega
theorem zig_range (i : Int) (h1 : -9223372036854775808 ≤ i) (h2 : i ≤ 9223372036854775807) : 0 ≤ zig i ∧ zig i ≤ 18446744073709551615 := by unfold zig; split <;> omega
theorem zag_range (v : Int) (h1 : 0 ≤ v) (h2 : v ≤ 18446744073709551615) : -9223372036854775808 ≤ zag v ∧ zag v ≤ 9223372036854775807 := by unfold zag; split <;> omega

theorem zig_bits (i : Int) (h1 : -9223372036854775808 ≤ i) (h2 : i ≤ 9223372036854775807) :
    bits BinOp.xor IntKind.u64 (IntKind.u64.wrap (IntKind.u64.wrap i * 2)) (IntKind.u64.wrap (i / 9223372036854775808)) = zig i := by
  simp only [IntKind.wrap_u64]
  rw [u64_xor _ _ (by omega) (by omega) (by omega) (by omega)]
  unfold zig
  split
  · have e2 : (i / 9223372036854775808 % 18446744073709551616).toNat = 0 := by omega
    rw [e2, Nat.xor_zero]; omega
  · have e2 : (i / 9223372036854775808 % 18446744073709551616).toNat = 18446744073709551615 := by omega
    rw [e2, xor_ones _ (by omega)]; omega

theorem ofInt_i64_nat (a : Nat) (ha : a < 9223372036854775808) : (BitVec.ofInt 64 (a : Int)).toNat = a := by
  rw [BitVec.ofInt_natCast, BitVec.toNat_ofNat]; exact Nat.mod_eq_of_lt (by omega)

theorem zag_bits (v : Int) (h1 : 0 ≤ v) (h2 : v ≤ 18446744073709551615) :
    bits BinOp.xor IntKind.i64 (v / 2) (wrap64 (-wrap64 (bits BinOp.and IntKind.u64 v 1))) = zag v := by
  rw [u64_and v 1 h1 (by omega) (by omega) (by omega)]
  have e1 : (1 : Int).toNat = 1 := rfl
  rw [e1, nat_mask1]
  have hv2 : ((v / 2).toNat : Int) = v / 2 := by omega
  unfold zag
  split
  · have e3 : v.toNat % 2 = 0 := by omega
    rw [e3]
    have e4 : wrap64 (-wrap64 ((0 : Nat) : Int)) = 0 := by simp [wrap64]
    rw [e4]
    show IntKind.i64.wrap ((BitVec.ofInt 64 (v / 2) ^^^ BitVec.ofInt 64 0).toNat : Int) = _
    rw [← hv2, BitVec.toNat_xor, ofInt_i64_nat _ (by omega)]
    simp [IntKind.wrap_i64]
    omega
  · have e3 : v.toNat % 2 = 1 := by omega
    rw [e3]
    have e4 : wrap64 (-wrap64 ((1 : Nat) : Int)) = -1 := by simp [wrap64]
    rw [e4]
    show IntKind.i64.wrap ((BitVec.ofInt 64 (v / 2) ^^^ BitVec.ofInt 64 (-1)).toNat : Int) = _
    have e5 : (BitVec.ofInt 64 (-1)).toNat = 18446744073709551615 := by decide
    rw [← hv2, BitVec.toNat_xor, ofInt_i64_nat _ (by omega), e5, xor_ones _ (by omega)]
    simp only [IntKind.wrap_i64]
    omega

theorem zig_any (i : Int) (w : World) (h1 : -9223372036854775808 ≤ i) (h2 : i ≤ 9223372036854775807) :
    Calls Try.prog 34 #[.int .i64 i] w fun e w' => e = .returned (.int .u64 (zig i)) ∧ w = w' := by
  go_enter Try.func34, Try.ntmps34
  go_wp2
  go_ret
  exact ⟨by rw [← zig_bits i h1 h2]; rfl, rfl⟩
end Go.Proofs.Ytnhfjdbnkpbbkab
