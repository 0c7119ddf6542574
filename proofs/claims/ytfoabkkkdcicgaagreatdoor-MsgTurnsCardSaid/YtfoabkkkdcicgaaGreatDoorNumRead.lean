/- num.Read: the plain function and the contract. -/
import Derived.Test.YtfoabkkkdcicgaaGreatDoorBytes
namespace Go.Proofs.YtfoabkkkdcicgaaGreatDoor
set_option linter.unusedVariables false
open Go.RowKit

/-- the number of some bytes, the greatest first -/
def valOf (l : List UInt8) : Nat := l.foldl (fun a b => a * 256 + b.toNat) 0
theorem valOf_snoc (l : List UInt8) (b : UInt8) : valOf (l ++ [b]) = valOf l * 256 + b.toNat := by simp [valOf]
theorem valOf_lt (l : List UInt8) : valOf l < 256 ^ l.length := by
  generalize hn : l.length = n
  induction n generalizing l with
  | zero => rw [List.eq_nil_of_length_eq_zero hn]; simp [valOf]
  | succ n ih =>
    obtain ⟨l', b, rfl⟩ : ∃ l' b, l = l' ++ [b] := ⟨l.dropLast, l.getLast (by intro h; simp [h] at hn), (List.dropLast_concat_getLast _).symm⟩
    have h1 : l'.length = n := by simpa using hn
    have h2 := ih l' h1
    have h3 := b.toNat_lt
    rw [valOf_snoc, Nat.pow_succ]
    omega
theorem valOf_small (l : List UInt8) (h : l.length ≤ 7) : valOf l < 72057594037927936 := by
  have h1 := valOf_lt l
  have h2 : 256 ^ l.length ≤ 256 ^ 7 := Nat.pow_le_pow_right (by omega) h
  have h3 : (256 : Nat) ^ 7 = 72057594037927936 := by decide +kernel
  omega
theorem bytesOf_succ (v : Int) (n : Nat) : bytesOf v (n + 1) = byteAt v n :: bytesOf v n := by
  apply List.ext_getElem
  · simp [bytesOf_len]
  · intro i h1 h2
    rw [bytesOf_get]
    cases i with
    | zero => simp
    | succ i => rw [List.getElem_cons_succ, bytesOf_get]; congr 1; omega
theorem bytesOf_shift (v : Int) (n : Nat) (h0 : 0 ≤ v) : bytesOf v (n + 1) = bytesOf (v / 256) n ++ [byteAt v 0] := by
  have e : ∀ j, byteAt (v / 256) j = byteAt v (j + 1) := by
    intro j
    unfold byteAt
    rw [Int.ediv_ediv_of_nonneg (by omega), Int.pow_succ, Int.mul_comm]
  apply List.ext_getElem
  · simp [bytesOf_len]
  · intro i h1 h2
    rw [bytesOf_get]
    rw [bytesOf_len] at h1
    by_cases hi : i < n
    · rw [List.getElem_append_left (by rw [bytesOf_len]; exact hi), bytesOf_get, e]; congr 1; omega
    · rw [List.getElem_append_right (by rw [bytesOf_len]; omega)]
      have : i = n := by omega
      subst this
      simp
theorem valOf_bytesOf (n : Nat) : ∀ v : Int, 0 ≤ v → (valOf (bytesOf v n) : Int) = v % 256 ^ n := by
  induction n with
  | zero => intro v h; simp [bytesOf, valOf, Int.emod_one]
  | succ n ih =>
    intro v h
    rw [bytesOf_shift v n h, valOf_snoc]
    have h2 := ih (v / 256) (by omega)
    have h3 : (byteAt v 0).toNat = (v % 256).toNat := by
      unfold byteAt; rw [UInt8.toNat_ofNat']; simp; omega
    rw [h3, Int.natCast_add, Int.natCast_mul, h2, Int.pow_succ]
    have hp : (0 : Int) < 256 ^ n := Int.pow_pos (by omega)
    have h4 := Int.emod_add_mul_ediv (v / 256) (256 ^ n)
    have h5 := Int.emod_add_mul_ediv v 256
    have h6 := Int.emod_lt_of_pos (v / 256) hp
    have h7 := Int.emod_nonneg (v / 256) (by omega : (256 : Int) ^ n ≠ 0)
    have h8 : (v / 256 / 256 ^ n) = v / (256 ^ n * 256) := by rw [Int.ediv_ediv_of_nonneg (by omega), Int.mul_comm]
    have h9 := Int.emod_add_mul_ediv v (256 ^ n * 256)
    rw [h8] at h4
    have h10 : (256 : Int) ^ n * 256 * (v / (256 ^ n * 256)) = 256 * (256 ^ n * (v / (256 ^ n * 256))) := by rw [Int.mul_comm ((256 : Int) ^ n) 256, Int.mul_assoc]
    generalize 256 ^ n * (v / (256 ^ n * 256)) = q at *
    omega

theorem or_byte (a x : Nat) (ha : a < 72057594037927936) (hx : x < 256) : bits BinOp.or IntKind.u64 ((a : Int) * 256) (x : Int) = ((a * 256 + x : Nat) : Int) := by
  have e : (a : Int) * 256 = ((a * 256 : Nat) : Int) := by simp
  rw [e, u64_or_nat _ _ (by omega) (by omega), nat_join 8 _ _ (by omega) (by omega)]

set_option maxRecDepth 20000 in
theorem read_ok (l : List UInt8) (N : Nat) (n : Nat) (A : Option Addr) (c B : Nat) (w : World) (hN : N = l.length) (hr : Rd w B A (l.map bv)) (hlc : N ≤ c) (hc : c ≤ 9223372036854775807) (h1 : 1 ≤ n) (h8 : n ≤ 8) (hle : n ≤ N) :
    Calls Tryz.prog 104 #[.slice A N c, .int .i64 n] w fun e w' => e = .returned (.tuple #[.int .u64 (valOf (l.take n) : Int), .int .i64 (n : Int), .int .i64 0]) ∧ w = w' := by
  have HN := Lib.hid hN
  clear hN
  obtain ⟨b, off, rfl, hb, hcell⟩ := hr.open_ (by rw [List.length_map, ← HN.out]; omega)
  have HC := Lib.hid hcell
  clear hcell
  go_enter Tryz.func104, Tryz.ntmps104
  go_wp2
  go_loop [4, 25] (fun v i => ∃ k a : Nat, k ≤ n ∧ i = .int .i64 k ∧ v = .int .u64 (a : Int) ∧ Hid (a = valOf (l.take k))) (fun _ i => n - (intOf i).toNat)
  case atStart => exact ⟨0, 0, by omega, rfl, rfl, (rfl : _ = _)⟩
  case round =>
    obtain ⟨k, a, hk, rfl, rfl, ha⟩ := hrel
    by_cases hlt : k < n
    · have hkl : k < l.length := by rw [← HN.out]; omega
      obtain ⟨X, hX⟩ : ∃ X : Nat, X = l[k].toNat := ⟨_, rfl⟩
      have hX255 : X ≤ 255 := by have := l[k].toNat_lt; omega
      have hc1 : w.cell? ⟨b, off + k, none⟩ = some (.int .u8 (X : Int)) := by rw [HC.out k (by simpa using hkl), hX, List.getElem_map]; rfl
      have hasm : a < 72057594037927936 := by
        rw [ha.out]; exact valOf_small _ (by rw [List.length_take]; omega)
      have hor := or_byte a X hasm (by omega)
      obtain ⟨a', ha'⟩ : ∃ a' : Nat, a' = a * 256 + X := ⟨_, rfl⟩
      rw [← ha'] at hor
      have HA : Hid (a' = valOf (l.take (k + 1))) := by show _ = _; rw [List.take_succ_eq_append_getElem hkl, valOf_snoc, ← ha.out, ← hX, ha']
      clear ha hX ha'
      go_wp2
      go_round
      case rel => exact ⟨k + 1, a', by omega, by go_num, rfl, HA⟩
      case measure => simp [intOf]; omega
    · obtain rfl : n = k := by omega
      go_wp2
      go_ret3
      exact ⟨by rw [← ha.out]; rfl, rfl⟩
theorem read_range (N c : Nat) (n : Int) (A : Option Addr) (w : World) (h : n < 1 ∨ 8 < n) :
    Calls Tryz.prog 104 #[.slice A N c, .int .i64 n] w fun e w' => e = .returned (.tuple #[.int .u64 0, .int .i64 0, .int .i64 12]) ∧ w = w' := by
  rcases h with h | h
  all_goals
    go_enter Tryz.func104, Tryz.ntmps104
    go_wp2
    go_ret3
    exact ⟨rfl, rfl⟩
theorem read_short (N c n : Nat) (A : Option Addr) (w : World) (h1 : 1 ≤ n) (h8 : n ≤ 8) (hle : N < n) :
    Calls Tryz.prog 104 #[.slice A N c, .int .i64 n] w fun e w' => e = .returned (.tuple #[.int .u64 0, .int .i64 0, .int .i64 20]) ∧ w = w' := by
  go_enter Tryz.func104, Tryz.ntmps104
  go_wp2
  go_ret3
  exact ⟨rfl, rfl⟩
end Go.Proofs.YtfoabkkkdcicgaaGreatDoor
