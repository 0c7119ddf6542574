/- num.Bytes: the plain function and the contract. -/
import Derived.Test.YtddilmocngedjaaKit
import Derived.Laws.BitsAllLaws
namespace Go.Proofs.Ytddilmocngedjaa
set_option linter.unusedVariables false
set_option maxRecDepth 20000
open Go.RowKit

/-- one of a number's bytes: the j-th from below -/
def byteAt (v : Int) (j : Nat) : UInt8 := UInt8.ofNat ((v / 256 ^ j).toNat % 256)
/-- a number's n lowest bytes, the greatest first -/
def bytesOf (v : Int) (n : Nat) : List UInt8 := (List.range n).map fun i => byteAt v (n - 1 - i)
theorem bytesOf_len (v : Int) (n : Nat) : (bytesOf v n).length = n := by simp [bytesOf]
theorem bytesOf_get (v : Int) (n i : Nat) (h : i < (bytesOf v n).length) : (bytesOf v n)[i] = byteAt v (n - 1 - i) := by simp [bytesOf]
theorem byte_cell (v : Int) (j : Nat) (h0 : 0 ≤ v) : bv (byteAt v j) = .int .u8 (v / 2 ^ (j * 8) % 256) := by
  unfold bv byteAt
  have e : (2 : Int) ^ (j * 8) = 256 ^ j := by rw [Nat.mul_comm, Int.pow_mul]; rfl
  have hp : (0 : Int) < 256 ^ j := Int.pow_pos (by omega)
  have hd : 0 ≤ v / 256 ^ j := Int.ediv_nonneg h0 (by omega)
  rw [e, UInt8.toNat_ofNat']
  congr 1
  omega
/-- how many bytes are made -/
def cap8 (n : Int) : Nat := if n ≤ 0 then 0 else if 8 ≤ n then 8 else n.toNat
theorem cap8_le (n : Int) : cap8 n ≤ 8 := by unfold cap8; split; omega; split <;> omega
/-- what stands in the row behind i rounds -/
def half (v : Int) (n i : Nat) : List Value := ((bytesOf v n).take i).map bv ++ List.replicate (n - i) (.int .u8 0)
theorem half_zero (v : Int) (n : Nat) : half v n 0 = List.replicate n (.int .u8 0) := by simp [half]
theorem half_full (v : Int) (n : Nat) : half v n n = (bytesOf v n).map bv := by
  unfold half
  rw [List.take_of_length_le (by rw [bytesOf_len]; omega)]; simp
theorem half_step (v : Int) (n i : Nat) (h : i < n) : (half v n i).set i (bv (byteAt v (n - 1 - i))) = half v n (i + 1) := by
  unfold half
  have hl : (((bytesOf v n).take i).map bv).length = i := by simp [bytesOf_len]; omega
  rw [List.set_append_right _ _ (by omega), hl, Nat.sub_self]
  have e : List.replicate (n - i) (Value.int .u8 0) = .int .u8 0 :: List.replicate (n - (i + 1)) (.int .u8 0) := by
    have : n - i = (n - (i + 1)) + 1 := by omega
    rw [this, List.replicate_succ]
  rw [e, List.set_cons_zero, List.take_succ_eq_append_getElem (by rw [bytesOf_len]; exact h), bytesOf_get, List.map_append]
  simp
theorem half_at (v : Int) (n i : Nat) (h : i < n) : (half v n i)[i]? = some (.int .u8 0) := by
  unfold half
  have hl : (((bytesOf v n).take i).map bv).length = i := by simp [bytesOf_len]; omega
  rw [List.getElem?_append_right (by omega), hl, Nat.sub_self, List.getElem?_replicate, if_pos (by omega)]

theorem numBytes_any (v n : Int) (w : World) (h0 : 0 ≤ v) (h1 : v ≤ 18446744073709551615) (h2 : -9223372036854775808 ≤ n) (h3 : n ≤ 9223372036854775807) :
    Calls Try.prog 52 #[.int .u64 v, .int .i64 n] w fun e w' => ∃ x, e = .returned x ∧ OwnB w' w.heap.size x (bytesOf v (cap8 n)) ∧ Below w.heap.size w w' := by
  obtain ⟨i0, hi0, hz0, hz1, hz2⟩ := info_parts info_u8
  obtain ⟨K, hK, hK8, hn⟩ : ∃ K : Nat, K = cap8 n ∧ K ≤ 8 ∧ ((n < 0 ∧ K = 0) ∨ (8 < n ∧ K = 8) ∨ (0 ≤ n ∧ n ≤ 8 ∧ n = (K : Int))) := by
    refine ⟨cap8 n, rfl, cap8_le n, ?_⟩
    unfold cap8
    split
    · omega
    · split <;> omega
  rw [← hK]
  clear hK
  rcases hn with ⟨hn, rfl⟩ | ⟨hn, rfl⟩ | ⟨hn0, hn8, rfl⟩
  · go_enter Try.func52, Try.ntmps52
    go_wp2_with (at_make; refine wpList_make_full _ rfl _ _ 22 rfl w.heap.size 5 i0 (.int .u8 0) 1 Try.underlying22 hi0 hz0 hz1 _ _ _ _ 0 rfl rfl ?c1 ?c2 ?c3 ?c4 ?c5 ?_)
    case c1 => first | rfl | omega
    case c2 => first | rfl | omega
    case c3 => rw [hz2]; omega
    case c4 => unfold maxLen; omega
    case c5 => exact Nat.le_refl _
    intro w1 hown hg
    have hb : Below w.heap.size w w1 := (Below.refl _ _).grown hg (Nat.le_refl _) (fun k h => by cases h)
    have hz : (madeCells #[Value.int IntKind.u8 0] (0 * 1)).toList = half v 0 0 := by rw [Nat.mul_one, toList_madeCells_one, half_zero]
    have hown2 : w1.ownsRow w.heap.size 5 1 (.slice (some ⟨w.heap.size, 0, none⟩) 0 0) 0 (half v 0 0) := by rw [← hz]; first | exact hown | simpa using hown
    clear hown hz hg
    go_wp2
    go_loopw [6, 14] (fun _ i wr => ∃ k : Nat, k ≤ 0 ∧ i = .int .i64 k ∧ wr.ownsRow w.heap.size 5 1 (.slice (some ⟨w.heap.size, 0, none⟩) 0 0) 0 (half v 0 k) ∧ Below w.heap.size w wr)
      (fun _ i _ => 0 - (intOf i).toNat)
    case atStart => exact ⟨0, by omega, rfl, hown2, hb⟩
    case round =>
      obtain ⟨k, hk, rfl, hown, hbr⟩ := hrel
      obtain rfl : k = 0 := by omega
      rw [half_full] at hown
      go_wp2
      go_ret
      exact ⟨_, rfl, by unfold OwnB; rw [bytesOf_len]; exact hown, hbr⟩
  · go_enter Try.func52, Try.ntmps52
    go_wp2_with (at_make; refine wpList_make_full _ rfl _ _ 22 rfl w.heap.size 5 i0 (.int .u8 0) 1 Try.underlying22 hi0 hz0 hz1 _ _ _ _ 8 rfl rfl ?c1 ?c2 ?c3 ?c4 ?c5 ?_)
    case c1 => first | rfl | omega
    case c2 => first | rfl | omega
    case c3 => rw [hz2]; omega
    case c4 => unfold maxLen; omega
    case c5 => exact Nat.le_refl _
    intro w1 hown hg
    have hb : Below w.heap.size w w1 := (Below.refl _ _).grown hg (Nat.le_refl _) (fun k h => by cases h)
    have hz : (madeCells #[Value.int IntKind.u8 0] (8 * 1)).toList = half v 8 0 := by rw [Nat.mul_one, toList_madeCells_one, half_zero]
    have hown2 : w1.ownsRow w.heap.size 5 1 (.slice (some ⟨w.heap.size, 0, none⟩) 8 8) 8 (half v 8 0) := by rw [← hz]; first | exact hown | simpa using hown
    clear hown hz hg
    go_wp2
    go_loopw [6, 14] (fun _ i wr => ∃ k : Nat, k ≤ 8 ∧ i = .int .i64 k ∧ wr.ownsRow w.heap.size 5 1 (.slice (some ⟨w.heap.size, 0, none⟩) 8 8) 8 (half v 8 k) ∧ Below w.heap.size w wr)
      (fun _ i _ => 8 - (intOf i).toNat)
    case atStart => exact ⟨0, by omega, rfl, hown2, hb⟩
    case round =>
      obtain ⟨k, hk, rfl, hown, hbr⟩ := hrel
      by_cases hlt : k < 8
      · have hc : wr.cell? ⟨w.heap.size, k, none⟩ = some (.int .u8 0) := by rw [hown.cellAt k (by omega), half_at v 8 k hlt]
        have hf : wr.frozen? ⟨w.heap.size, k, none⟩ = false := hown.frozenAt k
        go_wp2
        go_roundw
        case rel =>
          have S := (hown.stored k (bv (byteAt v (8 - 1 - k)))).1
          rw [half_step v _ k hlt, byte_cell v _ h0] at S
          exact ⟨k + 1, by omega, by go_num, S, hbr.setCell (Nat.le_refl _) _⟩
        case measure => simp [intOf]; omega
      · obtain rfl : k = 8 := by omega
        rw [half_full] at hown
        go_wp2
        go_ret
        exact ⟨_, rfl, by unfold OwnB; rw [bytesOf_len]; exact hown, hbr⟩
  · go_enter Try.func52, Try.ntmps52
    go_wp2_with (at_make; refine wpList_make_full _ rfl _ _ 22 rfl w.heap.size 5 i0 (.int .u8 0) 1 Try.underlying22 hi0 hz0 hz1 _ _ _ _ K rfl rfl ?c1 ?c2 ?c3 ?c4 ?c5 ?_)
    case c1 => first | rfl | omega
    case c2 => first | rfl | omega
    case c3 => rw [hz2]; omega
    case c4 => unfold maxLen; omega
    case c5 => exact Nat.le_refl _
    intro w1 hown hg
    have hb : Below w.heap.size w w1 := (Below.refl _ _).grown hg (Nat.le_refl _) (fun k h => by cases h)
    have hz : (madeCells #[Value.int IntKind.u8 0] (K * 1)).toList = half v K 0 := by rw [Nat.mul_one, toList_madeCells_one, half_zero]
    have hown2 : w1.ownsRow w.heap.size 5 1 (.slice (some ⟨w.heap.size, 0, none⟩) K K) K (half v K 0) := by rw [← hz]; first | exact hown | simpa using hown
    clear hown hz hg
    go_wp2
    go_loopw [6, 14] (fun _ i wr => ∃ k : Nat, k ≤ K ∧ i = .int .i64 k ∧ wr.ownsRow w.heap.size 5 1 (.slice (some ⟨w.heap.size, 0, none⟩) K K) K (half v K k) ∧ Below w.heap.size w wr)
      (fun _ i _ => K - (intOf i).toNat)
    case atStart => exact ⟨0, by omega, rfl, hown2, hb⟩
    case round =>
      obtain ⟨k, hk, rfl, hown, hbr⟩ := hrel
      by_cases hlt : k < K
      · have hc : wr.cell? ⟨w.heap.size, k, none⟩ = some (.int .u8 0) := by rw [hown.cellAt k (by omega), half_at v K k hlt]
        have hf : wr.frozen? ⟨w.heap.size, k, none⟩ = false := hown.frozenAt k
        go_wp2
        go_roundw
        case rel =>
          have S := (hown.stored k (bv (byteAt v (K - 1 - k)))).1
          rw [half_step v _ k hlt, byte_cell v _ h0] at S
          exact ⟨k + 1, by omega, by go_num, S, hbr.setCell (Nat.le_refl _) _⟩
        case measure => simp [intOf]; omega
      · obtain rfl : k = K := by omega
        rw [half_full] at hown
        go_wp2
        go_ret
        exact ⟨_, rfl, by unfold OwnB; rw [bytesOf_len]; exact hown, hbr⟩
end Go.Proofs.Ytddilmocngedjaa
