/- The contract of the reference's Bytes. -/
import Derived.Test.YtnhfjdbnkpbbkabNumRead
namespace Go.Proofs.Ytnhfjdbnkpbbkab
set_option linter.unusedVariables false
open Go.RowKit

/-- what stands in the row behind j rounds from the end -/
def back (v : Int) (n j : Nat) : List Value := List.replicate (n - j) (.int .u8 0) ++ ((bytesOf v n).drop (n - j)).map bv
theorem back_zero (v : Int) (n : Nat) : back v n 0 = List.replicate n (.int .u8 0) := by
  unfold back; rw [List.drop_of_length_le (by rw [bytesOf_len]; omega)]; simp
theorem back_full (v : Int) (n : Nat) : back v n n = (bytesOf v n).map bv := by simp [back]
theorem back_step (v : Int) (n j : Nat) (h : j < n) : (back v n j).set (n - 1 - j) (bv (byteAt v j)) = back v n (j + 1) := by
  unfold back
  have e1 : n - j = (n - 1 - j) + 1 := by omega
  have e2 : n - (j + 1) = n - 1 - j := by omega
  rw [List.set_append_left _ _ (by simp; omega), e1, e2, List.replicate_succ', List.set_append_right _ _ (by simp)]
  simp only [List.length_replicate, Nat.sub_self, List.set_cons_zero]
  rw [List.append_assoc]
  congr 1
  have hl : n - 1 - j < (bytesOf v n).length := by rw [bytesOf_len]; omega
  rw [List.drop_eq_getElem_cons hl, bytesOf_get]
  have e3 : n - 1 - (n - 1 - j) = j := by omega
  rw [e3]; simp
theorem back_at (v : Int) (n j : Nat) (h : j < n) : (back v n j)[n - 1 - j]? = some (.int .u8 0) := by
  unfold back
  rw [List.getElem?_append_left (by simp; omega), List.getElem?_replicate, if_pos (by omega)]
theorem byte_low (v : Int) (j : Nat) (h0 : 0 ≤ v) : bv (byteAt v j) = .int .u8 (v / 256 ^ j % 256) := by
  have e : (2 : Int) ^ (j * 8) = 256 ^ j := by rw [Nat.mul_comm, Int.pow_mul]; rfl
  rw [byte_cell v j h0, e]

set_option maxRecDepth 20000 in
theorem refBytes_any (v : Int) (n : Nat) (w : World) (h0 : 0 ≤ v) (h1 : v ≤ 18446744073709551615) (h8 : n ≤ 8) :
    Calls Try.prog 20 #[.int .u64 v, .int .i64 n] w fun e w' => ∃ x, e = .returned x ∧ OwnB w' w.heap.size x (bytesOf v n) ∧ Below w.heap.size w w' := by
  obtain ⟨i0, hi0, hz0, hz1, hz2⟩ := info_parts info_u8
  go_enter Try.func20, Try.ntmps20
  go_wp2_with (at_make; refine wpList_make_full _ rfl _ _ 37 rfl w.heap.size 5 i0 (.int .u8 0) 1 Try.underlying37 hi0 hz0 hz1 _ _ _ _ n rfl rfl ?c1 ?c2 ?c3 ?c4 ?c5 ?_)
  case c1 => first | rfl | omega
  case c2 => first | rfl | omega
  case c3 => rw [hz2]; omega
  case c4 => unfold maxLen; omega
  case c5 => exact Nat.le_refl _
  intro w1 hown hg
  have hb : Below w.heap.size w w1 := (Below.refl _ _).grown hg (Nat.le_refl _) (fun k h => by cases h)
  have hz : (madeCells #[Value.int IntKind.u8 0] (n * 1)).toList = back v n 0 := by rw [Nat.mul_one, toList_madeCells_one, back_zero]
  have hown2 : w1.ownsRow w.heap.size 5 1 (.slice (some ⟨w.heap.size, 0, none⟩) n n) n (back v n 0) := by rw [← hz]; first | exact hown | simpa using hown
  clear hown hz hg
  go_wp2
  go_loopw [0, 6] (fun x i wr => ∃ (j : Nat) (y z : Int), j ≤ n ∧ z = (n : Int) - 1 - (j : Int) ∧ i = .int .i64 z ∧ x = .int .u64 y ∧ 0 ≤ y ∧ y ≤ 18446744073709551615 ∧ Hid (y = v / 256 ^ j) ∧
      wr.ownsRow w.heap.size 5 1 (.slice (some ⟨w.heap.size, 0, none⟩) n n) n (back v n j) ∧ Below w.heap.size w wr)
    (fun _ i _ => (intOf i + 1).toNat)
  case atStart => exact ⟨0, v, _, by omega, by omega, rfl, rfl, h0, h1, (by simp : v = v / 256 ^ 0), hown2, hb⟩
  case round =>
    obtain ⟨j, y, z, hj, hz, rfl, rfl, hy0, hy1, hy, hown, hbr⟩ := hrel
    by_cases hlt : j < n
    · obtain ⟨k, hk⟩ : ∃ k : Nat, k = n - 1 - j := ⟨_, rfl⟩
      obtain rfl : z = (k : Int) := by omega
      have hkn : k < n := by omega
      have hc : wr.cell? ⟨w.heap.size, k, none⟩ = some (.int .u8 0) := by rw [hown.cellAt k (by omega), hk, back_at v n j hlt]
      have hf : wr.frozen? ⟨w.heap.size, k, none⟩ = false := hown.frozenAt k
      have S := (hown.stored k (bv (byteAt v j))).1
      rw [hk, back_step v n j hlt, ← hk, byte_low v j h0, ← hy.out] at S
      have HS := Lib.hid S
      have HY : Hid (y / 256 = v / 256 ^ (j + 1)) := by
        show _ = _
        rw [hy.out, Int.ediv_ediv_of_nonneg (Int.le_of_lt (Int.pow_pos (by omega))), Int.pow_succ]
      have HZ : Hid ((k : Int) - 1 = (n : Int) - 1 - ((j + 1 : Nat) : Int)) := by show _ = _; omega
      clear hown hy S hz hk
      go_wp2
      go_roundw
      case rel => exact ⟨j + 1, y / 256, (k : Int) - 1, by omega, HZ.out, by go_num, by go_num, by omega, by omega, HY, HS.out, hbr.setCell (Nat.le_refl _) _⟩
      case measure => first | omega | (simp [intOf]; done) | (simp [intOf]; omega)
    · obtain rfl : n = j := by omega
      have hzneg : z < 0 := by omega
      rw [back_full] at hown
      clear hz
      go_wp2
      go_ret
      exact ⟨_, rfl, by unfold OwnB; rw [bytesOf_len]; exact hown, hbr⟩
theorem refBytes_n (v : Int) (n : Nat) (m : Int) (w : World) (hm : m = (n : Int)) (h0 : 0 ≤ v) (h1 : v ≤ 18446744073709551615) (h8 : n ≤ 8) :
    Calls Try.prog 20 #[.int .u64 v, .int .i64 m] w fun e w' => ∃ x, e = .returned x ∧ OwnB w' w.heap.size x (bytesOf v n) ∧ Below w.heap.size w w' := by
  subst hm; exact refBytes_any v n w h0 h1 h8
end Go.Proofs.Ytnhfjdbnkpbbkab
