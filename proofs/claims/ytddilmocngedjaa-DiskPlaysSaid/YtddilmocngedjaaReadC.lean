/- The contracts of num.ReadShort and of the reference's ReadShort, Short and Same. -/
import Derived.Test.YtddilmocngedjaaRead
namespace Go.Proofs.Ytddilmocngedjaa
set_option linter.unusedVariables false
open Go.RowKit

/-- the three results of reading a short number -/
def rsVal (r : Nat × Nat × Nat) : Value := .tuple #[.int .u64 (r.1 : Int), .int .i64 (r.2.1 : Int), .int .i64 (r.2.2 : Int)]

theorem and127 (X : Int) (h0 : 0 ≤ X) (h1 : X ≤ 255) : bits BinOp.and IntKind.u8 X 127 = X % 128 := by
  rw [u8_and X 127 h0 (by omega) (by omega) (by omega)]
  have e : (127 : Int).toNat = 127 := rfl
  rw [e, nat_mask7]; omega
theorem or_part (acc x k : Nat) (h : acc < 128 ^ k) (hx : x * 128 ^ k < 18446744073709551616) (ha : acc < 18446744073709551616) :
    bits BinOp.or IntKind.u64 (acc : Int) (IntKind.u64.wrap ((x : Int) * 2 ^ (k * 7))) = ((acc + x * 128 ^ k : Nat) : Int) := by
  have e : (2 : Int) ^ (k * 7) = ((128 ^ k : Nat) : Int) := by rw [Nat.mul_comm, Int.pow_mul]; simp
  have e1 : IntKind.u64.wrap ((x : Int) * 2 ^ (k * 7)) = ((x * 128 ^ k : Nat) : Int) := by
    rw [e, IntKind.wrap_u64, ← Int.natCast_mul]; omega
  rw [e1, u64_or_nat _ _ ha hx]
  have e2 : (128 : Nat) ^ k = 2 ^ (7 * k) := by rw [Nat.pow_mul]
  rw [Nat.or_comm, nat_join (7 * k) (x * 128 ^ k) acc (by rw [e2, Nat.mul_mod_left]) (by rw [← e2]; exact h), Nat.add_comm]

theorem e63 : (2 : Int) ^ (9 * 7) = 9223372036854775808 := by decide +kernel
set_option maxRecDepth 20000 in
theorem readShort_any (l : List UInt8) (A : Option Addr) (c B : Nat) (w : World) (hr : Rd w B A (l.map bv)) (hlc : l.length ≤ c) (hc : c ≤ 9223372036854775807) :
    Calls Try.prog 56 #[.slice A l.length c] w fun e w' => e = .returned (rsVal (rShort l)) ∧ w = w' := by
  go_enter Try.func56, Try.ntmps56
  go_wp2
  go_loop [2, 6] (fun v i => ∃ k acc : Nat, k ≤ 9 ∧ i = .int .i64 k ∧ v = .int .u64 (acc : Int) ∧ Hid (acc < 128 ^ k) ∧ Hid (rs (10 - k) k acc (l.drop k) = rShort l)) (fun _ i => 10 - (intOf i).toNat)
  case atStart => exact ⟨0, 0, by omega, rfl, rfl, (by simp : 0 < 128 ^ 0), (rfl : _ = _)⟩
  case round =>
    obtain ⟨k, acc, hk, rfl, rfl, ha, hrs⟩ := hrel
    have hf : 10 - k = (9 - k) + 1 := by omega
    by_cases hlt : k < l.length
    · obtain ⟨b, off, rfl, hb, hcell⟩ := hr.open_ (by simp; omega)
      obtain ⟨X, hX⟩ : ∃ X : Nat, X = l[k].toNat := ⟨_, rfl⟩
      have hX255 : X ≤ 255 := by have := l[k].toNat_lt; omega
      have hc1 : w.cell? ⟨b, off + k, none⟩ = some (.int .u8 (X : Int)) := by rw [hcell k (by simp; omega), hX, List.getElem_map]; rfl
      have hd : l.drop k = l[k] :: l.drop (k + 1) := List.drop_eq_getElem_cons hlt
      have HR : Hid ((if 9 - k = 0 ∧ 1 < X then (0, 0, 12) else if X < 128 then (if X = 0 ∧ 0 < k then (0, 0, 10) else (acc + X * 128 ^ k, k + 1, 0)) else rs (9 - k) (k + 1) (acc + X % 128 * 128 ^ k) (l.drop (k + 1))) = rShort l) := by
        show _ = _
        rw [← hrs.out, hd, hf, rs, ← hX]
      obtain ⟨Y, hY⟩ : ∃ Y : Nat, Y = X % 128 := ⟨_, rfl⟩
      have hY127 : Y ≤ 127 := by omega
      have h127 : bits BinOp.and IntKind.u8 (X : Int) 127 = (Y : Int) := by rw [and127 (X : Int) (by omega) (by omega), hY]; rfl
      have HY := Lib.hid hY
      have hY2 := hY
      have hsmall : Hid (k ≤ 8 → acc < 9223372036854775808 ∧ 128 ^ k ≤ 72057594037927936) := by
        intro h8
        have h1 : 128 ^ (k + 1) ≤ 128 ^ 9 := Nat.pow_le_pow_right (by omega) (by omega)
        rw [Nat.pow_succ, p128_9] at h1
        have := ha.out
        omega
      clear hcell hd hrs hr hX hY
      by_cases h9 : k = 9 ∧ 1 < X
      · obtain ⟨rfl, h9⟩ := h9
        have HF : Hid (rShort l = (0, 0, 12)) := by show _ = _; rw [← HR.out, if_pos ⟨by omega, h9⟩]
        clear HR
        go_wp2
        go_ret3
        exact ⟨by rw [HF.out]; rfl, rfl⟩
      · by_cases h128 : X < 128
        · obtain ⟨acc', hacc⟩ : ∃ acc' : Nat, acc' = acc + X * 128 ^ k := ⟨_, rfl⟩
          have hor : bits BinOp.or IntKind.u64 (acc : Int) (IntKind.u64.wrap ((Y : Int) * 2 ^ (k * 7))) = (acc' : Int) := by
            have hYX : Y = X := by rw [hY2]; omega
            rw [hacc, hYX]
            by_cases h8 : k ≤ 8
            · refine or_part acc X k ha.out ?_ ?_
              · have := hsmall.out h8
                have h2 : X * 128 ^ k ≤ 127 * 128 ^ k := Nat.mul_le_mul_right _ (by omega)
                omega
              · have := hsmall.out h8; omega
            · have h10 : k = 9 := by omega
              have h1 : X ≤ 1 := by omega
              have ha' := ha.out
              subst h10
              rw [p128_9] at ha'
              refine or_part acc X 9 ha.out ?_ (by omega)
              rw [p128_9]; omega
          have HA := Lib.hid hacc
          clear hacc hY2
          by_cases hz : X = 0 ∧ 0 < k
          · obtain ⟨hX0, hk0⟩ := hz
            have HF : Hid (rShort l = (0, 0, 10)) := by show _ = _; rw [← HR.out, if_neg (by omega), if_pos (by omega), if_pos ⟨hX0, hk0⟩]
            have hX1 : X ≤ 0 := by omega
            clear HR hX0
            rcases (show k = 9 ∨ k ≤ 8 by omega) with rfl | h8
            all_goals
              go_wp2
              go_ret3
              exact ⟨by rw [HF.out]; rfl, rfl⟩
          · have HF : Hid (rShort l = (acc', k + 1, 0)) := by show _ = _; rw [← HR.out, if_neg (by omega), if_pos (by omega), if_neg hz, HA.out]
            clear HR
            by_cases hk0 : k ≤ 0
            · clear hz
              go_wp2
              all_goals
                go_ret3
                exact ⟨by rw [HF.out]; rfl, rfl⟩
            · have hX0 : 0 < X := by omega
              clear hz
              rcases (show k = 9 ∨ k ≤ 8 by omega) with rfl | h8
              all_goals
                try rw [e63] at hor
                go_wp2
                all_goals
                  go_ret3
                  exact ⟨by rw [HF.out]; rfl, rfl⟩
        · clear hY2
          have hk8 : k ≤ 8 := by omega
          obtain ⟨acc', hacc⟩ : ∃ acc' : Nat, acc' = acc + Y * 128 ^ k := ⟨_, rfl⟩
          have hor : bits BinOp.or IntKind.u64 (acc : Int) (IntKind.u64.wrap ((Y : Int) * 2 ^ (k * 7))) = (acc' : Int) := by
            rw [hacc]
            refine or_part acc Y k ha.out ?_ ?_
            · have := hsmall.out hk8
              have h2 : Y * 128 ^ k ≤ 127 * 128 ^ k := Nat.mul_le_mul_right _ (by omega)
              omega
            · have := hsmall.out hk8; omega
          have HA := Lib.hid hacc
          clear hacc
          have HN : Hid (acc' < 128 ^ (k + 1)) := by
            show _ < _
            rw [HA.out, Nat.pow_succ]
            have h2 : Y * 128 ^ k ≤ 127 * 128 ^ k := Nat.mul_le_mul_right _ (by omega)
            have := ha.out
            omega
          have HR2 : Hid (rs (10 - (k + 1)) (k + 1) acc' (l.drop (k + 1)) = rShort l) := by
            show _ = _
            rw [← HR.out, if_neg (by omega), if_neg h128, HA.out, HY.out]
            have e : 10 - (k + 1) = 9 - k := by omega
            rw [e]
          clear HR HA HY hsmall ha
          go_wp2
          go_round
          case rel => exact ⟨k + 1, acc', by omega, by go_num, rfl, HN, HR2⟩
          case measure => simp [intOf]; omega
    · have hd : l.drop k = [] := List.drop_eq_nil_of_le (by omega)
      have HR : Hid (rShort l = (0, 0, 20)) := by show _ = _; rw [← hrs.out, hd, hf, rs]
      clear hrs hd
      go_wp2
      go_ret3
      exact ⟨by rw [HR.out]; rfl, rfl⟩
end Go.Proofs.Ytddilmocngedjaa
