/- The contracts of the reference's ReadShort, Short and Same. -/
import Derived.Test.YtddilmocngedjaaReadC
import Derived.Test.YtddilmocngedjaaSame
namespace Go.Proofs.Ytddilmocngedjaa
set_option linter.unusedVariables false
open Go.RowKit

set_option maxHeartbeats 1600000 in
set_option maxRecDepth 20000 in
theorem refReadShort_any (l : List UInt8) (A : Option Addr) (c B : Nat) (w : World) (hr : Rd w B A (l.map bv)) (hlc : l.length ≤ c) (hc : c ≤ 9223372036854775807) :
    Calls Try.prog 47 #[.slice A l.length c] w fun e w' => e = .returned (rsVal (rShort l)) ∧ w = w' := by
  go_enter Try.func47, Try.ntmps47
  go_wp2
  go_loop [5, 6, 7] (fun v p i => ∃ k acc P : Nat, k ≤ 9 ∧ i = .int .i64 k ∧ v = .int .u64 (acc : Int) ∧ p = .int .u64 (P : Int) ∧ Hid (P = 128 ^ k) ∧ acc < P ∧ P ≤ 9223372036854775808 ∧ Hid (rs (10 - k) k acc (l.drop k) = rShort l)) (fun _ _ i => 10 - (intOf i).toNat)
  case atStart => exact ⟨0, 0, 1, by omega, rfl, rfl, rfl, (rfl : _ = _), by omega, by omega, (rfl : _ = _)⟩
  case round =>
    obtain ⟨k, acc, P, hk, rfl, rfl, rfl, hP, haP, hP63, hrs⟩ := hrel
    have hf : 10 - k = (9 - k) + 1 := by omega
    by_cases hlt : k < l.length
    · obtain ⟨b, off, rfl, hb, hcell⟩ := hr.open_ (by simp; omega)
      obtain ⟨X, hX⟩ : ∃ X : Nat, X = l[k].toNat := ⟨_, rfl⟩
      have hX255 : X ≤ 255 := by have := l[k].toNat_lt; omega
      have hc1 : w.cell? ⟨b, off + k, none⟩ = some (.int .u8 (X : Int)) := by rw [hcell k (by simp; omega), hX, List.getElem_map]; rfl
      have hd : l.drop k = l[k] :: l.drop (k + 1) := List.drop_eq_getElem_cons hlt
      have HR : Hid ((if 9 - k = 0 ∧ 1 < X then (0, 0, 12) else if X < 128 then (if X = 0 ∧ 0 < k then (0, 0, 10) else (acc + X * P, k + 1, 0)) else rs (9 - k) (k + 1) (acc + X % 128 * P) (l.drop (k + 1))) = rShort l) := by
        show _ = _
        rw [← hrs.out, hd, hf, rs, ← hX, hP.out]
      obtain ⟨M, hM⟩ : ∃ M : Nat, M = X % 128 * P := ⟨_, rfl⟩
      have hMle : M ≤ 127 * P := by rw [hM]; exact Nat.mul_le_mul_right _ (by omega)
      have hP8 : k ≤ 8 → P ≤ 72057594037927936 := by
        intro h8
        have h1 : 128 ^ (k + 1) ≤ 128 ^ 9 := Nat.pow_le_pow_right (by omega) (by omega)
        rw [Nat.pow_succ, p128_9, ← hP.out] at h1
        omega
      have hP9 : k = 9 → P = 9223372036854775808 := by rintro rfl; rw [hP.out, p128_9]
      have hM9 : X ≤ 1 → M ≤ P := by
        intro h1
        have : X % 128 * P ≤ 1 * P := Nat.mul_le_mul_right _ (by omega)
        rw [hM]; omega
      have hmul : (¬(9 - k = 0 ∧ 1 < X)) → IntKind.u64.wrap ((X : Int) % 128 * (P : Int)) = (M : Int) ∧ M ≤ 9223372036854775808 := by
        intro hno
        have hle : M ≤ 9223372036854775808 := by
          by_cases h8 : k ≤ 8
          · have := hP8 h8; omega
          · have h9 : k = 9 := by omega
            have := hM9 (by omega); omega
        refine ⟨?_, hle⟩
        have e : (X : Int) % 128 * (P : Int) = (M : Int) := by rw [hM]; simp
        rw [e, IntKind.wrap_u64]; omega
      have HM := Lib.hid hM
      have HP8 := Lib.hid hP8
      have HMUL := Lib.hid hmul
      clear hcell hd hrs hr hX hM hP8 hP9 hM9 hmul hMle
      by_cases h9 : 9 - k = 0 ∧ 1 < X
      · have HF : Hid (rShort l = (0, 0, 12)) := by show _ = _; rw [← HR.out, if_pos h9]
        obtain ⟨h9, h9'⟩ := h9
        obtain rfl : k = 9 := by omega
        clear HR h9
        go_wp2
        go_ret3
        exact ⟨by rw [HF.out]; rfl, rfl⟩
      · obtain ⟨hmul, hM63⟩ := HMUL.out h9
        by_cases h128 : X < 128
        · have hMX : Hid (M = X * P) := by
            show _ = _
            rw [HM.out]; congr 1; omega
          by_cases hz : X = 0 ∧ 0 < k
          · obtain ⟨hX0, hk0⟩ := hz
            have HF : Hid (rShort l = (0, 0, 10)) := by show _ = _; rw [← HR.out, if_neg h9, if_pos (by omega), if_pos ⟨hX0, hk0⟩]
            have hX1 : X ≤ 0 := by omega
            clear HR hX0 h9
            rcases (show k = 9 ∨ k ≤ 8 by omega) with rfl | h8
            all_goals
              go_wp2
              go_ret3
              exact ⟨by rw [HF.out]; rfl, rfl⟩
          · have HF : Hid (rShort l = (acc + M, k + 1, 0)) := by show _ = _; rw [← HR.out, if_neg h9, if_pos (by omega), if_neg hz, hMX.out]
            clear HR
            by_cases hk0 : k ≤ 0
            · clear hz h9
              go_wp2
              all_goals
                go_ret3
                exact ⟨by rw [HF.out]; rfl, rfl⟩
            · have hX0 : 0 < X := by omega
              have h9' : k ≤ 8 ∨ X ≤ 1 := by omega
              clear hz h9
              rcases (show (k = 9 ∧ X ≤ 1) ∨ k ≤ 8 by omega) with ⟨rfl, hX1⟩ | h8
              all_goals
                clear h9'
                go_wp2
                all_goals
                  go_ret3
                  exact ⟨by rw [HF.out]; rfl, rfl⟩
        · have hk8 : k ≤ 8 := by omega
          have hp8 := HP8.out hk8
          have HN : Hid (P * 128 = 128 ^ (k + 1)) := by
            show _ = _
            rw [hP.out, Nat.pow_succ]
          have hbound : acc + M < P * 128 := by
            have h2 : M ≤ 127 * P := by rw [HM.out]; exact Nat.mul_le_mul_right _ (by omega)
            omega
          have HR2 : Hid (rs (10 - (k + 1)) (k + 1) (acc + M) (l.drop (k + 1)) = rShort l) := by
            show _ = _
            rw [← HR.out, if_neg h9, if_neg h128, HM.out]
            have e : 10 - (k + 1) = 9 - k := by omega
            rw [e]
          clear HR HM HMUL HP8 h9
          go_wp2
          go_round
          case rel => exact ⟨k + 1, acc + M, P * 128, by omega, by go_num, by go_num, by go_num, HN, hbound, by omega, HR2⟩
          case measure => simp [intOf]; omega
    · have hd : l.drop k = [] := List.drop_eq_nil_of_le (by omega)
      have HR : Hid (rShort l = (0, 0, 20)) := by show _ = _; rw [← hrs.out, hd, hf, rs]
      clear hrs hd
      go_wp2
      go_ret3
      exact ⟨by rw [HR.out]; rfl, rfl⟩

/-- The same contracts with the length under a name of its own. -/
theorem readShort_n (l : List UInt8) (n : Nat) (A : Option Addr) (c B : Nat) (w : World) (hn : n = l.length) (hr : Rd w B A (l.map bv)) (hlc : n ≤ c) (hc : c ≤ 9223372036854775807) :
    Calls Try.prog 56 #[.slice A n c] w fun e w' => e = .returned (rsVal (rShort l)) ∧ w = w' := by
  subst hn; exact readShort_any l A c B w hr hlc hc
theorem refReadShort_n (l : List UInt8) (n : Nat) (A : Option Addr) (c B : Nat) (w : World) (hn : n = l.length) (hr : Rd w B A (l.map bv)) (hlc : n ≤ c) (hc : c ≤ 9223372036854775807) :
    Calls Try.prog 47 #[.slice A n c] w fun e w' => e = .returned (rsVal (rShort l)) ∧ w = w' := by
  subst hn; exact refReadShort_any l A c B w hr hlc hc
end Go.Proofs.Ytddilmocngedjaa
