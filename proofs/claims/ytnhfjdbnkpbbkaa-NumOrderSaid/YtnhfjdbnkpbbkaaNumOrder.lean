/- NumOrder: the order of numbers by their bytes, and the law's walk. -/
import Derived.Test.YtnhfjdbnkpbbkaaNumZigs
import Derived.Test.YtnhfjdbnkpbbkaaBytes
namespace Go.Proofs.Ytnhfjdbnkpbbkaa
set_option linter.unusedVariables false
open Go.RowKit

/-- the sign of an order -/
def sgn (a b : Int) : Int := if a < b then -1 else if a = b then 0 else 1
def top8 (a : Int) (k : Nat) : Int := a / 256 ^ (8 - k)
theorem top8_zero (a : Int) (h0 : 0 ≤ a) (h1 : a ≤ 18446744073709551615) : top8 a 0 = 0 := by
  unfold top8
  have e : (256 : Int) ^ (8 - 0) = 18446744073709551616 := by decide +kernel
  rw [e]; omega
theorem top8_full (a : Int) : top8 a 8 = a := by unfold top8; simp
theorem top8_step (a : Int) (k : Nat) (h0 : 0 ≤ a) (hk : k < 8) : top8 a k = top8 a (k + 1) / 256 ∧ ((byteAt a (8 - 1 - k)).toNat : Int) = top8 a (k + 1) % 256 := by
  unfold top8 byteAt
  have e : 8 - k = (8 - (k + 1)) + 1 := by omega
  have e2 : 8 - 1 - k = 8 - (k + 1) := by omega
  rw [e, e2, Int.pow_succ]
  have hp : (0 : Int) < 256 ^ (8 - (k + 1)) := Int.pow_pos (by omega)
  refine ⟨(Int.ediv_ediv_of_nonneg (by omega)).symm, ?_⟩
  have hd : 0 ≤ a / 256 ^ (8 - (k + 1)) := Int.ediv_nonneg h0 (by omega)
  rw [UInt8.toNat_ofNat']
  omega
theorem sgn_step {a b p q x y : Int} (ha : p = a / 256) (hb : q = b / 256) (hx : x = a % 256) (hy : y = b % 256) :
    sgn a b = if sgn p q = 0 then (if x = y then 0 else if x < y then -1 else 1) else sgn p q := by
  subst ha hb hx hy
  unfold sgn
  repeat' split
  all_goals omega

theorem order_walk (a b : Int) (w : World) (h0 : 0 ≤ a) (h1 : a ≤ 18446744073709551615) (h2 : 0 ≤ b) (h3 : b ≤ 18446744073709551615) :
    Calls Try.prog 6 #[.int .u64 a, .int .u64 b] w fun e w' => e = .returned (.bool true) ∧ Below w.heap.size w w' := by
  go_enter Try.func6, Try.ntmps6
  go_wp2_with (fail)
  refine (anchor01 _).mono ?_; rintro e w1 ⟨rfl, hb1⟩
  go_wp2_with (fail)
  refine (numBytes_any a 8 _ h0 h1 (by omega) (by omega)).mono ?_; rintro e w2 ⟨x, rfl, hx, hb2⟩
  go_wp2_with (fail)
  refine (numBytes_any b 8 _ h2 h3 (by omega) (by omega)).mono ?_; rintro e w3 ⟨y, rfl, hy, hb3⟩
  have hc8 : cap8 8 = 8 := rfl
  rw [hc8] at hx hy
  obtain ⟨A, c, rfl, hrA, hlA, hcA⟩ := hx.form
  obtain ⟨A', c', rfl, hrB, hlB, hcB⟩ := hy.form
  have hrA3 := hrA.below hb3 (Nat.le_refl _)
  obtain ⟨b1, o1, rfl, hlt1, hc1⟩ := hrA3.open_ (by simp [bytesOf_len])
  obtain ⟨b2, o2, rfl, hlt2, hc2⟩ := hrB.open_ (by simp [bytesOf_len])
  have hlt1' : b1 < w3.heap.size := by have := hb3.size; omega
  have hb := (hb1.trans (hb2.mono hb1.size)).trans (hb3.mono (Nat.le_trans hb1.size hb2.size))
  have C1 : Hid (∀ k, k < 8 → w3.cell? ⟨b1, o1 + k, none⟩ = some (.int .u8 ((byteAt a (8 - 1 - k)).toNat : Int))) := by
    intro k hk
    have := hc1 k (by simp [bytesOf_len]; exact hk)
    rw [this, List.getElem_map, bytesOf_get]; rfl
  have C2 : Hid (∀ k, k < 8 → w3.cell? ⟨b2, o2 + k, none⟩ = some (.int .u8 ((byteAt b (8 - 1 - k)).toNat : Int))) := by
    intro k hk
    have := hc2 k (by simp [bytesOf_len]; exact hk)
    rw [this, List.getElem_map, bytesOf_get]; rfl
  rw [bytesOf_len] at hlA hlB ⊢
  rw [bytesOf_len]
  clear hc1 hc2 hrA hrB hrA3 hx hy hb1 hb2 hb3 hlt1
  go_wp2_with (fail)
  go_loopw [7, 8, 25] (fun cc _ i wr => ∃ (k : Nat) (z : Int), k ≤ 8 ∧ i = .int .i64 k ∧ cc = .int .i64 z ∧ -1 ≤ z ∧ z ≤ 1 ∧ Hid (z = sgn (top8 a k) (top8 b k)) ∧ Below w3.heap.size w3 wr)
    (fun _ _ i _ => 8 - (intOf i).toNat)
  case atStart => exact ⟨0, 0, by omega, rfl, rfl, by omega, by omega, (by rw [top8_zero a h0 h1, top8_zero b h2 h3]; rfl : (0 : Int) = _), Below.refl _ _⟩
  case round =>
    obtain ⟨k, z, hk, rfl, rfl, hz0, hz1, hz, hbr⟩ := hrel
    by_cases hlt : k < 8
    · obtain ⟨X, hX⟩ : ∃ X : Int, X = ((byteAt a (8 - 1 - k)).toNat : Int) := ⟨_, rfl⟩
      obtain ⟨Y, hY⟩ : ∃ Y : Int, Y = ((byteAt b (8 - 1 - k)).toNat : Int) := ⟨_, rfl⟩
      have d1 : wr.cell? ⟨b1, o1 + k, none⟩ = some (.int .u8 X) := by rw [hX, ← C1.out k hlt]; exact hbr.cell (by exact hlt1')
      have d2 : wr.cell? ⟨b2, o2 + k, none⟩ = some (.int .u8 Y) := by rw [hY, ← C2.out k hlt]; exact hbr.cell (by exact hlt2)
      have hX0 : 0 ≤ X ∧ X ≤ 255 := by have := (byteAt a (8 - 1 - k)).toNat_lt; omega
      have hY0 : 0 ≤ Y ∧ Y ≤ 255 := by have := (byteAt b (8 - 1 - k)).toNat_lt; omega
      have ta := top8_step a k h0 hlt
      have tb := top8_step b k h2 hlt
      have HS := Lib.hid (sgn_step ta.1 tb.1 (hX.trans ta.2) (hY.trans tb.2))
      clear hX hY ta tb
      by_cases hz2 : z = 0
      · subst hz2
        by_cases hxy : X = Y
        · subst hxy
          have HN : Hid (0 = sgn (top8 a (k + 1)) (top8 b (k + 1))) := by show _ = _; rw [HS.out, ← hz.out]; simp
          clear HS hz
          go_wp2
          go_quiet (fail)
          go_wp2
          go_roundw
          case rel => exact ⟨k + 1, 0, by omega, by go_num, rfl, by omega, by omega, HN, bel_drewN hbr _⟩
          case measure => simp [intOf]; omega
        · have hne : (X != Y) = true := by simp [hxy]
          by_cases hl : X < Y
          · have HN : Hid (-1 = sgn (top8 a (k + 1)) (top8 b (k + 1))) := by show _ = _; rw [HS.out, ← hz.out]; simp [hxy, hl]
            clear HS hz hxy
            go_wp2
            go_quiet (fail)
            go_wp2
            go_quiet (fail)
            go_wp2
            go_roundw
            case rel => exact ⟨k + 1, -1, by omega, by go_num, rfl, by omega, by omega, HN, by first | exact bel_drewN hbr _ | exact bel_drewN (bel_drewN hbr _) _⟩
            case measure => simp [intOf]; omega
          · have HN : Hid (1 = sgn (top8 a (k + 1)) (top8 b (k + 1))) := by show _ = _; rw [HS.out, ← hz.out]; simp [hxy, hl]
            have hl2 : decide (X < Y) = false := by simpa using hl
            clear HS hz hxy hl
            go_wp2
            go_quiet (fail)
            go_wp2
            go_quiet (fail)
            go_wp2
            go_roundw
            case rel => exact ⟨k + 1, 1, by omega, by go_num, rfl, by omega, by omega, HN, by first | exact bel_drewN hbr _ | exact bel_drewN (bel_drewN hbr _) _⟩
            case measure => simp [intOf]; omega
      · have HN : Hid (z = sgn (top8 a (k + 1)) (top8 b (k + 1))) := by show _ = _; rw [HS.out, ← hz.out, if_neg hz2]
        have hzf : (z == 0) = false := by simp [hz2]
        clear HS hz hz2
        go_wp2
        go_quiet (fail)
        go_wp2
        go_roundw
        case rel => exact ⟨k + 1, z, by omega, by go_num, rfl, by omega, by omega, HN, bel_drewN hbr _⟩
        case measure => simp [intOf]; omega
    · obtain rfl : k = 8 := by omega
      have hs := hz.out
      rw [top8_full, top8_full] at hs
      have hfin := hb.trans (hbr.mono (by have := hb.size; omega))
      have h3 : (a < b ∧ z = -1) ∨ (a = b ∧ z = 0) ∨ (b < a ∧ z = 1) := by
        rw [hs]; unfold sgn
        split
        · left; exact ⟨by assumption, rfl⟩
        · split
          · right; left; exact ⟨by assumption, rfl⟩
          · right; right; exact ⟨by omega, rfl⟩
      clear hs hz
      rcases h3 with ⟨h3, rfl⟩ | ⟨rfl, rfl⟩ | ⟨h3, rfl⟩
      all_goals
        go_wp2
        go_ret
        exact ⟨by first | rfl | exact ret_bool (by simp; omega), hfin⟩
end Go.Proofs.Ytnhfjdbnkpbbkaa
