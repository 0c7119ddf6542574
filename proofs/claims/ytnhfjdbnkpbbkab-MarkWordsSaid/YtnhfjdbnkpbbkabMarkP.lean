/- Ballots: plain functions, and the contracts of Round and Next. -/
import Derived.Test.YtnhfjdbnkpbbkabKit
import Derived.Laws.BitsAllLaws
namespace Go.Proofs.Ytnhfjdbnkpbbkab
set_option linter.unusedVariables false
open Go.RowKit

def bRight (b : Int) : Bool := b == 0 || (decide (0 < b / 8) && decide (b / 8 < 16777216) && decide (b % 8 ≤ 6))
/-- the next ballot of a replica, and the error's number -/
def bNext (b r : Int) : Int × Int := if r < 0 ∨ 6 < r then (0, 12) else if 16777215 ≤ b / 8 then (0, 60) else ((b / 8 + 1) * 8 + r, 0)
theorem bRight_yes {b : Int} (h0 : 0 < b / 8) (h1 : b / 8 < 16777216) (h2 : b % 8 ≤ 6) : bRight b = true := by unfold bRight; simp; omega
theorem bRight_zero : bRight 0 = true := rfl
theorem bRight_no {b : Int} (h : b ≠ 0) (h1 : ¬ (0 < b / 8 ∧ b / 8 < 16777216 ∧ b % 8 ≤ 6)) : bRight b = false := by
  cases hb : bRight b with
  | false => rfl
  | true => exfalso; unfold bRight at hb; simp at hb; omega

theorem round_any (b : Int) (w : World) (h0 : 0 ≤ b) (h1 : b ≤ 4294967295) :
    Calls Try.prog 45 #[.int .u32 b] w fun e w' => e = .returned (.int .i64 (b / 8)) ∧ w = w' := by
  go_enter Try.func45, Try.ntmps45
  go_wp2
  go_ret
  exact ⟨rfl, rfl⟩
theorem next_any (b r : Int) (w : World) (h0 : 0 ≤ b) (h1 : b ≤ 4294967295) (h2 : -9223372036854775808 ≤ r) (h3 : r ≤ 9223372036854775807) :
    Calls Try.prog 39 #[.int .u32 b, .int .i64 r] w fun e w' => e = .returned (.tuple #[.int .u32 (bNext b r).1, .int .i64 (bNext b r).2]) ∧ w = w' := by
  by_cases hr : r < 0 ∨ 6 < r
  · have e : bNext b r = (0, 12) := by unfold bNext; rw [if_pos hr]
    rcases hr with hr | hr
    all_goals
      go_enter Try.func39, Try.ntmps39
      go_wp2
      go_ret2
      exact ⟨by first | rfl | (rw [e]; rfl), rfl⟩
  · have hr0 : 0 ≤ r := by omega
    have hr6 : r ≤ 6 := by omega
    by_cases hb : 16777215 ≤ b / 8
    · have e : bNext b r = (0, 60) := by unfold bNext; rw [if_neg hr, if_pos hb]
      clear hr
      go_enter Try.func39, Try.ntmps39
      go_wp2_with (go_at_call 45; refine (round_any _ _ (by omega) (by omega)).mono ?_; rintro e w2 ⟨rfl, rfl⟩)
      go_ret2
      exact ⟨by first | rfl | (rw [e]; rfl), rfl⟩
    · have e : bNext b r = ((b / 8 + 1) * 8 + r, 0) := by unfold bNext; rw [if_neg hr, if_neg hb]
      have hbits : bits BinOp.or IntKind.u32 ((b / 8 + 1) * 8) r = (b / 8 + 1) * 8 + r := by
        rw [u32_or _ _ (by omega) (by omega) (by omega) (by omega), nat_join 3 _ _ (by omega) (by omega)]; omega
      clear hr
      go_enter Try.func39, Try.ntmps39
      go_wp2_with (go_at_call 45; refine (round_any _ _ (by omega) (by omega)).mono ?_; rintro e w2 ⟨rfl, rfl⟩)
      go_ret2
      exact ⟨by first | rfl | (rw [e]; rfl), rfl⟩
end Go.Proofs.Ytnhfjdbnkpbbkab
