/- MarkBallots: the reference's two functions, the anchor of layer 6, and the law's walk. -/
import Derived.Test.YtnhfjdbnkpbbkaaMark
namespace Go.Proofs.Ytnhfjdbnkpbbkaa
open Go.RowKit

theorem refBallot_any (b : Int) (w : World) (h0 : 0 ≤ b) (h1 : b ≤ 4294967295) :
    Calls Try.prog 20 #[.int .u32 b] w fun e w' => e = .returned (.bool (bRight b)) ∧ w = w' := by
  by_cases hz : b / 8 = 0
  · by_cases hb : b = 0
    · subst hb
      go_enter Try.func20, Try.ntmps20
      go_wp2
      go_ret
      exact ⟨rfl, rfl⟩
    · have e := bRight_no hb (by omega)
      have hb0 : (b == 0) = false := by simp [hb]
      have hz0 : (b / 8 == 0) = true := by simp [hz]
      clear hz hb
      go_enter Try.func20, Try.ntmps20
      go_wp2
      go_ret
      exact ⟨by first | rfl | (rw [e]; rfl), rfl⟩
  · have hz0 : (b / 8 == 0) = false := by simp [hz]
    by_cases k1 : b / 8 < 16777216
    · have e : bRight b = decide (b % 8 < 7) := by
        by_cases h7 : b % 8 < 7
        · rw [bRight_yes (by omega) k1 (by omega)]; simp [h7]
        · rw [bRight_no (by omega) (by omega)]; simp; omega
      clear hz
      go_enter Try.func20, Try.ntmps20
      go_wp2
      go_ret
      exact ⟨by first | rfl | (rw [e]; rfl), rfl⟩
    · have e := bRight_no (b := b) (by omega) (by omega)
      clear hz
      go_enter Try.func20, Try.ntmps20
      go_wp2
      go_ret
      exact ⟨by first | rfl | (rw [e]; rfl), rfl⟩
theorem refNext_any (b r : Int) (w : World) (h0 : 0 ≤ b) (h1 : b ≤ 4294967295) (h2 : -9223372036854775808 ≤ r) (h3 : r ≤ 9223372036854775807) :
    Calls Try.prog 24 #[.int .u32 b, .int .i64 r] w fun e w' => e = .returned (.tuple #[.int .u32 (bNext b r).1, .int .i64 (bNext b r).2]) ∧ w = w' := by
  by_cases hr : r < 0 ∨ 6 < r
  · have e : bNext b r = (0, 12) := by unfold bNext; rw [if_pos hr]
    rcases hr with hr | hr
    all_goals
      go_enter Try.func24, Try.ntmps24
      go_wp2
      go_ret2
      exact ⟨by first | rfl | (rw [e]; rfl), rfl⟩
  · have hr0 : 0 ≤ r := by omega
    have hr6 : r ≤ 6 := by omega
    by_cases hb : 16777215 ≤ b / 8
    · have e : bNext b r = (0, 60) := by unfold bNext; rw [if_neg hr, if_pos hb]
      clear hr
      go_enter Try.func24, Try.ntmps24
      go_wp2
      go_ret2
      exact ⟨by first | rfl | (rw [e]; rfl), rfl⟩
    · have e : bNext b r = ((b / 8 + 1) * 8 + r, 0) := by unfold bNext; rw [if_neg hr, if_neg hb]
      clear hr
      go_enter Try.func24, Try.ntmps24
      go_wp2
      go_ret2
      exact ⟨by first | rfl | (rw [e]; rfl), rfl⟩

theorem anchor06 (w : World) : Calls Try.prog 18 #[] w fun e w' => e = .returned (.bool true) ∧ w = w' := by
  have e1 : bNext 0 2 = (10, 0) := rfl
  have e2 : bNext 10 0 = (16, 0) := rfl
  go_enter Try.func18, Try.ntmps18
  go_wp2_with (fail)
  refine (next_any _ _ _ (by omega) (by omega) (by omega) (by omega)).mono ?_; rintro e w2 ⟨rfl, rfl⟩
  rw [e1]
  go_wp2_with (fail)
  refine (next_any _ _ _ (by omega) (by omega) (by omega) (by omega)).mono ?_; rintro e w2 ⟨rfl, rfl⟩
  rw [e2]
  go_wp2_with (fail)
  go_ret
  exact ⟨rfl, rfl⟩

theorem bNext_range (b r : Int) (h0 : 0 ≤ b) (h1 : b ≤ 4294967295) : 0 ≤ (bNext b r).1 ∧ (bNext b r).1 ≤ 4294967295 := by
  unfold bNext; split
  · simp
  · split
    · simp
    · simp; omega

theorem ballots_walk (b r q : Int) (w : World) (h0 : 0 ≤ b) (h1 : b ≤ 4294967295) (h2 : -9223372036854775808 ≤ r) (h3 : r ≤ 9223372036854775807) (h4 : -9223372036854775808 ≤ q) (h5 : q ≤ 9223372036854775807) :
    Calls Try.prog 4 #[.int .u32 b, .int .i64 r, .int .i64 q] w fun e w' => e = .returned (.bool true) ∧ Below w.heap.size w w' := by
  have hn := bNext_range b r h0 h1
  have hm := bNext_range b q h0 h1
  by_cases hr : r < 0 ∨ 6 < r ∨ 16777215 ≤ b / 8
  · -- refused
    obtain ⟨er, hne, e⟩ : ∃ er : Int, er ≠ 0 ∧ bNext b r = (0, er) := by
      unfold bNext
      split
      · exact ⟨12, by omega, rfl⟩
      · rw [if_pos (by omega)]; exact ⟨60, by omega, rfl⟩
    have hne0 : (er == 0) = false := by simp [hne]
    clear hr hne
    go_enter Try.func4, Try.ntmps4
    go_wp2_with (first
      | (go_at_call 18; refine (anchor06 _).mono ?_; rintro e w1 ⟨rfl, rfl⟩)
      | (go_at_call 19; refine (ballotRight_any _ _ (by omega) (by omega)).mono ?_; rintro e w2 ⟨rfl, rfl⟩)
      | (go_at_call 20; refine (refBallot_any _ _ (by omega) (by omega)).mono ?_; rintro e w2 ⟨rfl, rfl⟩)
      | (go_at_call 21; refine (round_any _ _ (by omega) (by omega)).mono ?_; rintro e w2 ⟨rfl, rfl⟩)
      | (go_at_call 22; refine (replica_any _ _ (by omega) (by omega)).mono ?_; rintro e w2 ⟨rfl, rfl⟩)
      | (go_at_call 23; refine (next_any _ _ _ (by omega) (by omega) (by omega) (by omega)).mono ?_; rintro e w2 ⟨rfl, rfl⟩)
      | (go_at_call 24; refine (refNext_any _ _ _ (by omega) (by omega) (by omega) (by omega)).mono ?_; rintro e w2 ⟨rfl, rfl⟩))
    go_ret
    exact ⟨rfl, Below.refl _ _⟩
  · have e : bNext b r = ((b / 8 + 1) * 8 + r, 0) := by unfold bNext; rw [if_neg (by omega), if_neg (by omega)]
    have hr0 : 0 ≤ r := by omega
    have hr6 : r ≤ 6 := by omega
    have hb8 : b / 8 < 16777215 := by omega
    have f1 : bRight ((b / 8 + 1) * 8 + r) = true := bRight_yes (by omega) (by omega) (by omega)
    have f2 : ((b / 8 + 1) * 8 + r) % 8 = r := by omega
    have f3 : b < (b / 8 + 1) * 8 + r := by omega
    clear hr hn
    by_cases hq : q < 0 ∨ 6 < q
    · have eq : bNext b q = (0, 12) := by unfold bNext; rw [if_pos hq]
      clear hq
      go_enter Try.func4, Try.ntmps4
      go_wp2_with (first
        | (go_at_call 18; refine (anchor06 _).mono ?_; rintro e w1 ⟨rfl, rfl⟩)
        | (go_at_call 19; refine (ballotRight_any _ _ (by omega) (by omega)).mono ?_; rintro e w2 ⟨rfl, rfl⟩)
        | (go_at_call 20; refine (refBallot_any _ _ (by omega) (by omega)).mono ?_; rintro e w2 ⟨rfl, rfl⟩)
        | (go_at_call 21; refine (round_any _ _ (by omega) (by omega)).mono ?_; rintro e w2 ⟨rfl, rfl⟩)
        | (go_at_call 22; refine (replica_any _ _ (by omega) (by omega)).mono ?_; rintro e w2 ⟨rfl, rfl⟩)
        | (go_at_call 23; refine (next_any _ _ _ (by omega) (by omega) (by omega) (by omega)).mono ?_; rintro e w2 ⟨rfl, rfl⟩)
        | (go_at_call 24; refine (refNext_any _ _ _ (by omega) (by omega) (by omega) (by omega)).mono ?_; rintro e w2 ⟨rfl, rfl⟩))
      go_ret
      exact ⟨rfl, Below.refl _ _⟩
    · have eq : bNext b q = ((b / 8 + 1) * 8 + q, 0) := by unfold bNext; rw [if_neg hq, if_neg (by omega)]
      have hq0 : 0 ≤ q := by omega
      have hq6 : q ≤ 6 := by omega
      clear hq
      by_cases hqr : q = r
      · subst hqr
        clear eq
        go_enter Try.func4, Try.ntmps4
        go_wp2_with (first
          | (go_at_call 18; refine (anchor06 _).mono ?_; rintro e w1 ⟨rfl, rfl⟩)
          | (go_at_call 19; refine (ballotRight_any _ _ (by omega) (by omega)).mono ?_; rintro e w2 ⟨rfl, rfl⟩)
          | (go_at_call 20; refine (refBallot_any _ _ (by omega) (by omega)).mono ?_; rintro e w2 ⟨rfl, rfl⟩)
          | (go_at_call 21; refine (round_any _ _ (by omega) (by omega)).mono ?_; rintro e w2 ⟨rfl, rfl⟩)
          | (go_at_call 22; refine (replica_any _ _ (by omega) (by omega)).mono ?_; rintro e w2 ⟨rfl, rfl⟩)
          | (go_at_call 23; refine (next_any _ _ _ (by omega) (by omega) (by omega) (by omega)).mono ?_; rintro e w2 ⟨rfl, rfl⟩)
          | (go_at_call 24; refine (refNext_any _ _ _ (by omega) (by omega) (by omega) (by omega)).mono ?_; rintro e w2 ⟨rfl, rfl⟩))
        go_ret
        exact ⟨rfl, Below.refl _ _⟩
      · have g1 : (q == r) = false := by simp [hqr]
        have g2 : ((b / 8 + 1) * 8 + q == (b / 8 + 1) * 8 + r) = false := by simp; omega
        clear hqr
        go_enter Try.func4, Try.ntmps4
        go_wp2_with (first
          | (go_at_call 18; refine (anchor06 _).mono ?_; rintro e w1 ⟨rfl, rfl⟩)
          | (go_at_call 19; refine (ballotRight_any _ _ (by omega) (by omega)).mono ?_; rintro e w2 ⟨rfl, rfl⟩)
          | (go_at_call 20; refine (refBallot_any _ _ (by omega) (by omega)).mono ?_; rintro e w2 ⟨rfl, rfl⟩)
          | (go_at_call 21; refine (round_any _ _ (by omega) (by omega)).mono ?_; rintro e w2 ⟨rfl, rfl⟩)
          | (go_at_call 22; refine (replica_any _ _ (by omega) (by omega)).mono ?_; rintro e w2 ⟨rfl, rfl⟩)
          | (go_at_call 23; refine (next_any _ _ _ (by omega) (by omega) (by omega) (by omega)).mono ?_; rintro e w2 ⟨rfl, rfl⟩)
          | (go_at_call 24; refine (refNext_any _ _ _ (by omega) (by omega) (by omega) (by omega)).mono ?_; rintro e w2 ⟨rfl, rfl⟩))
        go_ret
        exact ⟨rfl, Below.refl _ _⟩
end Go.Proofs.Ytnhfjdbnkpbbkaa
