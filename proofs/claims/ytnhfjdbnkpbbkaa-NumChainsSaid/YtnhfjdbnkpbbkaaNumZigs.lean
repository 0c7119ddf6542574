/- NumZigs: for every signed and every unsigned number the law returns true. No condition. -/
import Derived.Test.YtnhfjdbnkpbbkaaFrame
import Derived.Test.YtnhfjdbnkpbbkaaZig
import Derived.Test.YtnhfjdbnkpbbkaaShort
namespace Go.Proofs.Ytnhfjdbnkpbbkaa
set_option linter.unusedVariables false
open Go.ChangeShapes Go.WideShapes Go.ChangeAt Go.RowKit

theorem anchor01 (w : World) : Calls Try.prog 15 #[] w fun e w' => e = .returned (.bool true) ∧ Below w.heap.size w w' := by
  go_enter Try.func15, Try.ntmps15
  go_wp2_with (fail)
  refine (short_any 300 _ (by omega) (by omega)).mono ?_
  rintro e w' ⟨x, rfl, hown, hb⟩
  have hs : short (300 : Int).toNat = [172, 2] := by
    show short 300 = _
    rw [short_big 300 (by omega), short_small _ (by omega)]; rfl
  rw [hs] at hown
  obtain ⟨A, c, rfl, hr, hlc, hc⟩ := hown.form
  obtain ⟨b, off, rfl, hlt, hc⟩ := hr.open_ (by simp)
  have c0 : w'.cell? ⟨b, off, none⟩ = some (.int .u8 172) := by simpa [bv] using hc 0 (by simp)
  have c1 : w'.cell? ⟨b, off + 1, none⟩ = some (.int .u8 2) := by simpa [bv] using hc 1 (by simp)
  have z1 : zig (-1) = 1 := rfl
  clear hr hown hs hc
  go_wp2_with (go_at_call 16; refine (zig_any _ _ (by omega) (by omega)).mono ?_; rintro e w1 ⟨rfl, rfl⟩)
  go_ret
  exact ⟨rfl, hb⟩

theorem zigs_walk (i v : Int) (w : World) (h1 : -9223372036854775808 ≤ i) (h2 : i ≤ 9223372036854775807) (h3 : 0 ≤ v) (h4 : v ≤ 18446744073709551615) :
    Calls Try.prog 3 #[.int .i64 i, .int .u64 v] w fun e w' => e = .returned (.bool true) ∧ Below w.heap.size w w' := by
  have hz := zig_range i h1 h2
  have hg := zag_range v h3 h4
  have eg : zig (zag v) = v := zig_zag v h3
  have ez := zag_zig i
  by_cases hi : 0 ≤ i
  · have e1 : zig i = i * 2 := by unfold zig; rw [if_pos hi]; omega
    rw [e1] at ez
    go_enter Try.func3, Try.ntmps3
    go_wp2_with (first
      | (go_at_call 15; refine (anchor01 _).mono ?_; rintro e w1 ⟨rfl, hb⟩)
      | (go_at_call 16; refine (zig_any _ _ (by omega) (by omega)).mono ?_; rintro e w2 ⟨rfl, rfl⟩)
      | (go_at_call 17; refine (zag_any _ _ (by omega) (by omega)).mono ?_; rintro e w2 ⟨rfl, rfl⟩))
    go_ret
    exact ⟨rfl, hb⟩
  · have e1 : zig i = -(i+1) * 2 + 1 := by unfold zig; rw [if_neg hi]; omega
    rw [e1] at ez
    go_enter Try.func3, Try.ntmps3
    go_wp2_with (first
      | (go_at_call 15; refine (anchor01 _).mono ?_; rintro e w1 ⟨rfl, hb⟩)
      | (go_at_call 16; refine (zig_any _ _ (by omega) (by omega)).mono ?_; rintro e w2 ⟨rfl, rfl⟩)
      | (go_at_call 17; refine (zag_any _ _ (by omega) (by omega)).mono ?_; rintro e w2 ⟨rfl, rfl⟩))
    go_ret
    exact ⟨rfl, hb⟩
end Go.Proofs.Ytnhfjdbnkpbbkaa
