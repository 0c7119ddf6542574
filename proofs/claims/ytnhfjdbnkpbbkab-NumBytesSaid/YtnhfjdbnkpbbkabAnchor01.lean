/- The anchor of layer 1. -/
import Derived.Test.YtnhfjdbnkpbbkabZig
import Derived.Test.YtnhfjdbnkpbbkabShort
namespace Go.Proofs.Ytnhfjdbnkpbbkab
set_option linter.unusedVariables false
open Go.RowKit

theorem anchor01 (w : World) : Calls Try.prog 17 #[] w fun e w' => e = .returned (.bool true) ∧ Below w.heap.size w w' := by
  go_enter Try.func17, Try.ntmps17
  go_wp2_with (fail)
  refine (short_any 300 _ (by omega) (by omega)).mono ?_
  rintro e w' ⟨x, rfl, hown, hb⟩
  have hs : short (300 : Int).toNat = [172, 2] := by
    show short 300 = _
    rw [short_big 300 (by omega), short_small _ (by omega)]; rfl
  rw [hs] at hown
  obtain ⟨A, c, rfl, hr, hlc, hc⟩ := hown.form
  obtain ⟨b, off, rfl, hlt, hc⟩ := hr.open_ (by simp)
  have c0 : w'.cell? ⟨b, off, none⟩ = some (.int .u8 172) := by simpa [bv] using hc 0 (by simp)
  have c1 : w'.cell? ⟨b, off + 1, none⟩ = some (.int .u8 2) := by simpa [bv] using hc 1 (by simp)
  have z1 : zig (-1) = 1 := rfl
  clear hr hown hs hc
  go_wp2_with (go_at_call 34; refine (zig_any _ _ (by omega) (by omega)).mono ?_; rintro e w1 ⟨rfl, rfl⟩)
  go_ret
  exact ⟨rfl, hb⟩

end Go.Proofs.Ytnhfjdbnkpbbkab
