/- The reference's ReadShort and Same, by content. -/
import Derived.Test.YtddilmocngedjaaLaxNum1
import Derived.Test.YtddilmocngedjaaReadR
namespace Go.Proofs.Ytddilmocngedjaa
set_option linter.unusedVariables false
set_option linter.unusedSimpArgs false
open Go.RowKit

def sameDF : Con
  | [.val (.sl xs .no), .val (.sl ys .no)] => some ((isBytes xs ∧ xs.length ≤ 9223372036854775807) ∧ isBytes ys ∧ ys.length ≤ 9223372036854775807, ⟨.bool (decide (bytesL xs = bytesL ys)), none, none⟩)
  | _ => none
theorem meetsSameD : Meets Try.prog 19 sameDF := by
  refine meets_plain Try.call19 ?_
  intro args q r hF hq
  unfold sameDF at hF
  split at hF
  · rename_i xs ys
    cases hF
    obtain ⟨⟨hx, hxl⟩, hy, hyl⟩ := hq
    obtain ⟨l, rfl⟩ := hx.get
    obtain ⟨m, rfl⟩ := hy.get
    rw [length_bytesAV] at hxl hyl
    rw [bytesL_bytesAV, bytesL_bytesAV]
    refine ⟨[.sl (bytesAV l) .no, .sl (bytesAV m) .no], rfl, rfl, fun x hx => (by simp at hx; rcases hx with rfl | rfl <;> rfl), rfl, rfl, rfl, ?_⟩
    intro us w S hs h
    obtain ⟨u, u', rfl, hu, hu'⟩ := two_args hs h
    obtain ⟨A, c, rfl, h1, h2, h3⟩ := repV_bytes hu
    obtain ⟨A', c', rfl, h1', h2', h3'⟩ := repV_bytes hu'
    refine (same_any l m A A' c c' _ _ w h3 h3' (by omega) (by omega)).mono ?_
    rintro e w' ⟨rfl, n, rfl⟩
    exact ⟨_, rfl, ⟨rfl, rfl, rfl, Nat.le_refl _, fun _ _ => rfl⟩, (RepP.bool _ : RepP _ _ _ _)⟩
  · cases hF
end Go.Proofs.Ytddilmocngedjaa
