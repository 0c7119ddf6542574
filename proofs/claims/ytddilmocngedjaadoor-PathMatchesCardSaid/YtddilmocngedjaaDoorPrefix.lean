/- strings.HasPrefix, by content. -/
import Derived.Test.YtddilmocngedjaaDoorPthM
namespace Go.Proofs.YtddilmocngedjaaDoor
set_option linter.unusedVariables false
set_option linter.unusedSimpArgs false
open Go.RowKit
def hasPrefixF : Con
  | [.val (.str s), .val (.str p)] => some (True, ⟨.bool (p.isPrefixOf s), none, none⟩)
  | _ => none
theorem meetsHasPrefix : Meets Tryd.prog 88 hasPrefixF := by
  refine meets_plain Tryd.call88 ?_
  intro args q r hF hq
  unfold hasPrefixF at hF
  split at hF
  · rename_i s p
    cases hF
    refine ⟨[.str s, .str p], rfl, rfl, fun x hx => (by simp at hx; rcases hx with rfl | rfl <;> rfl), rfl, rfl, rfl, ?_⟩
    intro us w S hs h
    obtain ⟨u, u', rfl, hu, hu'⟩ := two_args hs h
    obtain ⟨rfl, _⟩ := repV_str hu
    obtain ⟨rfl, _⟩ := repV_str hu'
    refine (Tryd.strings_HasPrefix (strB s) (strB p) w).mono ?_
    rintro e w' ⟨rfl, rfl⟩
    rw [strB_data, strB_data]
    exact ⟨_, rfl, Below.refl _ _, (RepP.bool _ : RepP _ _ _ _)⟩
  · cases hF
end Go.Proofs.YtddilmocngedjaaDoor
