/- The tail, by content. -/
import Derived.Test.YtpomloangafbkaaGreatDoorLaxSumM
import Derived.Test.YtpomloangafbkaaGreatDoorRev
namespace Go.Proofs.YtpomloangafbkaaGreatDoor
set_option linter.unusedVariables false
set_option linter.unusedSimpArgs false
open Go.RowKit

def tailF : Con
  | [.val (.int .u32 v)] => some (True, ⟨.sl (bytesAV (tailL v)) (.row 0 0 5), none, none⟩)
  | _ => none
theorem repV_u32 {w : World} {S : Nat → Nat → Prop} {n : Int} {u : Value} (h : RepV w S (.int .u32 n) u) : u = .int .u32 n ∧ 0 ≤ n ∧ n ≤ 4294967295 := by
  have h' : RepP w S (.int .u32 n) u := h
  have m0 : IntKind.u32.min = 0 := by decide
  have m1 : IntKind.u32.max = 4294967295 := by decide
  cases h' with
  | int k n h1 h2 => exact ⟨rfl, by omega, by omega⟩
theorem meetsTail : Meets Tryz.prog 110 tailF := by
  refine meets_row Tryz.call110 ?_
  intro args q r hF hq
  unfold tailF at hF
  split at hF
  · rename_i v
    cases hF
    refine ⟨[.int .u32 v], _, _, rfl, rfl, fun x hx => (by simp at hx; subst hx; rfl), rfl, by rw [ts_u8]; omega, flat_bytes _, ?_⟩
    intro us w S hs h
    obtain ⟨u, rfl, hu⟩ := one_arg hs h
    obtain ⟨rfl, h0, h1⟩ := repV_u32 hu
    refine (tail_any v h0 h1 w).mono ?_
    rintro e w' ⟨x, rfl, ho, hb⟩
    exact row_bytes ho hb
  · cases hF
end Go.Proofs.YtpomloangafbkaaGreatDoor
