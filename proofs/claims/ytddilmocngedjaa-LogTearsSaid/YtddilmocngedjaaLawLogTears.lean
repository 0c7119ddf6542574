/- LogTears: whatever the arguments, the law returns true, and all that was there is as it was. No condition. -/
import Derived.Test.YtddilmocngedjaaFrame
import Derived.Test.YtddilmocngedjaaLaxOpen
import Derived.Test.YtddilmocngedjaaLaxLogT
namespace Go.Proofs.Ytddilmocngedjaa
open Go.ChangeShapes Go.WideShapes Go.ChangeAt Go.RowKit
open Go.ChangeMaps (open_string shut_string)
set_option linter.unusedVariables false

set_option maxRecDepth 100000 in
theorem logTears_lift (os : Os) (started : os.Started) (H : Type) (enc : TypeId × Value → H) :
    ReturnsInHanded {} Try.checked os 8 .any (Rows.logTearsSpec.pre6 enc Try.checked.prog Try.f8 [] false) (Rows.logTearsSpec.post enc Try.checked.prog Try.f8 false true false false) := by
  refine law_lift [56, 3] os started H enc (by kernel_rfl) Try.func8 (by kernel_rfl) (by kernel_rfl) rfl (by kernel_rfl) ?_
    (ChangeSpec.witness6 (enc := enc) (C := Try.checked) false ⟨#[], #[.slice none 0 0, .int .i64 0], []⟩ 12 (by kernel_rfl) (by kernel_rfl) (by kernel_rfl) (by kernel_rfl)) ?_
  · intro ds h
    match ds, h with
    | [d0, d1], _ => rfl
  intro W base args ds p g0
  obtain ⟨v0, _, d0, _, p0, _, rfl, hv0, ht0, hr0, g1⟩ := g0.next
  obtain ⟨c0, h0, r0⟩ := open_one (B := 9223372036854775807) (ty := .sl [.sl [.int .u8]]) (d := 9) (by kernel_rfl) (by kernel_rfl) (.inl (Nat.le_refl _)) hv0 ht0
  obtain ⟨x0, rfl, k0⟩ := h0.inv_sl
  obtain ⟨v1, _, d1, _, p1, _, rfl, hv1, ht1, hr1, g2⟩ := g1.next
  obtain ⟨c1, h1, r1⟩ := open_one (B := 9223372036854775807) (ty := .int .i64) (d := 9) (by kernel_rfl) (by kernel_rfl) (.inl (Nat.le_refl _)) hv1 ht1
  obtain ⟨x1, rfl, k1⟩ := h1.inv_int
  obtain rfl := g2.done
  refine law_of_meets meetsLawTears (l := [.sl x0 .no, .int .i64 x1]) rfl (recs_of h0) rfl ?_
  intro i v hv
  match i, hv with
  | 0, hv =>
    obtain rfl : AV.sl x0 .no = v := by simpa using hv
    exact ⟨_, rfl, r0 _⟩
  | 1, hv =>
    obtain rfl : AV.int .i64 x1 = v := by simpa using hv
    exact ⟨_, rfl, r1 _⟩
  | i + 2, hv => simp at hv

/-- The statement. -/
theorem logTears_holds : Rows.LogTearsSaid :=
  OpenClaim.holds_of_wide 8 Try.f8 rfl rfl rfl rfl rfl rfl rfl ⟨rfl, rfl, rfl, rfl, rfl⟩ rfl rfl rfl rfl rfl (by kernel_rfl) Try.func8 (by kernel_rfl)
    (of_decide_eq_true (by kernel_rfl)) (by unfold Func.isWrapper; first | (rw [if_pos (by decide +kernel)]; kernel_rfl) | (rw [if_neg (by decide +kernel)]; exact ⟨rfl, rfl⟩))
    (fun os started H enc _ => logTears_lift os started H enc)
#print axioms logTears_holds
end Go.Proofs.Ytddilmocngedjaa
