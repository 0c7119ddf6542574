/- PathMatches: whatever the arguments, the law returns true, and all that was there is as it was. No condition. -/
import Derived.Test.YtddilmocngedjaaDoorFrameLaid
import Derived.Test.YtddilmocngedjaaDoorLaxOpen
import Derived.Test.YtddilmocngedjaaDoorLaxPkMt
namespace Go.Proofs.YtddilmocngedjaaDoor
open Go.ChangeShapes Go.WideShapes Go.ChangeAt Go.RowKit
open Go.ChangeMaps (open_string shut_string)
set_option linter.unusedVariables false

set_option maxRecDepth 100000 in
theorem pathMatches_lift (os : Os) (started : os.Started) (H : Type) (enc : TypeId × Value → H) :
    ReturnsInHanded {} Tryd.checked os 4 .any (fun w args => (Rows.pathMatchesSpec.pre enc Tryd.checked.prog Tryd.f4 [] false w args ∧ laidMetH Tryd.prog laidTables w) ∧ sizedMet enc Tryd.checked.prog Tryd.f4 (OpenSpec.ofChange Rows.pathMatchesSpec) false w args) (Rows.pathMatchesSpec.post enc Tryd.checked.prog Tryd.f4 false true false false) := by
  refine law_lift_and (X := fun w _ => laidMetH Tryd.prog laidTables w) (fun _ _ _ hh h => h.of_heap hh) [9, 9] os started H enc (by kernel_rfl) Tryd.func4 (by kernel_rfl) (by kernel_rfl) rfl (by kernel_rfl) ?_
    (ChangeSpec.witness_shaped (enc := enc) (C := Tryd.checked) (os := os) (X := fun w _ => laidMetH Tryd.prog laidTables w) false (World.laidAll Tryd.prog os laidTables) #[.string ByteArray.empty, .string ByteArray.empty] 12 (World.laidAll_os _ _ _) (World.shaped_of_ZipB (by kernel_rfl) (by kernel_rfl)) (by kernel_rfl) (by kernel_rfl) (by kernel_rfl) (laid_world os _)) ?_
  · intro ds h
    match ds, h with
    | [d0, d1], _ => rfl
  intro W base args ds p g0
  obtain ⟨v0, _, d0, _, p0, _, rfl, hv0, ht0, hr0, g1⟩ := g0.next
  obtain ⟨c0, h0, r0⟩ := open_one (B := 9223372036854775807) (ty := .str) (d := 9) (by kernel_rfl) (by kernel_rfl) (.inl (Nat.le_refl _)) hv0 ht0
  obtain ⟨x0, rfl, k0⟩ := h0.inv_str
  obtain ⟨v1, _, d1, _, p1, _, rfl, hv1, ht1, hr1, g2⟩ := g1.next
  obtain ⟨c1, h1, r1⟩ := open_one (B := 9223372036854775807) (ty := .str) (d := 9) (by kernel_rfl) (by kernel_rfl) (.inl (Nat.le_refl _)) hv1 ht1
  obtain ⟨x1, rfl, k1⟩ := h1.inv_str
  obtain rfl := g2.done
  refine law_of_meets meetsLawMatches (l := [.str x0, .str x1]) rfl (⟨k0, k1⟩) rfl ?_
  intro i v hv
  match i, hv with
  | 0, hv =>
    obtain rfl : AV.str x0 = v := by simpa using hv
    exact ⟨_, rfl, r0 _⟩
  | 1, hv =>
    obtain rfl : AV.str x1 = v := by simpa using hv
    exact ⟨_, rfl, r1 _⟩
  | i + 2, hv => simp at hv

/-- The statement. -/
theorem pathMatches_holds : Rows.PathMatchesSaid :=
  OpenClaim.holds_of_wide 4 Tryd.f4 rfl rfl rfl rfl rfl rfl rfl ⟨rfl, rfl, rfl, rfl, rfl⟩ rfl rfl rfl rfl rfl (by kernel_rfl) Tryd.func4 (by kernel_rfl)
    (of_decide_eq_true (by kernel_rfl)) (by unfold Func.isWrapper; first | (rw [if_pos (by decide +kernel)]; kernel_rfl) | (rw [if_neg (by decide +kernel)]; exact ⟨rfl, rfl⟩))
    (fun os started H enc _ => pathMatches_lift os started H enc)
#print axioms pathMatches_holds

/-- The tied card: the row, with what it lists tied to the program's text. -/
theorem pathMatches_card : Rows.PathMatchesCardSaid :=
  Claim7.holds_tied_plain_at .later [] [.data, .pinned] true (true, "3d476f1da6a3a3da8d7485f981c318f3850d534b83cff7a54aaa1b11c3521bcf") false pathMatches_holds (fun _ h => by cases h) (by kernel_rfl) (fun _ h => by cases h) pathMatches_row_tie rfl ⟨rfl, rfl⟩ (by kernel_rfl) rfl
    (fun f fn hf hfn => by
      obtain rfl : f = 4 := Option.some.inj ((show Tryd.prog.funcNamed "moothill/moothilllaw04.PathMatches" = some 4 by kernel_rfl).symm.trans hf) |>.symm
      obtain rfl : fn = Tryd.f4 := (Option.some.inj (Tryd.func4.symm.trans hfn)).symm
      exact ⟨by kernel_rfl, fun j t ht => by
        have hm : t ∈ [9, 9] := by simpa using Array.mem_of_getElem? ht
        have hall : ([9, 9].all fun u => !Tryd.prog.wantsStandIn u) = true := by kernel_rfl
        exact (show Tryd.prog.wantsStandIn t = false by simpa using List.all_eq_true.1 hall t hm)⟩)
    (by kernel_rfl)
#print axioms pathMatches_card
end Go.Proofs.YtddilmocngedjaaDoor
