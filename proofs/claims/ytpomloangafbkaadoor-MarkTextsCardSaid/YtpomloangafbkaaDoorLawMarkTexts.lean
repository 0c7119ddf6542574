/- MarkTexts: whatever the arguments, the law returns true, and all that was there is as it was. No condition. -/
import Derived.Test.YtpomloangafbkaaDoorFrameText
import Derived.Test.YtpomloangafbkaaDoorLaxOpen
import Derived.Test.YtpomloangafbkaaDoorLaxPkMkT
namespace Go.Proofs.YtpomloangafbkaaDoor
open Go.ChangeShapes Go.WideShapes Go.ChangeAt Go.RowKit
open Go.ChangeMaps (open_string shut_string)
set_option linter.unusedVariables false

set_option maxRecDepth 100000 in
theorem markTexts_lift (os : Os) (started : os.Started) (H : Type) (enc : TypeId × Value → H) :
    ReturnsInHanded {} Tryd.checked os 4 .any (fun w args => (Rows.markTextsSpec.pre enc Tryd.checked.prog Tryd.f4 [] false w args ∧ laidMetH Tryd.prog numTables w) ∧ sizedMet enc Tryd.checked.prog Tryd.f4 (OpenSpec.ofChange Rows.markTextsSpec) false w args) (Rows.markTextsSpec.post enc Tryd.checked.prog Tryd.f4 false true false false) := by
  refine law_lift_text (X := fun w _ => laidMetH Tryd.prog numTables w) (fun _ _ _ hh h => h.of_heap hh) [24, 29] os started H enc (by kernel_rfl) Tryd.func4 (by kernel_rfl) (by kernel_rfl) rfl (by kernel_rfl) ?_
    (ChangeSpec.witness_shaped (enc := enc) (C := Tryd.checked) (os := os) (X := fun w _ => laidMetH Tryd.prog numTables w) false (World.laidAll Tryd.prog os numTables) #[.agg #[.int .i64 0, .int .i64 0], .int .u32 0] 12 (World.laidAll_os _ _ _) (World.shaped_of_ZipB (by kernel_rfl) (by kernel_rfl)) (by kernel_rfl) (by kernel_rfl) (by kernel_rfl) (num_world os _)) ?_
  · intro ds h
    match ds, h with
    | [d0, d1], _ => rfl
  intro W base args ds p g0 hsh hxx
  obtain ⟨v0, _, d0, _, p0, _, rfl, hv0, ht0, hr0, g1⟩ := g0.next
  obtain ⟨z0_0, e0_0, r0⟩ := open_agg (B := 9223372036854775807) (l := [.int .i64, .int .i64]) (d := 9) (by kernel_rfl) (by kernel_rfl) (.inl (Nat.le_refl _)) hv0 ht0
  obtain ⟨c0_0, z0_1, rfl, h0_0, e0_1⟩ := e0_0.cons
  obtain ⟨x0_0, rfl, k0_0⟩ := h0_0.inv_int
  obtain ⟨c0_1, z0_2, rfl, h0_1, e0_2⟩ := e0_1.cons
  obtain ⟨x0_1, rfl, k0_1⟩ := h0_1.inv_int
  obtain rfl := e0_2.done
  obtain ⟨v1, _, d1, _, p1, _, rfl, hv1, ht1, hr1, g2⟩ := g1.next
  obtain ⟨c1, h1, r1⟩ := open_one (B := 9223372036854775807) (ty := .int .u32) (d := 9) (by kernel_rfl) (by kernel_rfl) (.inl (Nat.le_refl _)) hv1 ht1
  obtain ⟨x1, rfl, k1⟩ := h1.inv_int
  obtain rfl := g2.done
  refine law_of_meets meetsLawTexts (l := [.agg [.int .i64 x0_0, .int .i64 x0_1], .int .u32 x1]) rfl (trivial) rfl ?_ (tt_num hsh hxx)
  intro i v hv
  match i, hv with
  | 0, hv =>
    obtain rfl : AV.agg [.int .i64 x0_0, .int .i64 x0_1] = v := by simpa using hv
    exact ⟨_, rfl, r0 _⟩
  | 1, hv =>
    obtain rfl : AV.int .u32 x1 = v := by simpa using hv
    exact ⟨_, rfl, r1 _⟩
  | i + 2, hv => simp at hv

/-- The statement. -/
theorem markTexts_holds : Rows.MarkTextsSaid :=
  OpenClaim.holds_of_wide 4 Tryd.f4 rfl rfl rfl rfl rfl rfl rfl ⟨rfl, rfl, rfl, rfl, rfl⟩ rfl rfl rfl rfl rfl (by kernel_rfl) Tryd.func4 (by kernel_rfl)
    (of_decide_eq_true (by kernel_rfl)) (by unfold Func.isWrapper; first | (rw [if_pos (by decide +kernel)]; kernel_rfl) | (rw [if_neg (by decide +kernel)]; exact ⟨rfl, rfl⟩))
    (fun os started H enc _ => markTexts_lift os started H enc)
#print axioms markTexts_holds

/-- The tied card: the row, with what it lists tied to the program's text. -/
theorem markTexts_card : Rows.MarkTextsCardSaid :=
  Claim7.holds_tied_plain_at .later [] [.data, .data, .data, .sentinel, .sentinel] true (true, "c0e00fb800ed77a3f23b0050d0985c5c42da82a514dd9bdc67bfb8d7343b8ef8") true markTexts_holds (fun _ h => by cases h) (by kernel_rfl) (fun _ h => by cases h) markTexts_row_tie rfl ⟨rfl, rfl⟩ (by kernel_rfl) rfl
    (fun f fn hf hfn => by
      obtain rfl : f = 4 := Option.some.inj ((show Tryd.prog.funcNamed "moothill/moothilllaw06.MarkTexts" = some 4 by kernel_rfl).symm.trans hf) |>.symm
      obtain rfl : fn = Tryd.f4 := (Option.some.inj (Tryd.func4.symm.trans hfn)).symm
      exact ⟨by kernel_rfl, fun j t ht => by
        have hm : t ∈ [24, 29] := by simpa using Array.mem_of_getElem? ht
        have hall : ([24, 29].all fun u => !Tryd.prog.wantsStandIn u) = true := by kernel_rfl
        exact (show Tryd.prog.wantsStandIn t = false by simpa using List.all_eq_true.1 hall t hm)⟩)
    (by kernel_rfl)
#print axioms markTexts_card
end Go.Proofs.YtpomloangafbkaaDoor
