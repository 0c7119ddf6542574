/- ClashLists: whatever the arguments, the law returns true, and all that was there is as it was. No condition. -/
import Derived.Test.YtddilmocngedjaaDoorFrameLaid
import Derived.Test.YtddilmocngedjaaDoorLaxOpen
import Derived.Test.YtddilmocngedjaaDoorLaxPkClashL
import Derived.Test.YtddilmocngedjaaDoorClashTy
namespace Go.Proofs.YtddilmocngedjaaDoor
open Go.ChangeShapes Go.WideShapes Go.ChangeAt Go.RowKit
open Go.ChangeMaps (open_string shut_string)
set_option linter.unusedVariables false

set_option maxRecDepth 100000 in
theorem clashLists_lift (os : Os) (started : os.Started) (H : Type) (enc : TypeId × Value → H) :
    ReturnsInHanded {} Tryd.checked os 3 .any (fun w args => (Rows.clashListsSpec.pre enc Tryd.checked.prog Tryd.f3 [] false w args ∧ laidMetH Tryd.prog laidTables w) ∧ sizedMet enc Tryd.checked.prog Tryd.f3 (OpenSpec.ofChange Rows.clashListsSpec) false w args) (Rows.clashListsSpec.post enc Tryd.checked.prog Tryd.f3 false true false false) := by
  refine law_lift_and (X := fun w _ => laidMetH Tryd.prog laidTables w) (fun _ _ _ hh h => h.of_heap hh) [22, 27, 28] os started H enc (by kernel_rfl) Tryd.func3 (by kernel_rfl) (by kernel_rfl) rfl (by kernel_rfl) ?_
    (ChangeSpec.witness_shaped (enc := enc) (C := Tryd.checked) (os := os) (X := fun w _ => laidMetH Tryd.prog laidTables w) false (World.laidAll Tryd.prog os laidTables) #[.slice none 0 0, .agg #[.int .i64 0, .int .u64 0, .string ByteArray.empty, .int .u64 0, .string ByteArray.empty, .int .i64 0, .int .u64 0, .int .i64 0], .slice none 0 0] 12 (World.laidAll_os _ _ _) (World.shaped_of_ZipB (by kernel_rfl) (by kernel_rfl)) (by kernel_rfl) (by kernel_rfl) (by kernel_rfl) (laid_world os _)) ?_
  · intro ds h
    match ds, h with
    | [d0, d1, d2], _ => rfl
  intro W base args ds p g0
  obtain ⟨v0, _, d0, _, p0, _, rfl, hv0, ht0, hr0, g1⟩ := g0.next
  obtain ⟨c0, h0, r0⟩ := open_one (B := 9223372036854775807) (ty := .sl [.int .i64, .int .u64, .str, .int .u64, .str, .int .i64, .int .u64, .int .i64]) (d := 9) (by kernel_rfl) (by kernel_rfl) (.inl (Nat.le_refl _)) hv0 ht0
  obtain ⟨x0, rfl, k0⟩ := h0.inv_sl
  obtain ⟨v1, _, d1, _, p1, _, rfl, hv1, ht1, hr1, g2⟩ := g1.next
  obtain ⟨z1_0, e1_0, r1⟩ := open_agg (B := 9223372036854775807) (l := [.int .i64, .int .u64, .str, .int .u64, .str, .int .i64, .int .u64, .int .i64]) (d := 9) (by kernel_rfl) (by kernel_rfl) (.inl (Nat.le_refl _)) hv1 ht1
  obtain ⟨c1_0, z1_1, rfl, h1_0, e1_1⟩ := e1_0.cons
  obtain ⟨x1_0, rfl, k1_0⟩ := h1_0.inv_int
  obtain ⟨c1_1, z1_2, rfl, h1_1, e1_2⟩ := e1_1.cons
  obtain ⟨x1_1, rfl, k1_1⟩ := h1_1.inv_int
  obtain ⟨c1_2, z1_3, rfl, h1_2, e1_3⟩ := e1_2.cons
  obtain ⟨x1_2, rfl, k1_2⟩ := h1_2.inv_str
  obtain ⟨c1_3, z1_4, rfl, h1_3, e1_4⟩ := e1_3.cons
  obtain ⟨x1_3, rfl, k1_3⟩ := h1_3.inv_int
  obtain ⟨c1_4, z1_5, rfl, h1_4, e1_5⟩ := e1_4.cons
  obtain ⟨x1_4, rfl, k1_4⟩ := h1_4.inv_str
  obtain ⟨c1_5, z1_6, rfl, h1_5, e1_6⟩ := e1_5.cons
  obtain ⟨x1_5, rfl, k1_5⟩ := h1_5.inv_int
  obtain ⟨c1_6, z1_7, rfl, h1_6, e1_7⟩ := e1_6.cons
  obtain ⟨x1_6, rfl, k1_6⟩ := h1_6.inv_int
  obtain ⟨c1_7, z1_8, rfl, h1_7, e1_8⟩ := e1_7.cons
  obtain ⟨x1_7, rfl, k1_7⟩ := h1_7.inv_int
  obtain rfl := e1_8.done
  obtain ⟨v2, _, d2, _, p2, _, rfl, hv2, ht2, hr2, g3⟩ := g2.next
  obtain ⟨c2, h2, r2⟩ := open_one (B := 9223372036854775807) (ty := .sl [.bool]) (d := 9) (by kernel_rfl) (by kernel_rfl) (.inl (Nat.le_refl _)) hv2 ht2
  obtain ⟨x2, rfl, k2⟩ := h2.inv_sl
  obtain rfl := g3.done
  refine law_of_meets meetsLawLists (l := [.sl x0 .no, .agg [.int .i64 x1_0, .int .u64 x1_1, .str x1_2, .int .u64 x1_3, .str x1_4, .int .i64 x1_5, .int .u64 x1_6, .int .i64 x1_7], .sl x2 .no]) rfl (⟨isCmds_of h0, isBools_of h2, k1_2, k1_4⟩) rfl ?_
  intro i v hv
  match i, hv with
  | 0, hv =>
    obtain rfl : AV.sl x0 .no = v := by simpa using hv
    exact ⟨_, rfl, r0 _⟩
  | 1, hv =>
    obtain rfl : AV.agg [.int .i64 x1_0, .int .u64 x1_1, .str x1_2, .int .u64 x1_3, .str x1_4, .int .i64 x1_5, .int .u64 x1_6, .int .i64 x1_7] = v := by simpa using hv
    exact ⟨_, rfl, r1 _⟩
  | 2, hv =>
    obtain rfl : AV.sl x2 .no = v := by simpa using hv
    exact ⟨_, rfl, r2 _⟩
  | i + 3, hv => simp at hv

/-- The statement. -/
theorem clashLists_holds : Rows.ClashListsSaid :=
  OpenClaim.holds_of_wide 3 Tryd.f3 rfl rfl rfl rfl rfl rfl rfl ⟨rfl, rfl, rfl, rfl, rfl⟩ rfl rfl rfl rfl rfl (by kernel_rfl) Tryd.func3 (by kernel_rfl)
    (of_decide_eq_true (by kernel_rfl)) (by unfold Func.isWrapper; first | (rw [if_pos (by decide +kernel)]; kernel_rfl) | (rw [if_neg (by decide +kernel)]; exact ⟨rfl, rfl⟩))
    (fun os started H enc _ => clashLists_lift os started H enc)
#print axioms clashLists_holds

/-- The tied card: the row, with what it lists tied to the program's text. -/
theorem clashLists_card : Rows.ClashListsCardSaid :=
  Claim7.holds_tied_plain_at .later [] [.data, .pinned] true (true, "3d476f1da6a3a3da8d7485f981c318f3850d534b83cff7a54aaa1b11c3521bcf") false clashLists_holds (fun _ h => by cases h) (by kernel_rfl) (fun _ h => by cases h) clashLists_row_tie rfl ⟨rfl, rfl⟩ (by kernel_rfl) rfl
    (fun f fn hf hfn => by
      obtain rfl : f = 3 := Option.some.inj ((show Tryd.prog.funcNamed "moothill/moothilllaw08.ClashLists" = some 3 by kernel_rfl).symm.trans hf) |>.symm
      obtain rfl : fn = Tryd.f3 := (Option.some.inj (Tryd.func3.symm.trans hfn)).symm
      exact ⟨by kernel_rfl, fun j t ht => by
        have hm : t ∈ [22, 27, 28] := by simpa using Array.mem_of_getElem? ht
        have hall : ([22, 27, 28].all fun u => !Tryd.prog.wantsStandIn u) = true := by kernel_rfl
        exact (show Tryd.prog.wantsStandIn t = false by simpa using List.all_eq_true.1 hall t hm)⟩)
    (by kernel_rfl)
#print axioms clashLists_card
end Go.Proofs.YtddilmocngedjaaDoor
