/- VoteOnce: whatever the arguments, the law returns true, and all that was there is as it was. No condition. -/
import Derived.Test.YtddilmocngedjaaDoorFrameLaid
import Derived.Test.YtddilmocngedjaaDoorLaxOpen
import Derived.Test.YtddilmocngedjaaDoorVoteTy
namespace Go.Proofs.YtddilmocngedjaaDoor
open Go.ChangeShapes Go.WideShapes Go.ChangeAt Go.RowKit
open Go.ChangeMaps (open_string shut_string)
set_option linter.unusedVariables false

set_option maxRecDepth 100000 in
theorem voteOnce_lift (os : Os) (started : os.Started) (H : Type) (enc : TypeId × Value → H) :
    ReturnsInHanded {} Tryd.checked os 5 .any (fun w args => (Rows.voteOnceSpec.pre enc Tryd.checked.prog Tryd.f5 [] false w args ∧ laidMetH Tryd.prog laidTables w) ∧ sizedMet enc Tryd.checked.prog Tryd.f5 (OpenSpec.ofChange Rows.voteOnceSpec) false w args) (Rows.voteOnceSpec.post enc Tryd.checked.prog Tryd.f5 false true false false) := by
  refine law_lift_and (X := fun w _ => laidMetH Tryd.prog laidTables w) (fun _ _ _ hh h => h.of_heap hh) [53, 54, 55, 48] os started H enc (by kernel_rfl) Tryd.func5 (by kernel_rfl) (by kernel_rfl) rfl (by kernel_rfl) ?_
    (ChangeSpec.witness_shaped (enc := enc) (C := Tryd.checked) (os := os) (X := fun w _ => laidMetH Tryd.prog laidTables w) false (World.laidAll Tryd.prog os laidTables) #[.agg #[.int .i64 0, .int .i64 0, .int .i64 0, .int .u32 0, .int .u32 0, .bool false, .int .i64 0, .int .u64 0, .string ByteArray.empty, .int .u64 0, .string ByteArray.empty, .int .i64 0, .int .u64 0, .int .i64 0, .int .i64 0, .int .i64 0, .int .i64 0, .int .i64 0, .int .i64 0, .int .i64 0, .int .i64 0, .int .i64 0], .slice none 0 0, .slice none 0 0, .int .u32 0] 12 (World.laidAll_os _ _ _) (World.shaped_of_ZipB (by kernel_rfl) (by kernel_rfl)) (by kernel_rfl) (by kernel_rfl) (by kernel_rfl) (laid_world os _)) ?_
  · intro ds h
    match ds, h with
    | [d0, d1, d2, d3], _ => rfl
  intro W base args ds p g0
  obtain ⟨v0, _, d0, _, p0, _, rfl, hv0, ht0, hr0, g1⟩ := g0.next
  obtain ⟨z0_0, e0_0, r0⟩ := open_agg (B := 9223372036854775807) (l := [.int .i64, .int .i64, .int .i64, .int .u32, .int .u32, .bool, .int .i64, .int .u64, .str, .int .u64, .str, .int .i64, .int .u64, .int .i64, .int .i64, .int .i64, .int .i64, .int .i64, .int .i64, .int .i64, .int .i64, .int .i64]) (d := 9) (by kernel_rfl) (by kernel_rfl) (.inl (Nat.le_refl _)) hv0 ht0
  obtain ⟨c0_0, z0_1, rfl, h0_0, e0_1⟩ := e0_0.cons
  obtain ⟨x0_0, rfl, k0_0⟩ := h0_0.inv_int
  obtain ⟨c0_1, z0_2, rfl, h0_1, e0_2⟩ := e0_1.cons
  obtain ⟨x0_1, rfl, k0_1⟩ := h0_1.inv_int
  obtain ⟨c0_2, z0_3, rfl, h0_2, e0_3⟩ := e0_2.cons
  obtain ⟨x0_2, rfl, k0_2⟩ := h0_2.inv_int
  obtain ⟨c0_3, z0_4, rfl, h0_3, e0_4⟩ := e0_3.cons
  obtain ⟨x0_3, rfl, k0_3⟩ := h0_3.inv_int
  obtain ⟨c0_4, z0_5, rfl, h0_4, e0_5⟩ := e0_4.cons
  obtain ⟨x0_4, rfl, k0_4⟩ := h0_4.inv_int
  obtain ⟨c0_5, z0_6, rfl, h0_5, e0_6⟩ := e0_5.cons
  obtain ⟨x0_5, rfl⟩ := h0_5.inv_bool
  obtain ⟨c0_6, z0_7, rfl, h0_6, e0_7⟩ := e0_6.cons
  obtain ⟨x0_6, rfl, k0_6⟩ := h0_6.inv_int
  obtain ⟨c0_7, z0_8, rfl, h0_7, e0_8⟩ := e0_7.cons
  obtain ⟨x0_7, rfl, k0_7⟩ := h0_7.inv_int
  obtain ⟨c0_8, z0_9, rfl, h0_8, e0_9⟩ := e0_8.cons
  obtain ⟨x0_8, rfl, k0_8⟩ := h0_8.inv_str
  obtain ⟨c0_9, z0_10, rfl, h0_9, e0_10⟩ := e0_9.cons
  obtain ⟨x0_9, rfl, k0_9⟩ := h0_9.inv_int
  obtain ⟨c0_10, z0_11, rfl, h0_10, e0_11⟩ := e0_10.cons
  obtain ⟨x0_10, rfl, k0_10⟩ := h0_10.inv_str
  obtain ⟨c0_11, z0_12, rfl, h0_11, e0_12⟩ := e0_11.cons
  obtain ⟨x0_11, rfl, k0_11⟩ := h0_11.inv_int
  obtain ⟨c0_12, z0_13, rfl, h0_12, e0_13⟩ := e0_12.cons
  obtain ⟨x0_12, rfl, k0_12⟩ := h0_12.inv_int
  obtain ⟨c0_13, z0_14, rfl, h0_13, e0_14⟩ := e0_13.cons
  obtain ⟨x0_13, rfl, k0_13⟩ := h0_13.inv_int
  obtain ⟨c0_14, z0_15, rfl, h0_14, e0_15⟩ := e0_14.cons
  obtain ⟨x0_14, rfl, k0_14⟩ := h0_14.inv_int
  obtain ⟨c0_15, z0_16, rfl, h0_15, e0_16⟩ := e0_15.cons
  obtain ⟨x0_15, rfl, k0_15⟩ := h0_15.inv_int
  obtain ⟨c0_16, z0_17, rfl, h0_16, e0_17⟩ := e0_16.cons
  obtain ⟨x0_16, rfl, k0_16⟩ := h0_16.inv_int
  obtain ⟨c0_17, z0_18, rfl, h0_17, e0_18⟩ := e0_17.cons
  obtain ⟨x0_17, rfl, k0_17⟩ := h0_17.inv_int
  obtain ⟨c0_18, z0_19, rfl, h0_18, e0_19⟩ := e0_18.cons
  obtain ⟨x0_18, rfl, k0_18⟩ := h0_18.inv_int
  obtain ⟨c0_19, z0_20, rfl, h0_19, e0_20⟩ := e0_19.cons
  obtain ⟨x0_19, rfl, k0_19⟩ := h0_19.inv_int
  obtain ⟨c0_20, z0_21, rfl, h0_20, e0_21⟩ := e0_20.cons
  obtain ⟨x0_20, rfl, k0_20⟩ := h0_20.inv_int
  obtain ⟨c0_21, z0_22, rfl, h0_21, e0_22⟩ := e0_21.cons
  obtain ⟨x0_21, rfl, k0_21⟩ := h0_21.inv_int
  obtain rfl := e0_22.done
  obtain ⟨v1, _, d1, _, p1, _, rfl, hv1, ht1, hr1, g2⟩ := g1.next
  obtain ⟨c1, h1, r1⟩ := open_one (B := 9223372036854775807) (ty := .sl [.int .i64, .int .i64, .int .i64, .int .i64, .int .i64, .int .u32, .bool, .int .i64, .int .i64, .int .i64, .int .u32, .int .u32, .bool, .int .i64, .int .u64, .str, .int .u64, .str, .int .i64, .int .u64, .int .i64, .int .i64, .int .i64, .int .i64, .int .i64, .int .i64, .int .i64, .int .i64, .int .i64]) (d := 9) (by kernel_rfl) (by kernel_rfl) (.inl (Nat.le_refl _)) hv1 ht1
  obtain ⟨x1, rfl, k1⟩ := h1.inv_sl
  obtain ⟨v2, _, d2, _, p2, _, rfl, hv2, ht2, hr2, g3⟩ := g2.next
  obtain ⟨c2, h2, r2⟩ := open_one (B := 9223372036854775807) (ty := .sl [.int .i64, .int .i64, .int .i64, .int .i64, .int .i64, .int .i64, .int .i64, .int .i64]) (d := 9) (by kernel_rfl) (by kernel_rfl) (.inl (Nat.le_refl _)) hv2 ht2
  obtain ⟨x2, rfl, k2⟩ := h2.inv_sl
  obtain ⟨v3, _, d3, _, p3, _, rfl, hv3, ht3, hr3, g4⟩ := g3.next
  obtain ⟨c3, h3, r3⟩ := open_one (B := 9223372036854775807) (ty := .int .u32) (d := 9) (by kernel_rfl) (by kernel_rfl) (.inl (Nat.le_refl _)) hv3 ht3
  obtain ⟨x3, rfl, k3⟩ := h3.inv_int
  obtain rfl := g4.done
  refine law_of_meets meetsLawVOnce (l := [.agg [.int .i64 x0_0, .int .i64 x0_1, .int .i64 x0_2, .int .u32 x0_3, .int .u32 x0_4, .bool x0_5, .int .i64 x0_6, .int .u64 x0_7, .str x0_8, .int .u64 x0_9, .str x0_10, .int .i64 x0_11, .int .u64 x0_12, .int .i64 x0_13, .int .i64 x0_14, .int .i64 x0_15, .int .i64 x0_16, .int .i64 x0_17, .int .i64 x0_18, .int .i64 x0_19, .int .i64 x0_20, .int .i64 x0_21], .sl x1 .no, .sl x2 .no, .int .u32 x3]) rfl (⟨⟨k0_8, k0_10⟩, isMsgs_of k1, isAtts_of k2⟩) rfl ?_
  intro i v hv
  match i, hv with
  | 0, hv =>
    obtain rfl : AV.agg [.int .i64 x0_0, .int .i64 x0_1, .int .i64 x0_2, .int .u32 x0_3, .int .u32 x0_4, .bool x0_5, .int .i64 x0_6, .int .u64 x0_7, .str x0_8, .int .u64 x0_9, .str x0_10, .int .i64 x0_11, .int .u64 x0_12, .int .i64 x0_13, .int .i64 x0_14, .int .i64 x0_15, .int .i64 x0_16, .int .i64 x0_17, .int .i64 x0_18, .int .i64 x0_19, .int .i64 x0_20, .int .i64 x0_21] = v := by simpa using hv
    exact ⟨_, rfl, r0 _⟩
  | 1, hv =>
    obtain rfl : AV.sl x1 .no = v := by simpa using hv
    exact ⟨_, rfl, r1 _⟩
  | 2, hv =>
    obtain rfl : AV.sl x2 .no = v := by simpa using hv
    exact ⟨_, rfl, r2 _⟩
  | 3, hv =>
    obtain rfl : AV.int .u32 x3 = v := by simpa using hv
    exact ⟨_, rfl, r3 _⟩
  | i + 4, hv => simp at hv

/-- The statement. -/
theorem voteOnce_holds : Rows.VoteOnceSaid :=
  OpenClaim.holds_of_wide 5 Tryd.f5 rfl rfl rfl rfl rfl rfl rfl ⟨rfl, rfl, rfl, rfl, rfl⟩ rfl rfl rfl rfl rfl (by kernel_rfl) Tryd.func5 (by kernel_rfl)
    (of_decide_eq_true (by kernel_rfl)) (by unfold Func.isWrapper; first | (rw [if_pos (by decide +kernel)]; kernel_rfl) | (rw [if_neg (by decide +kernel)]; exact ⟨rfl, rfl⟩))
    (fun os started H enc _ => voteOnce_lift os started H enc)
#print axioms voteOnce_holds

/-- The tied card: the row, with what it lists tied to the program's text. -/
theorem voteOnce_card : Rows.VoteOnceCardSaid :=
  Claim7.holds_tied_plain_at .later [] [.data, .pinned] true (true, "3d476f1da6a3a3da8d7485f981c318f3850d534b83cff7a54aaa1b11c3521bcf") false voteOnce_holds (fun _ h => by cases h) (by kernel_rfl) (fun _ h => by cases h) voteOnce_row_tie rfl ⟨rfl, rfl⟩ (by kernel_rfl) rfl
    (fun f fn hf hfn => by
      obtain rfl : f = 5 := Option.some.inj ((show Tryd.prog.funcNamed "moothill/moothilllaw22.VoteOnce" = some 5 by kernel_rfl).symm.trans hf) |>.symm
      obtain rfl : fn = Tryd.f5 := (Option.some.inj (Tryd.func5.symm.trans hfn)).symm
      exact ⟨by kernel_rfl, fun j t ht => by
        have hm : t ∈ [53, 54, 55, 48] := by simpa using Array.mem_of_getElem? ht
        have hall : ([53, 54, 55, 48].all fun u => !Tryd.prog.wantsStandIn u) = true := by kernel_rfl
        exact (show Tryd.prog.wantsStandIn t = false by simpa using List.all_eq_true.1 hall t hm)⟩)
    (by kernel_rfl)
#print axioms voteOnce_card
end Go.Proofs.YtddilmocngedjaaDoor
