/- MsgTexts: whatever the arguments, the law returns true, and all that was there is as it was. No condition. -/
import Derived.Test.YtpomloangafbkaaGreatDoorFrameCmd
import Derived.Test.YtpomloangafbkaaGreatDoorLaxOpen
import Derived.Test.YtpomloangafbkaaGreatDoorLaxPkMsgR
namespace Go.Proofs.YtpomloangafbkaaGreatDoor
open Go.ChangeShapes Go.WideShapes Go.ChangeAt Go.RowKit
open Go.ChangeMaps (open_string shut_string)
set_option linter.unusedVariables false

set_option maxRecDepth 100000 in
theorem msgTexts_lift (os : Os) (started : os.Started) (H : Type) (enc : TypeId × Value → H) :
    ReturnsInHanded {} Tryz.checked os 5 .any (fun w args => (Rows.msgTextsSpec.pre enc Tryz.checked.prog Tryz.f5 [] false w args ∧ laidMetH Tryz.prog cmdTables w) ∧ sizedMet enc Tryz.checked.prog Tryz.f5 (OpenSpec.ofChange Rows.msgTextsSpec) false w args) (Rows.msgTextsSpec.post enc Tryz.checked.prog Tryz.f5 false true false false) := by
  refine law_lift_text (X := fun w _ => laidMetH Tryz.prog cmdTables w) (fun _ _ _ hh h => h.of_heap hh) [54] os started H enc (by kernel_rfl) Tryz.func5 (by kernel_rfl) (by kernel_rfl) rfl (by kernel_rfl) ?_
    (ChangeSpec.witness_shaped (enc := enc) (C := Tryz.checked) (os := os) (X := fun w _ => laidMetH Tryz.prog cmdTables w) false (World.laidAll Tryz.prog os cmdTables) #[.agg #[.int .i64 0, .int .i64 0, .int .i64 0, .int .i64 0, .int .i64 0, .int .u32 0, .bool false, .int .i64 0, .int .i64 0, .int .i64 0, .int .u32 0, .int .u32 0, .bool false, .int .i64 0, .int .u64 0, .string ByteArray.empty, .int .u64 0, .string ByteArray.empty, .int .i64 0, .int .u64 0, .int .i64 0, .int .i64 0, .int .i64 0, .int .i64 0, .int .i64 0, .int .i64 0, .int .i64 0, .int .i64 0, .int .i64 0]] 12 (World.laidAll_os _ _ _) (World.shaped_of_ZipB (by kernel_rfl) (by kernel_rfl)) (by kernel_rfl) (by kernel_rfl) (by kernel_rfl) (cmd_world os _)) ?_
  · intro ds h
    match ds, h with
    | [d0], _ => rfl
  intro W base args ds p g0 hsh hxx
  obtain ⟨v0, _, d0, _, p0, _, rfl, hv0, ht0, hr0, g1⟩ := g0.next
  obtain ⟨z0_0, e0_0, r0⟩ := open_agg (B := 9223372036854775807) (l := [.int .i64, .int .i64, .int .i64, .int .i64, .int .i64, .int .u32, .bool, .int .i64, .int .i64, .int .i64, .int .u32, .int .u32, .bool, .int .i64, .int .u64, .str, .int .u64, .str, .int .i64, .int .u64, .int .i64, .int .i64, .int .i64, .int .i64, .int .i64, .int .i64, .int .i64, .int .i64, .int .i64]) (d := 9) (by kernel_rfl) (by kernel_rfl) (.inl (Nat.le_refl _)) hv0 ht0
  obtain ⟨c0_0, z0_1, rfl, h0_0, e0_1⟩ := e0_0.cons
  obtain ⟨x0_0, rfl, k0_0⟩ := h0_0.inv_int
  obtain ⟨c0_1, z0_2, rfl, h0_1, e0_2⟩ := e0_1.cons
  obtain ⟨x0_1, rfl, k0_1⟩ := h0_1.inv_int
  obtain ⟨c0_2, z0_3, rfl, h0_2, e0_3⟩ := e0_2.cons
  obtain ⟨x0_2, rfl, k0_2⟩ := h0_2.inv_int
  obtain ⟨c0_3, z0_4, rfl, h0_3, e0_4⟩ := e0_3.cons
  obtain ⟨x0_3, rfl, k0_3⟩ := h0_3.inv_int
  obtain ⟨c0_4, z0_5, rfl, h0_4, e0_5⟩ := e0_4.cons
  obtain ⟨x0_4, rfl, k0_4⟩ := h0_4.inv_int
  obtain ⟨c0_5, z0_6, rfl, h0_5, e0_6⟩ := e0_5.cons
  obtain ⟨x0_5, rfl, k0_5⟩ := h0_5.inv_int
  obtain ⟨c0_6, z0_7, rfl, h0_6, e0_7⟩ := e0_6.cons
  obtain ⟨x0_6, rfl⟩ := h0_6.inv_bool
  obtain ⟨c0_7, z0_8, rfl, h0_7, e0_8⟩ := e0_7.cons
  obtain ⟨x0_7, rfl, k0_7⟩ := h0_7.inv_int
  obtain ⟨c0_8, z0_9, rfl, h0_8, e0_9⟩ := e0_8.cons
  obtain ⟨x0_8, rfl, k0_8⟩ := h0_8.inv_int
  obtain ⟨c0_9, z0_10, rfl, h0_9, e0_10⟩ := e0_9.cons
  obtain ⟨x0_9, rfl, k0_9⟩ := h0_9.inv_int
  obtain ⟨c0_10, z0_11, rfl, h0_10, e0_11⟩ := e0_10.cons
  obtain ⟨x0_10, rfl, k0_10⟩ := h0_10.inv_int
  obtain ⟨c0_11, z0_12, rfl, h0_11, e0_12⟩ := e0_11.cons
  obtain ⟨x0_11, rfl, k0_11⟩ := h0_11.inv_int
  obtain ⟨c0_12, z0_13, rfl, h0_12, e0_13⟩ := e0_12.cons
  obtain ⟨x0_12, rfl⟩ := h0_12.inv_bool
  obtain ⟨c0_13, z0_14, rfl, h0_13, e0_14⟩ := e0_13.cons
  obtain ⟨x0_13, rfl, k0_13⟩ := h0_13.inv_int
  obtain ⟨c0_14, z0_15, rfl, h0_14, e0_15⟩ := e0_14.cons
  obtain ⟨x0_14, rfl, k0_14⟩ := h0_14.inv_int
  obtain ⟨c0_15, z0_16, rfl, h0_15, e0_16⟩ := e0_15.cons
  obtain ⟨x0_15, rfl, k0_15⟩ := h0_15.inv_str
  obtain ⟨c0_16, z0_17, rfl, h0_16, e0_17⟩ := e0_16.cons
  obtain ⟨x0_16, rfl, k0_16⟩ := h0_16.inv_int
  obtain ⟨c0_17, z0_18, rfl, h0_17, e0_18⟩ := e0_17.cons
  obtain ⟨x0_17, rfl, k0_17⟩ := h0_17.inv_str
  obtain ⟨c0_18, z0_19, rfl, h0_18, e0_19⟩ := e0_18.cons
  obtain ⟨x0_18, rfl, k0_18⟩ := h0_18.inv_int
  obtain ⟨c0_19, z0_20, rfl, h0_19, e0_20⟩ := e0_19.cons
  obtain ⟨x0_19, rfl, k0_19⟩ := h0_19.inv_int
  obtain ⟨c0_20, z0_21, rfl, h0_20, e0_21⟩ := e0_20.cons
  obtain ⟨x0_20, rfl, k0_20⟩ := h0_20.inv_int
  obtain ⟨c0_21, z0_22, rfl, h0_21, e0_22⟩ := e0_21.cons
  obtain ⟨x0_21, rfl, k0_21⟩ := h0_21.inv_int
  obtain ⟨c0_22, z0_23, rfl, h0_22, e0_23⟩ := e0_22.cons
  obtain ⟨x0_22, rfl, k0_22⟩ := h0_22.inv_int
  obtain ⟨c0_23, z0_24, rfl, h0_23, e0_24⟩ := e0_23.cons
  obtain ⟨x0_23, rfl, k0_23⟩ := h0_23.inv_int
  obtain ⟨c0_24, z0_25, rfl, h0_24, e0_25⟩ := e0_24.cons
  obtain ⟨x0_24, rfl, k0_24⟩ := h0_24.inv_int
  obtain ⟨c0_25, z0_26, rfl, h0_25, e0_26⟩ := e0_25.cons
  obtain ⟨x0_25, rfl, k0_25⟩ := h0_25.inv_int
  obtain ⟨c0_26, z0_27, rfl, h0_26, e0_27⟩ := e0_26.cons
  obtain ⟨x0_26, rfl, k0_26⟩ := h0_26.inv_int
  obtain ⟨c0_27, z0_28, rfl, h0_27, e0_28⟩ := e0_27.cons
  obtain ⟨x0_27, rfl, k0_27⟩ := h0_27.inv_int
  obtain ⟨c0_28, z0_29, rfl, h0_28, e0_29⟩ := e0_28.cons
  obtain ⟨x0_28, rfl, k0_28⟩ := h0_28.inv_int
  obtain rfl := e0_29.done
  obtain rfl := g1.done
  refine law_of_meets meetsLawMTexts (l := [.agg [.int .i64 x0_0, .int .i64 x0_1, .int .i64 x0_2, .int .i64 x0_3, .int .i64 x0_4, .int .u32 x0_5, .bool x0_6, .int .i64 x0_7, .int .i64 x0_8, .int .i64 x0_9, .int .u32 x0_10, .int .u32 x0_11, .bool x0_12, .int .i64 x0_13, .int .u64 x0_14, .str x0_15, .int .u64 x0_16, .str x0_17, .int .i64 x0_18, .int .u64 x0_19, .int .i64 x0_20, .int .i64 x0_21, .int .i64 x0_22, .int .i64 x0_23, .int .i64 x0_24, .int .i64 x0_25, .int .i64 x0_26, .int .i64 x0_27, .int .i64 x0_28]]) rfl (⟨k0_15, k0_17⟩) rfl ?_ (tt_cmd hsh hxx)
  intro i v hv
  match i, hv with
  | 0, hv =>
    obtain rfl : AV.agg [.int .i64 x0_0, .int .i64 x0_1, .int .i64 x0_2, .int .i64 x0_3, .int .i64 x0_4, .int .u32 x0_5, .bool x0_6, .int .i64 x0_7, .int .i64 x0_8, .int .i64 x0_9, .int .u32 x0_10, .int .u32 x0_11, .bool x0_12, .int .i64 x0_13, .int .u64 x0_14, .str x0_15, .int .u64 x0_16, .str x0_17, .int .i64 x0_18, .int .u64 x0_19, .int .i64 x0_20, .int .i64 x0_21, .int .i64 x0_22, .int .i64 x0_23, .int .i64 x0_24, .int .i64 x0_25, .int .i64 x0_26, .int .i64 x0_27, .int .i64 x0_28] = v := by simpa using hv
    exact ⟨_, rfl, r0 _⟩
  | i + 1, hv => simp at hv

/-- The statement. -/
theorem msgTexts_holds : Rows.MsgTextsSaid :=
  OpenClaim.holds_of_wide 5 Tryz.f5 rfl rfl rfl rfl rfl rfl rfl ⟨rfl, rfl, rfl, rfl, rfl⟩ rfl rfl rfl rfl rfl (by kernel_rfl) Tryz.func5 (by kernel_rfl)
    (of_decide_eq_true (by kernel_rfl)) (by unfold Func.isWrapper; first | (rw [if_pos (by decide +kernel)]; kernel_rfl) | (rw [if_neg (by decide +kernel)]; exact ⟨rfl, rfl⟩))
    (fun os started H enc _ => msgTexts_lift os started H enc)
#print axioms msgTexts_holds

/-- The tied card: the row, with what it lists tied to the program's text. -/
theorem msgTexts_card : Rows.MsgTextsCardSaid :=
  Claim7.holds_tied_plain_at .later [] [.data, .data, .data, .data, .sentinel, .sentinel, .data, .pinned] true (true, "ba83f96920dd5c531ef591e33167ad0483e409ecdaf6a5e98da90974a0f38ae0") true msgTexts_holds (fun _ h => by cases h) (by kernel_rfl) (fun _ h => by cases h) msgTexts_row_tie rfl ⟨rfl, rfl⟩ (by kernel_rfl) rfl
    (fun f fn hf hfn => by
      obtain rfl : f = 5 := Option.some.inj ((show Tryz.prog.funcNamed "moothill/moothilllaw11.MsgTexts" = some 5 by kernel_rfl).symm.trans hf) |>.symm
      obtain rfl : fn = Tryz.f5 := (Option.some.inj (Tryz.func5.symm.trans hfn)).symm
      exact ⟨by kernel_rfl, fun j t ht => by
        have hm : t ∈ [54] := by simpa using Array.mem_of_getElem? ht
        have hall : ([54].all fun u => !Tryz.prog.wantsStandIn u) = true := by kernel_rfl
        exact (show Tryz.prog.wantsStandIn t = false by simpa using List.all_eq_true.1 hall t hm)⟩)
    (by kernel_rfl)
#print axioms msgTexts_card
end Go.Proofs.YtpomloangafbkaaGreatDoor
