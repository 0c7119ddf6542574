/- MsgAsks: whatever the arguments, the law returns true, and all that was there is as it was. No condition. -/
import Derived.Test.YtfoabkkkdcicgaaGreatDoorFrameLaid
import Derived.Test.YtfoabkkkdcicgaaGreatDoorLaxOpen
import Derived.Test.YtfoabkkkdcicgaaGreatDoorLaxPkMsgY
namespace Go.Proofs.YtfoabkkkdcicgaaGreatDoor
open Go.ChangeShapes Go.WideShapes Go.ChangeAt Go.RowKit
open Go.ChangeMaps (open_string shut_string)
set_option linter.unusedVariables false

set_option maxRecDepth 100000 in
theorem msgAsks_lift (os : Os) (started : os.Started) (H : Type) (enc : TypeId × Value → H) :
    ReturnsInHanded {} Tryz.checked os 6 .any (fun w args => (Rows.msgAsksSpec.pre enc Tryz.checked.prog Tryz.f6 [] false w args ∧ laidMetH Tryz.prog laidTables w) ∧ sizedMet enc Tryz.checked.prog Tryz.f6 (OpenSpec.ofChange Rows.msgAsksSpec) false w args) (Rows.msgAsksSpec.post enc Tryz.checked.prog Tryz.f6 false true false false) := by
  refine law_lift_and (X := fun w _ => laidMetH Tryz.prog laidTables w) (fun _ _ _ hh h => h.of_heap hh) [3, 3, 3, 27, 37, 37, 4] os started H enc (by kernel_rfl) Tryz.func6 (by kernel_rfl) (by kernel_rfl) rfl (by kernel_rfl) ?_
    (ChangeSpec.witness_shaped (enc := enc) (C := Tryz.checked) (os := os) (X := fun w _ => laidMetH Tryz.prog laidTables w) false (World.laidAll Tryz.prog os laidTables) #[.int .i64 0, .int .i64 0, .int .i64 0, .int .u32 0, .agg #[.int .i64 0, .int .i64 0, .int .i64 0, .int .u32 0, .int .u32 0, .bool false, .int .i64 0, .int .u64 0, .string ByteArray.empty, .int .u64 0, .string ByteArray.empty, .int .i64 0, .int .u64 0, .int .i64 0, .int .i64 0, .int .i64 0, .int .i64 0, .int .i64 0, .int .i64 0, .int .i64 0, .int .i64 0, .int .i64 0], .agg #[.int .i64 0, .int .i64 0, .int .i64 0, .int .u32 0, .int .u32 0, .bool false, .int .i64 0, .int .u64 0, .string ByteArray.empty, .int .u64 0, .string ByteArray.empty, .int .i64 0, .int .u64 0, .int .i64 0, .int .i64 0, .int .i64 0, .int .i64 0, .int .i64 0, .int .i64 0, .int .i64 0, .int .i64 0, .int .i64 0], .bool false] 12 (World.laidAll_os _ _ _) (World.shaped_of_ZipB (by kernel_rfl) (by kernel_rfl)) (by kernel_rfl) (by kernel_rfl) (by kernel_rfl) (laid_world os _)) ?_
  · intro ds h
    match ds, h with
    | [d0, d1, d2, d3, d4, d5, d6], _ => rfl
  intro W base args ds p g0
  obtain ⟨v0, _, d0, _, p0, _, rfl, hv0, ht0, hr0, g1⟩ := g0.next
  obtain ⟨c0, h0, r0⟩ := open_one (B := 9223372036854775807) (ty := .int .i64) (d := 9) (by kernel_rfl) (by kernel_rfl) (.inl (Nat.le_refl _)) hv0 ht0
  obtain ⟨x0, rfl, k0⟩ := h0.inv_int
  obtain ⟨v1, _, d1, _, p1, _, rfl, hv1, ht1, hr1, g2⟩ := g1.next
  obtain ⟨c1, h1, r1⟩ := open_one (B := 9223372036854775807) (ty := .int .i64) (d := 9) (by kernel_rfl) (by kernel_rfl) (.inl (Nat.le_refl _)) hv1 ht1
  obtain ⟨x1, rfl, k1⟩ := h1.inv_int
  obtain ⟨v2, _, d2, _, p2, _, rfl, hv2, ht2, hr2, g3⟩ := g2.next
  obtain ⟨c2, h2, r2⟩ := open_one (B := 9223372036854775807) (ty := .int .i64) (d := 9) (by kernel_rfl) (by kernel_rfl) (.inl (Nat.le_refl _)) hv2 ht2
  obtain ⟨x2, rfl, k2⟩ := h2.inv_int
  obtain ⟨v3, _, d3, _, p3, _, rfl, hv3, ht3, hr3, g4⟩ := g3.next
  obtain ⟨c3, h3, r3⟩ := open_one (B := 9223372036854775807) (ty := .int .u32) (d := 9) (by kernel_rfl) (by kernel_rfl) (.inl (Nat.le_refl _)) hv3 ht3
  obtain ⟨x3, rfl, k3⟩ := h3.inv_int
  obtain ⟨v4, _, d4, _, p4, _, rfl, hv4, ht4, hr4, g5⟩ := g4.next
  obtain ⟨z4_0, e4_0, r4⟩ := open_agg (B := 9223372036854775807) (l := [.int .i64, .int .i64, .int .i64, .int .u32, .int .u32, .bool, .int .i64, .int .u64, .str, .int .u64, .str, .int .i64, .int .u64, .int .i64, .int .i64, .int .i64, .int .i64, .int .i64, .int .i64, .int .i64, .int .i64, .int .i64]) (d := 9) (by kernel_rfl) (by kernel_rfl) (.inl (Nat.le_refl _)) hv4 ht4
  obtain ⟨c4_0, z4_1, rfl, h4_0, e4_1⟩ := e4_0.cons
  obtain ⟨x4_0, rfl, k4_0⟩ := h4_0.inv_int
  obtain ⟨c4_1, z4_2, rfl, h4_1, e4_2⟩ := e4_1.cons
  obtain ⟨x4_1, rfl, k4_1⟩ := h4_1.inv_int
  obtain ⟨c4_2, z4_3, rfl, h4_2, e4_3⟩ := e4_2.cons
  obtain ⟨x4_2, rfl, k4_2⟩ := h4_2.inv_int
  obtain ⟨c4_3, z4_4, rfl, h4_3, e4_4⟩ := e4_3.cons
  obtain ⟨x4_3, rfl, k4_3⟩ := h4_3.inv_int
  obtain ⟨c4_4, z4_5, rfl, h4_4, e4_5⟩ := e4_4.cons
  obtain ⟨x4_4, rfl, k4_4⟩ := h4_4.inv_int
  obtain ⟨c4_5, z4_6, rfl, h4_5, e4_6⟩ := e4_5.cons
  obtain ⟨x4_5, rfl⟩ := h4_5.inv_bool
  obtain ⟨c4_6, z4_7, rfl, h4_6, e4_7⟩ := e4_6.cons
  obtain ⟨x4_6, rfl, k4_6⟩ := h4_6.inv_int
  obtain ⟨c4_7, z4_8, rfl, h4_7, e4_8⟩ := e4_7.cons
  obtain ⟨x4_7, rfl, k4_7⟩ := h4_7.inv_int
  obtain ⟨c4_8, z4_9, rfl, h4_8, e4_9⟩ := e4_8.cons
  obtain ⟨x4_8, rfl, k4_8⟩ := h4_8.inv_str
  obtain ⟨c4_9, z4_10, rfl, h4_9, e4_10⟩ := e4_9.cons
  obtain ⟨x4_9, rfl, k4_9⟩ := h4_9.inv_int
  obtain ⟨c4_10, z4_11, rfl, h4_10, e4_11⟩ := e4_10.cons
  obtain ⟨x4_10, rfl, k4_10⟩ := h4_10.inv_str
  obtain ⟨c4_11, z4_12, rfl, h4_11, e4_12⟩ := e4_11.cons
  obtain ⟨x4_11, rfl, k4_11⟩ := h4_11.inv_int
  obtain ⟨c4_12, z4_13, rfl, h4_12, e4_13⟩ := e4_12.cons
  obtain ⟨x4_12, rfl, k4_12⟩ := h4_12.inv_int
  obtain ⟨c4_13, z4_14, rfl, h4_13, e4_14⟩ := e4_13.cons
  obtain ⟨x4_13, rfl, k4_13⟩ := h4_13.inv_int
  obtain ⟨c4_14, z4_15, rfl, h4_14, e4_15⟩ := e4_14.cons
  obtain ⟨x4_14, rfl, k4_14⟩ := h4_14.inv_int
  obtain ⟨c4_15, z4_16, rfl, h4_15, e4_16⟩ := e4_15.cons
  obtain ⟨x4_15, rfl, k4_15⟩ := h4_15.inv_int
  obtain ⟨c4_16, z4_17, rfl, h4_16, e4_17⟩ := e4_16.cons
  obtain ⟨x4_16, rfl, k4_16⟩ := h4_16.inv_int
  obtain ⟨c4_17, z4_18, rfl, h4_17, e4_18⟩ := e4_17.cons
  obtain ⟨x4_17, rfl, k4_17⟩ := h4_17.inv_int
  obtain ⟨c4_18, z4_19, rfl, h4_18, e4_19⟩ := e4_18.cons
  obtain ⟨x4_18, rfl, k4_18⟩ := h4_18.inv_int
  obtain ⟨c4_19, z4_20, rfl, h4_19, e4_20⟩ := e4_19.cons
  obtain ⟨x4_19, rfl, k4_19⟩ := h4_19.inv_int
  obtain ⟨c4_20, z4_21, rfl, h4_20, e4_21⟩ := e4_20.cons
  obtain ⟨x4_20, rfl, k4_20⟩ := h4_20.inv_int
  obtain ⟨c4_21, z4_22, rfl, h4_21, e4_22⟩ := e4_21.cons
  obtain ⟨x4_21, rfl, k4_21⟩ := h4_21.inv_int
  obtain rfl := e4_22.done
  obtain ⟨v5, _, d5, _, p5, _, rfl, hv5, ht5, hr5, g6⟩ := g5.next
  obtain ⟨z5_0, e5_0, r5⟩ := open_agg (B := 9223372036854775807) (l := [.int .i64, .int .i64, .int .i64, .int .u32, .int .u32, .bool, .int .i64, .int .u64, .str, .int .u64, .str, .int .i64, .int .u64, .int .i64, .int .i64, .int .i64, .int .i64, .int .i64, .int .i64, .int .i64, .int .i64, .int .i64]) (d := 9) (by kernel_rfl) (by kernel_rfl) (.inl (Nat.le_refl _)) hv5 ht5
  obtain ⟨c5_0, z5_1, rfl, h5_0, e5_1⟩ := e5_0.cons
  obtain ⟨x5_0, rfl, k5_0⟩ := h5_0.inv_int
  obtain ⟨c5_1, z5_2, rfl, h5_1, e5_2⟩ := e5_1.cons
  obtain ⟨x5_1, rfl, k5_1⟩ := h5_1.inv_int
  obtain ⟨c5_2, z5_3, rfl, h5_2, e5_3⟩ := e5_2.cons
  obtain ⟨x5_2, rfl, k5_2⟩ := h5_2.inv_int
  obtain ⟨c5_3, z5_4, rfl, h5_3, e5_4⟩ := e5_3.cons
  obtain ⟨x5_3, rfl, k5_3⟩ := h5_3.inv_int
  obtain ⟨c5_4, z5_5, rfl, h5_4, e5_5⟩ := e5_4.cons
  obtain ⟨x5_4, rfl, k5_4⟩ := h5_4.inv_int
  obtain ⟨c5_5, z5_6, rfl, h5_5, e5_6⟩ := e5_5.cons
  obtain ⟨x5_5, rfl⟩ := h5_5.inv_bool
  obtain ⟨c5_6, z5_7, rfl, h5_6, e5_7⟩ := e5_6.cons
  obtain ⟨x5_6, rfl, k5_6⟩ := h5_6.inv_int
  obtain ⟨c5_7, z5_8, rfl, h5_7, e5_8⟩ := e5_7.cons
  obtain ⟨x5_7, rfl, k5_7⟩ := h5_7.inv_int
  obtain ⟨c5_8, z5_9, rfl, h5_8, e5_9⟩ := e5_8.cons
  obtain ⟨x5_8, rfl, k5_8⟩ := h5_8.inv_str
  obtain ⟨c5_9, z5_10, rfl, h5_9, e5_10⟩ := e5_9.cons
  obtain ⟨x5_9, rfl, k5_9⟩ := h5_9.inv_int
  obtain ⟨c5_10, z5_11, rfl, h5_10, e5_11⟩ := e5_10.cons
  obtain ⟨x5_10, rfl, k5_10⟩ := h5_10.inv_str
  obtain ⟨c5_11, z5_12, rfl, h5_11, e5_12⟩ := e5_11.cons
  obtain ⟨x5_11, rfl, k5_11⟩ := h5_11.inv_int
  obtain ⟨c5_12, z5_13, rfl, h5_12, e5_13⟩ := e5_12.cons
  obtain ⟨x5_12, rfl, k5_12⟩ := h5_12.inv_int
  obtain ⟨c5_13, z5_14, rfl, h5_13, e5_14⟩ := e5_13.cons
  obtain ⟨x5_13, rfl, k5_13⟩ := h5_13.inv_int
  obtain ⟨c5_14, z5_15, rfl, h5_14, e5_15⟩ := e5_14.cons
  obtain ⟨x5_14, rfl, k5_14⟩ := h5_14.inv_int
  obtain ⟨c5_15, z5_16, rfl, h5_15, e5_16⟩ := e5_15.cons
  obtain ⟨x5_15, rfl, k5_15⟩ := h5_15.inv_int
  obtain ⟨c5_16, z5_17, rfl, h5_16, e5_17⟩ := e5_16.cons
  obtain ⟨x5_16, rfl, k5_16⟩ := h5_16.inv_int
  obtain ⟨c5_17, z5_18, rfl, h5_17, e5_18⟩ := e5_17.cons
  obtain ⟨x5_17, rfl, k5_17⟩ := h5_17.inv_int
  obtain ⟨c5_18, z5_19, rfl, h5_18, e5_19⟩ := e5_18.cons
  obtain ⟨x5_18, rfl, k5_18⟩ := h5_18.inv_int
  obtain ⟨c5_19, z5_20, rfl, h5_19, e5_20⟩ := e5_19.cons
  obtain ⟨x5_19, rfl, k5_19⟩ := h5_19.inv_int
  obtain ⟨c5_20, z5_21, rfl, h5_20, e5_21⟩ := e5_20.cons
  obtain ⟨x5_20, rfl, k5_20⟩ := h5_20.inv_int
  obtain ⟨c5_21, z5_22, rfl, h5_21, e5_22⟩ := e5_21.cons
  obtain ⟨x5_21, rfl, k5_21⟩ := h5_21.inv_int
  obtain rfl := e5_22.done
  obtain ⟨v6, _, d6, _, p6, _, rfl, hv6, ht6, hr6, g7⟩ := g6.next
  obtain ⟨c6, h6, r6⟩ := open_one (B := 9223372036854775807) (ty := .bool) (d := 9) (by kernel_rfl) (by kernel_rfl) (.inl (Nat.le_refl _)) hv6 ht6
  obtain ⟨x6, rfl⟩ := h6.inv_bool
  obtain rfl := g7.done
  refine law_of_meets meetsLawAsks (l := [.int .i64 x0, .int .i64 x1, .int .i64 x2, .int .u32 x3, .agg [.int .i64 x4_0, .int .i64 x4_1, .int .i64 x4_2, .int .u32 x4_3, .int .u32 x4_4, .bool x4_5, .int .i64 x4_6, .int .u64 x4_7, .str x4_8, .int .u64 x4_9, .str x4_10, .int .i64 x4_11, .int .u64 x4_12, .int .i64 x4_13, .int .i64 x4_14, .int .i64 x4_15, .int .i64 x4_16, .int .i64 x4_17, .int .i64 x4_18, .int .i64 x4_19, .int .i64 x4_20, .int .i64 x4_21], .agg [.int .i64 x5_0, .int .i64 x5_1, .int .i64 x5_2, .int .u32 x5_3, .int .u32 x5_4, .bool x5_5, .int .i64 x5_6, .int .u64 x5_7, .str x5_8, .int .u64 x5_9, .str x5_10, .int .i64 x5_11, .int .u64 x5_12, .int .i64 x5_13, .int .i64 x5_14, .int .i64 x5_15, .int .i64 x5_16, .int .i64 x5_17, .int .i64 x5_18, .int .i64 x5_19, .int .i64 x5_20, .int .i64 x5_21], .bool x6]) rfl (⟨⟨k4_8, k4_10⟩, ⟨k5_8, k5_10⟩⟩) rfl ?_
  intro i v hv
  match i, hv with
  | 0, hv =>
    obtain rfl : AV.int .i64 x0 = v := by simpa using hv
    exact ⟨_, rfl, r0 _⟩
  | 1, hv =>
    obtain rfl : AV.int .i64 x1 = v := by simpa using hv
    exact ⟨_, rfl, r1 _⟩
  | 2, hv =>
    obtain rfl : AV.int .i64 x2 = v := by simpa using hv
    exact ⟨_, rfl, r2 _⟩
  | 3, hv =>
    obtain rfl : AV.int .u32 x3 = v := by simpa using hv
    exact ⟨_, rfl, r3 _⟩
  | 4, hv =>
    obtain rfl : AV.agg [.int .i64 x4_0, .int .i64 x4_1, .int .i64 x4_2, .int .u32 x4_3, .int .u32 x4_4, .bool x4_5, .int .i64 x4_6, .int .u64 x4_7, .str x4_8, .int .u64 x4_9, .str x4_10, .int .i64 x4_11, .int .u64 x4_12, .int .i64 x4_13, .int .i64 x4_14, .int .i64 x4_15, .int .i64 x4_16, .int .i64 x4_17, .int .i64 x4_18, .int .i64 x4_19, .int .i64 x4_20, .int .i64 x4_21] = v := by simpa using hv
    exact ⟨_, rfl, r4 _⟩
  | 5, hv =>
    obtain rfl : AV.agg [.int .i64 x5_0, .int .i64 x5_1, .int .i64 x5_2, .int .u32 x5_3, .int .u32 x5_4, .bool x5_5, .int .i64 x5_6, .int .u64 x5_7, .str x5_8, .int .u64 x5_9, .str x5_10, .int .i64 x5_11, .int .u64 x5_12, .int .i64 x5_13, .int .i64 x5_14, .int .i64 x5_15, .int .i64 x5_16, .int .i64 x5_17, .int .i64 x5_18, .int .i64 x5_19, .int .i64 x5_20, .int .i64 x5_21] = v := by simpa using hv
    exact ⟨_, rfl, r5 _⟩
  | 6, hv =>
    obtain rfl : AV.bool x6 = v := by simpa using hv
    exact ⟨_, rfl, r6 _⟩
  | i + 7, hv => simp at hv

/-- The statement. -/
theorem msgAsks_holds : Rows.MsgAsksSaid :=
  OpenClaim.holds_of_wide 6 Tryz.f6 rfl rfl rfl rfl rfl rfl rfl ⟨rfl, rfl, rfl, rfl, rfl⟩ rfl rfl rfl rfl rfl (by kernel_rfl) Tryz.func6 (by kernel_rfl)
    (of_decide_eq_true (by kernel_rfl)) (by unfold Func.isWrapper; first | (rw [if_pos (by decide +kernel)]; kernel_rfl) | (rw [if_neg (by decide +kernel)]; exact ⟨rfl, rfl⟩))
    (fun os started H enc _ => msgAsks_lift os started H enc)
#print axioms msgAsks_holds

/-- The tied card: the row, with what it lists tied to the program's text. -/
theorem msgAsks_card : Rows.MsgAsksCardSaid :=
  Claim7.holds_tied_plain_at .later [] [.data, .pinned] true (true, "e2a6138176af4264c0b7a9f18d8e371a46d140e22fda58dfbe3a888dd5804ba9") false msgAsks_holds (fun _ h => by cases h) (by kernel_rfl) (fun _ h => by cases h) msgAsks_row_tie rfl ⟨rfl, rfl⟩ (by kernel_rfl) rfl
    (fun f fn hf hfn => by
      obtain rfl : f = 6 := Option.some.inj ((show Tryz.prog.funcNamed "moothill/moothilllaw11.MsgAsks" = some 6 by kernel_rfl).symm.trans hf) |>.symm
      obtain rfl : fn = Tryz.f6 := (Option.some.inj (Tryz.func6.symm.trans hfn)).symm
      exact ⟨by kernel_rfl, fun j t ht => by
        have hm : t ∈ [3, 3, 3, 27, 37, 37, 4] := by simpa using Array.mem_of_getElem? ht
        have hall : ([3, 3, 3, 27, 37, 37, 4].all fun u => !Tryz.prog.wantsStandIn u) = true := by kernel_rfl
        exact (show Tryz.prog.wantsStandIn t = false by simpa using List.all_eq_true.1 hall t hm)⟩)
    (by kernel_rfl)
#print axioms msgAsks_card
end Go.Proofs.YtfoabkkkdcicgaaGreatDoor
