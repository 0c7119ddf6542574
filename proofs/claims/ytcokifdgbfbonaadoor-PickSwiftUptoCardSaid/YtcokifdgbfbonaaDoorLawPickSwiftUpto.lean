/- PickSwift: whatever the arguments, the law returns true, and all that was there is as it was. The second form: arguments of bulk at most 1048576. -/
import Derived.Test.YtcokifdgbfbonaaDoorFrameLaidUpto
import Derived.Test.YtcokifdgbfbonaaDoorLaxOpen
import Derived.Test.YtcokifdgbfbonaaDoorPkTy
namespace Go.Proofs.YtcokifdgbfbonaaDoor
open Go.ChangeShapes Go.WideShapes Go.ChangeAt Go.RowKit
open Go.ChangeMaps (open_string shut_string)
set_option linter.unusedVariables false

set_option maxRecDepth 100000 in
theorem pickSwift_lift (os : Os) (started : os.Started) (H : Type) (enc : TypeId × Value → H) (F : Stop.Interp) :
    ReturnsInHanded {} Tryd.checked os 9 .any (fun w args => ((Rows.OpenSpec.upto Rows.pickSwiftSpec).pre enc Tryd.checked.prog Tryd.f9 [] false w args ∧ laidMetH Tryd.prog laidTables w) ∧ sizedMet enc Tryd.checked.prog Tryd.f9 (Rows.OpenSpec.upto Rows.pickSwiftSpec) false w args) (((Rows.OpenSpec.upto Rows.pickSwiftSpec).at F).post enc Tryd.checked.prog Tryd.f9 false true false false) := by
  refine law_lift_upto_and (X := fun w _ => laidMetH Tryd.prog laidTables w) (s := Rows.pickSwiftSpec) [3, 44, 56, 57, 56] os started H enc (by kernel_rfl) Tryd.func9 (by kernel_rfl) (by kernel_rfl) rfl (by kernel_rfl) ?_
    (witness_upto_shaped (enc := enc) (C := Tryd.checked) (os := os) (s := Rows.OpenSpec.upto Rows.pickSwiftSpec) (k := Rows.uptoSmall) rfl (X := fun w _ => laidMetH Tryd.prog laidTables w) (World.laidAll Tryd.prog os laidTables) #[.int .i64 0, .agg #[.int .i64 0, .int .i64 0, .int .i64 0, .int .u32 0, .int .u32 0, .bool false, .int .i64 0, .int .u64 0, .string ByteArray.empty, .int .u64 0, .string ByteArray.empty, .int .i64 0, .int .u64 0, .int .i64 0, .int .i64 0, .int .i64 0, .int .i64 0, .int .i64 0, .int .i64 0, .int .i64 0, .int .i64 0, .int .i64 0], .int .u8 0, .slice none 0 0, .int .u8 0] 12 (World.laidAll_os _ _ _) (World.shaped_of_ZipB (by kernel_rfl) (by kernel_rfl)) (by kernel_rfl) (by kernel_rfl) (by kernel_rfl) (laid_world os _)) ?_
  · intro ds h
    match ds, h with
    | [d0, d1, d2, d3, d4], _ => rfl
  intro W base args ds p g0 hb
  obtain ⟨v0, _, d0, _, p0, _, rfl, hv0, ht0, hr0, hB0, hb1, g1⟩ := g0.nextUpto hb
  obtain ⟨c0, h0, r0⟩ := open_one (B := 1048576) (ty := .int .i64) (d := 9) (by kernel_rfl) (by kernel_rfl) hB0 hv0 ht0
  obtain ⟨x0, rfl, k0⟩ := h0.inv_int
  obtain ⟨v1, _, d1, _, p1, _, rfl, hv1, ht1, hr1, hB1, hb2, g2⟩ := g1.nextUpto hb1
  obtain ⟨z1_0, e1_0, r1⟩ := open_agg (B := 1048576) (l := [.int .i64, .int .i64, .int .i64, .int .u32, .int .u32, .bool, .int .i64, .int .u64, .str, .int .u64, .str, .int .i64, .int .u64, .int .i64, .int .i64, .int .i64, .int .i64, .int .i64, .int .i64, .int .i64, .int .i64, .int .i64]) (d := 9) (by kernel_rfl) (by kernel_rfl) hB1 hv1 ht1
  obtain ⟨c1_0, z1_1, rfl, h1_0, e1_1⟩ := e1_0.cons
  obtain ⟨x1_0, rfl, k1_0⟩ := h1_0.inv_int
  obtain ⟨c1_1, z1_2, rfl, h1_1, e1_2⟩ := e1_1.cons
  obtain ⟨x1_1, rfl, k1_1⟩ := h1_1.inv_int
  obtain ⟨c1_2, z1_3, rfl, h1_2, e1_3⟩ := e1_2.cons
  obtain ⟨x1_2, rfl, k1_2⟩ := h1_2.inv_int
  obtain ⟨c1_3, z1_4, rfl, h1_3, e1_4⟩ := e1_3.cons
  obtain ⟨x1_3, rfl, k1_3⟩ := h1_3.inv_int
  obtain ⟨c1_4, z1_5, rfl, h1_4, e1_5⟩ := e1_4.cons
  obtain ⟨x1_4, rfl, k1_4⟩ := h1_4.inv_int
  obtain ⟨c1_5, z1_6, rfl, h1_5, e1_6⟩ := e1_5.cons
  obtain ⟨x1_5, rfl⟩ := h1_5.inv_bool
  obtain ⟨c1_6, z1_7, rfl, h1_6, e1_7⟩ := e1_6.cons
  obtain ⟨x1_6, rfl, k1_6⟩ := h1_6.inv_int
  obtain ⟨c1_7, z1_8, rfl, h1_7, e1_8⟩ := e1_7.cons
  obtain ⟨x1_7, rfl, k1_7⟩ := h1_7.inv_int
  obtain ⟨c1_8, z1_9, rfl, h1_8, e1_9⟩ := e1_8.cons
  obtain ⟨x1_8, rfl, k1_8⟩ := h1_8.inv_str
  obtain ⟨c1_9, z1_10, rfl, h1_9, e1_10⟩ := e1_9.cons
  obtain ⟨x1_9, rfl, k1_9⟩ := h1_9.inv_int
  obtain ⟨c1_10, z1_11, rfl, h1_10, e1_11⟩ := e1_10.cons
  obtain ⟨x1_10, rfl, k1_10⟩ := h1_10.inv_str
  obtain ⟨c1_11, z1_12, rfl, h1_11, e1_12⟩ := e1_11.cons
  obtain ⟨x1_11, rfl, k1_11⟩ := h1_11.inv_int
  obtain ⟨c1_12, z1_13, rfl, h1_12, e1_13⟩ := e1_12.cons
  obtain ⟨x1_12, rfl, k1_12⟩ := h1_12.inv_int
  obtain ⟨c1_13, z1_14, rfl, h1_13, e1_14⟩ := e1_13.cons
  obtain ⟨x1_13, rfl, k1_13⟩ := h1_13.inv_int
  obtain ⟨c1_14, z1_15, rfl, h1_14, e1_15⟩ := e1_14.cons
  obtain ⟨x1_14, rfl, k1_14⟩ := h1_14.inv_int
  obtain ⟨c1_15, z1_16, rfl, h1_15, e1_16⟩ := e1_15.cons
  obtain ⟨x1_15, rfl, k1_15⟩ := h1_15.inv_int
  obtain ⟨c1_16, z1_17, rfl, h1_16, e1_17⟩ := e1_16.cons
  obtain ⟨x1_16, rfl, k1_16⟩ := h1_16.inv_int
  obtain ⟨c1_17, z1_18, rfl, h1_17, e1_18⟩ := e1_17.cons
  obtain ⟨x1_17, rfl, k1_17⟩ := h1_17.inv_int
  obtain ⟨c1_18, z1_19, rfl, h1_18, e1_19⟩ := e1_18.cons
  obtain ⟨x1_18, rfl, k1_18⟩ := h1_18.inv_int
  obtain ⟨c1_19, z1_20, rfl, h1_19, e1_20⟩ := e1_19.cons
  obtain ⟨x1_19, rfl, k1_19⟩ := h1_19.inv_int
  obtain ⟨c1_20, z1_21, rfl, h1_20, e1_21⟩ := e1_20.cons
  obtain ⟨x1_20, rfl, k1_20⟩ := h1_20.inv_int
  obtain ⟨c1_21, z1_22, rfl, h1_21, e1_22⟩ := e1_21.cons
  obtain ⟨x1_21, rfl, k1_21⟩ := h1_21.inv_int
  obtain rfl := e1_22.done
  obtain ⟨v2, _, d2, _, p2, _, rfl, hv2, ht2, hr2, hB2, hb3, g3⟩ := g2.nextUpto hb2
  obtain ⟨c2, h2, r2⟩ := open_one (B := 1048576) (ty := .int .u8) (d := 9) (by kernel_rfl) (by kernel_rfl) hB2 hv2 ht2
  obtain ⟨x2, rfl, k2⟩ := h2.inv_int
  obtain ⟨v3, _, d3, _, p3, _, rfl, hv3, ht3, hr3, hB3, hb4, g4⟩ := g3.nextUpto hb3
  obtain ⟨c3, h3, r3⟩ := open_one (B := 1048576) (ty := .sl [.int .i64, .int .i64, .int .i64, .int .u32, .int .u32, .bool, .int .i64, .int .u64, .str, .int .u64, .str, .int .i64, .int .u64, .int .i64, .int .i64, .int .i64, .int .i64, .int .i64, .int .i64, .int .i64, .int .i64, .int .i64]) (d := 9) (by kernel_rfl) (by kernel_rfl) hB3 hv3 ht3
  obtain ⟨x3, rfl, k3⟩ := h3.inv_sl
  obtain ⟨v4, _, d4, _, p4, _, rfl, hv4, ht4, hr4, hB4, hb5, g5⟩ := g4.nextUpto hb4
  obtain ⟨c4, h4, r4⟩ := open_one (B := 1048576) (ty := .int .u8) (d := 9) (by kernel_rfl) (by kernel_rfl) hB4 hv4 ht4
  obtain ⟨x4, rfl, k4⟩ := h4.inv_int
  obtain rfl := g5.done
  refine law_of_meets meetsLawSwift21 (l := [.int .i64 x0, .agg [.int .i64 x1_0, .int .i64 x1_1, .int .i64 x1_2, .int .u32 x1_3, .int .u32 x1_4, .bool x1_5, .int .i64 x1_6, .int .u64 x1_7, .str x1_8, .int .u64 x1_9, .str x1_10, .int .i64 x1_11, .int .u64 x1_12, .int .i64 x1_13, .int .i64 x1_14, .int .i64 x1_15, .int .i64 x1_16, .int .i64 x1_17, .int .i64 x1_18, .int .i64 x1_19, .int .i64 x1_20, .int .i64 x1_21], .int .u8 x2, .sl x3 .no, .int .u8 x4]) rfl (⟨⟨Nat.le_trans k1_8 (by decide), Nat.le_trans k1_10 (by decide)⟩, isInsts_of k3⟩) rfl ?_
  intro i v hv
  match i, hv with
  | 0, hv =>
    obtain rfl : AV.int .i64 x0 = v := by simpa using hv
    exact ⟨_, rfl, r0 _⟩
  | 1, hv =>
    obtain rfl : AV.agg [.int .i64 x1_0, .int .i64 x1_1, .int .i64 x1_2, .int .u32 x1_3, .int .u32 x1_4, .bool x1_5, .int .i64 x1_6, .int .u64 x1_7, .str x1_8, .int .u64 x1_9, .str x1_10, .int .i64 x1_11, .int .u64 x1_12, .int .i64 x1_13, .int .i64 x1_14, .int .i64 x1_15, .int .i64 x1_16, .int .i64 x1_17, .int .i64 x1_18, .int .i64 x1_19, .int .i64 x1_20, .int .i64 x1_21] = v := by simpa using hv
    exact ⟨_, rfl, r1 _⟩
  | 2, hv =>
    obtain rfl : AV.int .u8 x2 = v := by simpa using hv
    exact ⟨_, rfl, r2 _⟩
  | 3, hv =>
    obtain rfl : AV.sl x3 .no = v := by simpa using hv
    exact ⟨_, rfl, r3 _⟩
  | 4, hv =>
    obtain rfl : AV.int .u8 x4 = v := by simpa using hv
    exact ⟨_, rfl, r4 _⟩
  | i + 5, hv => simp at hv

/-- The statement. -/
theorem pickSwiftUpto_holds : Rows.PickSwiftUptoSaid :=
  OpenClaim.holds_of_cond 9 Tryd.f9 rfl rfl rfl rfl rfl rfl rfl ⟨rfl, rfl, rfl, rfl, rfl⟩ rfl rfl rfl rfl rfl (by kernel_rfl) Tryd.func9 (by kernel_rfl)
    (of_decide_eq_true (by kernel_rfl)) (by unfold Func.isWrapper; first | (rw [if_pos (by decide +kernel)]; kernel_rfl) | (rw [if_neg (by decide +kernel)]; exact ⟨rfl, rfl⟩))
    (fun os started H enc _ F => pickSwift_lift os started H enc F)
#print axioms pickSwiftUpto_holds

/-- The tied card: the row, with what it lists tied to the program's text. -/
theorem pickSwiftUpto_card : Rows.PickSwiftUptoCardSaid :=
  Claim7.holds_tied_plain_at .later [] [.data, .pinned] true (true, "066d9d54bf7d2b9ace2b560bd54625dac8774d04708ce318f78d0103eb25417e") false pickSwiftUpto_holds (fun _ h => by cases h) (by kernel_rfl) (fun _ h => by cases h) pickSwiftUpto_row_tie rfl ⟨rfl, rfl⟩ (by kernel_rfl) rfl
    (fun f fn hf hfn => by
      obtain rfl : f = 9 := Option.some.inj ((show Tryd.prog.funcNamed "moothill/moothilllaw21.PickSwift" = some 9 by kernel_rfl).symm.trans hf) |>.symm
      obtain rfl : fn = Tryd.f9 := (Option.some.inj (Tryd.func9.symm.trans hfn)).symm
      exact ⟨by kernel_rfl, fun j t ht => by
        have hm : t ∈ [3, 44, 56, 57, 56] := by simpa using Array.mem_of_getElem? ht
        have hall : ([3, 44, 56, 57, 56].all fun u => !Tryd.prog.wantsStandIn u) = true := by kernel_rfl
        exact (show Tryd.prog.wantsStandIn t = false by simpa using List.all_eq_true.1 hall t hm)⟩)
    (by kernel_rfl)
#print axioms pickSwiftUpto_card
end Go.Proofs.YtcokifdgbfbonaaDoor
