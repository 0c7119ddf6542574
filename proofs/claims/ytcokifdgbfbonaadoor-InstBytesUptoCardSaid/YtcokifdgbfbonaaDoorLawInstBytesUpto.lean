/- InstBytes: a right state is read from its bytes, whatever follows The second form: arguments of bulk at most 1048576. -/
import Derived.Test.YtcokifdgbfbonaaDoorFrameLaidUpto
import Derived.Test.YtcokifdgbfbonaaDoorLaxOpen
import Derived.Test.YtcokifdgbfbonaaDoorLaxPkInstX
namespace Go.Proofs.YtcokifdgbfbonaaDoor
open Go.ChangeShapes Go.WideShapes Go.ChangeAt Go.RowKit
open Go.ChangeMaps (open_string shut_string)
set_option linter.unusedVariables false

set_option maxRecDepth 100000 in
theorem instBytes_lift (os : Os) (started : os.Started) (H : Type) (enc : TypeId × Value → H) (F : Stop.Interp) :
    ReturnsInHanded {} Tryd.checked os 14 .any (fun w args => ((Rows.OpenSpec.upto Rows.instBytesSpec).pre enc Tryd.checked.prog Tryd.f14 [] false w args ∧ laidMetH Tryd.prog laidTables w) ∧ sizedMet enc Tryd.checked.prog Tryd.f14 (Rows.OpenSpec.upto Rows.instBytesSpec) false w args) (((Rows.OpenSpec.upto Rows.instBytesSpec).at F).post enc Tryd.checked.prog Tryd.f14 false true false false) := by
  refine law_lift_upto_and (X := fun w _ => laidMetH Tryd.prog laidTables w) (s := Rows.instBytesSpec) [44, 33] os started H enc (by kernel_rfl) Tryd.func14 (by kernel_rfl) (by kernel_rfl) rfl (by kernel_rfl) ?_
    (witness_upto_shaped (enc := enc) (C := Tryd.checked) (os := os) (s := Rows.OpenSpec.upto Rows.instBytesSpec) (k := Rows.uptoSmall) rfl (X := fun w _ => laidMetH Tryd.prog laidTables w) (World.laidAll Tryd.prog os laidTables) #[.agg #[.int .i64 0, .int .i64 0, .int .i64 0, .int .u32 0, .int .u32 0, .bool false, .int .i64 0, .int .u64 0, .string ByteArray.empty, .int .u64 0, .string ByteArray.empty, .int .i64 0, .int .u64 0, .int .i64 0, .int .i64 0, .int .i64 0, .int .i64 0, .int .i64 0, .int .i64 0, .int .i64 0, .int .i64 0, .int .i64 0], .slice none 0 0] 12 (World.laidAll_os _ _ _) (World.shaped_of_ZipB (by kernel_rfl) (by kernel_rfl)) (by kernel_rfl) (by kernel_rfl) (by kernel_rfl) (laid_world os _)) ?_
  · intro ds h
    match ds, h with
    | [d0, d1], _ => rfl
  intro W base args ds p g0 hb
  obtain ⟨v0, _, d0, _, p0, _, rfl, hv0, ht0, hr0, hB0, hb1, g1⟩ := g0.nextUpto hb
  obtain ⟨z0_0, e0_0, r0⟩ := open_agg (B := 1048576) (l := [.int .i64, .int .i64, .int .i64, .int .u32, .int .u32, .bool, .int .i64, .int .u64, .str, .int .u64, .str, .int .i64, .int .u64, .int .i64, .int .i64, .int .i64, .int .i64, .int .i64, .int .i64, .int .i64, .int .i64, .int .i64]) (d := 9) (by kernel_rfl) (by kernel_rfl) hB0 hv0 ht0
  obtain ⟨c0_0, z0_1, rfl, h0_0, e0_1⟩ := e0_0.cons
  obtain ⟨x0_0, rfl, k0_0⟩ := h0_0.inv_int
  obtain ⟨c0_1, z0_2, rfl, h0_1, e0_2⟩ := e0_1.cons
  obtain ⟨x0_1, rfl, k0_1⟩ := h0_1.inv_int
  obtain ⟨c0_2, z0_3, rfl, h0_2, e0_3⟩ := e0_2.cons
  obtain ⟨x0_2, rfl, k0_2⟩ := h0_2.inv_int
  obtain ⟨c0_3, z0_4, rfl, h0_3, e0_4⟩ := e0_3.cons
  obtain ⟨x0_3, rfl, k0_3⟩ := h0_3.inv_int
  obtain ⟨c0_4, z0_5, rfl, h0_4, e0_5⟩ := e0_4.cons
  obtain ⟨x0_4, rfl, k0_4⟩ := h0_4.inv_int
  obtain ⟨c0_5, z0_6, rfl, h0_5, e0_6⟩ := e0_5.cons
  obtain ⟨x0_5, rfl⟩ := h0_5.inv_bool
  obtain ⟨c0_6, z0_7, rfl, h0_6, e0_7⟩ := e0_6.cons
  obtain ⟨x0_6, rfl, k0_6⟩ := h0_6.inv_int
  obtain ⟨c0_7, z0_8, rfl, h0_7, e0_8⟩ := e0_7.cons
  obtain ⟨x0_7, rfl, k0_7⟩ := h0_7.inv_int
  obtain ⟨c0_8, z0_9, rfl, h0_8, e0_9⟩ := e0_8.cons
  obtain ⟨x0_8, rfl, k0_8⟩ := h0_8.inv_str
  obtain ⟨c0_9, z0_10, rfl, h0_9, e0_10⟩ := e0_9.cons
  obtain ⟨x0_9, rfl, k0_9⟩ := h0_9.inv_int
  obtain ⟨c0_10, z0_11, rfl, h0_10, e0_11⟩ := e0_10.cons
  obtain ⟨x0_10, rfl, k0_10⟩ := h0_10.inv_str
  obtain ⟨c0_11, z0_12, rfl, h0_11, e0_12⟩ := e0_11.cons
  obtain ⟨x0_11, rfl, k0_11⟩ := h0_11.inv_int
  obtain ⟨c0_12, z0_13, rfl, h0_12, e0_13⟩ := e0_12.cons
  obtain ⟨x0_12, rfl, k0_12⟩ := h0_12.inv_int
  obtain ⟨c0_13, z0_14, rfl, h0_13, e0_14⟩ := e0_13.cons
  obtain ⟨x0_13, rfl, k0_13⟩ := h0_13.inv_int
  obtain ⟨c0_14, z0_15, rfl, h0_14, e0_15⟩ := e0_14.cons
  obtain ⟨x0_14, rfl, k0_14⟩ := h0_14.inv_int
  obtain ⟨c0_15, z0_16, rfl, h0_15, e0_16⟩ := e0_15.cons
  obtain ⟨x0_15, rfl, k0_15⟩ := h0_15.inv_int
  obtain ⟨c0_16, z0_17, rfl, h0_16, e0_17⟩ := e0_16.cons
  obtain ⟨x0_16, rfl, k0_16⟩ := h0_16.inv_int
  obtain ⟨c0_17, z0_18, rfl, h0_17, e0_18⟩ := e0_17.cons
  obtain ⟨x0_17, rfl, k0_17⟩ := h0_17.inv_int
  obtain ⟨c0_18, z0_19, rfl, h0_18, e0_19⟩ := e0_18.cons
  obtain ⟨x0_18, rfl, k0_18⟩ := h0_18.inv_int
  obtain ⟨c0_19, z0_20, rfl, h0_19, e0_20⟩ := e0_19.cons
  obtain ⟨x0_19, rfl, k0_19⟩ := h0_19.inv_int
  obtain ⟨c0_20, z0_21, rfl, h0_20, e0_21⟩ := e0_20.cons
  obtain ⟨x0_20, rfl, k0_20⟩ := h0_20.inv_int
  obtain ⟨c0_21, z0_22, rfl, h0_21, e0_22⟩ := e0_21.cons
  obtain ⟨x0_21, rfl, k0_21⟩ := h0_21.inv_int
  obtain rfl := e0_22.done
  obtain ⟨v1, _, d1, _, p1, _, rfl, hv1, ht1, hr1, hB1, hb2, g2⟩ := g1.nextUpto hb1
  obtain ⟨c1, h1, r1⟩ := open_one (B := 1048576) (ty := .sl [.int .u8]) (d := 9) (by kernel_rfl) (by kernel_rfl) hB1 hv1 ht1
  obtain ⟨x1, rfl, k1⟩ := h1.inv_sl
  obtain rfl := g2.done
  refine law_of_meets meetsLawIBytes (l := [.agg [.int .i64 x0_0, .int .i64 x0_1, .int .i64 x0_2, .int .u32 x0_3, .int .u32 x0_4, .bool x0_5, .int .i64 x0_6, .int .u64 x0_7, .str x0_8, .int .u64 x0_9, .str x0_10, .int .i64 x0_11, .int .u64 x0_12, .int .i64 x0_13, .int .i64 x0_14, .int .i64 x0_15, .int .i64 x0_16, .int .i64 x0_17, .int .i64 x0_18, .int .i64 x0_19, .int .i64 x0_20, .int .i64 x0_21], .sl x1 .no]) rfl (⟨⟨Nat.le_trans k0_8 (by decide), Nat.le_trans k0_10 (by decide)⟩, h1.bytes, Nat.le_trans h1.len (by decide)⟩) rfl ?_
  intro i v hv
  match i, hv with
  | 0, hv =>
    obtain rfl : AV.agg [.int .i64 x0_0, .int .i64 x0_1, .int .i64 x0_2, .int .u32 x0_3, .int .u32 x0_4, .bool x0_5, .int .i64 x0_6, .int .u64 x0_7, .str x0_8, .int .u64 x0_9, .str x0_10, .int .i64 x0_11, .int .u64 x0_12, .int .i64 x0_13, .int .i64 x0_14, .int .i64 x0_15, .int .i64 x0_16, .int .i64 x0_17, .int .i64 x0_18, .int .i64 x0_19, .int .i64 x0_20, .int .i64 x0_21] = v := by simpa using hv
    exact ⟨_, rfl, r0 _⟩
  | 1, hv =>
    obtain rfl : AV.sl x1 .no = v := by simpa using hv
    exact ⟨_, rfl, r1 _⟩
  | i + 2, hv => simp at hv

/-- The statement. -/
theorem instBytesUpto_holds : Rows.InstBytesUptoSaid :=
  OpenClaim.holds_of_cond 14 Tryd.f14 rfl rfl rfl rfl rfl rfl rfl ⟨rfl, rfl, rfl, rfl, rfl⟩ rfl rfl rfl rfl rfl (by kernel_rfl) Tryd.func14 (by kernel_rfl)
    (of_decide_eq_true (by kernel_rfl)) (by unfold Func.isWrapper; first | (rw [if_pos (by decide +kernel)]; kernel_rfl) | (rw [if_neg (by decide +kernel)]; exact ⟨rfl, rfl⟩))
    (fun os started H enc _ F => instBytes_lift os started H enc F)
#print axioms instBytesUpto_holds

/-- The tied card: the row, with what it lists tied to the program's text. -/
theorem instBytesUpto_card : Rows.InstBytesUptoCardSaid :=
  Claim7.holds_tied_plain_at .later [] [.data, .pinned] true (true, "066d9d54bf7d2b9ace2b560bd54625dac8774d04708ce318f78d0103eb25417e") false instBytesUpto_holds (fun _ h => by cases h) (by kernel_rfl) (fun _ h => by cases h) instBytesUpto_row_tie rfl ⟨rfl, rfl⟩ (by kernel_rfl) rfl
    (fun f fn hf hfn => by
      obtain rfl : f = 14 := Option.some.inj ((show Tryd.prog.funcNamed "moothill/moothilllaw10.InstBytes" = some 14 by kernel_rfl).symm.trans hf) |>.symm
      obtain rfl : fn = Tryd.f14 := (Option.some.inj (Tryd.func14.symm.trans hfn)).symm
      exact ⟨by kernel_rfl, fun j t ht => by
        have hm : t ∈ [44, 33] := by simpa using Array.mem_of_getElem? ht
        have hall : ([44, 33].all fun u => !Tryd.prog.wantsStandIn u) = true := by kernel_rfl
        exact (show Tryd.prog.wantsStandIn t = false by simpa using List.all_eq_true.1 hall t hm)⟩)
    (by kernel_rfl)
#print axioms instBytesUpto_card
end Go.Proofs.YtcokifdgbfbonaaDoor
