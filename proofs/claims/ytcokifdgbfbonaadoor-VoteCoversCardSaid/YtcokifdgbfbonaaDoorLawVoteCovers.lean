/- VoteCovers: who pre-accepts by a ballot says at least what was proposed, and what comes ahead, and keeps it No condition. -/
import Derived.Test.YtcokifdgbfbonaaDoorFrameLaid
import Derived.Test.YtcokifdgbfbonaaDoorLaxOpen
import Derived.Test.YtcokifdgbfbonaaDoorLaxPkVoteL
namespace Go.Proofs.YtcokifdgbfbonaaDoor
open Go.ChangeShapes Go.WideShapes Go.ChangeAt Go.RowKit
open Go.ChangeMaps (open_string shut_string)
set_option linter.unusedVariables false

set_option maxRecDepth 100000 in
theorem voteCovers_lift (os : Os) (started : os.Started) (H : Type) (enc : TypeId × Value → H) :
    ReturnsInHanded {} Tryd.checked os 6 .any (fun w args => (Rows.voteCoversSpec.pre enc Tryd.checked.prog Tryd.f6 [] false w args ∧ laidMetH Tryd.prog laidTables w) ∧ sizedMet enc Tryd.checked.prog Tryd.f6 (OpenSpec.ofChange Rows.voteCoversSpec) false w args) (Rows.voteCoversSpec.post enc Tryd.checked.prog Tryd.f6 false true false false) := by
  refine law_lift_and (X := fun w _ => laidMetH Tryd.prog laidTables w) (fun _ _ _ hh h => h.of_heap hh) [44, 46, 42] os started H enc (by kernel_rfl) Tryd.func6 (by kernel_rfl) (by kernel_rfl) rfl (by kernel_rfl) ?_
    (ChangeSpec.witness_shaped (enc := enc) (C := Tryd.checked) (os := os) (X := fun w _ => laidMetH Tryd.prog laidTables w) false (World.laidAll Tryd.prog os laidTables) #[.agg #[.int .i64 0, .int .i64 0, .int .i64 0, .int .u32 0, .int .u32 0, .bool false, .int .i64 0, .int .u64 0, .string ByteArray.empty, .int .u64 0, .string ByteArray.empty, .int .i64 0, .int .u64 0, .int .i64 0, .int .i64 0, .int .i64 0, .int .i64 0, .int .i64 0, .int .i64 0, .int .i64 0, .int .i64 0, .int .i64 0], .agg #[.int .i64 0, .int .i64 0, .int .i64 0, .int .i64 0, .int .i64 0, .int .u32 0, .bool false, .int .i64 0, .int .i64 0, .int .i64 0, .int .u32 0, .int .u32 0, .bool false, .int .i64 0, .int .u64 0, .string ByteArray.empty, .int .u64 0, .string ByteArray.empty, .int .i64 0, .int .u64 0, .int .i64 0, .int .i64 0, .int .i64 0, .int .i64 0, .int .i64 0, .int .i64 0, .int .i64 0, .int .i64 0, .int .i64 0], .agg #[.int .i64 0, .int .i64 0, .int .i64 0, .int .i64 0, .int .i64 0, .int .i64 0, .int .i64 0, .int .i64 0]] 12 (World.laidAll_os _ _ _) (World.shaped_of_ZipB (by kernel_rfl) (by kernel_rfl)) (by kernel_rfl) (by kernel_rfl) (by kernel_rfl) (laid_world os _)) ?_
  · intro ds h
    match ds, h with
    | [d0, d1, d2], _ => rfl
  intro W base args ds p g0
  obtain ⟨v0, _, d0, _, p0, _, rfl, hv0, ht0, hr0, g1⟩ := g0.next
  obtain ⟨z0_0, e0_0, r0⟩ := open_agg (B := 9223372036854775807) (l := [.int .i64, .int .i64, .int .i64, .int .u32, .int .u32, .bool, .int .i64, .int .u64, .str, .int .u64, .str, .int .i64, .int .u64, .int .i64, .int .i64, .int .i64, .int .i64, .int .i64, .int .i64, .int .i64, .int .i64, .int .i64]) (d := 9) (by kernel_rfl) (by kernel_rfl) (.inl (Nat.le_refl _)) hv0 ht0
  obtain ⟨c0_0, z0_1, rfl, h0_0, e0_1⟩ := e0_0.cons
  obtain ⟨x0_0, rfl, k0_0⟩ := h0_0.inv_int
  obtain ⟨c0_1, z0_2, rfl, h0_1, e0_2⟩ := e0_1.cons
  obtain ⟨x0_1, rfl, k0_1⟩ := h0_1.inv_int
  obtain ⟨c0_2, z0_3, rfl, h0_2, e0_3⟩ := e0_2.cons
  obtain ⟨x0_2, rfl, k0_2⟩ := h0_2.inv_int
  obtain ⟨c0_3, z0_4, rfl, h0_3, e0_4⟩ := e0_3.cons
  obtain ⟨x0_3, rfl, k0_3⟩ := h0_3.inv_int
  obtain ⟨c0_4, z0_5, rfl, h0_4, e0_5⟩ := e0_4.cons
  obtain ⟨x0_4, rfl, k0_4⟩ := h0_4.inv_int
  obtain ⟨c0_5, z0_6, rfl, h0_5, e0_6⟩ := e0_5.cons
  obtain ⟨x0_5, rfl⟩ := h0_5.inv_bool
  obtain ⟨c0_6, z0_7, rfl, h0_6, e0_7⟩ := e0_6.cons
  obtain ⟨x0_6, rfl, k0_6⟩ := h0_6.inv_int
  obtain ⟨c0_7, z0_8, rfl, h0_7, e0_8⟩ := e0_7.cons
  obtain ⟨x0_7, rfl, k0_7⟩ := h0_7.inv_int
  obtain ⟨c0_8, z0_9, rfl, h0_8, e0_9⟩ := e0_8.cons
  obtain ⟨x0_8, rfl, k0_8⟩ := h0_8.inv_str
  obtain ⟨c0_9, z0_10, rfl, h0_9, e0_10⟩ := e0_9.cons
  obtain ⟨x0_9, rfl, k0_9⟩ := h0_9.inv_int
  obtain ⟨c0_10, z0_11, rfl, h0_10, e0_11⟩ := e0_10.cons
  obtain ⟨x0_10, rfl, k0_10⟩ := h0_10.inv_str
  obtain ⟨c0_11, z0_12, rfl, h0_11, e0_12⟩ := e0_11.cons
  obtain ⟨x0_11, rfl, k0_11⟩ := h0_11.inv_int
  obtain ⟨c0_12, z0_13, rfl, h0_12, e0_13⟩ := e0_12.cons
  obtain ⟨x0_12, rfl, k0_12⟩ := h0_12.inv_int
  obtain ⟨c0_13, z0_14, rfl, h0_13, e0_14⟩ := e0_13.cons
  obtain ⟨x0_13, rfl, k0_13⟩ := h0_13.inv_int
  obtain ⟨c0_14, z0_15, rfl, h0_14, e0_15⟩ := e0_14.cons
  obtain ⟨x0_14, rfl, k0_14⟩ := h0_14.inv_int
  obtain ⟨c0_15, z0_16, rfl, h0_15, e0_16⟩ := e0_15.cons
  obtain ⟨x0_15, rfl, k0_15⟩ := h0_15.inv_int
  obtain ⟨c0_16, z0_17, rfl, h0_16, e0_17⟩ := e0_16.cons
  obtain ⟨x0_16, rfl, k0_16⟩ := h0_16.inv_int
  obtain ⟨c0_17, z0_18, rfl, h0_17, e0_18⟩ := e0_17.cons
  obtain ⟨x0_17, rfl, k0_17⟩ := h0_17.inv_int
  obtain ⟨c0_18, z0_19, rfl, h0_18, e0_19⟩ := e0_18.cons
  obtain ⟨x0_18, rfl, k0_18⟩ := h0_18.inv_int
  obtain ⟨c0_19, z0_20, rfl, h0_19, e0_20⟩ := e0_19.cons
  obtain ⟨x0_19, rfl, k0_19⟩ := h0_19.inv_int
  obtain ⟨c0_20, z0_21, rfl, h0_20, e0_21⟩ := e0_20.cons
  obtain ⟨x0_20, rfl, k0_20⟩ := h0_20.inv_int
  obtain ⟨c0_21, z0_22, rfl, h0_21, e0_22⟩ := e0_21.cons
  obtain ⟨x0_21, rfl, k0_21⟩ := h0_21.inv_int
  obtain rfl := e0_22.done
  obtain ⟨v1, _, d1, _, p1, _, rfl, hv1, ht1, hr1, g2⟩ := g1.next
  obtain ⟨z1_0, e1_0, r1⟩ := open_agg (B := 9223372036854775807) (l := [.int .i64, .int .i64, .int .i64, .int .i64, .int .i64, .int .u32, .bool, .int .i64, .int .i64, .int .i64, .int .u32, .int .u32, .bool, .int .i64, .int .u64, .str, .int .u64, .str, .int .i64, .int .u64, .int .i64, .int .i64, .int .i64, .int .i64, .int .i64, .int .i64, .int .i64, .int .i64, .int .i64]) (d := 9) (by kernel_rfl) (by kernel_rfl) (.inl (Nat.le_refl _)) hv1 ht1
  obtain ⟨c1_0, z1_1, rfl, h1_0, e1_1⟩ := e1_0.cons
  obtain ⟨x1_0, rfl, k1_0⟩ := h1_0.inv_int
  obtain ⟨c1_1, z1_2, rfl, h1_1, e1_2⟩ := e1_1.cons
  obtain ⟨x1_1, rfl, k1_1⟩ := h1_1.inv_int
  obtain ⟨c1_2, z1_3, rfl, h1_2, e1_3⟩ := e1_2.cons
  obtain ⟨x1_2, rfl, k1_2⟩ := h1_2.inv_int
  obtain ⟨c1_3, z1_4, rfl, h1_3, e1_4⟩ := e1_3.cons
  obtain ⟨x1_3, rfl, k1_3⟩ := h1_3.inv_int
  obtain ⟨c1_4, z1_5, rfl, h1_4, e1_5⟩ := e1_4.cons
  obtain ⟨x1_4, rfl, k1_4⟩ := h1_4.inv_int
  obtain ⟨c1_5, z1_6, rfl, h1_5, e1_6⟩ := e1_5.cons
  obtain ⟨x1_5, rfl, k1_5⟩ := h1_5.inv_int
  obtain ⟨c1_6, z1_7, rfl, h1_6, e1_7⟩ := e1_6.cons
  obtain ⟨x1_6, rfl⟩ := h1_6.inv_bool
  obtain ⟨c1_7, z1_8, rfl, h1_7, e1_8⟩ := e1_7.cons
  obtain ⟨x1_7, rfl, k1_7⟩ := h1_7.inv_int
  obtain ⟨c1_8, z1_9, rfl, h1_8, e1_9⟩ := e1_8.cons
  obtain ⟨x1_8, rfl, k1_8⟩ := h1_8.inv_int
  obtain ⟨c1_9, z1_10, rfl, h1_9, e1_10⟩ := e1_9.cons
  obtain ⟨x1_9, rfl, k1_9⟩ := h1_9.inv_int
  obtain ⟨c1_10, z1_11, rfl, h1_10, e1_11⟩ := e1_10.cons
  obtain ⟨x1_10, rfl, k1_10⟩ := h1_10.inv_int
  obtain ⟨c1_11, z1_12, rfl, h1_11, e1_12⟩ := e1_11.cons
  obtain ⟨x1_11, rfl, k1_11⟩ := h1_11.inv_int
  obtain ⟨c1_12, z1_13, rfl, h1_12, e1_13⟩ := e1_12.cons
  obtain ⟨x1_12, rfl⟩ := h1_12.inv_bool
  obtain ⟨c1_13, z1_14, rfl, h1_13, e1_14⟩ := e1_13.cons
  obtain ⟨x1_13, rfl, k1_13⟩ := h1_13.inv_int
  obtain ⟨c1_14, z1_15, rfl, h1_14, e1_15⟩ := e1_14.cons
  obtain ⟨x1_14, rfl, k1_14⟩ := h1_14.inv_int
  obtain ⟨c1_15, z1_16, rfl, h1_15, e1_16⟩ := e1_15.cons
  obtain ⟨x1_15, rfl, k1_15⟩ := h1_15.inv_str
  obtain ⟨c1_16, z1_17, rfl, h1_16, e1_17⟩ := e1_16.cons
  obtain ⟨x1_16, rfl, k1_16⟩ := h1_16.inv_int
  obtain ⟨c1_17, z1_18, rfl, h1_17, e1_18⟩ := e1_17.cons
  obtain ⟨x1_17, rfl, k1_17⟩ := h1_17.inv_str
  obtain ⟨c1_18, z1_19, rfl, h1_18, e1_19⟩ := e1_18.cons
  obtain ⟨x1_18, rfl, k1_18⟩ := h1_18.inv_int
  obtain ⟨c1_19, z1_20, rfl, h1_19, e1_20⟩ := e1_19.cons
  obtain ⟨x1_19, rfl, k1_19⟩ := h1_19.inv_int
  obtain ⟨c1_20, z1_21, rfl, h1_20, e1_21⟩ := e1_20.cons
  obtain ⟨x1_20, rfl, k1_20⟩ := h1_20.inv_int
  obtain ⟨c1_21, z1_22, rfl, h1_21, e1_22⟩ := e1_21.cons
  obtain ⟨x1_21, rfl, k1_21⟩ := h1_21.inv_int
  obtain ⟨c1_22, z1_23, rfl, h1_22, e1_23⟩ := e1_22.cons
  obtain ⟨x1_22, rfl, k1_22⟩ := h1_22.inv_int
  obtain ⟨c1_23, z1_24, rfl, h1_23, e1_24⟩ := e1_23.cons
  obtain ⟨x1_23, rfl, k1_23⟩ := h1_23.inv_int
  obtain ⟨c1_24, z1_25, rfl, h1_24, e1_25⟩ := e1_24.cons
  obtain ⟨x1_24, rfl, k1_24⟩ := h1_24.inv_int
  obtain ⟨c1_25, z1_26, rfl, h1_25, e1_26⟩ := e1_25.cons
  obtain ⟨x1_25, rfl, k1_25⟩ := h1_25.inv_int
  obtain ⟨c1_26, z1_27, rfl, h1_26, e1_27⟩ := e1_26.cons
  obtain ⟨x1_26, rfl, k1_26⟩ := h1_26.inv_int
  obtain ⟨c1_27, z1_28, rfl, h1_27, e1_28⟩ := e1_27.cons
  obtain ⟨x1_27, rfl, k1_27⟩ := h1_27.inv_int
  obtain ⟨c1_28, z1_29, rfl, h1_28, e1_29⟩ := e1_28.cons
  obtain ⟨x1_28, rfl, k1_28⟩ := h1_28.inv_int
  obtain rfl := e1_29.done
  obtain ⟨v2, _, d2, _, p2, _, rfl, hv2, ht2, hr2, g3⟩ := g2.next
  obtain ⟨z2_0, e2_0, r2⟩ := open_agg (B := 9223372036854775807) (l := [.int .i64, .int .i64, .int .i64, .int .i64, .int .i64, .int .i64, .int .i64, .int .i64]) (d := 9) (by kernel_rfl) (by kernel_rfl) (.inl (Nat.le_refl _)) hv2 ht2
  obtain ⟨c2_0, z2_1, rfl, h2_0, e2_1⟩ := e2_0.cons
  obtain ⟨x2_0, rfl, k2_0⟩ := h2_0.inv_int
  obtain ⟨c2_1, z2_2, rfl, h2_1, e2_2⟩ := e2_1.cons
  obtain ⟨x2_1, rfl, k2_1⟩ := h2_1.inv_int
  obtain ⟨c2_2, z2_3, rfl, h2_2, e2_3⟩ := e2_2.cons
  obtain ⟨x2_2, rfl, k2_2⟩ := h2_2.inv_int
  obtain ⟨c2_3, z2_4, rfl, h2_3, e2_4⟩ := e2_3.cons
  obtain ⟨x2_3, rfl, k2_3⟩ := h2_3.inv_int
  obtain ⟨c2_4, z2_5, rfl, h2_4, e2_5⟩ := e2_4.cons
  obtain ⟨x2_4, rfl, k2_4⟩ := h2_4.inv_int
  obtain ⟨c2_5, z2_6, rfl, h2_5, e2_6⟩ := e2_5.cons
  obtain ⟨x2_5, rfl, k2_5⟩ := h2_5.inv_int
  obtain ⟨c2_6, z2_7, rfl, h2_6, e2_7⟩ := e2_6.cons
  obtain ⟨x2_6, rfl, k2_6⟩ := h2_6.inv_int
  obtain ⟨c2_7, z2_8, rfl, h2_7, e2_8⟩ := e2_7.cons
  obtain ⟨x2_7, rfl, k2_7⟩ := h2_7.inv_int
  obtain rfl := e2_8.done
  obtain rfl := g3.done
  refine law_of_meets meetsLawCovers (l := [.agg [.int .i64 x0_0, .int .i64 x0_1, .int .i64 x0_2, .int .u32 x0_3, .int .u32 x0_4, .bool x0_5, .int .i64 x0_6, .int .u64 x0_7, .str x0_8, .int .u64 x0_9, .str x0_10, .int .i64 x0_11, .int .u64 x0_12, .int .i64 x0_13, .int .i64 x0_14, .int .i64 x0_15, .int .i64 x0_16, .int .i64 x0_17, .int .i64 x0_18, .int .i64 x0_19, .int .i64 x0_20, .int .i64 x0_21], .agg [.int .i64 x1_0, .int .i64 x1_1, .int .i64 x1_2, .int .i64 x1_3, .int .i64 x1_4, .int .u32 x1_5, .bool x1_6, .int .i64 x1_7, .int .i64 x1_8, .int .i64 x1_9, .int .u32 x1_10, .int .u32 x1_11, .bool x1_12, .int .i64 x1_13, .int .u64 x1_14, .str x1_15, .int .u64 x1_16, .str x1_17, .int .i64 x1_18, .int .u64 x1_19, .int .i64 x1_20, .int .i64 x1_21, .int .i64 x1_22, .int .i64 x1_23, .int .i64 x1_24, .int .i64 x1_25, .int .i64 x1_26, .int .i64 x1_27, .int .i64 x1_28], .agg [.int .i64 x2_0, .int .i64 x2_1, .int .i64 x2_2, .int .i64 x2_3, .int .i64 x2_4, .int .i64 x2_5, .int .i64 x2_6, .int .i64 x2_7]]) rfl (⟨⟨k0_8, k0_10⟩, ⟨k1_15, k1_17⟩⟩) rfl ?_
  intro i v hv
  match i, hv with
  | 0, hv =>
    obtain rfl : AV.agg [.int .i64 x0_0, .int .i64 x0_1, .int .i64 x0_2, .int .u32 x0_3, .int .u32 x0_4, .bool x0_5, .int .i64 x0_6, .int .u64 x0_7, .str x0_8, .int .u64 x0_9, .str x0_10, .int .i64 x0_11, .int .u64 x0_12, .int .i64 x0_13, .int .i64 x0_14, .int .i64 x0_15, .int .i64 x0_16, .int .i64 x0_17, .int .i64 x0_18, .int .i64 x0_19, .int .i64 x0_20, .int .i64 x0_21] = v := by simpa using hv
    exact ⟨_, rfl, r0 _⟩
  | 1, hv =>
    obtain rfl : AV.agg [.int .i64 x1_0, .int .i64 x1_1, .int .i64 x1_2, .int .i64 x1_3, .int .i64 x1_4, .int .u32 x1_5, .bool x1_6, .int .i64 x1_7, .int .i64 x1_8, .int .i64 x1_9, .int .u32 x1_10, .int .u32 x1_11, .bool x1_12, .int .i64 x1_13, .int .u64 x1_14, .str x1_15, .int .u64 x1_16, .str x1_17, .int .i64 x1_18, .int .u64 x1_19, .int .i64 x1_20, .int .i64 x1_21, .int .i64 x1_22, .int .i64 x1_23, .int .i64 x1_24, .int .i64 x1_25, .int .i64 x1_26, .int .i64 x1_27, .int .i64 x1_28] = v := by simpa using hv
    exact ⟨_, rfl, r1 _⟩
  | 2, hv =>
    obtain rfl : AV.agg [.int .i64 x2_0, .int .i64 x2_1, .int .i64 x2_2, .int .i64 x2_3, .int .i64 x2_4, .int .i64 x2_5, .int .i64 x2_6, .int .i64 x2_7] = v := by simpa using hv
    exact ⟨_, rfl, r2 _⟩
  | i + 3, hv => simp at hv

/-- The statement. -/
theorem voteCovers_holds : Rows.VoteCoversSaid :=
  OpenClaim.holds_of_wide 6 Tryd.f6 rfl rfl rfl rfl rfl rfl rfl ⟨rfl, rfl, rfl, rfl, rfl⟩ rfl rfl rfl rfl rfl (by kernel_rfl) Tryd.func6 (by kernel_rfl)
    (of_decide_eq_true (by kernel_rfl)) (by unfold Func.isWrapper; first | (rw [if_pos (by decide +kernel)]; kernel_rfl) | (rw [if_neg (by decide +kernel)]; exact ⟨rfl, rfl⟩))
    (fun os started H enc _ => voteCovers_lift os started H enc)
#print axioms voteCovers_holds

/-- The tied card: the row, with what it lists tied to the program's text. -/
theorem voteCovers_card : Rows.VoteCoversCardSaid :=
  Claim7.holds_tied_plain_at .later [] [.data, .pinned] true (true, "066d9d54bf7d2b9ace2b560bd54625dac8774d04708ce318f78d0103eb25417e") false voteCovers_holds (fun _ h => by cases h) (by kernel_rfl) (fun _ h => by cases h) voteCovers_row_tie rfl ⟨rfl, rfl⟩ (by kernel_rfl) rfl
    (fun f fn hf hfn => by
      obtain rfl : f = 6 := Option.some.inj ((show Tryd.prog.funcNamed "moothill/moothilllaw22.VoteCovers" = some 6 by kernel_rfl).symm.trans hf) |>.symm
      obtain rfl : fn = Tryd.f6 := (Option.some.inj (Tryd.func6.symm.trans hfn)).symm
      exact ⟨by kernel_rfl, fun j t ht => by
        have hm : t ∈ [44, 46, 42] := by simpa using Array.mem_of_getElem? ht
        have hall : ([44, 46, 42].all fun u => !Tryd.prog.wantsStandIn u) = true := by kernel_rfl
        exact (show Tryd.prog.wantsStandIn t = false by simpa using List.all_eq_true.1 hall t hm)⟩)
    (by kernel_rfl)
#print axioms voteCovers_card
end Go.Proofs.YtcokifdgbfbonaaDoor
