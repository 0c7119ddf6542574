/- Contracts by content, their conditions, and that they are met: VoteL. -/
import Derived.Test.YtddilmocngedjaaDoorLaxPkVoteA
/- Contracts by content, and the conditions that their code must meet. -/
namespace Go.Proofs.YtddilmocngedjaaDoor
set_option linter.unusedVariables false
set_option linter.unusedSimpArgs false
open Go.RowKit
def anchor22F : Con
  | [] => (some (True, ⟨.bool true, none, none⟩))
  | _ => none
def gamAnchor22 : List (Nat × Con) := [(42, inewF.orNil), (43, askF.orNil), (25, voteF.orNil)]
def lpAnchor220  : Nat → Option LoopPlan := fun _ => none
def inAnchor220  : Prop := awp [] (lpAnchor220) (lookΓ gamAnchor22) Tryd.prog Tryd.f20.ntmps 0 (Tryd.f20.body.getD .skip) (entrySt []) (exitQ Tryd.prog Tryd.f20.results.toList [] ⟨.bool true, none, none⟩)
def OkAnchor220 : Prop := True → inAnchor220
def small22F : Con
  | [.val (.agg zcx)] => (match instOf zcx with | some x => some (maxX x, ⟨.bool (smallB x 100), none, none⟩) | _ => none)
  | _ => none
def gamSmall22 : List (Nat × Con) := []
def lpSmall220 (x : InstP) : Nat → Option LoopPlan := fun _ => none
def inSmall220 (x : InstP) : Prop := awp [] (lpSmall220 x) (lookΓ gamSmall22) Tryd.prog Tryd.f21.ntmps 0 (Tryd.f21.body.getD .skip) (entrySt [.val (.agg (instL x))]) (exitQ Tryd.prog Tryd.f21.results.toList [] ⟨.bool (smallB x 100), none, none⟩)
def OkSmall220 : Prop := ∀ (x : InstP), maxX x → inSmall220 x
end Go.Proofs.YtddilmocngedjaaDoor
/- What the verification conditions come to: printed by a program of ours (wip/lax/ex/Norm.lean). -/
namespace Go.Proofs.YtddilmocngedjaaDoor
set_option linter.unusedVariables false
open Go.RowKit
set_option maxRecDepth 100000
theorem vcAnchor220 (h : (tt ∧ T1 ∧ tt ∧ T1 ∧ (T1 ∧ True) ∧ T1 ∧ tt ∧ tt ∧ tt ∧ tt ∧ (T1 ∧ True) ∧ T1 ∧ (T1 ∧ (smallX (InstP.mk 0 0 0 0 0 false (CmdP.mk 0 0 [] 0 [] 0 0 0) (AttP.mk 0 0 0 0 0 0 0 0)))) ∧ T1 ∧ T1 ∧ T1 ∧ T1 ∧ T1 ∧ T1 ∧ tt ∧ tt ∧ T1 ∧ tt ∧ tt ∧ tt ∧ T1 ∧ (T1 ∧ True) ∧ T1 ∧ (T1 ∧ (smallX (InstP.mk 0 0 2 9 9 false (CmdP.mk 0 0 [] 0 [] 0 0 0) (AttP.mk 0 0 0 0 0 0 0 0)))) ∧ T1 ∧ T1 ∧ T1 ∧ T1 ∧ T1 ∧ T1 ∧ tt ∧ tt ∧ T1 ∧ tt ∧ tt ∧ T1 ∧ tt ∧ T1 ∧ T1 ∧ T1 ∧ T1 ∧ T1 ∧ T1 ∧ tt ∧ T1 ∧ T1 ∧ T1 ∧ T1 ∧ T1 ∧ T1 ∧ tt ∧ T1 ∧ T1 ∧ T1 ∧ T1 ∧ tt ∧ T1 ∧ T1 ∧ T1 ∧ tt ∧ tt ∧ (tt ∧ True) ∧ tt)) : inAnchor220 :=
  Eq.mp (show _ = _ by kernel_rfl) h
theorem vcSmall220 (x : InstP) (h : (tt ∧ T1 ∧ T1 ∧ tt ∧ T1 ∧ T1 ∧ tt ∧ T1 ∧ T1 ∧ T1 ∧ (bif (decide (((List.length x.c.path) : Int) < 100)) then (T1 ∧ T1 ∧ T1 ∧ tt ∧ T1 ∧ T1 ∧ T1 ∧ T1 ∧ tt ∧ tt ∧ ((smallB x 100) = (decide (((List.length x.c.foot) : Int) < 100)) ∧ True) ∧ tt) else (false = false ∧ T1 ∧ tt ∧ tt ∧ ((smallB x 100) = false ∧ True) ∧ tt)))) : inSmall220 x :=
  Eq.mp (show _ = _ by kernel_rfl) h
end Go.Proofs.YtddilmocngedjaaDoor
/- The conditions hold: a vote covers what was proposed, and is told again alike. -/
namespace Go.Proofs.YtddilmocngedjaaDoor
set_option linter.unusedVariables false
set_option linter.unusedSimpArgs false
open Go.RowKit
set_option maxRecDepth 100000

theorem eqI_iff {x y : InstP} : eqI x y = true ↔ x = y := by
  obtain ⟨a1, a2, a3, a4, a5, a6, ⟨b1, b2, b3, b4, b5, b6, b7, b8⟩, ⟨c1, c2, c3, c4, c5, c6, c7, c8⟩⟩ := x
  obtain ⟨a1', a2', a3', a4', a5', a6', ⟨b1', b2', b3', b4', b5', b6', b7', b8'⟩, ⟨c1', c2', c3', c4', c5', c6', c7', c8'⟩⟩ := y
  simp [eqI, instL, sameCells, AV.same, and_assoc]
theorem rightI_some {x : InstP} (h : rightI x = true) (h0 : x.st ≠ 0) : ownsI x = true ∧ rightC x.c = true := by
  unfold rightI at h
  rw [if_neg h0] at h
  split at h
  · split at h
    · simp at h
    · simp at h; exact ⟨h.2, h.1⟩
  · simp at h
theorem rightM_ask {m : MsgP} (h : rightM m = true) (ha : asksK m.k = true) : m.ok = false ∧ m.x = valueI m.k m.b m.x ∧ rightI m.x = true ∧ m.x.r = m.r ∧ m.x.sl = m.s ∧ rightId m.r m.s = true := by
  have h6 : ¬ m.k = 6 := by intro h6; rw [h6] at ha; simp [asksK] at ha
  unfold rightM at h
  rw [if_neg h6] at h
  split at h
  · rename_i hc
    split at h
    · rename_i hd
      simp [ha] at h
      exact ⟨h.1, eqI_iff.1 h.2, hd.1, hd.2.1, hd.2.2, hc.2.2.2.2.2.1⟩
    · simp at h
  · simp at h
theorem votes_iff {x : InstP} {m : MsgP} : votes x m = true ↔ rightM m = true ∧ askedK m.k = true ∧ (m.r = x.r ∧ m.s = x.sl) ∧ speaksM m = true := by
  simp [votes, and_assoc]
theorem le_mx1 (a b : Int) : a ≤ mx a b := by unfold mx; split <;> omega
theorem le_mx2 (a b : Int) : b ≤ mx a b := by unfold mx; split <;> omega
theorem le_ow {j r n d h s : Int} (hs : r = j → s = d) (hn : s = n) : d ≤ ow j r n (mx d h) := by
  unfold ow
  split
  · rename_i hc; have := hs hc.2; omega
  · exact le_mx1 _ _
theorem ow_le {j r n d h : Int} : ow j r n h ≤ ow j r n (mx d h) := by
  unfold ow
  split
  · omega
  · exact le_mx2 _ _
theorem within_own {a h : AttP} {r n : Int} (hs : sel r a.d0 a.d1 a.d2 a.d3 a.d4 a.d5 a.d6 = n) :
    withinP a (ownP (mergeP a h) r n) = true ∧ withinP (ownP h r n) (ownP (mergeP a h) r n) = true := by
  unfold withinP withinB ownP mergeP
  simp only [Bool.and_eq_true, decide_eq_true_eq]
  refine ⟨⟨⟨⟨⟨⟨⟨⟨le_mx1 _ _, le_ow ?_ hs⟩, le_ow ?_ hs⟩, le_ow ?_ hs⟩, le_ow ?_ hs⟩, le_ow ?_ hs⟩, le_ow ?_ hs⟩, le_ow ?_ hs⟩, ⟨⟨⟨⟨⟨⟨⟨le_mx2 _ _, ow_le⟩, ow_le⟩, ow_le⟩, ow_le⟩, ow_le⟩, ow_le⟩, ow_le⟩⟩
  all_goals (rintro rfl; rfl)
theorem vote_new {x : InstP} {m : MsgP} {ah : AttP} (hr : rightM m = true) (hk : m.k = 1) (ht : voteT x m = true) (ho : (voteR x m ah).ok = true) (hx : voteX x m ah ≠ x) :
    voteR x m ah = replyM m true (voteX x m ah) ∧ voteX x m ah = ⟨x.r, x.sl, 1, m.b, m.b, decide (m.b = 0) && eqA (preA x m ah) m.x.a, m.x.c, preA x m ah⟩ ∧
      withinP m.x.a (preA x m ah) = true ∧ withinP (ownP ah x.r x.sl) (preA x m ah) = true := by
  have hv : ¬ votes x m = false := by intro h; unfold voteT at ht; rw [if_pos h] at ht; simp at ht
  have h5 : ¬ m.k = 5 := by omega
  have h3 : ¬ x.st = 3 := by intro h; unfold voteR at ho; rw [if_neg hv, if_neg h5, if_pos h] at ho; simp [askM] at ho
  have hb : ¬ m.b < x.bal := by intro h; unfold voteR at ho; rw [if_neg hv, if_neg h5, if_neg h3, if_pos h] at ho; simp [replyM] at ho
  have e1 : voteX x m ah = preX x m ah := by unfold voteX; rw [if_neg hv, if_neg h5, if_neg h3, if_neg hb, if_pos hk]
  have e2 : voteR x m ah = replyM m true (voteX x m ah) := by unfold voteR; rw [if_neg hv, if_neg h5, if_neg h3, if_neg hb, if_pos ht]
  have hc : ¬ (x.st ≠ 0 ∧ x.vote = m.b) := by intro h; exact hx (e1.trans (if_pos h))
  have e3 : preX x m ah = ⟨x.r, x.sl, 1, m.b, m.b, decide (m.b = 0) && eqA (preA x m ah) m.x.a, m.x.c, preA x m ah⟩ := if_neg hc
  have hv' := votes_iff.1 (by simpa using hv : votes x m = true)
  obtain ⟨a1, a2, a3, a4, a5, a6⟩ := rightM_ask hr (by simp [asksK, hk])
  have hst : m.x.st = 1 := by rw [a2, hk]; rfl
  have ho := (rightI_some a3 (by omega)).1
  have hsel : sel x.r m.x.a.d0 m.x.a.d1 m.x.a.d2 m.x.a.d3 m.x.a.d4 m.x.a.d5 m.x.a.d6 = x.sl := by
    unfold ownsI ownsB at ho
    simp only [Bool.and_eq_true, decide_eq_true_eq] at ho
    have := ho.2
    rw [a4, a5, hv'.2.2.1.1, hv'.2.2.1.2] at this
    exact this
  exact ⟨e2, e1.trans e3, within_own hsel⟩
theorem okSmall220 : OkSmall220 := by
  intro x hq
  refine vcSmall220 x ?_
  simp only [true_and, and_true, forall_eq, eq_self]
  refine cond_prop (fun h => ?_) fun h => ?_
  all_goals (unfold smallB; rw [Bool.eq_iff_iff]; simp at h ⊢; omega)
theorem okAnchor220 : OkAnchor220 := by
  intro hq
  refine vcAnchor220 ?_
  simp [smallX]
theorem small_of {x : InstP} {m : Nat} (h : (!smallB x m) = false) (hm : m ≤ 200) : smallX x := by
  simp [smallB] at h; unfold smallX; omega
theorem vote_again {x : InstP} {m : MsgP} {ah al : AttP} : voteX (voteX x m ah) m al = voteX x m ah ∧ voteT (voteX x m ah) m = voteT x m ∧ voteR (voteX x m ah) m al = voteR x m ah := by
  by_cases hv : votes x m = false
  · have e : voteX x m ah = x := if_pos hv
    rw [e]
    refine ⟨if_pos hv, rfl, ?_⟩
    unfold voteR; rw [if_pos hv, if_pos hv]
  have hv' := votes_iff.1 (by simpa using hv : votes x m = true)
  have same : ∀ y : InstP, y.r = x.r → y.sl = x.sl → ¬ votes y m = false := by
    intro y h1 h2
    have : votes y m = votes x m := by unfold votes; rw [h1, h2]
    rw [this]; exact hv
  by_cases h5 : m.k = 5
  · have e : voteX x m ah = commitX x m := by unfold voteX; rw [if_neg hv, if_pos h5]
    have t : voteT x m = false := by unfold voteT; rw [if_neg hv, if_pos h5]
    have r : voteR x m ah = zM := by unfold voteR; rw [if_neg hv, if_pos h5]
    obtain ⟨a1, a2, a3, a4, a5, a6⟩ := rightM_ask hv'.1 (by simp [asksK, h5])
    have hst : (commitX x m).st = 3 ∧ (commitX x m).r = x.r ∧ (commitX x m).sl = x.sl := by
      unfold commitX
      split
      · rename_i h; exact ⟨h, rfl, rfl⟩
      · refine ⟨?_, a4.trans hv'.2.2.1.1, a5.trans hv'.2.2.1.2⟩
        show m.x.st = 3
        rw [a2, h5]; rfl
    have hn := same (commitX x m) hst.2.1 hst.2.2
    rw [e, t, r]
    refine ⟨?_, ?_, ?_⟩
    · unfold voteX; rw [if_neg hn, if_pos h5]
      exact if_pos hst.1
    · unfold voteT; rw [if_neg hn, if_pos h5]
    · unfold voteR; rw [if_neg hn, if_pos h5]
  by_cases h3 : x.st = 3
  · have e : voteX x m ah = x := by unfold voteX; rw [if_neg hv, if_neg h5, if_pos h3]
    rw [e]
    refine ⟨by unfold voteX; rw [if_neg hv, if_neg h5, if_pos h3], rfl, ?_⟩
    unfold voteR; rw [if_neg hv, if_neg h5, if_pos h3, if_neg hv, if_neg h5, if_pos h3]
  by_cases hb : m.b < x.bal
  · have e : voteX x m ah = x := by unfold voteX; rw [if_neg hv, if_neg h5, if_neg h3, if_pos hb]
    rw [e]
    refine ⟨by unfold voteX; rw [if_neg hv, if_neg h5, if_neg h3, if_pos hb], rfl, ?_⟩
    unfold voteR; rw [if_neg hv, if_neg h5, if_neg h3, if_pos hb, if_neg hv, if_neg h5, if_neg h3, if_pos hb]
  have go : ∀ (y : InstP) (a : AttP), ¬ votes y m = false → ¬ y.st = 3 → ¬ m.b < y.bal → voteX y m a = (if m.k = 1 then preX y m a else if m.k = 3 then acceptX y m else { y with bal := m.b }) ∧ voteT y m = (if m.k = 1 then preOK y m else true) ∧ voteR y m a = (if voteT y m then replyM m true (voteX y m a) else zM) := by
    intro y a g1 g2 g3
    refine ⟨?_, ?_, ?_⟩
    · unfold voteX; rw [if_neg g1, if_neg h5, if_neg g2, if_neg g3]
    · unfold voteT; rw [if_neg g1, if_neg h5, if_neg g2, if_neg g3]
    · unfold voteR; rw [if_neg g1, if_neg h5, if_neg g2, if_neg g3]
  obtain ⟨x1, x2, x3⟩ := go x ah hv h3 hb
  -- it is enough that the state that came answers alike
  have fin : ∀ y : InstP, voteX x m ah = y → y.r = x.r → y.sl = x.sl → ¬ y.st = 3 → ¬ m.b < y.bal → (if m.k = 1 then preX y m al else if m.k = 3 then acceptX y m else { y with bal := m.b }) = y → (if m.k = 1 then preOK y m else true) = voteT x m →
      voteX (voteX x m ah) m al = voteX x m ah ∧ voteT (voteX x m ah) m = voteT x m ∧ voteR (voteX x m ah) m al = voteR x m ah := by
    intro y hy h1 h2 g2 g3 g4 g5
    obtain ⟨y1, y2, y3⟩ := go y al (same y h1 h2) g2 g3
    rw [hy] at x3 ⊢
    rw [g4] at y1
    rw [g5] at y2
    refine ⟨y1, y2, ?_⟩
    rw [y3, x3, y1, y2]
  by_cases k1 : m.k = 1
  · rw [if_pos k1] at x1 x2
    by_cases hc : x.st ≠ 0 ∧ x.vote = m.b
    · have e : preX x m ah = x := if_pos hc
      refine fin x (x1.trans e) rfl rfl h3 hb ?_ ?_
      · rw [if_pos k1]; exact if_pos hc
      · rw [if_pos k1, x2]
    · have e : preX x m ah = ⟨x.r, x.sl, 1, m.b, m.b, decide (m.b = 0) && eqA (preA x m ah) m.x.a, m.x.c, preA x m ah⟩ := if_neg hc
      refine fin _ (x1.trans e) rfl rfl (by simp) (by simp) ?_ ?_
      · rw [if_pos k1]; exact if_pos ⟨by simp, rfl⟩
      · rw [if_pos k1, x2]
        have e1 : preOK x m = true := if_neg hc
        rw [e1]
        exact (if_pos ⟨by simp, rfl⟩ : preOK _ m = _).trans (by simp)
  by_cases k3 : m.k = 3
  · rw [if_neg k1, if_pos k3] at x1
    rw [if_neg k1] at x2
    by_cases hc : x.st = 2 ∧ x.vote = m.b
    · have e : acceptX x m = x := if_pos hc
      refine fin x (x1.trans e) rfl rfl h3 hb ?_ ?_
      · rw [if_neg k1, if_pos k3]; exact if_pos hc
      · rw [if_neg k1, x2]
    · have e : acceptX x m = m.x := if_neg hc
      obtain ⟨a1, a2, a3, a4, a5, a6⟩ := rightM_ask hv'.1 (by simp [asksK, k3])
      have s2 : m.x.st = 2 := by rw [a2, k3]; rfl
      have sv : m.x.vote = m.b := by rw [a2]; rfl
      have sb : m.x.bal = m.b := by rw [a2]; rfl
      refine fin m.x (x1.trans e) (a4.trans hv'.2.2.1.1) (a5.trans hv'.2.2.1.2) (by omega) (by omega) ?_ ?_
      · rw [if_neg k1, if_pos k3]; exact if_pos ⟨s2, sv⟩
      · rw [if_neg k1, x2]
  · rw [if_neg k1, if_neg k3] at x1
    rw [if_neg k1] at x2
    refine fin _ x1 rfl rfl h3 (by simp) ?_ ?_
    · rw [if_neg k1, if_neg k3]
    · rw [if_neg k1, x2]
end Go.Proofs.YtddilmocngedjaaDoor
/- The contracts are met. -/
namespace Go.Proofs.YtddilmocngedjaaDoor
set_option linter.unusedVariables false
set_option linter.unusedSimpArgs false
open Go.RowKit
theorem sndAnchor22 : Sound Tryd.prog (lookΓ gamAnchor22) := sound_of _ fun p hp => by
  simp only [gamAnchor22, List.mem_cons, List.not_mem_nil, or_false] at hp
  rcases hp with rfl | rfl | rfl
  · exact meetsInew.orNil
  · exact meetsAsk.orNil
  · exact meetsVote.orNil
set_option maxHeartbeats 4000000 in
theorem meetsAnchor22 : Meets Tryd.prog 20 anchor22F := by
  refine meets_of_awp (Γ := lookΓ gamAnchor22) (L := fun _ _ => none) sndAnchor22 mixedOrders Tryd.func20 rfl Tryd.call20 ?_
  intro args q r hF hq ho
  unfold anchor22F at hF
  split at hF
  · cases hF
    exact ⟨by simp only [List.length_cons, List.length_nil]; decide, okAnchor220 hq⟩
  · cases hF
theorem sndSmall22 : Sound Tryd.prog (lookΓ gamSmall22) := sound_of _ fun p hp => by
  simp [gamSmall22] at hp
set_option maxHeartbeats 4000000 in
theorem meetsSmall22 : Meets Tryd.prog 21 small22F := by
  refine meets_of_awp (Γ := lookΓ gamSmall22) (L := fun _ _ => none) sndSmall22 mixedOrders Tryd.func21 rfl Tryd.call21 ?_
  intro args q r hF hq ho
  unfold small22F at hF
  split at hF
  · split at hF
    · rename_i x hzx
      obtain rfl := instOf_some hzx
      cases hF
      exact ⟨by simp only [List.length_cons, List.length_nil]; decide, okSmall220 _ hq⟩
    · cases hF
  · cases hF
end Go.Proofs.YtddilmocngedjaaDoor
