/- The conditions hold: states. -/
import Derived.Test.YtcokifdgbfbonaaDoorLaxInstAVc
namespace Go.Proofs.YtcokifdgbfbonaaDoor
set_option linter.unusedVariables false
set_option linter.unusedSimpArgs false
open Go.RowKit
set_option maxRecDepth 100000

theorem okInew0 : OkInew0 := by
  intro r sl hq
  refine vcInew0 r sl ?_
  simp [newI, zC, zA0]
theorem okAlike0 : OkAlike0 := by
  intro x y hq
  refine vcAlike0 x y ?_
  simp only [true_and, and_true, forall_eq, eq_self]
  unfold alikeI
  refine cond_prop (fun h => ?_) fun h => ?_
  · have : eqC x.c y.c = true := h
    rw [this]; rfl
  · have : eqC x.c y.c = false := h
    rw [this]; rfl
theorem okIright0 : OkIright0 := by
  intro x hq
  refine vcIright0 x ?_
  obtain ⟨r, sl, st, bal, vote, same, ⟨k, num, foot, rq, path, mode, n, time⟩, ⟨aq, da, db, dc, dd, de, df, dg⟩⟩ := x
  simp only [smallX] at hq ⊢
  simp only [true_and, and_true, forall_eq, eq_self, hq.1, hq.2]
  refine cond_prop (fun h => ?_) fun h => cond_prop (fun h' => ?_) fun h' => cond_prop (fun h2 => ?_) fun h2 => cond_prop (fun h3 => ?_) fun h3 => cond_prop (fun h4 => ?_) fun h4 => ?_
  · simp at h; simp [rightI, h]
  · simp at h'; simp [rightI, h']
  · simp at h2; simp [rightI, h2]
  · simp at h3; simp [rightI]; intros; omega
  · simp at h h' h2 h3 h4
    subst h4
    have e : rightI ⟨r, sl, 0, bal, vote, same, ⟨k, num, foot, rq, path, mode, n, time⟩, ⟨aq, da, db, dc, dd, de, df, dg⟩⟩ = eqI ⟨r, sl, 0, bal, vote, same, ⟨k, num, foot, rq, path, mode, n, time⟩, ⟨aq, da, db, dc, dd, de, df, dg⟩⟩ ⟨r, sl, 0, bal, 0, false, zC, zA0⟩ := by
      simp [rightI, h, h', h2, h3]
    rw [e]; rfl
  · simp at h h' h2 h3 h4
    have e : rightI ⟨r, sl, st, bal, vote, same, ⟨k, num, foot, rq, path, mode, n, time⟩, ⟨aq, da, db, dc, dd, de, df, dg⟩⟩ = if st < 0 ∨ 3 < st ∨ (same = true ∧ (st ≠ 1 ∨ vote ≠ 0)) then false else rightC ⟨k, num, foot, rq, path, mode, n, time⟩ && ownsB aq da db dc dd de df dg r sl := by
      simp [rightI, h, h', h2, h3, h4, ownsI]
    rw [e]
    refine cond_prop (fun h5 => ?_) fun h5 => cond_prop (fun h6 => ?_) fun h6 => cond_prop (fun h7 => cond_prop (fun h8 => ?_) fun h8 => cond_prop (fun h9 => ?_) fun h9 => cond_prop (fun h10 => ?_) fun h10 => ?_) fun h7 => cond_prop (fun h10 => ?_) fun h10 => ?_
    all_goals simp at h5
    · simp [h5]
    all_goals simp at h6
    · simp [h6]
    all_goals (try simp at h7)
    all_goals (try simp at h8)
    all_goals (try simp at h9)
    all_goals simp_all
    all_goals (try omega)
theorem okFollows0 : OkFollows0 := by
  intro x y hq
  refine vcFollows0 x y ?_
  simp only [true_and, and_true, forall_eq, eq_self, hq.1, hq.2]
  unfold followsI
  generalize rightI x = R1
  generalize rightI y = R2
  generalize alikeI x y = A
  repeat' (refine cond_prop (fun h => ?_) fun h => ?_)
  all_goals simp_all
  all_goals (try omega)
end Go.Proofs.YtcokifdgbfbonaaDoor
