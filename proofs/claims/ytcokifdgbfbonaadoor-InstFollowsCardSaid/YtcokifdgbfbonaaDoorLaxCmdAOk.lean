/- The conditions of commands hold. -/
import Derived.Test.YtcokifdgbfbonaaDoorLaxCmdAVc
namespace Go.Proofs.YtcokifdgbfbonaaDoor
set_option linter.unusedVariables false
set_option linter.unusedSimpArgs false
open Go.RowKit
set_option maxRecDepth 100000

theorem okMost0 : OkMost0 := by
  intro k hq
  refine vcMost0 k ?_
  simp [mostK, cif]
theorem okHad0 : OkHad0 := by
  intro k hq
  refine vcHad0 k ?_
  simp only [true_and, and_true, forall_eq, eq_self, not_true, not_false_eq_true, if_true]
  simp [okK, hS, hR, hP, hM, hN, hT, cif]
  repeat' split
  all_goals (first | (subst_vars; simp; done) | (refine ⟨?_, ?_⟩ <;> omega) | omega | trace_state)
theorem okBare0 : OkBare0 := by
  intro k num foot rq path mode n time a b c d e f hq
  refine vcBare0 k num foot rq path mode n time a b c d e f ?_
  cases a <;> cases b <;> cases c <;> cases d <;> cases e <;> cases f <;> simp
theorem beq_cif {α : Type} [BEq α] [LawfulBEq α] {b : Bool} {x y : α} : (x == bif b then x else y) = (b || x == y) := by cases b <;> simp
theorem okCright0 : OkCright0 := by
  intro k num foot rq path mode n time hq
  obtain ⟨h1, h2⟩ := hq
  have h1' : foot.length ≤ 1000000 := by omega
  have h2' : path.length ≤ 1000000 := by omega
  refine vcCright0 k num foot rq path mode n time ?_
  simp only [true_and, and_true, forall_eq, eq_self, h1', h2', beq_cif, beq_self_eq_true, Bool.true_and, Bool.and_true]
  have e0 : rightC ⟨k, num, foot, rq, path, mode, n, time⟩ = (okK k && ((hS k || num == 0) && ((hS k || foot == []) && ((hR k || rq == 0) && ((hP k || path == []) && ((hM k || mode == 0) && ((hN k || n == 0) && (hT k || time == 0))))))) &&
      ((!hS k || rightP foot) && (!hR k || !(rq == 0)) && (!hP k || rightP path) && (!hM k || !(mode != 1) || !(mode != 2)) && (!hN k || (!(n == 0) && !decide (mostK k < n))) && decide (0 ≤ time) && decide (time ≤ 1099511627776))) := by
    have a1 : (num == 0) = decide (num = 0) := rfl
    have a2 : (foot == []) = decide (foot = []) := by rw [Bool.eq_iff_iff]; simp
    have a3 : (rq == 0) = decide (rq = 0) := rfl
    have a4 : (path == []) = decide (path = []) := by rw [Bool.eq_iff_iff]; simp
    have a5 : (mode == 0) = decide (mode = 0) := rfl
    have a6 : (n == 0) = decide (n = 0) := rfl
    have a7 : (time == 0) = decide (time = 0) := rfl
    have a8 : (mode != 1) = !decide (mode = 1) := rfl
    have a9 : (mode != 2) = !decide (mode = 2) := rfl
    have b1 : decide (rq ≠ 0) = !decide (rq = 0) := decide_not
    have b2 : decide (n ≠ 0) = !decide (n = 0) := decide_not
    have b3 : decide (n ≤ mostK k) = !decide (mostK k < n) := by rw [Bool.eq_iff_iff]; simp
    unfold rightC
    simp only [a1, a2, a3, a4, a5, a6, a7, a8, a9, b1, b2, b3, Bool.not_not, Bool.or_and_distrib_left, Bool.and_assoc, Bool.or_assoc]
  rw [e0]
  generalize ((hS k || num == 0) && ((hS k || foot == []) && ((hR k || rq == 0) && ((hP k || path == []) && ((hM k || mode == 0) && ((hN k || n == 0) && (hT k || time == 0))))))) = E
  generalize okK k = a
  cases a
  · simp
  cases E
  · simp
  simp only [Bool.true_and, Bool.not_true, cond_false]
  generalize hS k = hs
  generalize rightP foot = rf
  generalize hR k = hr
  generalize (rq == 0) = z
  generalize hP k = hp
  generalize rightP path = rp
  generalize hM k = hm
  generalize (mode != 1) = m1
  generalize (mode != 2) = m2
  generalize hN k = hn
  generalize (n == 0) = n0
  generalize decide (mostK k < n) = mn
  generalize decide (0 ≤ time) = t0
  generalize decide (time ≤ 1099511627776) = t1
  cases hs <;> cases rf <;> cases hr <;> cases z <;> cases hp <;> cases rp <;> simp only [cond_true, cond_false, Bool.not_true, Bool.not_false, Bool.true_or, Bool.false_or, Bool.or_true, Bool.or_false, Bool.true_and, Bool.false_and, Bool.and_true, Bool.and_false]
  all_goals (cases hm <;> cases m1 <;> cases m2 <;> cases hn <;> cases n0 <;> cases mn <;> cases t0 <;> cases t1 <;> rfl)
end Go.Proofs.YtcokifdgbfbonaaDoor
