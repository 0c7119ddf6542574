/- The conditions of the document's table of commands hold. -/
import Derived.Test.YtabeffcdklcdeaaDoorLaxCmdBVc
namespace Go.Proofs.YtabeffcdklcdeaaDoor
set_option linter.unusedVariables false
set_option linter.unusedSimpArgs false
open Go.RowKit
set_option maxRecDepth 100000

theorem okHas070 : OkHas070 := by
  intro hq
  refine vcHas070 ?_
  simp only [true_and, and_true, forall_eq, eq_self, not_true, not_false_eq_true, if_true]
theorem okRrightO0 : OkRrightO0 := by
  intro k num foot rq path mode n time hq
  refine vcRrightO0 k num foot rq path mode n time ?_
  simp only [true_and, and_true, forall_eq, eq_self, not_true, not_false_eq_true, if_true]
  exact cond_prop (fun _ => trivial) fun h => cond_prop (fun _ => trivial) fun h2 => by
    simp only [decide_eq_false_iff_not] at h h2
    have := hq.1
    omega
theorem tab_read (j : Nat) (hj : j = 0 ∨ j = 6 ∨ j = 12 ∨ j = 18 ∨ j = 24 ∨ j = 30 ∨ j = 36 ∨ j = 42 ∨ j = 48) : okRead [.bool, .bool, .bool, .bool, .bool, .bool] (.agg hasAV) j := by
  intro i kd h
  rcases hj with rfl | rfl | rfl | rfl | rfl | rfl | rfl | rfl | rfl
  all_goals
    rcases i with _ | _ | _ | _ | _ | _ | i
    all_goals first | (cases h; rfl) | (simp at h)
theorem rrightK0 (num : Int) (foot : List UInt8) (rq : Int) (path : List UInt8) (mode n time : Int) (h1 : foot.length ≤ 900000) (h2 : path.length ≤ 900000) : inRrightK0 num foot rq path mode n time := by
  refine vcRrightK0 num foot rq path mode n time ?_
  simp only [true_and, and_true, forall_eq, eq_self, not_true, not_false_eq_true, if_true]
  refine ⟨⟨by omega, by omega, by omega, tab_read _ (by omega)⟩, ?_⟩
  simp [rightC, okK, hS, hR, hP, hM, hN, hT, mostK, cif, h1, h2]
  repeat' split
  all_goals (intros; first | omega | contradiction | (simp_all; done) | (simp_all; omega))
theorem rrightK1 (num : Int) (foot : List UInt8) (rq : Int) (path : List UInt8) (mode n time : Int) (h1 : foot.length ≤ 900000) (h2 : path.length ≤ 900000) : inRrightK1 num foot rq path mode n time := by
  refine vcRrightK1 num foot rq path mode n time ?_
  simp only [true_and, and_true, forall_eq, eq_self, not_true, not_false_eq_true, if_true]
  refine ⟨⟨by omega, by omega, by omega, tab_read _ (by omega)⟩, ?_⟩
  simp [rightC, okK, hS, hR, hP, hM, hN, hT, mostK, cif, h1, h2]
  repeat' split
  all_goals (intros; first | omega | contradiction | (simp_all; done) | (simp_all; omega))
theorem rrightK2 (num : Int) (foot : List UInt8) (rq : Int) (path : List UInt8) (mode n time : Int) (h1 : foot.length ≤ 900000) (h2 : path.length ≤ 900000) : inRrightK2 num foot rq path mode n time := by
  refine vcRrightK2 num foot rq path mode n time ?_
  simp only [true_and, and_true, forall_eq, eq_self, not_true, not_false_eq_true, if_true]
  refine ⟨⟨by omega, by omega, by omega, tab_read _ (by omega)⟩, ?_⟩
  simp [rightC, okK, hS, hR, hP, hM, hN, hT, mostK, cif, h1, h2]
  repeat' split
  all_goals (intros; first | omega | contradiction | (simp_all; done) | (simp_all; omega))
theorem rrightK3 (num : Int) (foot : List UInt8) (rq : Int) (path : List UInt8) (mode n time : Int) (h1 : foot.length ≤ 900000) (h2 : path.length ≤ 900000) : inRrightK3 num foot rq path mode n time := by
  refine vcRrightK3 num foot rq path mode n time ?_
  simp only [true_and, and_true, forall_eq, eq_self, not_true, not_false_eq_true, if_true]
  refine ⟨⟨by omega, by omega, by omega, tab_read _ (by omega)⟩, ?_⟩
  simp [rightC, okK, hS, hR, hP, hM, hN, hT, mostK, cif, h1, h2]
  repeat' split
  all_goals (intros; first | omega | contradiction | (simp_all; done) | (simp_all; omega))
theorem rrightK4 (num : Int) (foot : List UInt8) (rq : Int) (path : List UInt8) (mode n time : Int) (h1 : foot.length ≤ 900000) (h2 : path.length ≤ 900000) : inRrightK4 num foot rq path mode n time := by
  refine vcRrightK4 num foot rq path mode n time ?_
  simp only [true_and, and_true, forall_eq, eq_self, not_true, not_false_eq_true, if_true]
  refine ⟨⟨by omega, by omega, by omega, tab_read _ (by omega)⟩, ?_⟩
  simp [rightC, okK, hS, hR, hP, hM, hN, hT, mostK, cif, h1, h2]
  repeat' split
  all_goals (intros; first | omega | contradiction | (simp_all; done) | (simp_all; omega))
theorem rrightK5 (num : Int) (foot : List UInt8) (rq : Int) (path : List UInt8) (mode n time : Int) (h1 : foot.length ≤ 900000) (h2 : path.length ≤ 900000) : inRrightK5 num foot rq path mode n time := by
  refine vcRrightK5 num foot rq path mode n time ?_
  simp only [true_and, and_true, forall_eq, eq_self, not_true, not_false_eq_true, if_true]
  refine ⟨⟨by omega, by omega, by omega, tab_read _ (by omega)⟩, ?_⟩
  simp [rightC, okK, hS, hR, hP, hM, hN, hT, mostK, cif, h1, h2]
  repeat' split
  all_goals (intros; first | omega | contradiction | (simp_all; done) | (simp_all; omega))
theorem rrightK6 (num : Int) (foot : List UInt8) (rq : Int) (path : List UInt8) (mode n time : Int) (h1 : foot.length ≤ 900000) (h2 : path.length ≤ 900000) : inRrightK6 num foot rq path mode n time := by
  refine vcRrightK6 num foot rq path mode n time ?_
  simp only [true_and, and_true, forall_eq, eq_self, not_true, not_false_eq_true, if_true]
  refine ⟨⟨by omega, by omega, by omega, tab_read _ (by omega)⟩, ?_⟩
  simp [rightC, okK, hS, hR, hP, hM, hN, hT, mostK, cif, h1, h2]
  repeat' split
  all_goals (intros; first | omega | contradiction | (simp_all; done) | (simp_all; omega))
theorem rrightK7 (num : Int) (foot : List UInt8) (rq : Int) (path : List UInt8) (mode n time : Int) (h1 : foot.length ≤ 900000) (h2 : path.length ≤ 900000) : inRrightK7 num foot rq path mode n time := by
  refine vcRrightK7 num foot rq path mode n time ?_
  simp only [true_and, and_true, forall_eq, eq_self, not_true, not_false_eq_true, if_true]
  refine ⟨⟨by omega, by omega, by omega, tab_read _ (by omega)⟩, ?_⟩
  simp [rightC, okK, hS, hR, hP, hM, hN, hT, mostK, cif, h1, h2]
  repeat' split
  all_goals (intros; first | omega | contradiction | (simp_all; done) | (simp_all; omega))
theorem rrightK8 (num : Int) (foot : List UInt8) (rq : Int) (path : List UInt8) (mode n time : Int) (h1 : foot.length ≤ 900000) (h2 : path.length ≤ 900000) : inRrightK8 num foot rq path mode n time := by
  refine vcRrightK8 num foot rq path mode n time ?_
  simp only [true_and, and_true, forall_eq, eq_self, not_true, not_false_eq_true, if_true]
  refine ⟨⟨by omega, by omega, by omega, tab_read _ (by omega)⟩, ?_⟩
  simp [rightC, okK, hS, hR, hP, hM, hN, hT, mostK, cif, h1, h2]
  repeat' split
  all_goals (intros; first | omega | contradiction | (simp_all; done) | (simp_all; omega))
theorem okRrightI0 : OkRrightI0 := by
  intro k num foot rq path mode n time hq
  obtain ⟨⟨a, b⟩, h1, h2⟩ := hq
  have hk : k = 0 ∨ k = 1 ∨ k = 2 ∨ k = 3 ∨ k = 4 ∨ k = 5 ∨ k = 6 ∨ k = 7 ∨ k = 8 := by omega
  rcases hk with rfl | rfl | rfl | rfl | rfl | rfl | rfl | rfl | rfl
  · exact rrightK0 num foot rq path mode n time h1 h2
  · exact rrightK1 num foot rq path mode n time h1 h2
  · exact rrightK2 num foot rq path mode n time h1 h2
  · exact rrightK3 num foot rq path mode n time h1 h2
  · exact rrightK4 num foot rq path mode n time h1 h2
  · exact rrightK5 num foot rq path mode n time h1 h2
  · exact rrightK6 num foot rq path mode n time h1 h2
  · exact rrightK7 num foot rq path mode n time h1 h2
  · exact rrightK8 num foot rq path mode n time h1 h2
end Go.Proofs.YtabeffcdklcdeaaDoor
