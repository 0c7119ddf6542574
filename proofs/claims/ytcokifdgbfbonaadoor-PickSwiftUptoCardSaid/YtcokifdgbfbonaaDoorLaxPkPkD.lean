/- Contracts by content, their conditions, and that they are met: PkD. -/
import Derived.Test.YtcokifdgbfbonaaDoorLaxPkPkA
/- Contracts by content, and the conditions that their code must meet. -/
namespace Go.Proofs.YtcokifdgbfbonaaDoor
set_option linter.unusedVariables false
set_option linter.unusedSimpArgs false
open Go.RowKit
def lacksCF : Con
  | [.val (.int .u8 s), .val (.int .i64 r)] => (some (True, ⟨.bool (!hasS s r), none, none⟩))
  | _ => none
def gamLacksC : List (Nat × Con) := [(42, hasCF.orNil)]
def lpLacksC0 (s r : Int) : Nat → Option LoopPlan := fun _ => none
def inLacksC0 (s r : Int) : Prop := awp [] (lpLacksC0 s r) (lookΓ gamLacksC) Tryd.prog Tryd.f87.ntmps 0 (Tryd.f87.body.getD .skip) (entrySt [.val (.int .u8 s), .val (.int .i64 r)]) (exitQ Tryd.prog Tryd.f87.results.toList [] ⟨.bool (!hasS s r), none, none⟩)
def OkLacksC0 : Prop := ∀ (s r : Int), True → inLacksC0 s r
end Go.Proofs.YtcokifdgbfbonaaDoor
/- What the verification conditions come to: printed by a program of ours (wip/lax/ex/Norm.lean). -/
namespace Go.Proofs.YtcokifdgbfbonaaDoor
set_option linter.unusedVariables false
open Go.RowKit
set_option maxRecDepth 100000
theorem vcLacksC0 (s : Int) (r : Int) (h : (tt ∧ T1 ∧ tt ∧ T1 ∧ T1 ∧ (T1 ∧ True) ∧ T1 ∧ T1 ∧ tt ∧ tt ∧ (((Bool.not (hasS s r)) = (Bool.not (hasS s r))) ∧ True) ∧ tt)) : inLacksC0 s r :=
  Eq.mp (show _ = _ by kernel_rfl) h
end Go.Proofs.YtcokifdgbfbonaaDoor
/- The condition holds: a replica that a set lacks. -/
namespace Go.Proofs.YtcokifdgbfbonaaDoor
set_option linter.unusedVariables false
set_option linter.unusedSimpArgs false
open Go.RowKit
theorem okLacksC0 : OkLacksC0 := by
  intro s r hq
  refine vcLacksC0 s r ?_
  simp only [true_and, and_true, forall_eq, eq_self]
end Go.Proofs.YtcokifdgbfbonaaDoor
/- The contracts are met. -/
namespace Go.Proofs.YtcokifdgbfbonaaDoor
set_option linter.unusedVariables false
set_option linter.unusedSimpArgs false
open Go.RowKit
theorem sndLacksC : Sound Tryd.prog (lookΓ gamLacksC) := sound_of _ fun p hp => by
  simp only [gamLacksC, List.mem_cons, List.not_mem_nil, or_false] at hp
  subst hp
  exact meetsHasC.orNil
set_option maxHeartbeats 4000000 in
theorem meetsLacksC : Meets Tryd.prog 87 lacksCF := by
  refine meets_of_awp (Γ := lookΓ gamLacksC) (L := fun _ _ => none) sndLacksC mixedOrders Tryd.func87 rfl Tryd.call87 ?_
  intro args q r hF hq ho
  unfold lacksCF at hF
  split at hF
  · cases hF
    exact ⟨by simp only [List.length_cons, List.length_nil]; decide, okLacksC0 _ _ hq⟩
  · cases hF
end Go.Proofs.YtcokifdgbfbonaaDoor
