/- The frame of a law's row, once for all laws of the seat: from a walk that returns true and leaves all old memory as it was, to the row's word. And the openers of arguments. -/
import Derived.Test.YtpomloangafbkaaGreatDoorKit
import Derived.ShutString
import Derived.ChangeOld
import Derived.SizedLaws
import Derived.Lib.SmallJoins
namespace Go.Proofs.YtpomloangafbkaaGreatDoor
set_option maxRecDepth 100000
set_option linter.unusedVariables false
open Go.ChangeShapes Go.WideShapes Go.ChangeAt Go.RowKit
open Go.ChangeMaps (open_string shut_string)

/-- What is given of the arguments. -/
structure Given {H : Type} (enc : TypeId × Value → H) (ts : List TypeId) (W : World) (base : Nat) (args : List Value) (ds : List (DataW H)) (p : List MemPlace) : Prop where
  val : ∀ (j : Nat) t v, ts[j]? = some t → args[j]? = some v → Value.okWide Tryz.prog W .any base t v
  trod : DataW.TrodAll enc Tryz.prog W 0 (fun _ => true) true ts args ds p
  room : (DataW.weightsEach Tryz.prog ts ds).all (· ≤ reachBytes) = true

theorem trodAll_below {H : Type} {enc : TypeId × Value → H} {W W' : World} (bel : Below W.heap.size W W') :
    ∀ (ts : List TypeId) (vs : List Value) (ds : List (DataW H)) (ps : List MemPlace), ts.all (fun t => Tryz.prog.readableRec t && decide (t < Tryz.prog.types.size)) = true →
      DataW.TrodAll enc Tryz.prog W 0 (fun _ => true) true ts vs ds ps → (∀ x ∈ ps, x.block < W.heap.size) → DataW.TrodAll enc Tryz.prog W' 0 (fun b => decide (b < W.heap.size)) true ts vs ds ps := by
  intro ts
  induction ts with
  | nil =>
    intro vs ds ps _ h _
    obtain ⟨rfl, rfl, rfl⟩ := trodAll_nil h
    exact trodAll_mk0
  | cons t ts ih =>
    intro vs ds ps hr h hlt
    obtain ⟨v, vs', d, ds', p, q, rfl, rfl, rfl, h1, h2⟩ := trodAll_cons h
    simp only [List.all_cons, Bool.and_eq_true, decide_eq_true_eq] at hr
    exact trodAll_cons_mk (Below.trod laid_out hr.1.1 hr.1.2 h1 bel (fun x hx => hlt x (by simp [hx]))) (ih vs' ds' q (by simpa using hr.2) h2 (fun x hx => hlt x (by simp [hx])))

/-! ### openers -/
section
variable {H : Type} {enc : TypeId × Value → H} {W : World} {base : Nat}
theorem Given.next {t : TypeId} {ts : List TypeId} {args : List Value} {ds : List (DataW H)} {p : List MemPlace} (g : Given enc (t :: ts) W base args ds p) :
    ∃ v vs d ds' p1 p2, args = v :: vs ∧ Value.okWide Tryz.prog W .any base t v ∧ DataW.Trod enc Tryz.prog W 0 (fun _ => true) true t v d p1 ∧ (DataW.weightsEach Tryz.prog [t] [d]).all (· ≤ reachBytes) = true ∧ Given enc ts W base vs ds' p2 := by
  obtain ⟨val, trod, room⟩ := g
  obtain ⟨v, vs, d, ds', p1, p2, rfl, rfl, rfl, h1, h2⟩ := trodAll_cons trod
  have hr : (DataW.weightsEach Tryz.prog [t] [d]).all (· ≤ reachBytes) = true ∧ (DataW.weightsEach Tryz.prog ts ds').all (· ≤ reachBytes) = true := by
    simp only [DataW.weightsEach, List.all_append, Bool.and_eq_true, List.append_nil] at room ⊢
    exact room
  exact ⟨v, vs, d, ds', p1, p2, rfl, val 0 t v rfl rfl, h1, hr.1, fun j t' v' ht hv => val (j + 1) t' v' (by simpa using ht) (by simpa using hv), h2, hr.2⟩
theorem Given.done {args : List Value} {ds : List (DataW H)} {p : List MemPlace} (g : Given enc [] W base args ds p) : args = [] := (trodAll_nil g.trod).1

end
end Go.Proofs.YtpomloangafbkaaGreatDoor
