/- A bound predicate: what a set lacks, called with the set in front. -/
import Derived.Test.YtcokifdgbfbonaaDoorLaxPkPkD
import Derived.Test.YtcokifdgbfbonaaDoorLaxOpen
namespace Go.Proofs.YtcokifdgbfbonaaDoor
set_option linter.unusedVariables false
set_option linter.unusedSimpArgs false
open Go.RowKit Go.Lib
theorem bool_of_meets {P : Program} {f : Nat} {F : Con} (hM : Meets P f F) {l : List AV} {us : Array Value} {w : World} {q : Prop} {b : Bool} (hF : F (vals l) = some (q, ⟨.bool b, none, none⟩)) (hq : q) (hs : us.size = l.length)
    (h : ∀ (i : Nat) v, l[i]? = some v → ∃ u, us[i]? = some u ∧ Rep P (entrySt (vals l)) noGh w v u) : Calls P f us w fun e w' => e = .returned (.bool b) ∧ Below w.heap.size w w' := by
  refine (hM.calls (vals l) us w noGh noOwn 0 none q ⟨.bool b, none, none⟩ hF hq (vals_came hs h) rfl (fun i s h => by cases h)).mono ?_
  rintro e w' ⟨GX, v, rfl, hB⟩
  refine ⟨?_, ⟨hB.pres.os, hB.pres.tape, hB.pres.output, hB.pres.size, fun b hb => hB.pres.block b hb rfl⟩⟩
  have hv : Rep P (exitSt 0 none ⟨.bool b, none, none⟩) GX w' (.bool b) v := hB.val
  rw [hv.inv_bool]
theorem lacks_any (s r : Int) (hs : 0 ≤ s ∧ s ≤ 255) (hr : 0 ≤ r ∧ r ≤ 100) (w : World) :
    Calls Tryd.prog 87 #[.int .u8 s, .int .i64 r] w fun e w' => e = .returned (.bool (!hasS s r)) ∧ Below w.heap.size w w' := by
  refine bool_of_meets meetsLacksC (l := [.int .u8 s, .int .i64 r]) rfl trivial rfl ?_
  intro i v hv
  have m0 : IntKind.u8.min = 0 := by decide
  have m1 : IntKind.u8.max = 255 := by decide
  have m2 : IntKind.i64.min = -9223372036854775808 := by decide
  have m3 : IntKind.i64.max = 9223372036854775807 := by decide
  match i, hv with
  | 0, hv =>
    obtain rfl : AV.int .u8 s = v := by simpa using hv
    exact ⟨_, rfl, rep_int (by omega) (by omega)⟩
  | 1, hv =>
    obtain rfl : AV.int .i64 r = v := by simpa using hv
    exact ⟨_, rfl, rep_int (by omega) (by omega)⟩
  | i + 2, hv => simp at hv
end Go.Proofs.YtcokifdgbfbonaaDoor
