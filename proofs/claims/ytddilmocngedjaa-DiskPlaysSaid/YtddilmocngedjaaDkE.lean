/- disk.New: by hand. -/
import Derived.Test.YtddilmocngedjaaDkD
namespace Go.Proofs.Ytddilmocngedjaa
set_option linter.unusedVariables false
set_option linter.unusedSimpArgs false
open Go Go.Proofs Go.RowKit Go.Lib
def DV.fresh (sz : Int) : DV := ⟨sz, [], 0, [], 0, false, 0, false⟩
set_option maxRecDepth 100000 in
theorem new_any (sz : Int) (h1 : 1024 ≤ sz) (h2 : sz ≤ 4194304) (w : World) :
    Calls Try.prog 13 #[.int .i64 sz] w fun e w' => e = .returned (.tuple #[.pointer (some ⟨w.heap.size, 0, none⟩), .int .i64 0]) ∧ DiskAt w' w.heap.size (DV.fresh sz) (.slice none 0 0) (.slice none 0 0) ∧ Below w.heap.size w w' := by
  go_enter Try.func13, Try.ntmps13
  go_wp2
  go_ret2
  refine ⟨rfl, ⟨⟨_, _, heap_alloc_new w _, by simp, fun i u hu => ?_⟩, World.ownsRow_nil _ _ _ _, World.ownsRow_nil _ _ _ _, (fun e => by cases e), (fun e => by cases e), (fun g e => by cases e), ?_⟩, (Below.refl _ w).alloc (Nat.le_refl _) _⟩
  · simpa [DV.fresh, DV.vals] using hu
  · refine ⟨?_, ?_, ?_, ?_⟩
    · show i64ok sz; unfold i64ok; omega
    · show i64ok 0; unfold i64ok; omega
    · show i64ok 0; unfold i64ok; omega
    · show i64ok 0; unfold i64ok; omega
set_option maxRecDepth 100000 in
theorem new_bad (sz : Int) (h : sz < 1024 ∨ 4194304 < sz) (w : World) :
    Calls Try.prog 13 #[.int .i64 sz] w fun e w' => e = .returned (.tuple #[.pointer none, .int .i64 11]) ∧ w' = w := by
  go_enter Try.func13, Try.ntmps13
  rcases h with h | h
  · go_wp2
    go_ret2
    exact ⟨rfl, rfl⟩
  · go_wp2
    go_ret2
    exact ⟨rfl, rfl⟩
end Go.Proofs.Ytddilmocngedjaa
