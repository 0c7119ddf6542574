/- DiskPlays, of whatever arguments. -/
import Derived.Test.YtddilmocngedjaaDkL
namespace Go.Proofs.Ytddilmocngedjaa
set_option linter.unusedVariables false
open Go Go.Proofs Go.RowKit Go.Lib
theorem plays_walk (sz : Int) (hs : i64ok sz) (S : Nat → Nat → Prop) (xs : List AV) (ht : HasTy 9223372036854775807 (.sl opTys) (.sl xs .no)) (v : Value) (w : World) (h : RepP w S (.sl xs .no) v) :
    Calls Try.prog 5 #[.int .i64 sz, v] w fun e w' => e = .returned (.bool true) ∧ Below w.heap.size w w' := by
  obtain ⟨A, cap, rfl, hlen, hop⟩ := ops_open ht h
  have key : ∀ i, ∃ q : Int × Int × Int × List UInt8 × Value, i < xs.length → ∃ b off, A = some ⟨b, off, none⟩ ∧ OpAt w S b off i q.1 q.2.1 q.2.2.1 q.2.2.2.1 q.2.2.2.2 := by
    intro i
    by_cases hi : i < xs.length
    · obtain ⟨b, off, e, hb⟩ := hop (by omega)
      obtain ⟨k, f, n, yb, ov, ho⟩ := hb i hi
      exact ⟨(k, f, n, yb, ov), fun _ => ⟨b, off, e, ho⟩⟩
    · exact ⟨(0, 0, 0, [], .bool false), fun h => absurd h hi⟩
  obtain ⟨q, hq⟩ := Classical.axiomOfChoice key
  exact plays_any sz hs S A xs.length cap w ⟨fun i => (q i).1, fun i => (q i).2.1, fun i => (q i).2.2.1, fun i => (q i).2.2.2.1, fun i => (q i).2.2.2.2, hq⟩ hlen
end Go.Proofs.Ytddilmocngedjaa
