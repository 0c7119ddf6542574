/- WirePuts: from the law's contract to its walk. -/
import Derived.Test.YtledoikeaidlfaaLaxPutsMeets
import Derived.Test.YtledoikeaidlfaaLaxBytes
namespace Go.Proofs.Ytledoikeaidlfaa
set_option linter.unusedVariables false
set_option linter.unusedSimpArgs false
open Go.RowKit

theorem wirePuts_walk {H : Type} {enc : TypeId × Value → H} {W : World} {base : Nat} {spare : Nat → Bool} {held : Bool}
    {v0 : Value} {d0 : DataW H} {p0 : List MemPlace} (h0 : Value.okWide Try.prog W .any base 56 v0) (ht : DataW.Trod enc Try.prog W 0 spare held 56 v0 d0 p0) (hB : Capped 1048576 d0) :
    Calls Try.prog 6 #[v0] W fun e W' => e = .returned (.bool true) ∧ Below W.heap.size W W' := by
  obtain ⟨ops, ho, hr⟩ := open_sl (e := 59) (l := [.int .i64, .int .u64, .str]) (d := 9) (by kernel_rfl) (by kernel_rfl) hB h0 ht
  refine law_of_meets meetsLawPuts (l := [.sl ops .no]) rfl ho rfl ?_
  intro i v hv
  match i, hv with
  | 0, hv =>
    obtain rfl : AV.sl ops .no = v := by simpa using hv
    exact ⟨_, rfl, hr _⟩
  | i + 1, hv => simp at hv
end Go.Proofs.Ytledoikeaidlfaa
