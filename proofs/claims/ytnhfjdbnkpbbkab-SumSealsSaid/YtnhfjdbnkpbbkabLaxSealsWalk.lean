/- SumSeals: from the law's contract to its walk. -/
import Derived.Test.YtnhfjdbnkpbbkabLaxSealsMeets
import Derived.Test.YtnhfjdbnkpbbkabLaxBytes
namespace Go.Proofs.Ytnhfjdbnkpbbkab
set_option linter.unusedVariables false
set_option linter.unusedSimpArgs false
open Go.RowKit

theorem rep_rdS {P : Program} {vs : List AV} {w : World} {A : Option Addr} {l : List UInt8} {c B : Nat} (hc : l.length ≤ c) (hm : c ≤ 140737488351232) (h : Rd w B A (l.map bv)) :
    Rep P (entrySt (vals vs)) noGh w (.sl (bytesAV l) .no) (.slice A l.length c) := by
  refine rep_bytes hc (by unfold maxLen; omega) ?_
  rcases h with h | ⟨b, off, h1, _, h2⟩
  · left; simpa using h
  · exact .inr ⟨b, off, h1, h2⟩
theorem sumSeals_walk {W : World} (A : Option Addr) (c : Nat) (l : List UInt8) (r0 : Rd W W.heap.size A (l.map bv)) (lc : l.length ≤ c) (cc : c ≤ 140737488351232) :
    Calls Try.prog 6 #[.slice A l.length c] W fun e W' => e = .returned (.bool true) ∧ Below W.heap.size W W' := by
  refine law_of_meets meetsLawSeals (l := [.sl (bytesAV l) .no]) rfl ⟨isBytes_bytesAV l, by rw [length_bytesAV]; omega⟩ rfl ?_
  intro i v hv
  match i, hv with
  | 0, hv =>
    obtain rfl : AV.sl (bytesAV l) .no = v := by simpa using hv
    exact ⟨_, rfl, rep_rdS lc cc r0⟩
  | i + 1, hv => simp at hv
end Go.Proofs.Ytnhfjdbnkpbbkab
