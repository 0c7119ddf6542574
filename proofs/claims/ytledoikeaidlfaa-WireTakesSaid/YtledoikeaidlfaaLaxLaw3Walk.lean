/- WireTakes: from the law's contract to its walk. -/
import Derived.Test.YtledoikeaidlfaaLaxLaw3Meets
import Derived.Test.YtledoikeaidlfaaLaxBytes
namespace Go.Proofs.Ytledoikeaidlfaa
set_option linter.unusedVariables false
set_option linter.unusedSimpArgs false
open Go.RowKit

theorem rep_rd {P : Program} {vs : List AV} {w : World} {A : Option Addr} {l : List UInt8} {c B : Nat} (hc : l.length ≤ c) (hm : c ≤ 140737488351232) (h : Rd w B A (l.map bv)) :
    Rep P (entrySt (vals vs)) noGh w (.sl (bytesAV l) .no) (.slice A l.length c) := by
  refine rep_bytes hc (by unfold maxLen; omega) ?_
  rcases h with h | ⟨b, off, h1, _, h2⟩
  · left; simpa using h
  · exact .inr ⟨b, off, h1, h2⟩
theorem wireTakes_walk {H : Type} {enc : TypeId × Value → H} {W : World} {base : Nat} {spare : Nat → Bool} {held : Bool} (A : Option Addr) (c : Nat) (l : List UInt8) (r0 : Rd W W.heap.size A (l.map bv)) (lc : l.length ≤ c) (cc : c ≤ 140737488351232)
    {v1 : Value} {d1 : DataW H} {p1 : List MemPlace} (h1 : Value.okWide Try.prog W .any base 56 v1) (ht : DataW.Trod enc Try.prog W 0 spare held 56 v1 d1 p1) :
    Calls Try.prog 5 #[.slice A l.length c, v1] W fun e W' => e = .returned (.bool true) ∧ Below W.heap.size W W' := by
  obtain ⟨ops, ho, hr⟩ := open_sl (e := 59) (l := [.int .i64, .int .u64, .str]) (d := 9) (by kernel_rfl) (by kernel_rfl) h1 ht
  refine law_of_meets meetsLawTakes (l := [.sl (bytesAV l) .no, .sl ops .no]) rfl ⟨isBytes_bytesAV l, by rw [length_bytesAV]; omega, ho⟩ rfl ?_
  intro i v hv
  match i, hv with
  | 0, hv =>
    obtain rfl : AV.sl (bytesAV l) .no = v := by simpa using hv
    exact ⟨_, rfl, rep_rd lc cc r0⟩
  | 1, hv =>
    obtain rfl : AV.sl ops .no = v := by simpa using hv
    exact ⟨_, rfl, hr _⟩
  | i + 2, hv => simp at hv
end Go.Proofs.Ytledoikeaidlfaa
