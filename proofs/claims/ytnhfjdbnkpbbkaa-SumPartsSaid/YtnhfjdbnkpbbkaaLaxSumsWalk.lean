/- SumOf and SumParts: from the laws' contracts to their walks. -/
import Derived.Test.YtnhfjdbnkpbbkaaLaxSumsMeets
import Derived.Test.YtnhfjdbnkpbbkaaLaxBytes
namespace Go.Proofs.Ytnhfjdbnkpbbkaa
set_option linter.unusedVariables false
set_option linter.unusedSimpArgs false
open Go.RowKit

theorem rep_rdS {P : Program} {vs : List AV} {w : World} {A : Option Addr} {l : List UInt8} {c B : Nat} (hc : l.length ≤ c) (hm : c ≤ 140737488351232) (h : Rd w B A (l.map bv)) :
    Rep P (entrySt (vals vs)) noGh w (.sl (bytesAV l) .no) (.slice A l.length c) := by
  refine rep_bytes hc (by unfold maxLen; omega) ?_
  rcases h with h | ⟨b, off, h1, _, h2⟩
  · left; simpa using h
  · exact .inr ⟨b, off, h1, h2⟩
theorem sumOf_walk {W : World} (A : Option Addr) (c : Nat) (l : List UInt8) (r0 : Rd W W.heap.size A (l.map bv)) (lc : l.length ≤ c) (cc : c ≤ 140737488351232) {k : Int} (b0 : -9223372036854775808 ≤ k) (b1 : k ≤ 9223372036854775807) :
    Calls Try.prog 8 #[.slice A l.length c, .int .i64 k] W fun e W' => e = .returned (.bool true) ∧ Below W.heap.size W W' := by
  have m0 : IntKind.i64.min = -9223372036854775808 := by decide
  have m1 : IntKind.i64.max = 9223372036854775807 := by decide
  refine law_of_meets meetsLawSumOf (l := [.sl (bytesAV l) .no, .int .i64 k]) rfl (isBytes_bytesAV l) rfl ?_
  intro i v hv
  match i, hv with
  | 0, hv =>
    obtain rfl : AV.sl (bytesAV l) .no = v := by simpa using hv
    exact ⟨_, rfl, rep_rdS lc cc r0⟩
  | 1, hv =>
    obtain rfl : AV.int .i64 k = v := by simpa using hv
    exact ⟨_, rfl, rep_int (by omega) (by omega)⟩
  | i + 2, hv => simp at hv
theorem sumParts_walk {H : Type} {enc : TypeId × Value → H} {W : World} {base : Nat} {spare : Nat → Bool} {held : Bool}
    {v0 : Value} {d0 : DataW H} {p0 : List MemPlace} (h0 : Value.okWide Try.prog W .any base 55 v0) (ht : DataW.Trod enc Try.prog W 0 spare held 55 v0 d0 p0) :
    Calls Try.prog 10 #[v0] W fun e W' => e = .returned (.bool true) ∧ Below W.heap.size W W' := by
  obtain ⟨ps, ho, hr⟩ := open_sl (e := 40) (l := [.sl [.int .u8]]) (d := 9) (by kernel_rfl) (by kernel_rfl) (.inl (Nat.le_refl _)) h0 ht
  refine law_of_meets meetsLawSumParts (l := [.sl ps .no]) rfl ho rfl ?_
  intro i v hv
  match i, hv with
  | 0, hv =>
    obtain rfl : AV.sl ps .no = v := by simpa using hv
    exact ⟨_, rfl, hr _⟩
  | i + 1, hv => simp at hv
end Go.Proofs.Ytnhfjdbnkpbbkaa
