/- AttrTakes and MarkTakes: from the laws' contracts to their walks. -/
import Derived.Test.YtledoikeaidlfaaLaxLaw9Meets
import Derived.Test.YtledoikeaidlfaaLaxBytes
namespace Go.Proofs.Ytledoikeaidlfaa
set_option linter.unusedVariables false
set_option linter.unusedSimpArgs false
open Go.RowKit

theorem rep_rd {P : Program} {vs : List AV} {w : World} {A : Option Addr} {l : List UInt8} {c B : Nat} (hc : l.length ≤ c) (hm : c ≤ 140737488351232) (h : Rd w B A (l.map bv)) :
    Rep P (entrySt (vals vs)) noGh w (.sl (bytesAV l) .no) (.slice A l.length c) := by
  refine rep_bytes hc (by unfold maxLen; omega) ?_
  rcases h with h | ⟨b, off, h1, _, h2⟩
  · left; simpa using h
  · exact .inr ⟨b, off, h1, h2⟩
theorem rep_u32 {P : Program} {st : St} {G : Gh} {w : World} {b : Int} (h0 : 0 ≤ b) (h1 : b ≤ 4294967295) : Rep P st G w (.int .u32 b) (.int .u32 b) := by
  have m0 : IntKind.u32.min = 0 := by decide
  have m1 : IntKind.u32.max = 4294967295 := by decide
  exact rep_int (by omega) (by omega)
theorem attrTakes_walk {W : World} {base : Nat} (A : Option Addr) (c : Nat) (l : List UInt8) (r0 : Rd W W.heap.size A (l.map bv)) (lc : l.length ≤ c) (cc : c ≤ 140737488351232) {v1 : Value} (h1 : Value.okWide Try.prog W .any base 25 v1) :
    Calls Try.prog 3 #[.slice A l.length c, v1] W fun e W' => e = .returned (.bool true) ∧ Below W.heap.size W W' := by
  obtain ⟨l1, rfl, n1, r1⟩ := flat_ints (k := .i64) (by kernel_rfl) (ts := List.replicate 8 3) (by kernel_rfl) (by kernel_rfl) (by decide) (by kernel_rfl) h1
  simp only [List.length_replicate] at n1
  match l1, n1, r1 with
  | [s, d0, d1, d2, d3, d4, d5, d6], _, r1 =>
    refine law_of_meets meetsLawAttr (l := [.sl (bytesAV l) .no, .agg ([s, d0, d1, d2, d3, d4, d5, d6].map (AV.int .i64))]) rfl ⟨isBytes_bytesAV l, by rw [length_bytesAV]; omega⟩ rfl ?_
    intro i v hv
    match i, hv with
    | 0, hv =>
      obtain rfl : AV.sl (bytesAV l) .no = v := by simpa using hv
      exact ⟨_, rfl, rep_rd lc cc r0⟩
    | 1, hv =>
      obtain rfl : AV.agg ([s, d0, d1, d2, d3, d4, d5, d6].map (AV.int .i64)) = v := by simpa using hv
      exact ⟨_, rfl, rep_flat r1⟩
    | i + 2, hv => simp at hv
theorem markTakes_walk {W : World} {base : Nat} (A : Option Addr) (c : Nat) (l : List UInt8) (r0 : Rd W W.heap.size A (l.map bv)) (lc : l.length ≤ c) (cc : c ≤ 140737488351232) {v1 : Value} (h1 : Value.okWide Try.prog W .any base 45 v1) {b : Int} (b0 : 0 ≤ b) (b1 : b ≤ 4294967295) :
    Calls Try.prog 4 #[.slice A l.length c, v1, .int .u32 b] W fun e W' => e = .returned (.bool true) ∧ Below W.heap.size W W' := by
  obtain ⟨l1, rfl, n1, r1⟩ := flat_ints (k := .i64) (by kernel_rfl) (ts := List.replicate 2 3) (by kernel_rfl) (by kernel_rfl) (by decide) (by kernel_rfl) h1
  simp only [List.length_replicate] at n1
  match l1, n1, r1 with
  | [r, n], _, r1 =>
    refine law_of_meets meetsLawMark (l := [.sl (bytesAV l) .no, .agg ([r, n].map (AV.int .i64)), .int .u32 b]) rfl ⟨isBytes_bytesAV l, by rw [length_bytesAV]; omega⟩ rfl ?_
    intro i v hv
    match i, hv with
    | 0, hv =>
      obtain rfl : AV.sl (bytesAV l) .no = v := by simpa using hv
      exact ⟨_, rfl, rep_rd lc cc r0⟩
    | 1, hv =>
      obtain rfl : AV.agg ([r, n].map (AV.int .i64)) = v := by simpa using hv
      exact ⟨_, rfl, rep_flat r1⟩
    | 2, hv =>
      obtain rfl : AV.int .u32 b = v := by simpa using hv
      exact ⟨_, rfl, rep_u32 b0 b1⟩
    | i + 3, hv => simp at hv
end Go.Proofs.Ytledoikeaidlfaa
