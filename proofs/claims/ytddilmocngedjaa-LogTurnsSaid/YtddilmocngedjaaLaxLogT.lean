/- Records among the arguments: what their types tell. -/
import Derived.Test.YtddilmocngedjaaLaxPkLogS
import Derived.Test.YtddilmocngedjaaLaxOpen
namespace Go.Proofs.Ytddilmocngedjaa
set_option linter.unusedVariables false
open Go.RowKit
theorem recs_get {B : Nat} {ps : List AV} (ho : HasTy B (.sl [.sl [.int .u8]]) (.sl ps .no)) {i : Nat} (h : i < ps.length) : ∃ l, ps[i] = .sl (bytesAV l) .no ∧ l.length ≤ B := by
  cases ho with
  | sl l xs f hm h1 h2 =>
    have hx := List.getElem?_eq_getElem h
    obtain ⟨e, hl⟩ := h1 i _ hx
    match hf : f i, hl with
    | [c], _ =>
      have ht := h2 i _ 0 (.sl [.int .u8]) c hx rfl (by rw [hf]; rfl)
      rw [hf] at e
      have e' : ps[i] = c := e
      obtain ⟨ys, rfl⟩ : ∃ ys, c = .sl ys .no := by cases ht; exact ⟨_, rfl⟩
      have hlen := HasTy.len ht
      obtain ⟨l, rfl⟩ := (HasTy.bytes ht).get
      rw [length_bytesAV] at hlen
      exact ⟨l, e', hlen⟩
theorem recs_of {B : Nat} {ps : List AV} (ho : HasTy B (.sl [.sl [.int .u8]]) (.sl ps .no)) : isRecs ps ∧ ps.length ≤ B ∧ ∀ l ∈ recL ps, l.length ≤ B := by
  refine ⟨?_, HasTy.len ho, ?_⟩
  · unfold isRecs
    apply List.ext_getElem
    · simp [recAV, recL]
    · intro i h1 h2
      obtain ⟨l, hl, _⟩ := recs_get ho h1
      simp only [recAV, recL, List.getElem_map]
      rw [hl]
      show AV.sl (bytesAV l) .no = AV.sl (bytesAV (bytesL (bytesAV l))) .no
      rw [bytesL_bytesAV]
  · intro l hl
    obtain ⟨x, hx, rfl⟩ := List.mem_map.1 hl
    obtain ⟨i, hi, rfl⟩ := List.getElem_of_mem hx
    obtain ⟨l, e, hl⟩ := recs_get ho hi
    rw [e]
    show (bytesL (bytesAV l)).length ≤ B
    rw [bytesL_bytesAV]; exact hl
end Go.Proofs.Ytddilmocngedjaa
