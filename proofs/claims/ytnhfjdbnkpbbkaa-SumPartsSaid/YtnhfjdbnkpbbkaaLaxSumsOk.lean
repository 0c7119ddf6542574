/- The conditions of SumOf and SumParts hold. -/
import Derived.Test.YtnhfjdbnkpbbkaaLaxSumsVc
namespace Go.Proofs.Ytnhfjdbnkpbbkaa
set_option linter.unusedVariables false
set_option linter.unusedSimpArgs false
open Go.RowKit
set_option maxRecDepth 100000

theorem part_bytes (l : List UInt8) (o : Own) : partL (.sl (bytesAV l) o) = l := bytesL_bytesAV l
theorem isPart_bytes (l : List UInt8) (o : Own) : isPart (.sl (bytesAV l) o) := ⟨l, o, rfl⟩
theorem cutL_bytesAV (l : List UInt8) (a b : Nat) : cutL (bytesAV l) a b = bytesAV (cutL l a b) := by simp [cutL, bytesAV]
theorem okLawSumOf0 : OkLawSumOf0 := by
  intro xs k hb h0
  refine vcLawSumOf0 xs k ?_
  obtain ⟨l, rfl⟩ := hb.get
  simp only [true_and, and_true, forall_eq, eq_self, bytesL_bytesAV, isBytes_bytesAV, length_bytesAV, cutL_bytesAV] at h0 ⊢
  have p1 : isParts [AV.sl (bytesAV l) Own.no] := by
    intro x hx; simp at hx; subst hx; exact isPart_bytes _ _
  have f1 : flatL [AV.sl (bytesAV l) Own.no] = l := by simp [flatL, part_bytes]
  have p3 : isParts [AV.sl (bytesAV l) Own.no, AV.sl [] Own.nil] := by
    intro x hx
    simp at hx
    rcases hx with rfl | rfl
    · exact isPart_bytes _ _
    · exact isPart_bytes [] _
  have f3 : flatL [AV.sl (bytesAV l) Own.no, AV.sl [] Own.nil] = l := by
    have : partL (AV.sl [] Own.nil) = [] := part_bytes [] _
    simp [flatL, part_bytes, this]
  rw [f1, f3]
  refine cond_prop (fun _ => trivial) fun _ => cond_prop (fun _ => ⟨p1, by simp⟩) fun hk => cond_prop (fun _ => ⟨p1, by simp⟩) fun hk' => ⟨p1, cond_prop (fun _ => ?_) fun h => by simp at h⟩
  have hk0 : 0 ≤ k := by simpa using hk
  have hk1 : k ≤ l.length := by simpa using hk'
  have p2 : isParts [AV.sl (bytesAV (cutL l 0 k.toNat)) Own.no, AV.sl (bytesAV (cutL l k.toNat l.length)) Own.no] := by
    intro x hx
    simp at hx
    rcases hx with rfl | rfl
    · exact isPart_bytes _ _
    · exact isPart_bytes _ _
  have f2 : flatL [AV.sl (bytesAV (cutL l 0 k.toNat)) Own.no, AV.sl (bytesAV (cutL l k.toNat l.length)) Own.no] = l := by
    simp [flatL, part_bytes, cutL]
  rw [f2]
  exact ⟨⟨⟨hk0, hk1⟩, okWidth_bytes _⟩, ⟨⟨hk0, hk1⟩, okWidth_bytes _⟩, p2, cond_prop (fun _ => ⟨p3, by simp⟩) fun h => by simp at h⟩
theorem PartsTy.get {ps : List AV} (ho : PartsTy ps) {i : Nat} (h : i < ps.length) : ∃ l, ps[i] = .sl (bytesAV l) .no := by
  unfold PartsTy at ho
  cases ho with
  | sl l xs f hm h1 h2 =>
    have hx := List.getElem?_eq_getElem h
    obtain ⟨e, hl⟩ := h1 i _ hx
    match hf : f i, hl with
    | [c], _ =>
      have ht := h2 i _ 0 (.sl [.int .u8]) c hx rfl (by rw [hf]; rfl)
      rw [hf] at e
      have e' : ps[i] = c := e
      obtain ⟨ys, rfl⟩ : ∃ ys, c = .sl ys .no := by cases ht; exact ⟨_, rfl⟩
      obtain ⟨l, rfl⟩ := (HasTy.bytes ht).get
      exact ⟨l, e'⟩
theorem PartsTy.parts {ps : List AV} (ho : PartsTy ps) : isParts ps := by
  intro x hx
  obtain ⟨i, hi, rfl⟩ := List.getElem_of_mem hx
  obtain ⟨l, hl⟩ := ho.get hi
  exact ⟨l, _, hl⟩
theorem elem_part {ps : List AV} (ho : PartsTy ps) {i : Nat} (h : i < ps.length) : ∃ l, rdList (elemAt ps i) 0 = bytesAV l ∧ partL ps[i] = l := by
  obtain ⟨l, hl⟩ := ho.get h
  have : elemAt ps i = .sl (bytesAV l) .no := by
    unfold elemAt cellAt
    rw [List.getElem?_eq_getElem h, hl]; rfl
  refine ⟨l, by rw [this]; rfl, by rw [hl]; exact part_bytes _ _⟩
theorem firstN_flat {ps : List AV} (ho : PartsTy ps) : ∀ i, i ≤ ps.length → firstN ps i = flatL (ps.take i)
  | 0, _ => rfl
  | i + 1, h => by
    have h1 := firstN_flat ho i (by omega)
    obtain ⟨l, h2, h3⟩ := elem_part ho (i := i) (by omega)
    show catL (firstN ps i) (bytesL (rdList (elemAt ps i) 0)) = _
    rw [h2, bytesL_bytesAV, h1, List.take_succ_eq_append_getElem (by omega)]
    show flatL (ps.take i) ++ l = flatL (ps.take i ++ [ps[i]])
    unfold flatL
    rw [List.map_append, List.flatten_append]
    simp only [List.map_cons, List.map_nil, h3, List.flatten_cons, List.flatten_nil, List.append_nil]
theorem okLawSumParts0 : OkLawSumParts0 := by
  intro ps ho
  refine vcLawSumParts0 ps ?_
  simp only [true_and, and_true, forall_eq, eq_self, bytesL_bytesAV, isBytes_bytesAV, length_bytesAV]
  have hlen : ps.length ≤ 9223372036854775807 := HasTy.len ho
  refine ⟨⟨(0 : Nat), ⟨⟨rfl, rfl⟩, rfl⟩, Nat.zero_le _, by simp [firstN]⟩, fun i hi => cond_prop (fun h => ?_) fun h => ?_⟩
  · have h' : i < ps.length := by simpa using h
    have ti : ((i : Int)).toNat = i := by omega
    rw [ti]
    obtain ⟨l, e1, _⟩ := elem_part ho h'
    have oe : okElem 1 ps i := HasTy.okElem (l := [.sl [.int .u8]]) ho h'
    have ore : okRead [Kd.sl] (elemAt ps i) 0 := CellsTy.okRead (l := [.sl [.int .u8]]) (HasTy.elem ho h') rfl
    have es : firstN ps (i + 1) = catL (firstN ps i) l := by
      show catL (firstN ps i) (bytesL (rdList (elemAt ps i) 0)) = _
      rw [e1, bytesL_bytesAV]
    have el : (firstN ps (i + 1)).length = (firstN ps i).length + l.length := by rw [es]; simp [catL]
    rw [e1, length_bytesAV]
    refine ⟨⟨by omega, by omega, oe⟩, ore, cond_prop (fun _ => trivial) fun g => cond_prop (fun _ => trivial) fun g' => ⟨⟨?_, ?_, okWidth_bytes _, okWidth_bytes _⟩, (i + 1 : Nat), ⟨⟨?_, ?_⟩, ?_⟩, ⟨h', ?_⟩, ?_⟩⟩
    all_goals simp at g g'
    · omega
    · omega
    · rw [catL_bytes, es]; rfl
    · have : IntKind.i64.wrap ((i : Int) + 1) = (i : Int) + 1 := by rw [IntKind.wrap_i64]; omega
      rw [this]; rfl
    · exact el.symm
    · omega
    · omega
  · have h' : i = ps.length := by simp at h; omega
    subst h'
    refine ⟨ho.parts, ?_⟩
    rw [firstN_flat ho _ (Nat.le_refl _), List.take_length]
    simp
end Go.Proofs.Ytnhfjdbnkpbbkaa
