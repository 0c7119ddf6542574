/- Lists of texts, by content: strings.Join, strings.Split. -/
import Derived.Test.YtpomloangafbkaaGreatDoorLaxStr
import Derived.Lib.Join
import Derived.Lib.Split
import Derived.Lib.SplitLaws
import Derived.RangeFuncRecord
namespace Go.Proofs.YtpomloangafbkaaGreatDoor
set_option linter.unusedVariables false
set_option linter.unusedSimpArgs false
open Go.RowKit

abbrev strV (l : List UInt8) : Value := .string ⟨l.toArray⟩
/-- texts, as a slice's elements -/
def strsAV (l : List (List UInt8)) : List AV := l.map AV.str
def strsL (xs : List AV) : List (List UInt8) := xs.map AV.theStr
def isStrs (xs : List AV) : Prop := xs = strsAV (strsL xs)
theorem strsL_strsAV (l : List (List UInt8)) : strsL (strsAV l) = l := by
  unfold strsL strsAV
  rw [List.map_map]
  conv => rhs; rw [← List.map_id l]
  exact List.map_congr_left fun x _ => rfl
theorem isStrs_strsAV (l : List (List UInt8)) : isStrs (strsAV l) := by unfold isStrs; rw [strsL_strsAV]
theorem isStrs.get {xs : List AV} (h : isStrs xs) : ∃ l, xs = strsAV l := ⟨_, h⟩
theorem length_strsAV (l : List (List UInt8)) : (strsAV l).length = l.length := by simp [strsAV]

section
variable {w w' : World} {S : Nat → Nat → Prop}
/-- a slice of texts, in a real world -/
theorem strs_of {l : List (List UInt8)} {u : Value} (h : RepP w S (.sl (strsAV l) .no) u) :
    (l = [] ∧ ∃ a c, u = .slice a 0 c) ∨ ∃ b off c, u = .slice (some ⟨b, off, none⟩) l.length c ∧ l.length ≤ c ∧ c ≤ maxLen ∧ b < w.heap.size ∧ ∀ (i : Nat) x, l[i]? = some x → w.cell? ⟨b, off + i, none⟩ = some (strV x) := by
  generalize hx : strsAV l = xs at h
  cases h with
  | slnil o a cap hc =>
    left
    refine ⟨by simpa [strsAV] using hx, a, cap, rfl⟩
  | sl xs o b off cap size us hc hm hsz hS hr =>
    subst hx
    by_cases hl : l = []
    · left
      subst hl
      exact ⟨rfl, _, _, rfl⟩
    · right
      have cell : ∀ (i : Nat) x, l[i]? = some x → w.cell? ⟨b, off + i, none⟩ = some (strV x) := by
        intro i x hx
        have h1 : (strsAV l)[i]? = some (.str x) := by simp [strsAV, hx]
        have hs1 := hsz i _ h1
        simp [AV.cells] at hs1
        subst hs1
        have h2 := (hS i _ 0 (.str x) h1 rfl).2.1
        have h3 := hr i _ 0 (.str x) h1 rfl
        rw [Nat.mul_one, Nat.add_zero] at h2
        rw [h2]
        generalize us i 0 = q at h3
        cases h3; rfl
      refine ⟨b, off, cap, by rw [length_strsAV], by rw [length_strsAV] at hc; exact hc, hm, ?_, cell⟩
      have h0 : 0 < l.length := List.length_pos_iff.2 hl
      exact World.block_lt_of_cell? w _ (cell 0 l[0] (List.getElem?_eq_getElem h0))
end


theorem strs_made {w w' : World} {S : Nat → Nat → Prop} {b : Nat} {l : List (List UInt8)} (hb : w.heap.size ≤ b) (hc : ∀ (i : Nat) x, l[i]? = some x → w'.cell? ⟨b, i, none⟩ = some (strV x)) (hn : l.length ≤ maxLen) (hl : ∀ x ∈ l, x.length ≤ 9223372036854775807) : RepP w' (More S w) (.sl (strsAV l) .no) (.slice (some ⟨b, 0, none⟩) l.length l.length) := by
  have := RepP.sl (w := w') (S := More S w) (strsAV l) .no b 0 l.length 1 (fun i j => strV (l.getD i [])) (by rw [length_strsAV]; exact Nat.le_refl _) hn
    (fun i x hx => by
      simp only [strsAV, List.getElem?_map, Option.map_eq_some_iff] at hx
      obtain ⟨y, _, rfl⟩ := hx; rfl)
    (fun i x j c hx hj => by
      simp only [strsAV, List.getElem?_map, Option.map_eq_some_iff] at hx
      obtain ⟨y, hy, rfl⟩ := hx
      have e0 : l.getD i [] = y := by simp [List.getD_eq_getElem?_getD, hy]
      match j, hj with
      | 0, hj =>
        simp [AV.cells] at hj; subst hj
        refine ⟨Or.inr hb, ?_, rfl⟩
        have := hc i y hy
        simp only [e0]; simpa using this
      | j + 1, hj => simp [AV.cells] at hj)
    (fun i x j c hx hj => by
      simp only [strsAV, List.getElem?_map, Option.map_eq_some_iff] at hx
      obtain ⟨y, hy, rfl⟩ := hx
      have e0 : l.getD i [] = y := by simp [List.getD_eq_getElem?_getD, hy]
      match j, hj with
      | 0, hj =>
        simp [AV.cells] at hj; subst hj
        simp only [e0]
        exact RepP.str y (hl y (List.mem_of_getElem? hy))
      | j + 1, hj => simp [AV.cells] at hj)
  rw [length_strsAV] at this
  exact this
def joinSF : Con
  | [.val (.sl xs .no), .val (.str sep)] => some (isStrs xs ∧ (Lib.join (strsL xs) sep).length ≤ 140737488355328 ∧ xs.length ≤ 140737488355328, ⟨.str (Lib.join (strsL xs) sep), none, none⟩)
  | _ => none
theorem toList_arr (l : List (List UInt8)) : (l.map fun x => (⟨x.toArray⟩ : ByteArray)).map (·.data.toList) = l := by
  rw [List.map_map]
  conv => rhs; rw [← List.map_id l]
  exact List.map_congr_left fun x _ => by simp
theorem meetsJoinS : Meets Tryz.prog 28 joinSF := by
  refine meets_plainT Tryz.call28 ?_
  intro args q r hF hq
  unfold joinSF at hF
  split at hF
  · rename_i xs sep
    cases hF
    obtain ⟨q1, q2, q3⟩ := hq
    obtain ⟨l, rfl⟩ := q1.get
    rw [strsL_strsAV] at q2 ⊢
    rw [length_strsAV] at q3
    refine ⟨[.sl (strsAV l) .no, .str sep], rfl, by simp [AV.plain, AV.cells, AV.plainCell], fun x hx => (by simp at hx; rcases hx with rfl | rfl <;> rfl), rfl, rfl, rfl, ?_⟩
    intro us w S ht hs h
    obtain ⟨u, u', rfl, hu, hu'⟩ := two_args hs h
    obtain ⟨rfl, h0'⟩ := repV_str hu'
    rcases strs_of (show RepP w S (.sl (strsAV l) .no) u from hu) with ⟨rfl, a, c, rfl⟩ | ⟨b, off, c, rfl, hc, hm, hb, hcell⟩
    · refine (Tryz.strings_Join_none a c ⟨sep.toArray⟩ w).mono ?_
      rintro e w' ⟨rfl, rfl⟩
      exact ⟨_, rfl, Below.refl _ _, (RepP.str [] (by simp) : RepP _ _ _ _)⟩
    · have hj := Tryz.strings_Join b off c (l.map fun x => (⟨x.toArray⟩ : ByteArray)) ⟨sep.toArray⟩ w (fun j x hx => by
        simp only [List.getElem?_map, Option.map_eq_some_iff] at hx
        obtain ⟨y, hy, rfl⟩ := hx
        exact hcell j y hy) hb (by simpa using q3) (by simpa using hc) (by rw [toList_arr]; simpa using q2)
      rw [toList_arr] at hj
      simp only [List.length_map] at hj
      refine hj.mono ?_
      rintro e w' ⟨rfl, hw⟩
      exact ⟨_, rfl, hw, (RepP.str _ (by omega) : RepP _ _ _ _)⟩
  · cases hF
def splitSF : Con
  | [.val (.str s), .val (.str sep)] => some (s.length < 4294967281 ∧ 1 ≤ sep.length, ⟨.sl (strsAV (Lib.split s sep)) .no, none, none⟩)
  | _ => none
theorem splitK_len (sep : List UInt8) : ∀ (k : Nat) (s : List UInt8), ∀ x ∈ Lib.splitK sep 0 k s, x.length ≤ s.length
  | 0, s, x, hx => by simp [Lib.splitK] at hx; subst hx; exact Nat.le_refl _
  | k + 1, s, x, hx => by
    unfold Lib.splitK at hx
    split at hx
    · simp at hx; subst hx; exact Nat.le_refl _
    · rcases List.mem_cons.1 hx with rfl | hx
      · simp; omega
      · have := splitK_len sep k _ x hx
        simp at this; omega
theorem splitB_map (s sep : List UInt8) : Lib.splitB ⟨sep.toArray⟩ 0 (Lib.countB ⟨s.toArray⟩ ⟨sep.toArray⟩) ⟨s.toArray⟩ = (Lib.split s sep).map fun x => (⟨x.toArray⟩ : ByteArray) := by
  have h := Lib.splitB_data ⟨sep.toArray⟩ 0 (Lib.countB ⟨s.toArray⟩ ⟨sep.toArray⟩) ⟨s.toArray⟩
  have e : Lib.splitK sep 0 (Lib.countB ⟨s.toArray⟩ ⟨sep.toArray⟩) s = Lib.split s sep := rfl
  simp only [] at h
  rw [e] at h
  rw [← h, List.map_map]
  conv => lhs; rw [← List.map_id (Lib.splitB _ _ _ _)]
  exact List.map_congr_left fun x _ => by simp
theorem split_size (s sep : List UInt8) (h : 1 ≤ sep.length) : (Lib.split s sep).length = Lib.countB ⟨s.toArray⟩ ⟨sep.toArray⟩ + 1 := by
  have h1 := Lib.splitB_all ⟨sep.toArray⟩ (by simpa [ByteArray.size] using h) 0 _ ⟨s.toArray⟩ rfl
  rw [splitB_map] at h1
  simpa using h1
theorem split_count_le (s sep : List UInt8) (h : 1 ≤ sep.length) : (Lib.split s sep).length ≤ s.length + 1 := by
  rw [split_size s sep h]
  have := Lib.countB_le ⟨sep.toArray⟩ (by simpa [ByteArray.size] using h) _ ⟨s.toArray⟩ (Nat.le_refl _)
  simp [ByteArray.size] at this
  omega
theorem meetsSplitS : Meets Tryz.prog 76 splitSF := by
  refine meets_plainT Tryz.call76 ?_
  intro args q r hF hq
  unfold splitSF at hF
  split at hF
  · rename_i s sep
    cases hF
    obtain ⟨q1, q2⟩ := hq
    refine ⟨[.str s, .str sep], rfl, rfl, fun x hx => (by simp at hx; rcases hx with rfl | rfl <;> rfl), rfl, rfl, rfl, ?_⟩
    intro us w S ht hs h
    obtain ⟨o, ob, ht⟩ := ht
    obtain ⟨u, u', rfl, hu, hu'⟩ := two_args hs h
    obtain ⟨rfl, h0⟩ := repV_str hu
    obtain ⟨rfl, h0'⟩ := repV_str hu'
    obtain ⟨m, hm⟩ := ht.facts.max 1 (by kernel_rfl)
    have hc := split_count_le s sep q2
    refine (Tryz.strings_Split ⟨s.toArray⟩ ⟨sep.toArray⟩ m w (by simpa [ByteArray.size] using q1) hm (by simpa [ByteArray.size] using q2)).mono ?_
    rintro e w' ⟨rfl, rfl⟩
    rw [splitB_map, ← split_size s sep q2]
    refine ⟨_, rfl, (Below.refl _ w).alloc (Nat.le_refl _) _, (strs_made (Nat.le_refl _) ?_ (by unfold maxLen; omega) fun x hx => by have := splitK_len sep _ s x hx; omega : RepP _ _ _ _)⟩
    intro i x hx
    have e : (w.alloc (.cells (((Lib.split s sep).map fun x => (⟨x.toArray⟩ : ByteArray)).map Value.string).toArray 9)).heap[w.heap.size]? = some (.cells (((Lib.split s sep).map fun x => (⟨x.toArray⟩ : ByteArray)).map Value.string).toArray 9) := World.alloc_heap_new w _
    simp only [World.cell?, e]
    simp [hx]
  · cases hF
theorem okWidth_strs (l : List (List UInt8)) : okWidth 1 (strsAV l) := by
  intro x hx
  obtain ⟨y, _, rfl⟩ := List.mem_map.1 hx
  rfl
theorem elemAt_strs {l : List (List UInt8)} {i : Nat} (h : i < l.length) : elemAt (strsAV l) i = .str (l.getD i []) := by
  simp [elemAt, cellAt, strsAV, List.getD_eq_getElem?_getD, List.getElem?_eq_getElem h]
theorem okElem_strs {l : List (List UInt8)} {i : Nat} (h : i < l.length) : okElem 1 (strsAV l) i := by
  unfold okElem; rw [elemAt_strs h]; rfl
theorem okRead_strs {l : List (List UInt8)} {i : Nat} (h : i < l.length) : okRead [.str] (elemAt (strsAV l) i) 0 := by
  rw [elemAt_strs h]
  intro j kd hj
  match j, hj with
  | 0, hj => simp at hj; subst hj; rfl
  | j + 1, hj => simp at hj
theorem rdStr_strs {l : List (List UInt8)} {i : Nat} (h : i < l.length) : rdStr (elemAt (strsAV l) i) 0 = l.getD i [] := by
  rw [elemAt_strs h]; rfl
theorem cutL_strs (l : List (List UInt8)) (a b : Nat) : cutL (strsAV l) a b = strsAV (cutL l a b) := by simp [cutL, strsAV, List.map_take, List.map_drop]
theorem catL_strs (l m : List (List UInt8)) : catL (strsAV l) (strsAV m) = strsAV (l ++ m) := by simp [catL, strsAV]
end Go.Proofs.YtpomloangafbkaaGreatDoor
