/- Go's library on texts and paths' parts, and path.walk: contracts by content. -/
import Derived.Test.YtddilmocngedjaaDoorLaxArgs
import Derived.Test.YtddilmocngedjaaDoorWalk
namespace Go.Proofs.YtddilmocngedjaaDoor
set_option linter.unusedVariables false
set_option linter.unusedSimpArgs false
open Go Go.Proofs Go.RowKit Go.Lib

/-- texts, as a slice's elements -/
def strsAV (l : List (List UInt8)) : List AV := l.map AV.str
def strsL (xs : List AV) : List (List UInt8) := xs.map AV.theStr
def isStrs (xs : List AV) : Prop := xs = strsAV (strsL xs)
theorem strsL_strsAV (l : List (List UInt8)) : strsL (strsAV l) = l := by
  unfold strsL strsAV
  rw [List.map_map]
  conv => rhs; rw [← List.map_id l]
  exact List.map_congr_left fun x _ => rfl
theorem isStrs_strsAV (l : List (List UInt8)) : isStrs (strsAV l) := by unfold isStrs; rw [strsL_strsAV]
theorem isStrs.get {xs : List AV} (h : isStrs xs) : ∃ l, xs = strsAV l := ⟨_, h⟩
theorem length_strsAV (l : List (List UInt8)) : (strsAV l).length = l.length := by simp [strsAV]

section
variable {w w' : World} {S : Nat → Nat → Prop}
theorem strs_rep {base e : Nat} {v : Value} {l : List (List UInt8)} (h : w.ownsRow base e 1 v l.length (l.map encS)) (hS : ∀ g o, base ≤ g → S g o) (hl : ∀ x ∈ l, x.length ≤ 9223372036854775807) : RepP w S (.sl (strsAV l) .no) v := by
  rcases h.2 with ⟨rfl, h0⟩ | ⟨g, cap, cur, rfl, hb, hg, h1, h2, h3, h4⟩
  · obtain rfl : l = [] := List.length_eq_zero_iff.1 h0
    exact RepP.slnil .no none 0 (by unfold maxLen; omega)
  · have hc : ∀ i x, l[i]? = some x → w.cell? ⟨g, i, none⟩ = some (encS x) := by
      intro i x hx
      have hi := (List.getElem?_eq_some_iff.1 hx).1
      rw [cell_of_row w g i cur e (0, 0) hg]
      have h5 : (cur.toList.take (l.length * 1))[i]? = (l.map encS)[i]? := by rw [h4]
      rw [List.getElem?_take, if_pos (by omega), List.getElem?_map, hx] at h5
      simpa using h5
    have := RepP.sl (w := w) (S := S) (strsAV l) .no g 0 cap 1 (fun i j => encS (l.getD i [])) (by rw [length_strsAV]; exact h1) h2
      (fun i x hx => by
        simp only [strsAV, List.getElem?_map, Option.map_eq_some_iff] at hx
        obtain ⟨y, _, rfl⟩ := hx; rfl)
      (fun i x j c hx hj => by
        simp only [strsAV, List.getElem?_map, Option.map_eq_some_iff] at hx
        obtain ⟨y, hy, rfl⟩ := hx
        have e0 : l.getD i [] = y := by simp [List.getD_eq_getElem?_getD, hy]
        match j, hj with
        | 0, hj =>
          simp [AV.cells] at hj; subst hj
          refine ⟨hS _ _ hb, ?_, rfl⟩
          have := hc i y hy
          simp only [e0]; simpa using this
        | j + 1, hj => simp [AV.cells] at hj)
      (fun i x j c hx hj => by
        simp only [strsAV, List.getElem?_map, Option.map_eq_some_iff] at hx
        obtain ⟨y, hy, rfl⟩ := hx
        have e0 : l.getD i [] = y := by simp [List.getD_eq_getElem?_getD, hy]
        match j, hj with
        | 0, hj =>
          simp [AV.cells] at hj; subst hj
          simp only [e0]
          exact RepP.str y (hl y (List.mem_of_getElem? hy))
        | j + 1, hj => simp [AV.cells] at hj)
    rw [length_strsAV] at this
    exact this
/-- a slice of texts, in a real world -/
theorem strs_of {l : List (List UInt8)} {u : Value} (h : RepP w S (.sl (strsAV l) .no) u) :
    (l = [] ∧ ∃ a c, u = .slice a 0 c) ∨ ∃ b off c, u = .slice (some ⟨b, off, none⟩) l.length c ∧ l.length ≤ c ∧ c ≤ maxLen ∧ b < w.heap.size ∧ ∀ (i : Nat) x, l[i]? = some x → w.cell? ⟨b, off + i, none⟩ = some (encS x) := by
  generalize hx : strsAV l = xs at h
  cases h with
  | slnil o a cap hc =>
    left
    refine ⟨by simpa [strsAV] using hx, a, cap, rfl⟩
  | sl xs o b off cap size us hc hm hsz hS hr =>
    subst hx
    by_cases hl : l = []
    · left
      subst hl
      exact ⟨rfl, _, _, rfl⟩
    · right
      have cell : ∀ (i : Nat) x, l[i]? = some x → w.cell? ⟨b, off + i, none⟩ = some (encS x) := by
        intro i x hx
        have h1 : (strsAV l)[i]? = some (.str x) := by simp [strsAV, hx]
        have hs1 := hsz i _ h1
        simp [AV.cells] at hs1
        subst hs1
        have h2 := (hS i _ 0 (.str x) h1 rfl).2.1
        have h3 := hr i _ 0 (.str x) h1 rfl
        rw [Nat.mul_one, Nat.add_zero] at h2
        rw [h2]
        generalize us i 0 = q at h3
        cases h3; rfl
      refine ⟨b, off, cap, by rw [length_strsAV], by rw [length_strsAV] at hc; exact hc, hm, ?_, cell⟩
      have h0 : 0 < l.length := List.length_pos_iff.2 hl
      exact World.block_lt_of_cell? w _ (cell 0 l[0] (List.getElem?_eq_getElem h0))
end

theorem segs_lens {s : List UInt8} (hs : s.length ≤ 1000000) : ∀ x ∈ segs s, x.length ≤ 9223372036854775807 := fun x hx => by
  have := segs_elem_len hx
  omega
theorem stepP_mem {o o' : List (List UInt8)} {p : List UInt8} (h : stepP o p = some o') : ∀ x ∈ o', x ∈ o ∨ x = p := by
  unfold stepP at h
  split at h
  · cases h; exact fun x hx => .inl hx
  · split at h
    · split at h
      · cases h
      · cases h; exact fun x hx => .inl ((List.dropLast_sublist o).subset hx)
    · split at h
      · cases h; intro x hx; simpa using hx
      · cases h
theorem walkP_mem {o' : List (List UInt8)} : ∀ {a o : List (List UInt8)}, walkP o a = some o' → ∀ x ∈ o', x ∈ o ∨ x ∈ a
  | [], o, h, x, hx => by cases h; exact .inl hx
  | p :: r, o, h, x, hx => by
    simp only [walkP] at h
    split at h
    · rename_i o1 h1
      rcases walkP_mem h x hx with h2 | h2
      · rcases stepP_mem h1 x h2 with h3 | h3
        · exact .inl h3
        · exact .inr (by simp [h3])
      · exact .inr (by simp [h2])
    · cases h
theorem partsP_mem {s : List UInt8} {o : List (List UInt8)} (h : partsP s = some o) : ∀ x ∈ o, x.length ≤ s.length := fun x hx => by
  rcases walkP_mem h x hx with h1 | h1
  · simp at h1
  · exact segs_elem_len h1

def partsO (s : List UInt8) : List (List UInt8) := (partsP s).getD []
def walkE (s : List UInt8) : Int := if partsP s = none then 30 else 0
def walkF : Con
  | [.val (.str s)] => some (s.length ≤ 1000000, ⟨.tup [.sl (strsAV (partsO s)) .no, .int .i64 (walkE s)], none, none⟩)
  | _ => none
theorem meetsWalk : Meets Tryd.prog 62 walkF := by
  refine meets_plain Tryd.call62 ?_
  intro args q r hF hq
  unfold walkF at hF
  split at hF
  · rename_i s
    cases hF
    refine ⟨[.str s], rfl, rfl, fun x hx => (by simp at hx; subst hx; rfl), rfl, rfl, rfl, ?_⟩
    intro us w S hs h
    obtain ⟨u, rfl, hu⟩ := one_arg hs h
    obtain ⟨rfl, _⟩ := repV_str hu
    refine (walk_any s hq w).mono ?_
    rintro e w' ⟨v, rfl, hb, hm⟩
    refine ⟨_, rfl, hb, _, rfl, rfl, fun i c hc => ?_⟩
    match i, hc with
    | 0, hc =>
      simp at hc; subst hc
      refine ⟨v, rfl, ?_⟩
      cases hp : partsP s with
      | none =>
        rw [hp] at hm
        simp only at hm
        subst hm
        have : partsO s = [] := by simp [partsO, hp]
        rw [this]
        exact (RepP.slnil .no none 0 (by unfold maxLen; omega) : RepP w' _ (.sl [] .no) _)
      | some o =>
        rw [hp] at hm
        have : partsO s = o := by simp [partsO, hp]
        rw [this]
        exact (strs_rep hm (fun g o hg => Or.inr hg) (fun x hx => by have := partsP_mem hp x hx; omega) : RepP w' (More S w) (.sl (strsAV o) .no) v)
    | 1, hc =>
      simp at hc; subst hc
      have := k_i64
      exact ⟨_, rfl, (RepP.int .i64 (walkE s) (by unfold walkE; split <;> omega) (by unfold walkE; split <;> omega) : RepP w' _ _ _)⟩
    | i + 2, hc => simp at hc
  · cases hF
theorem map_strB (l : List (List UInt8)) : (l.map strB).map (·.data.toList) = l := by
  rw [List.map_map]
  conv => rhs; rw [← List.map_id l]
  exact List.map_congr_left fun x _ => strB_data x
def joinF : Con
  | [.val (.sl xs .no), .val (.str p)] => some (isStrs xs ∧ p = [47] ∧ (joinP (strsL xs)).length ≤ 140737488355328 ∧ xs.length ≤ 140737488355328, ⟨.str (joinP (strsL xs)), none, none⟩)
  | _ => none
theorem meetsJoin : Meets Tryd.prog 63 joinF := by
  refine meets_plain Tryd.call63 ?_
  intro args q r hF hq
  unfold joinF at hF
  split at hF
  · rename_i xs p
    cases hF
    obtain ⟨hb, rfl, hl, hn⟩ := hq
    obtain ⟨l, rfl⟩ := hb.get
    rw [strsL_strsAV] at hl ⊢
    rw [length_strsAV] at hn
    refine ⟨[.sl (strsAV l) .no, .str [47]], rfl, rfl, fun x hx => (by simp at hx; rcases hx with rfl | rfl <;> rfl), rfl, rfl, rfl, ?_⟩
    intro us w S hs h
    obtain ⟨u, u', rfl, hu, hu'⟩ := two_args hs h
    obtain ⟨rfl, _⟩ := repV_str hu'
    rcases strs_of (hu : RepP w S (.sl (strsAV l) .no) u) with ⟨rfl, a, c, rfl⟩ | ⟨b, off, c, rfl, h1, h2, h3, h4⟩
    · refine (Tryd.strings_Join_none a c ⟨[47].toArray⟩ w).mono ?_
      rintro e w' ⟨rfl, rfl⟩
      exact ⟨_, rfl, Below.refl _ _, (RepP.str (joinP []) (by simp [joinP, Lib.join]) : RepP _ _ (.str (joinP [])) _)⟩
    · have hj := Tryd.strings_Join b off c (l.map strB) ⟨[47].toArray⟩ w (fun j x hx => by
        simp only [List.getElem?_map, Option.map_eq_some_iff] at hx
        obtain ⟨y, hy, rfl⟩ := hx
        exact h4 j y hy) h3 (by simpa using hn) (by simpa using h1) (by rw [map_strB]; exact hl)
      rw [map_strB, List.length_map] at hj
      refine hj.mono ?_
      rintro e w' ⟨rfl, hb⟩
      exact ⟨_, rfl, hb, (RepP.str (joinP l) (by omega) : RepP _ _ (.str (joinP l)) _)⟩
  · cases hF
end Go.Proofs.YtddilmocngedjaaDoor
