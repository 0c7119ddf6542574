/- From a law's contract to its walk; and a flat struct of whole numbers among arguments. -/
import Derived.Test.YtnhfjdbnkpbbkabLaxMeets
namespace Go.Proofs.Ytnhfjdbnkpbbkab
set_option linter.unusedVariables false
set_option linter.unusedSimpArgs false
open Go.RowKit

section
variable {P : Program}

/-- no box, no row -/
def noGh : Gh := ⟨fun _ => 0, fun _ _ => .slice none 0 0, fun _ _ => 0, fun _ _ => False⟩
def noOwn : OwnP := ⟨fun _ => none, fun _ => none, fun _ _ => False⟩
def vals (l : List AV) : List Arg := l.map .val

theorem vals_get (l : List AV) (i : Nat) : (vals l)[i]? = (l[i]?).map .val := by simp [vals]
theorem vals_boxes (l : List AV) (s : Nat) : (entrySt (vals l)).boxes s = none := by
  simp only [entrySt, vals_get]
  cases l[s]? <;> rfl
theorem vals_boxOf (l : List AV) : boxOf (vals l) = [] := by
  induction l with
  | nil => rfl
  | cons v l ih => simpa [vals, boxOf] using ih
theorem vals_rows (l : List AV) (x y : Nat) : (entrySt (vals l)).rows x y = .free := by
  simp [entrySt, vals_boxOf, retRows, updRows]

theorem vals_came {l : List AV} {us : Array Value} {w : World} (hs : us.size = l.length) (h : ∀ (i : Nat) v, l[i]? = some v → ∃ u, us[i]? = some u ∧ Rep P (entrySt (vals l)) noGh w v u) : Came P (vals l) us w noGh noOwn := by
  refine ⟨by simp [vals, hs], ⟨fun s cs h => (by rw [vals_boxes] at h; cases h), fun s cs s' cs' h => (by rw [vals_boxes] at h; cases h), fun x y tip h => (by rw [vals_rows] at h; cases h), fun x y tip x' y' tip' g h => (by rw [vals_rows] at h; cases h), fun s cs x y tip h => (by rw [vals_boxes] at h; cases h)⟩, fun i => ?_, ⟨fun s cs h => (by rw [vals_boxes] at h; cases h), fun x y tip g h => (by rw [vals_rows] at h; cases h), fun b t h => (by cases h)⟩, fun b o h => h.elim, fun x y tip g o h => (by rw [vals_rows] at h; cases h)⟩
  have e : (entrySt (vals l)).tmps i = match l[i]? with | some v => v | none => .skip := by
    simp only [entrySt, vals_get]
    cases l[i]? <;> rfl
  rw [e]
  cases hv : l[i]? with
  | none =>
    have : l.length ≤ i := by
      rcases Nat.lt_or_ge i l.length with h | h
      · rw [List.getElem?_eq_getElem h] at hv; cases hv
      · exact h
    have : us.getD i undef = undef := by simp [Array.getD_eq_getD_getElem?, hs, this]
    rw [this]
    exact rep_skip
  | some v =>
    obtain ⟨u, h1, h2⟩ := h i v hv
    have : us.getD i undef = u := by simp [Array.getD_eq_getD_getElem?, h1]
    rw [this]
    exact h2

/-- contracts by name -/
def lookΓ : List (Nat × Con) → Nat → Option Con
  | [], _ => none
  | (k, F) :: r, f => bif Nat.beq f k then some F else lookΓ r f
theorem sound_of : ∀ (l : List (Nat × Con)), (∀ p ∈ l, Meets P p.1 p.2) → Sound P (lookΓ l)
  | [], _ => fun f F h => by cases h
  | (k, F) :: l, h => by
    intro f F' hf
    simp only [lookΓ] at hf
    cases hq : Nat.beq f k with
    | true =>
      rw [hq] at hf
      simp only [cond_true, Option.some.injEq] at hf
      subst hf
      have e := Nat.eq_of_beq_eq_true hq
      subst e
      exact h (f, F) (by simp)
    | false =>
      rw [hq] at hf
      exact sound_of l (fun p hp => h p (by simp [hp])) f F' hf

/-- a law that returns true -/
theorem law_of_meets {f : Nat} {F : Con} (hM : Meets P f F) {l : List AV} {us : Array Value} {w : World} {q : Prop} (hF : F (vals l) = some (q, ⟨.bool true, none, none⟩)) (hq : q) (hs : us.size = l.length)
    (h : ∀ (i : Nat) v, l[i]? = some v → ∃ u, us[i]? = some u ∧ Rep P (entrySt (vals l)) noGh w v u) : Calls P f us w fun e w' => e = .returned (.bool true) ∧ Below w.heap.size w w' := by
  refine (hM.calls (vals l) us w noGh noOwn 0 none q ⟨.bool true, none, none⟩ hF hq (vals_came hs h) rfl (fun i s h => by cases h)).mono ?_
  rintro e w' ⟨GX, v, rfl, hB⟩
  refine ⟨?_, ⟨hB.pres.os, hB.pres.tape, hB.pres.output, hB.pres.size, fun b hb => hB.pres.block b hb rfl⟩⟩
  have hv : Rep P (exitSt 0 none ⟨.bool true, none, none⟩) GX w' (.bool true) v := hB.val
  rw [hv.inv_bool]

/-- a value of a flat type, of whole numbers alone -/
theorem flat_ints {W : World} {base : Nat} {t : TypeId} {v : Value} {ts : List TypeId} {k : IntKind} (ht : tagg P t = true) (hts : P.cellTypes P.depth t = some ts) (hn : P.cellsOf t = ts.length) (hp : 0 < ts.length) (hk : ts.all (fun u => match P.underlying u with | some (.int k') => decide (k' = k) | _ => false) = true)
    (hv : Value.okWide P W .any base t v) : ∃ l : List Int, v = .agg (l.map (Value.int k)).toArray ∧ l.length = ts.length ∧ ∀ x ∈ l, k.min ≤ x ∧ x ≤ k.max := by
  have key : ∃ cs, v = .agg cs ∧ cs.size = P.cellsOf t ∧ Row.okWide P W .any base t cs := by
    unfold Value.okWide at hv
    unfold tagg at ht
    cases hu : P.underlying t with
    | none => rw [hu] at ht; cases ht
    | some d => rw [hu] at hv ht; cases d <;> first | exact hv | cases ht
  obtain ⟨cs, rfl, hsz, ts', hts', _, hc⟩ := key
  rw [hts] at hts'
  cases hts'
  rw [List.all_eq_true] at hk
  have cell : ∀ (i : Nat) v, cs[i]? = some v → ∃ n, v = .int k n ∧ k.min ≤ n ∧ n ≤ k.max := by
    intro i v hi
    obtain ⟨u, h1, h2⟩ := hc i v hi
    have hu : P.underlying u = some (.int k) := by
      have := hk u (List.mem_of_getElem? h1)
      split at this
      · rename_i k' h; rw [h, of_decide_eq_true this]
      · cases this
    unfold Cell.okWide at h2
    rw [hu] at h2
    simp only at h2
    unfold Cell.ok at h2
    rw [hu] at h2
    cases v <;> simp at h2
    obtain ⟨rfl, h3⟩ := h2
    exact ⟨_, rfl, h3.1, h3.2⟩
  have hcs : cs = ((cs.toList.map fun v => match v with | .int _ n => n | _ => 0).map (Value.int k)).toArray := by
    apply Array.ext'
    rw [List.map_map]
    refine (List.map_id _).symm.trans (List.map_congr_left fun v hv => ?_)
    obtain ⟨i, hi⟩ := List.getElem?_of_mem hv
    obtain ⟨n, rfl, _⟩ := cell i v (by simpa using hi)
    rfl
  refine ⟨_, congrArg Value.agg hcs, by simp [hsz, hn], fun x hx => ?_⟩
  simp only [List.mem_map] at hx
  obtain ⟨v, hv, rfl⟩ := hx
  obtain ⟨i, hi⟩ := List.getElem?_of_mem hv
  obtain ⟨n, rfl, h1, h2⟩ := cell i v (by simpa using hi)
  exact ⟨h1, h2⟩

theorem rep_flat {st : St} {G : Gh} {w : World} {k : IntKind} {l : List Int} (h : ∀ x ∈ l, k.min ≤ x ∧ x ≤ k.max) : Rep P st G w (.agg (l.map (AV.int k))) (.agg (l.map (Value.int k)).toArray) := by
  refine (⟨(l.map (Value.int k)).toArray, rfl, by simp, fun i c hc => ?_⟩ : RepA P st G w (.agg (l.map (AV.int k))) (.agg (l.map (Value.int k)).toArray))
  simp only [List.getElem?_map, Option.map_eq_some_iff] at hc
  obtain ⟨x, hx, rfl⟩ := hc
  have := h x (List.mem_of_getElem? hx)
  exact ⟨rfl, .int k x, by simp [hx], (RepP.int k x this.1 this.2 : RepP w _ (.int k x) (.int k x))⟩
end
end Go.Proofs.Ytnhfjdbnkpbbkab
