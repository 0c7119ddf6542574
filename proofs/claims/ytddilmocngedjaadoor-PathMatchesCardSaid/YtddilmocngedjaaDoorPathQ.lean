/- Paths: the plain laws. Nothing of the program stands here. -/
import Derived.Test.YtddilmocngedjaaDoorPathP
namespace Go.Proofs.YtddilmocngedjaaDoor
set_option linter.unusedVariables false
set_option linter.unusedSimpArgs false
open Go.Lib

theorem joinP_nil : joinP [] = [] := rfl
theorem joinP_one (x : List UInt8) : joinP [x] = x := by simp [joinP, join_one]
theorem joinP_cons (x y : List UInt8) (r : List (List UInt8)) : joinP (x :: y :: r) = x ++ 47 :: joinP (y :: r) := by
  simp [joinP, join_cons, joinTail]
theorem joinP_append {a b : List (List UInt8)} (ha : a ≠ []) (hb : b ≠ []) : joinP (a ++ b) = joinP a ++ 47 :: joinP b := by
  induction a with
  | nil => exact absurd rfl ha
  | cons x r ih =>
    cases r with
    | nil =>
      cases b with
      | nil => exact absurd rfl hb
      | cons y t => simp [joinP_one, joinP_cons]
    | cons y t =>
      have := ih (by simp)
      rw [List.cons_append, List.cons_append, joinP_cons, ← List.cons_append, this, joinP_cons]
      simp
theorem joinP_segs (s : List UInt8) : joinP (segs s) = s := by
  induction s with
  | nil => rfl
  | cons x r ih =>
    have hne := segs_ne r
    cases hs : segs r with
    | nil => exact absurd hs hne
    | cons a t =>
      rw [hs] at ih
      by_cases hx : x = 47
      · subst hx
        rw [segs_slash, hs, joinP_cons, ih]; rfl
      · rw [segs_other hx, hs]
        simp only [List.headD_cons, List.tail_cons]
        cases t with
        | nil => rw [joinP_one] at ih ⊢; rw [ih]
        | cons b u => rw [joinP_cons] at ih ⊢; rw [← ih]; rfl
theorem segs_plain {x : List UInt8} (h : (47 : UInt8) ∉ x) : segs x = [x] := by
  induction x with
  | nil => rfl
  | cons a r ih =>
    have h1 : a ≠ 47 := fun e => h (by simp [e])
    rw [segs_other h1, ih fun h2 => h (by simp [h2])]; rfl
theorem segs_app (a b : List UInt8) : segs (a ++ 47 :: b) = segs a ++ segs b := by
  induction a with
  | nil => rw [List.nil_append, segs_slash]; rfl
  | cons x r ih =>
    by_cases hx : x = 47
    · subst hx
      rw [List.cons_append, segs_slash, ih, segs_slash]; rfl
    · have hne := segs_ne r
      cases hs : segs r with
      | nil => exact absurd hs hne
      | cons c t =>
        rw [List.cons_append, segs_other hx, ih, segs_other hx, hs]; rfl
theorem segs_joinP {l : List (List UInt8)} (hl : l ≠ []) (h : ∀ x ∈ l, (47 : UInt8) ∉ x) : segs (joinP l) = l := by
  induction l with
  | nil => exact absurd rfl hl
  | cons x r ih =>
    cases r with
    | nil => rw [joinP_one, segs_plain (h x (by simp))]
    | cons y t =>
      rw [joinP_cons, segs_app, segs_plain (h x (by simp)), ih (by simp) fun z hz => h z (by simp only [List.mem_cons] at hz ⊢; exact .inr hz)]; rfl
theorem okPart_no {x : List UInt8} (h : okPart x = true) : (47 : UInt8) ∉ x ∧ x ≠ [] ∧ x ≠ [46] ∧ x ≠ [46, 46] := by
  unfold okPart at h
  simp only [Bool.and_eq_true, List.all_eq_true] at h
  refine ⟨fun hm => ?_, ?_, ?_, ?_⟩
  · have := h.2 _ hm; revert this; decide
  · rintro rfl; simp at h
  · rintro rfl; have := h.2 46 (by simp); revert this; decide
  · rintro rfl; have := h.2 46 (by simp); revert this; decide
theorem stepP_ok {o : List (List UInt8)} {x : List UInt8} (h : okPart x = true) : stepP o x = some (o ++ [x]) := by
  obtain ⟨_, h1, h2, h3⟩ := okPart_no h
  simp [stepP, h1, h2, h3, h]
theorem walkP_ok {l : List (List UInt8)} : ∀ {o : List (List UInt8)}, (∀ x ∈ l, okPart x = true) → walkP o l = some (o ++ l) := by
  induction l with
  | nil => intro o _; simp [walkP]
  | cons x r ih =>
    intro o h
    simp only [walkP, stepP_ok (h x (by simp))]
    rw [ih fun y hy => h y (by simp [hy])]; simp
theorem stepP_all {o o' : List (List UInt8)} {p : List UInt8} (h : stepP o p = some o') (ho : ∀ x ∈ o, okPart x = true) : ∀ x ∈ o', okPart x = true := by
  unfold stepP at h
  split at h
  · cases h; exact ho
  · split at h
    · split at h
      · cases h
      · cases h; exact fun x hx => ho x ((List.dropLast_sublist o).subset hx)
    · split at h
      · rename_i hk
        cases h
        intro x hx
        rcases List.mem_append.1 hx with hx | hx
        · exact ho x hx
        · simp at hx; subst hx; exact hk
      · cases h
theorem walkP_all {o' : List (List UInt8)} : ∀ {a o : List (List UInt8)}, walkP o a = some o' → (∀ x ∈ o, okPart x = true) → ∀ x ∈ o', okPart x = true
  | [], o, h, ho => by cases h; exact ho
  | p :: r, o, h, ho => by
    simp only [walkP] at h
    split at h
    · rename_i o1 h1
      exact walkP_all h (stepP_all h1 ho)
    · cases h
theorem partsP_all {s : List UInt8} {l : List (List UInt8)} (h : partsP s = some l) : ∀ x ∈ l, okPart x = true := walkP_all h fun x hx => by cases hx
theorem partsP_join {l : List (List UInt8)} (hl : l ≠ []) (h : ∀ x ∈ l, okPart x = true) : partsP (joinP l) = some l := by
  unfold partsP
  rw [segs_joinP hl fun x hx => (okPart_no (h x hx)).1, walkP_ok h]; simp
/-- a path's parts -/
structure IsPath (p : List UInt8) (l : List (List UInt8)) : Prop where
  ne : l ≠ []
  ok : ∀ x ∈ l, okPart x = true
  few : l.length ≤ 8
  short : p.length ≤ 64
  join : p = joinP l
theorem rightP_iff (p : List UInt8) : rightP p = true ↔ ∃ l, IsPath p l := by
  unfold rightP
  simp only [Bool.and_eq_true, decide_eq_true_eq]
  constructor
  · rintro ⟨h1, h2⟩
    unfold normV at h2
    rw [if_pos h1] at h2
    unfold normE at h1
    cases hp : partsP p with
    | none => rw [hp] at h1; simp at h1
    | some l =>
      rw [hp] at h1 h2
      simp only [Option.getD_some] at h1 h2
      by_cases a1 : l = []
      · rw [if_pos a1] at h1; cases h1
      · rw [if_neg a1] at h1
        by_cases a2 : 8 < l.length
        · rw [if_pos a2] at h1; cases h1
        · rw [if_neg a2] at h1
          by_cases a3 : 64 < (joinP l).length
          · rw [if_pos a3] at h1; cases h1
          · exact ⟨l, a1, partsP_all hp, by omega, by rw [h2]; omega, h2⟩
  · rintro ⟨l, h⟩
    have hp : partsP p = some l := by rw [h.join]; exact partsP_join h.ne h.ok
    have h1 : normE p = 0 := by
      have hs := h.short
      have hf := h.few
      have hj := h.join
      unfold normE
      rw [hp]
      simp only
      rw [if_neg h.ne, if_neg (by omega), if_neg (by rw [← hj]; omega)]
    refine ⟨h1, ?_⟩
    unfold normV
    rw [if_pos h1, hp]; exact h.join
theorem IsPath.parts {p : List UInt8} {l : List (List UInt8)} (h : IsPath p l) : partsP p = some l := by rw [h.join]; exact partsP_join h.ne h.ok
theorem IsPath.segs {p : List UInt8} {l : List (List UInt8)} (h : IsPath p l) : segs p = l := by rw [h.join]; exact segs_joinP h.ne fun x hx => (okPart_no (h.ok x hx)).1
theorem IsPath.right {p : List UInt8} {l : List (List UInt8)} (h : IsPath p l) : rightP p = true := (rightP_iff p).2 ⟨l, h⟩
/-- a normal text is a path -/
theorem normV_path {s : List UInt8} (h : normE s = 0) : ∃ l, IsPath (normV s) l := by
  have h0 := h
  unfold normE at h
  cases hp : partsP s with
  | none => rw [hp] at h; simp at h
  | some l =>
    rw [hp] at h
    simp only at h
    by_cases a1 : l = []
    · rw [if_pos a1] at h; cases h
    · rw [if_neg a1] at h
      by_cases a2 : 8 < l.length
      · rw [if_pos a2] at h; cases h
      · rw [if_neg a2] at h
        by_cases a3 : 64 < (joinP l).length
        · rw [if_pos a3] at h; cases h
        · have e : normV s = joinP l := by unfold normV; rw [if_pos h0, hp]; rfl
          exact ⟨l, a1, partsP_all hp, by omega, by rw [e]; omega, e⟩
theorem normE_right {s : List UInt8} (h : rightP s = true) : normE s = 0 ∧ normV s = s := by
  unfold rightP at h
  simp only [Bool.and_eq_true, decide_eq_true_eq] at h
  exact ⟨h.1, h.2.symm⟩
theorem right_len {s : List UInt8} (h : rightP s = true) : s.length ≤ 64 := by
  obtain ⟨l, hl⟩ := (rightP_iff s).1 h
  exact hl.short
theorem normV_len (s : List UInt8) : (normV s).length ≤ 64 := by
  by_cases h : normE s = 0
  · obtain ⟨l, hl⟩ := normV_path h
    exact hl.short
  · unfold normV; rw [if_neg h]; simp
theorem above_iff {p q : List UInt8} {a b : List (List UInt8)} (ha : IsPath p a) (hb : IsPath q b) : (p = q ∨ p ++ [47] <+: q) ↔ a <+: b := by
  constructor
  · rintro (h | ⟨t, h⟩)
    · subst h
      have := ha.segs.symm.trans hb.segs
      subst this
      exact List.prefix_refl _
    · have h1 : q = p ++ 47 :: t := by rw [← h]; simp
      have h2 := hb.segs
      rw [h1, segs_app, ha.segs] at h2
      exact ⟨segs t, h2⟩
  · rintro ⟨t, rfl⟩
    by_cases ht : t = []
    · subst ht
      left
      rw [ha.join, hb.join]; simp
    · right
      refine ⟨joinP t, ?_⟩
      rw [hb.join, ha.join, joinP_append ha.ne ht]; simp
theorem segs_snoc_slash {a : List UInt8} : segs (a ++ [47]) = segs a ++ [[]] := segs_app a []
theorem segs_snoc {a : List UInt8} {c : UInt8} {init : List (List UInt8)} {p : List UInt8} (hc : c ≠ 47) (h : segs a = init ++ [p]) : segs (a ++ [c]) = init ++ [p ++ [c]] := by
  induction a generalizing init p with
  | nil =>
    have : init = [] ∧ p = [] := by
      cases init with
      | nil => simpa [segs] using h.symm
      | cons x t => simp [segs] at h
    obtain ⟨rfl, rfl⟩ := this
    simp [segs_other hc, segs]
  | cons x r ih =>
    by_cases hx : x = 47
    · subst hx
      rw [segs_slash] at h
      rw [List.cons_append, segs_slash]
      cases init with
      | nil =>
        simp only [List.nil_append, List.cons.injEq] at h
        exact absurd h.2 (segs_ne r)
      | cons y t =>
        simp only [List.cons_append, List.cons.injEq] at h
        rw [ih h.2, h.1]; rfl
    · have hne := segs_ne r
      cases hs : segs r with
      | nil => exact absurd hs hne
      | cons b t =>
        rw [segs_other hx, hs] at h
        simp only [List.headD_cons, List.tail_cons] at h
        rw [List.cons_append, segs_other hx]
        cases init with
        | nil =>
          simp only [List.nil_append, List.cons.injEq] at h
          obtain ⟨rfl, rfl⟩ := h
          rw [ih (init := []) (p := b) (by rw [hs]; rfl)]; rfl
        | cons y u =>
          simp only [List.cons_append, List.cons.injEq] at h
          obtain ⟨rfl, rfl⟩ := h
          rw [ih (init := b :: u) (p := p) (by rw [hs]; rfl)]; rfl
end Go.Proofs.YtddilmocngedjaaDoor
