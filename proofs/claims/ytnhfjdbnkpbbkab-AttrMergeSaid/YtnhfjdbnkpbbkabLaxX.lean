/- What an operation looks at, and where it writes. -/
import Derived.Test.YtnhfjdbnkpbbkabLaxW
namespace Go.Proofs.Ytnhfjdbnkpbbkab
set_option linter.unusedVariables false
set_option linter.unusedSimpArgs false
open Go.RowKit

section
variable {P : Program} {n : Nat} {st st' st1 : St} {o : Oper} {Γ : Nat → Option Con} {ops : Array Oper} {ft : Foot} {E : Eff}

theorem all_congr' {α : Type} {f g : α → Bool} : ∀ {l : List α}, (∀ x ∈ l, f x = g x) → l.all f = l.all g
  | [], _ => rfl
  | x :: l, h => by simp only [List.all_cons]; rw [h x (by simp), all_congr' (fun y hy => h y (by simp [hy]))]

theorem passCells_congr : ∀ (cs : List AV) (R R' : Nat → Nat → RowSt), (∀ a ∈ cellNames cs, ∀ b, R a b = R' a b) → passCells R cs = passCells R' cs
  | [], R, R', _ => rfl
  | c :: cs, R, R', h => by
    by_cases hc : ∃ xs a b e, c = .sl xs (.row a b e)
    · obtain ⟨xs, a, b, e, rfl⟩ := hc
      have h1 : R a b = R' a b := h a (by simp [cellNames]) b
      have h2 : ∀ x ∈ cellNames cs, ∀ y, R x y = R' x y := fun x hx y => h x (by simp [cellNames, hx]) y
      have h3 := passCells_congr cs R R' h2
      have h4 := passCells_congr cs (upd2 R (a, b) .dead) (upd2 R' (a, b) .dead) (fun x hx y => by
        unfold upd2; rw [h2 x hx y])
      simp only [passCells]
      rw [h1, h3, h4]
    · have hn : cellNames (c :: cs) = cellNames cs := by
        cases c with
        | sl xs ow => cases ow <;> first | rfl | exact absurd ⟨_, _, _, _, rfl⟩ hc
        | _ => rfl
      have h3 := passCells_congr cs R R' (by rw [← hn]; exact h)
      cases c with
      | sl xs ow => cases ow <;> first | exact absurd ⟨_, _, _, _, rfl⟩ hc | (simp only [passCells, h3])
      | _ => simp only [passCells, h3]
theorem passCells_heads : ∀ (cs : List AV) (R : Nat → Nat → RowSt), ∀ x ∈ (passCells R cs).2.2, x.1.1 ∈ cellNames cs
  | [], R, x, h => by simp [passCells] at h
  | c :: cs, R, x, h => by
    by_cases hc : ∃ xs a b e, c = .sl xs (.row a b e)
    · obtain ⟨xs, a, b, e, rfl⟩ := hc
      simp only [passCells] at h
      simp only [cellNames, List.mem_cons]
      split at h
      · simp only [List.mem_cons] at h
        rcases h with rfl | h
        · exact .inl rfl
        · exact .inr (passCells_heads cs _ x h)
      · exact .inr (passCells_heads cs _ x h)
    · have hn : cellNames (c :: cs) = cellNames cs := by
        cases c with
        | sl xs ow => cases ow <;> first | rfl | exact absurd ⟨_, _, _, _, rfl⟩ hc
        | _ => rfl
      rw [hn]
      have h3 : (passCells R (c :: cs)).2.2 = (passCells R cs).2.2 := by
        cases c with
        | sl xs ow => cases ow <;> first | exact absurd ⟨_, _, _, _, rfl⟩ hc | rfl
        | _ => rfl
      rw [h3] at h
      exact passCells_heads cs R x h

theorem passArgs_congr (vs : List AV) {B B' : Nat → Option (List AV)} {R R' : Nat → Nat → RowSt} (hB : ∀ s ∈ (findPtr 0 vs).map (fun x => x.2.1), B s = B' s) (hR : ∀ a ∈ (findPtr 0 vs).flatMap (fun x => cellNames ((B x.2.1).getD [])), ∀ b, R a b = R' a b) :
    passArgs B R vs = passArgs B' R' vs := by
  unfold passArgs
  split
  · rfl
  · rename_i i s h
    rw [h] at hB hR
    have h1 := hB s (by simp)
    rw [← h1]
    cases hb : B s with
    | none => rfl
    | some cs =>
      simp only
      have h2 := passCells_congr cs R R' (fun a ha b => hR a (by simp [hb, ha]) b)
      rw [h2]
  · rfl
theorem passArgs_site {vs : List AV} {B : Nat → Option (List AV)} {R : Nat → Nat → RowSt} {p : Passed} (h : passArgs B R vs = some p) : (∀ i s, p.site = some (i, s) → s ∈ (findPtr 0 vs).map (fun x => x.2.1)) ∧ ∀ x ∈ p.rows, x.1.1 ∈ (findPtr 0 vs).flatMap (fun x => cellNames ((B x.2.1).getD [])) := by
  unfold passArgs at h
  split at h
  · split at h
    · cases h; exact ⟨fun i s h => (by cases h), fun x h => (by simp at h)⟩
    · cases h
  · rename_i i s hf
    split at h
    · rename_i cs hcs
      split at h
      · cases h
        rw [hf]
        refine ⟨fun i' s' h => (by cases h; simp), fun x hx => ?_⟩
        have := passCells_heads cs R x hx
        simp [hcs, this]
      · cases h
    · cases h
  · cases h

theorem retRows_heads (d : Nat) : ∀ (L : List AV) (k : Nat), ∀ x ∈ retRows d k L, x.1.1 = d
  | [], k, x, h => by simp [retRows] at h
  | c :: L, k, x, h => by
    simp only [retRows, List.mem_append] at h
    rcases h with h | h
    · split at h
      · simp at h; rw [h]
      · simp at h
    · exact retRows_heads d L (k + 1) x h
theorem allFree_congr (d : Nat) {R R' : Nat → Nat → RowSt} (h : ∀ y, R d y = R' d y) : ∀ (L : List AV) (k : Nat), allFree R d k L = allFree R' d k L
  | [], k => rfl
  | c :: L, k => by simp only [allFree, h, allFree_congr d h L (k + 1)]

theorem effCall_eq {d f : Nat} {vs : List AV} (he : effCall Γ d f vs st = some (ft, E)) : ∃ F p q r, Γ f = some F ∧ passArgs st.boxes st.rows vs = some p ∧ F p.args = some (q, r) ∧ E = callEff p q d r ∧
    ft = ⟨[], d :: (findPtr 0 vs).map (fun x => x.2.1), d :: (findPtr 0 vs).flatMap (fun x => cellNames ((st.boxes x.2.1).getD []))⟩ ∧ p.site.isSome = r.box.isSome ∧ allFree st.rows d 0 r.outs = true ∧ (st.boxes d).isNone = true := by
  unfold effCall at he
  split at he
  · rename_i F p hF hp
    split at he
    · rename_i q r hr
      simp only at he
      split at he
      · rename_i hc
        simp only [Option.some.injEq, Prod.mk.injEq] at he
        exact ⟨F, p, q, r, hF, hp, hr, he.2.symm, he.1.symm, hc.1, hc.2.1, hc.2.2⟩
      · cases he
    · cases he
  · cases he
theorem effCall_local {d f : Nat} {vs : List AV} (he : effCall Γ d f vs st = some (ft, E)) (hb : ∀ s ∈ ft.wr, st.boxes s = st'.boxes s) (hr : ∀ h ∈ ft.nm, ∀ y, st.rows h y = st'.rows h y) : effCall Γ d f vs st' = some (ft, E) := by
  obtain ⟨F, p, q, r, h1, h2, h3, h4, h5, h6, h7, h8⟩ := effCall_eq he
  rw [h5] at hb hr
  simp only [List.mem_cons] at hb hr
  have hp := passArgs_congr vs (fun s hs => hb s (.inr hs)) (fun x hx => hr x (.inr hx))
  have hd := hb d (.inl rfl)
  have hfm : (findPtr 0 vs).flatMap (fun x => cellNames ((st.boxes x.2.1).getD [])) = (findPtr 0 vs).flatMap (fun x => cellNames ((st'.boxes x.2.1).getD [])) := by
    have key : ∀ l : List (Nat × Nat × Nat), (∀ x ∈ l, st.boxes x.2.1 = st'.boxes x.2.1) → l.flatMap (fun x => cellNames ((st.boxes x.2.1).getD [])) = l.flatMap (fun x => cellNames ((st'.boxes x.2.1).getD [])) := by
      intro l
      induction l with
      | nil => intro _; rfl
      | cons x l ih => intro h; simp only [List.flatMap_cons]; rw [h x (by simp), ih (fun y hy => h y (by simp [hy]))]
    exact key _ (fun x hx => hb x.2.1 (.inr (List.mem_map.2 ⟨x, hx, rfl⟩)))
  unfold effCall
  rw [h1, ← hp, h2]
  simp only [h3]
  rw [if_pos ⟨h6, by rw [← allFree_congr d (fun y => hr d (.inl rfl) y)]; exact h7, by rw [← hd]; exact h8⟩, ← hfm, h5, h4]
  rfl
theorem effCall_foot {d f : Nat} {vs : List AV} (he : effCall Γ d f vs st = some (ft, E)) : (∀ x ∈ E.boxes, x.1 ∈ ft.wr) ∧ ∀ x ∈ E.rows, x.1.1 ∈ ft.nm := by
  obtain ⟨F, p, q, r, h1, h2, h3, h4, h5, h6, h7, h8⟩ := effCall_eq he
  obtain ⟨g1, g2⟩ := passArgs_site h2
  subst h4 h5
  constructor
  · intro x hx
    simp only [callEff, callBoxes, List.mem_append] at hx
    simp only [List.mem_cons]
    rcases hx with hx | hx
    · split at hx
      · rename_i i s cs hs _
        simp at hx
        rw [hx]
        exact .inr (g1 i s hs)
      · simp at hx
    · split at hx
      · simp at hx; rw [hx]; exact .inl rfl
      · simp at hx
  · intro x hx
    simp only [callEff, List.mem_append] at hx
    simp only [List.mem_cons]
    rcases hx with hx | hx
    · exact .inr (g2 x hx)
    · exact .inl (retRows_heads d _ _ x hx)

theorem builtin_local {d : Nat} {b : Builtin} {ts : Array TypeId} {vs : List AV} (he : effBuiltin P d b ts vs st = some (ft, E)) (hr : ∀ h ∈ ft.nm, ∀ y, st.rows h y = st'.rows h y) : effBuiltin P d b ts vs st' = some (ft, E) := by
  unfold effBuiltin at he ⊢
  split at he
  · exact he
  · exact he
  · exact he
  · split at he
    · unfold effAppend at he ⊢
      split at he
      · split at he
        · split at he
          · rename_i hc
            split at he
            · split at he
              · rename_i h1 h2
                have hft : ft = ⟨[], [], [d]⟩ := by simp only [Option.some.injEq, Prod.mk.injEq] at he; exact he.1.symm
                have := hr d (by rw [hft]; simp) 0
                simp_all
              · cases he
            · rename_i p q e'
              split at he
              · rename_i h2
                split at he
                · have hft : ft = ⟨[], [], [p]⟩ := by simp only [Option.some.injEq, Prod.mk.injEq] at he; exact he.1.symm
                  have := hr p (by rw [hft]; simp) q
                  simp_all
                · cases he
              · cases he
            · cases he
          · cases he
        · cases he
      · cases he
    · cases he
  · cases he
theorem builtin_foot {d : Nat} {b : Builtin} {ts : Array TypeId} {vs : List AV} (he : effBuiltin P d b ts vs st = some (ft, E)) : E.boxes = [] ∧ ∀ x ∈ E.rows, x.1.1 ∈ ft.nm := by
  unfold effBuiltin at he
  split at he
  · split at he
    · simp only [Option.bind_eq_some_iff] at he
      obtain ⟨x, h1, h2⟩ := he
      cases h2; exact ⟨rfl, fun x h => (by simp at h)⟩
    · cases he
  · simp only [Option.bind_eq_some_iff] at he
    obtain ⟨x, h1, h2⟩ := he
    cases h2; exact ⟨rfl, fun x h => (by simp at h)⟩
  · simp only [Option.bind_eq_some_iff] at he
    obtain ⟨x, h1, h2⟩ := he
    cases h2; exact ⟨rfl, fun x h => (by simp at h)⟩
  · split at he
    · unfold effAppend at he
      split at he
      · split at he
        · split at he
          · split at he
            · split at he
              · cases he; exact ⟨rfl, fun x h => (by simp at h; simp [h])⟩
              · cases he
            · split at he
              · split at he
                · cases he; exact ⟨rfl, fun x h => (by simp at h; simp [h])⟩
                · cases he
              · cases he
            · cases he
          · cases he
        · cases he
      · cases he
    · cases he
  · cases he
end
end Go.Proofs.Ytnhfjdbnkpbbkab
