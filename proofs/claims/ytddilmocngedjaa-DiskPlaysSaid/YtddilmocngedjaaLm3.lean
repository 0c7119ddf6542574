/- Reading a program by content: the framework, part Lm3. -/
import Derived.Test.YtddilmocngedjaaLm2
import Derived.Deep.LoopGhost
/- A row of operations, in the text's order. -/
namespace Go.Proofs.Ytddilmocngedjaa
set_option linter.unusedVariables false
set_option linter.unusedSimpArgs false
open Go.RowKit

inductive StepF (Γ : Nat → Option Con) (P : Program) (ops : Array Oper) (o : Oper) (st : St) : Foot → St → Prop
  | run (ft : Foot) (E : Eff) (hg : o.guard = none ∨ ∃ g want, o.guard = some (g, want) ∧ guardOf ops st g = .bool want) (he : eff Γ P o st = some (ft, E)) (ho : E.obl) : StepF Γ P ops o st ft (E.app o.dst st)
  | skip (hg : ∃ g want, o.guard = some (g, want) ∧ (guardOf ops st g = .bool (!want) ∨ guardOf ops st g = .skip)) : StepF Γ P ops o st ⟨[], [], []⟩ (st.put o.dst .skip)

inductive RunF (Γ : Nat → Option Con) (P : Program) (ops : Array Oper) : List Oper → St → List Foot → St → Prop
  | nil (st : St) : RunF Γ P ops [] st [] st
  | cons {o : Oper} {l : List Oper} {st st1 st2 : St} {ft : Foot} {fs : List Foot} (h : StepF Γ P ops o st ft st1) (r : RunF Γ P ops l st1 fs st2) : RunF Γ P ops (o :: l) st (ft :: fs) st2

section
variable {P : Program} {n : Nat} {w0 : World} {own own' : OwnP} {st st' st1 : St} {G G' : Gh} {a : Act} {w w' : World} {o : Oper} {Γ : Nat → Option Con} {ops : Array Oper} {ft : Foot}

theorem opK_step {K : Foot → St → Prop} (h : opK Γ P ops o st K) : ∃ ft st', StepF Γ P ops o st ft st' ∧ K ft st' := by
  unfold opK at h
  split at h
  · rename_i hg
    split at h
    · rename_i ft E he
      exact ⟨ft, _, .run ft E (.inl hg) he (runE_spec h).1, (runE_spec h).2⟩
    · exact h.elim
  · rename_i g want hg
    split at h
    · rename_i b hb
      have h : opB Γ P o st b want K := by
        cases b with
        | true => simp only at h; rw [fixG_eq hb] at h; exact h
        | false => simp only at h; rw [fixG_eq hb] at h; exact h
      unfold opB at h
      split at h
      · split at h
        · rename_i ft E he
          exact ⟨ft, _, .run ft E (.inr ⟨g, _, hg, hb⟩) he (runE_spec h).1, (runE_spec h).2⟩
        · exact h.elim
      · split at h
        · rename_i ft E he
          exact ⟨ft, _, .run ft E (.inr ⟨g, _, hg, hb⟩) he (runE_spec h).1, (runE_spec h).2⟩
        · exact h.elim
      · rename_i h1 h2
        refine ⟨_, _, .skip ⟨g, want, hg, .inl ?_⟩, h⟩
        rw [hb]
        cases b <;> cases want <;> simp_all
    · rename_i hb
      exact ⟨_, _, .skip ⟨g, want, hg, .inr hb⟩, h⟩
    · exact h.elim

theorem runK_run : ∀ (l : List Oper) (st : St) (fs : List Foot) (K : List Foot → St → Prop), runK Γ P ops l st fs K → ∃ fs' st', RunF Γ P ops l st fs' st' ∧ K (fs ++ fs') st'
  | [], st, fs, K, h => ⟨[], st, .nil st, by simpa [runK] using h⟩
  | o :: l, st, fs, K, h => by
    obtain ⟨ft, st1, h1, h2⟩ := opK_step h
    obtain ⟨fs', st', h3, h4⟩ := runK_run l st1 (fs ++ [ft]) K h2
    exact ⟨ft :: fs', st', .cons h1 h3, by simpa using h4⟩

theorem Rel.skip (hR : Rel P n w0 own st G a w) {dst : Option Tmp} (hd : ∀ d, dst = some d → d < n) : Rel P n w0 own (st.put dst .skip) G (a.put dst undef) w := by
  have := hR.pure hd (p := True) (rep_skip (P := P) (st := st) (G := G) (w := w))
  cases dst <;> exact this

theorem guard_real (hR : Rel P n w0 own st G a w) {g : Nat} : (∀ b, guardOf ops st g = .bool b → yielded ops a.tmps g = some b) ∧ (guardOf ops st g = .skip → yielded ops a.tmps g = none) := by
  unfold guardOf yielded
  cases hd : (ops[g]?).bind (·.dst) with
  | none => simp
  | some d =>
    have hr := hR.tmps d
    simp only [Option.bind_some]
    constructor
    · intro b hb
      rw [hb] at hr
      have := hr.inv_bool
      rw [Array.getD_eq_getD_getElem?] at this
      cases hq : a.tmps[d]? with
      | none => rw [hq] at this; cases this
      | some v =>
        rw [hq] at this
        simp only [Option.getD_some] at this
        subst this
        rfl
    · intro hb
      rw [hb] at hr
      have := hr.inv_skip
      rw [Array.getD_eq_getD_getElem?] at this
      cases hq : a.tmps[d]? with
      | none => rfl
      | some v =>
        rw [hq] at this
        simp only [Option.getD_some] at this
        subst this
        rfl

theorem step_sound (hS : Sound P Γ) (hR : Rel P n w0 own st G a w) (hd : ∀ d, o.dst = some d → d < n) (h : StepF Γ P ops o st ft st') {K : Act → World → Prop} {Q : Exit → Act → World → Prop} (hK : ∀ G' a' w', Rel P n w0 own st' G' a' w' → K a' w') :
    (Region.wanted o (yielded ops a.tmps) = true ∧ o.wp P a w K Q) ∨ (Region.wanted o (yielded ops a.tmps) = false ∧ K (a.put o.dst undef) w) := by
  cases h with
  | run _ E hg he ho =>
    left
    refine ⟨?_, eff_sound hS hR hd he ho (fun G' v w' h => hK G' _ w' h)⟩
    unfold Region.wanted
    rcases hg with hg | ⟨g, want, hg, hb⟩
    · rw [hg]
    · rw [hg]
      simp only
      rw [(guard_real hR).1 _ hb]
      simp
  | skip hg =>
    right
    obtain ⟨g, want, hg, hb⟩ := hg
    refine ⟨?_, hK G _ w (hR.skip hd)⟩
    unfold Region.wanted
    rw [hg]
    simp only
    rcases hb with hb | hb
    · rw [(guard_real hR).1 _ hb]
      cases want <;> rfl
    · rw [(guard_real hR).2 hb]
      rfl

def dstsOK (n : Nat) (l : List Oper) : Bool := l.all fun o => match o.dst with | some d => decide (d < n) | none => true
theorem dstsOK_get {l : List Oper} (h : dstsOK n l = true) (ho : o ∈ l) : ∀ d, o.dst = some d → d < n := by
  intro d hd
  unfold dstsOK at h
  rw [List.all_eq_true] at h
  have := h o ho
  rw [hd] at this
  simpa using this

theorem run_list (hS : Sound P Γ) {Q : Exit → Act → World → Prop} : ∀ (l : List Oper) (st : St) (G : Gh) (a : Act) (w : World) (fs : List Foot) (st' : St), dstsOK n l = true → Rel P n w0 own st G a w → RunF Γ P ops l st fs st' →
    (∀ G' a' w', Rel P n w0 own st' G' a' w' → Q .normal a' w') → wpList P ops Q l a w
  | [], st, G, a, w, fs, st', _, hR, h, hQ => by
    cases h
    exact hQ G a w hR
  | o :: l, st, G, a, w, fs, st', hd, hR, h, hQ => by
    cases h with
    | cons h1 h2 =>
      have hd1 := dstsOK_get hd (o := o) (by simp)
      have hd2 : dstsOK n l = true := by
        unfold dstsOK at hd ⊢
        simp only [List.all_cons, Bool.and_eq_true] at hd
        exact hd.2
      have := step_sound hS hR hd1 h1 (K := wpList P ops Q l) (Q := Q) (fun G' a' w' hR' => run_list hS l _ G' a' w' _ st' hd2 hR' h2 hQ)
      unfold wpList
      rcases this with ⟨h3, h4⟩ | ⟨h3, h4⟩
      · rw [if_pos h3]; exact .inl h4
      · rw [if_neg (by rw [h3]; simp)]; exact h4

theorem Kp.drew : Kp P st G w st G w.drew := ⟨fun _ _ _ h1 h2 => ⟨h1, h2⟩, fun s cs h => ⟨⟨cs, h⟩, rfl⟩, fun a b h => ⟨h, fun tip h' => ⟨tip, h', rfl, Nat.le_refl _, fun _ => rfl⟩⟩, fun _ _ h => h⟩
theorem Rel.drew (hR : Rel P n w0 own st G a w) : Rel P n w0 own st G a w.drew := by
  refine ⟨hR.size, hR.defers, fun t => (hR.tmps t).keep Kp.drew, ⟨fun s cs h => ?_, hR.mem.inj, fun x y tip h => ?_, hR.mem.rinj, hR.mem.brow⟩, ⟨hR.pres.os, hR.pres.tape, hR.pres.output, hR.pres.size, hR.pres.block, hR.pres.cell⟩, hR.obox, hR.orow, hR.bad, hR.rbad, hR.pin, hR.same⟩
  · obtain ⟨us, t, h1, h2, h3⟩ := hR.mem.box s cs h
    exact ⟨us, t, h1, h2, fun i c hc => by obtain ⟨h4, u, h5, h6⟩ := h3 i c hc; exact ⟨h4, u, h5, h6.keep Kp.drew⟩⟩
  · obtain ⟨h1, us, h2⟩ := hR.mem.row x y tip h
    exact ⟨h1, us, h2⟩

theorem region_text (hS : Sound P Γ) {Q : Exit → Act → World → Prop} {id : Nat} {fs : List Foot} (hd : dstsOK n ops.toList = true) (hR : Rel P n w0 own st G a w) (h : RunF Γ P ops ops.toList st fs st')
    (hQ : ∀ G' a' w', Rel P n w0 own st' G' a' w' → Q .normal a' w') : (Code.region id ops false).wp P Q a w :=
  wp_region_list (run_list hS _ st G a w fs st' hd hR h hQ)
end
end Go.Proofs.Ytddilmocngedjaa
/- What an operation looks at, and where it writes. -/
namespace Go.Proofs.Ytddilmocngedjaa
set_option linter.unusedVariables false
set_option linter.unusedSimpArgs false
open Go.RowKit

section
variable {P : Program} {n : Nat} {st st' st1 : St} {o : Oper} {Γ : Nat → Option Con} {ops : Array Oper} {ft : Foot} {E : Eff}

theorem all_congr' {α : Type} {f g : α → Bool} : ∀ {l : List α}, (∀ x ∈ l, f x = g x) → l.all f = l.all g
  | [], _ => rfl
  | x :: l, h => by simp only [List.all_cons]; rw [h x (by simp), all_congr' (fun y hy => h y (by simp [hy]))]

theorem passCells_congr : ∀ (cs : List AV) (R R' : Nat → Nat → RowSt), (∀ a ∈ cellNames cs, ∀ b, R a b = R' a b) → passCells R cs = passCells R' cs
  | [], R, R', _ => rfl
  | c :: cs, R, R', h => by
    by_cases hc : ∃ xs a b e, c = .sl xs (.row a b e)
    · obtain ⟨xs, a, b, e, rfl⟩ := hc
      have h1 : R a b = R' a b := h a (by simp [cellNames]) b
      have h2 : ∀ x ∈ cellNames cs, ∀ y, R x y = R' x y := fun x hx y => h x (by simp [cellNames, hx]) y
      have h3 := passCells_congr cs R R' h2
      have h4 := passCells_congr cs (upd2 R (a, b) .dead) (upd2 R' (a, b) .dead) (fun x hx y => by
        unfold upd2; rw [h2 x hx y])
      simp only [passCells]
      rw [h1, h3, h4]
    · have hn : cellNames (c :: cs) = cellNames cs := by
        cases c with
        | sl xs ow => cases ow <;> first | rfl | exact absurd ⟨_, _, _, _, rfl⟩ hc
        | _ => rfl
      have h3 := passCells_congr cs R R' (by rw [← hn]; exact h)
      cases c with
      | sl xs ow => cases ow <;> first | exact absurd ⟨_, _, _, _, rfl⟩ hc | (simp only [passCells, h3])
      | _ => simp only [passCells, h3]
theorem passCells_heads : ∀ (cs : List AV) (R : Nat → Nat → RowSt), ∀ x ∈ (passCells R cs).2.2, x.1.1 ∈ cellNames cs
  | [], R, x, h => by simp [passCells] at h
  | c :: cs, R, x, h => by
    by_cases hc : ∃ xs a b e, c = .sl xs (.row a b e)
    · obtain ⟨xs, a, b, e, rfl⟩ := hc
      simp only [passCells] at h
      simp only [cellNames, List.mem_cons]
      split at h
      · simp only [List.mem_cons] at h
        rcases h with rfl | h
        · exact .inl rfl
        · exact .inr (passCells_heads cs _ x h)
      · exact .inr (passCells_heads cs _ x h)
    · have hn : cellNames (c :: cs) = cellNames cs := by
        cases c with
        | sl xs ow => cases ow <;> first | rfl | exact absurd ⟨_, _, _, _, rfl⟩ hc
        | _ => rfl
      rw [hn]
      have h3 : (passCells R (c :: cs)).2.2 = (passCells R cs).2.2 := by
        cases c with
        | sl xs ow => cases ow <;> first | exact absurd ⟨_, _, _, _, rfl⟩ hc | rfl
        | _ => rfl
      rw [h3] at h
      exact passCells_heads cs R x h

theorem passArgs_congr (vs : List AV) {B B' : Nat → Option (List AV)} {R R' : Nat → Nat → RowSt} (hB : ∀ s ∈ (findPtr 0 vs).map (fun x => x.2.1), B s = B' s) (hR : ∀ a ∈ (findPtr 0 vs).flatMap (fun x => cellNames ((B x.2.1).getD [])), ∀ b, R a b = R' a b) :
    passArgs B R vs = passArgs B' R' vs := by
  unfold passArgs
  split
  · rfl
  · rename_i i s off h
    rw [h] at hB hR
    have h1 := hB s (by simp)
    rw [← h1]
    cases hb : B s with
    | none => rfl
    | some cs =>
      simp only
      have h2 := passCells_congr cs R R' (fun a ha b => hR a (by simp [hb, ha]) b)
      rw [h2]
  · rfl
theorem passArgs_site {vs : List AV} {B : Nat → Option (List AV)} {R : Nat → Nat → RowSt} {p : Passed} (h : passArgs B R vs = some p) : (∀ i s, p.site = some (i, s) → s ∈ (findPtr 0 vs).map (fun x => x.2.1)) ∧ ∀ x ∈ p.rows, x.1.1 ∈ (findPtr 0 vs).flatMap (fun x => cellNames ((B x.2.1).getD [])) := by
  unfold passArgs at h
  split at h
  · split at h
    · cases h; exact ⟨fun i s h => (by cases h), fun x h => (by simp at h)⟩
    · cases h
  · rename_i i s off hf
    split at h
    · rename_i cs hcs
      split at h
      · cases h
        rw [hf]
        refine ⟨fun i' s' h => (by cases h; simp), fun x hx => ?_⟩
        have := passCells_heads cs R x hx
        simp [hcs, this]
      · cases h
    · cases h
  · cases h

theorem retRows_heads (d : Nat) : ∀ (L : List AV) (k : Nat), ∀ x ∈ retRows d k L, x.1.1 = d
  | [], k, x, h => by simp [retRows] at h
  | c :: L, k, x, h => by
    simp only [retRows, List.mem_append] at h
    rcases h with h | h
    · split at h
      · simp at h; rw [h]
      · simp at h
    · exact retRows_heads d L (k + 1) x h
theorem allFree_congr (d : Nat) {R R' : Nat → Nat → RowSt} (h : ∀ y, R d y = R' d y) : ∀ (L : List AV) (k : Nat), allFree R d k L = allFree R' d k L
  | [], k => rfl
  | c :: L, k => by simp only [allFree, h, allFree_congr d h L (k + 1)]

theorem effCall_eq {d f : Nat} {vs : List AV} (he : effCall Γ d f vs st = some (ft, E)) : ∃ F p q r, siteΓ Γ d f = some F ∧ passArgs st.boxes st.rows vs = some p ∧ F p.args = some (q, r) ∧ E = callEff p q d r ∧
    ft = ⟨[], d :: (findPtr 0 vs).map (fun x => x.2.1), d :: (findPtr 0 vs).flatMap (fun x => cellNames ((st.boxes x.2.1).getD []))⟩ ∧ p.site.isSome = r.box.isSome ∧ allFree st.rows d 0 r.outs = true ∧ (st.boxes d).isNone = true := by
  unfold effCall at he
  split at he
  · rename_i F p hF hp
    split at he
    · rename_i q r hr
      simp only at he
      split at he
      · rename_i hc
        simp only [Option.some.injEq, Prod.mk.injEq] at he
        exact ⟨F, p, q, r, hF, hp, hr, he.2.symm, he.1.symm, hc.1, hc.2.1, hc.2.2⟩
      · cases he
    · cases he
  · cases he
theorem effCall_local {d f : Nat} {vs : List AV} (he : effCall Γ d f vs st = some (ft, E)) (hb : ∀ s ∈ ft.wr, st.boxes s = st'.boxes s) (hr : ∀ h ∈ ft.nm, ∀ y, st.rows h y = st'.rows h y) : effCall Γ d f vs st' = some (ft, E) := by
  obtain ⟨F, p, q, r, h1, h2, h3, h4, h5, h6, h7, h8⟩ := effCall_eq he
  rw [h5] at hb hr
  simp only [List.mem_cons] at hb hr
  have hp := passArgs_congr vs (fun s hs => hb s (.inr hs)) (fun x hx => hr x (.inr hx))
  have hd := hb d (.inl rfl)
  have hfm : (findPtr 0 vs).flatMap (fun x => cellNames ((st.boxes x.2.1).getD [])) = (findPtr 0 vs).flatMap (fun x => cellNames ((st'.boxes x.2.1).getD [])) := by
    have key : ∀ l : List (Nat × Nat × Nat), (∀ x ∈ l, st.boxes x.2.1 = st'.boxes x.2.1) → l.flatMap (fun x => cellNames ((st.boxes x.2.1).getD [])) = l.flatMap (fun x => cellNames ((st'.boxes x.2.1).getD [])) := by
      intro l
      induction l with
      | nil => intro _; rfl
      | cons x l ih => intro h; simp only [List.flatMap_cons]; rw [h x (by simp), ih (fun y hy => h y (by simp [hy]))]
    exact key _ (fun x hx => hb x.2.1 (.inr (List.mem_map.2 ⟨x, hx, rfl⟩)))
  unfold effCall
  rw [h1, ← hp, h2]
  simp only [h3]
  rw [if_pos ⟨h6, by rw [← allFree_congr d (fun y => hr d (.inl rfl) y)]; exact h7, by rw [← hd]; exact h8⟩, ← hfm, h5, h4]
  rfl
theorem effCall_foot {d f : Nat} {vs : List AV} (he : effCall Γ d f vs st = some (ft, E)) : (∀ x ∈ E.boxes, x.1 ∈ ft.wr) ∧ ∀ x ∈ E.rows, x.1.1 ∈ ft.nm := by
  obtain ⟨F, p, q, r, h1, h2, h3, h4, h5, h6, h7, h8⟩ := effCall_eq he
  obtain ⟨g1, g2⟩ := passArgs_site h2
  subst h4 h5
  constructor
  · intro x hx
    simp only [callEff, callBoxes, List.mem_append] at hx
    simp only [List.mem_cons]
    rcases hx with hx | hx
    · split at hx
      · rename_i i s cs hs _
        simp at hx
        rw [hx]
        exact .inr (g1 i s hs)
      · simp at hx
    · split at hx
      · simp at hx; rw [hx]; exact .inl rfl
      · simp at hx
  · intro x hx
    simp only [callEff, List.mem_append] at hx
    simp only [List.mem_cons]
    rcases hx with hx | hx
    · exact .inr (g2 x hx)
    · exact .inl (retRows_heads d _ _ x hx)

theorem builtin_local {d : Nat} {b : Builtin} {ts : Array TypeId} {vs : List AV} (he : effBuiltin P d b ts vs st = some (ft, E)) (hr : ∀ h ∈ ft.nm, ∀ y, st.rows h y = st'.rows h y) : effBuiltin P d b ts vs st' = some (ft, E) := by
  unfold effBuiltin at he ⊢
  split at he
  · exact he
  · exact he
  · exact he
  · split at he
    · unfold effAppend at he ⊢
      split at he
      · split at he
        · split at he
          · rename_i hc
            split at he
            · split at he
              · rename_i h1 h2
                have hft : ft = ⟨[], [], [d]⟩ := by simp only [Option.some.injEq, Prod.mk.injEq] at he; exact he.1.symm
                have := hr d (by rw [hft]; simp) 0
                simp_all
              · cases he
            · rename_i p q e'
              split at he
              · rename_i h2
                split at he
                · have hft : ft = ⟨[], [], [p]⟩ := by simp only [Option.some.injEq, Prod.mk.injEq] at he; exact he.1.symm
                  have := hr p (by rw [hft]; simp) q
                  simp_all
                · cases he
              · cases he
            · cases he
          · cases he
        · cases he
      · cases he
    · cases he
  · cases he
theorem builtin_foot {d : Nat} {b : Builtin} {ts : Array TypeId} {vs : List AV} (he : effBuiltin P d b ts vs st = some (ft, E)) : E.boxes = [] ∧ ∀ x ∈ E.rows, x.1.1 ∈ ft.nm := by
  unfold effBuiltin at he
  split at he
  · split at he
    · simp only [Option.bind_eq_some_iff] at he
      obtain ⟨x, h1, h2⟩ := he
      cases h2; exact ⟨rfl, fun x h => (by simp at h)⟩
    · cases he
  · simp only [Option.bind_eq_some_iff] at he
    obtain ⟨x, h1, h2⟩ := he
    cases h2; exact ⟨rfl, fun x h => (by simp at h)⟩
  · simp only [Option.bind_eq_some_iff] at he
    obtain ⟨x, h1, h2⟩ := he
    cases h2; exact ⟨rfl, fun x h => (by simp at h)⟩
  · split at he
    · unfold effAppend at he
      split at he
      · split at he
        · split at he
          · split at he
            · split at he
              · cases he; exact ⟨rfl, fun x h => (by simp at h; simp [h])⟩
              · cases he
            · split at he
              · split at he
                · cases he; exact ⟨rfl, fun x h => (by simp at h; simp [h])⟩
                · cases he
              · cases he
            · cases he
          · cases he
        · cases he
      · cases he
    · cases he
  · cases he
end
end Go.Proofs.Ytddilmocngedjaa
/- An operation does the same wherever what it looks at is the same; two that touch nothing of one another may change places. -/
namespace Go.Proofs.Ytddilmocngedjaa
set_option linter.unusedVariables false
set_option linter.unusedSimpArgs false
open Go.RowKit

section
variable {P : Program} {n : Nat} {st st' st1 : St} {o : Oper} {Γ : Nat → Option Con} {ops : Array Oper} {ft : Foot} {E : Eff}

theorem map_ev {l : List Operand} (h : ∀ x ∈ l, st.ev x = st'.ev x) : l.map st.ev = l.map st'.ev := List.map_congr_left h
theorem opt_map_ev {l : Option Operand} (h : ∀ x ∈ l.toArray, st.ev x = st'.ev x) : l.map st.ev = l.map st'.ev := by
  cases l with
  | none => rfl
  | some x => simp only [Option.map_some]; rw [h x (by simp)]
theorem parts_ev {l : List (Nat × Operand)} (h : ∀ q ∈ l, st.ev q.2 = st'.ev q.2) : (l.map fun q => (q.1, st.ev q.2)) = l.map fun q => (q.1, st'.ev q.2) :=
  List.map_congr_left fun q hq => by rw [h q hq]

theorem freeAll_congr {R R' : Nat → Nat → RowSt} {d : Nat} : ∀ (cs : List AV) (h : ∀ y, R d y = R' d y) (k : Nat), freeAll R d k cs = freeAll R' d k cs
  | [], _, _ => rfl
  | c :: cs, h, k => by simp only [freeAll, h k, freeAll_congr cs h (k + 1)]
theorem nilRow1_heads {P : Program} {d j : Nat} {t : TypeId} {c : AV} : ∀ x ∈ nilRow1 P d j t c, x.1.1 = d := by
  intro x hx
  rcases nilCell_cases P d j t c with ⟨_, h⟩ | ⟨_, _, _, _, _, h⟩
  · rw [h] at hx; simp at hx
  · rw [h] at hx; simp at hx; rw [hx]
theorem nilRows_heads {P : Program} {d : Nat} : ∀ (cs : List AV) (ts : List TypeId) (j : Nat), ∀ x ∈ nilRows P d j ts cs, x.1.1 = d
  | [], ts, j => by intro x hx; cases ts <;> simp [nilRows] at hx
  | c :: cs, [], j => by intro x hx; simp [nilRows] at hx
  | c :: cs, t :: ts, j => by
    intro x hx
    simp only [nilRows, List.mem_append] at hx
    rcases hx with hx | hx
    · exact nilRow1_heads x hx
    · exact nilRows_heads cs ts (j + 1) x hx
theorem effFrz_local {q : Nat} {k : St → List AV → Option (Foot × Eff)} {vs : List AV} (he : effFrz q k vs st = some (ft, E)) (hb : ∀ s, s ∈ ft.rd ∨ s ∈ ft.wr → st.boxes s = st'.boxes s)
    (hk : ∀ ft1 E1 vs', ft.nm = ft1.nm → (∀ s ∈ ft1.wr, (frz st q).boxes s = (frz st' q).boxes s) → k (frz st q) vs' = some (ft1, E1) → k (frz st' q) vs' = some (ft1, E1)) : effFrz q k vs st' = some (ft, E) := by
  obtain ⟨cs, ft1, E1, h1, h2, rfl, rfl⟩ := effFrz_eq he
  have h3 := hk ft1 E1 _ rfl (fun s hs => by
    simp only [frz, upd]
    by_cases hx : s = q
    · subst hx; simp
    · have hh : (s == q) = false := by simpa using hx
      rw [hh]
      exact hb s (.inr (List.mem_cons_of_mem _ hs))) h2
  have h4 := hb q (.inr (List.mem_cons_self ..))
  rw [h1] at h4
  unfold effFrz
  rw [← h4]
  simp only
  have h5 : k { tmps := st'.tmps, boxes := upd st'.boxes q (some []), rows := st'.rows } (vs.map (thaw q cs)) = some (ft1, E1) := h3
  rw [h5]
theorem effFrz_foot {q : Nat} {k : St → List AV → Option (Foot × Eff)} {vs : List AV} (he : effFrz q k vs st = some (ft, E)) (hk : ∀ ft1 E1 vs', k (frz st q) vs' = some (ft1, E1) → (∀ x ∈ E1.boxes, x.1 ∈ ft1.wr) ∧ ∀ x ∈ E1.rows, x.1.1 ∈ ft1.nm) : (∀ x ∈ E.boxes, x.1 ∈ ft.wr) ∧ ∀ x ∈ E.rows, x.1.1 ∈ ft.nm := by
  obtain ⟨cs, ft1, E1, h1, h2, rfl, rfl⟩ := effFrz_eq he
  obtain ⟨h3, h4⟩ := hk ft1 E1 _ h2
  refine ⟨fun x hx => ?_, h4⟩
  rcases List.mem_cons.1 hx with rfl | hx
  · exact List.mem_cons_self ..
  · exact List.mem_cons_of_mem _ (h3 x hx)
theorem eff_local (hev : ∀ x ∈ o.op.operands, st.ev x = st'.ev x) (he : eff Γ P o st = some (ft, E)) (hb : ∀ s, s ∈ ft.rd ∨ s ∈ ft.wr → st.boxes s = st'.boxes s) (hr : ∀ h ∈ ft.nm, ∀ y, st.rows h y = st'.rows h y) :
    eff Γ P o st' = some (ft, E) := by
  unfold eff at he ⊢
  simp only at he ⊢
  split at he
  all_goals (rename_i hop; try rw [hop] at hev)
  · rw [← hev _ (by simp [Op.operands])]; exact he
  · rw [← hev _ (by simp [Op.operands])]; exact he
  · rename_i c x y
    rw [← hev c (by simp [Op.operands]), ← hev x (by simp [Op.operands]), ← hev y (by simp [Op.operands])]; exact he
  · -- alloc
    split at he
    · rename_i d z hd hz
      split at he
      · rename_i hc
        have hft : ft = ⟨[], [d], [d]⟩ := by simp only [Option.some.injEq, Prod.mk.injEq] at he; exact he.1.symm
        have h1 := hb d (.inr (by rw [hft]; simp))
        have h2 := fun cs => freeAll_congr cs (fun y => hr d (by rw [hft]; simp) y) 0
        rw [h1, h2] at hc
        rw [if_pos hc]; exact he
      · cases he
    · cases he
  · -- box
    rename_i e v
    rw [← hev v (by simp [Op.operands])]
    split at he
    · rename_i d hd
      split at he
      · rename_i hc
        have hft : ft = ⟨[], [d], [d]⟩ := by simp only [Option.some.injEq, Prod.mk.injEq] at he; exact he.1.symm
        have h1 := hb d (.inr (by rw [hft]; simp))
        have h2 := fun cs => freeAll_congr cs (fun y => hr d (by rw [hft]; simp) y) 0
        rw [h1, h2] at hc
        rw [if_pos hc]; exact he
      · cases he
    · cases he
  · -- build
    rename_i t parts
    have hp : ∀ q ∈ parts.toList, st.ev q.2 = st'.ev q.2 := fun q hq => hev q.2 (by simp [Op.operands]; exact ⟨q.1, by simpa using hq⟩)
    rw [← parts_ev hp, ← all_congr' (f := fun (q : Nat × Operand) => allOne (st.ev q.2).cells) (g := fun q => allOne (st'.ev q.2).cells) (fun q hq => by rw [hp q hq])]
    exact he
  · -- load
    rename_i t x
    rw [← hev x (by simp [Op.operands])]
    split at he
    · rename_i s off hx
      split at he
      · rename_i cs hcs
        split at he
        · rename_i hc
          have hft : ft = ⟨[s], [], []⟩ := by simp only [Option.some.injEq, Prod.mk.injEq] at he; exact he.1.symm
          have h1 := hb s (.inl (by rw [hft]; simp))
          rw [← h1, hcs]
          simp only
          rw [if_pos hc]; exact he
        · cases he
      · cases he
    · rename_i s off m hx
      split at he
      · rename_i cs hcs
        split at he
        · rename_i hc
          have hft : ft = ⟨[s], [], []⟩ := by simp only [Option.some.injEq, Prod.mk.injEq] at he; exact he.1.symm
          have h1 := hb s (.inl (by rw [hft]; simp))
          rw [← h1, hcs]
          simp only
          rw [if_pos hc]; exact he
        · cases he
      · cases he
    · exact he
    · cases he
  · -- store
    rename_i t x y
    rw [← hev x (by simp [Op.operands]), ← hev y (by simp [Op.operands])]
    split at he
    · rename_i s off hx
      split at he
      · rename_i cs hcs
        split at he
        · rename_i hc
          have hft : ft = ⟨[], [s], []⟩ := by simp only [Option.some.injEq, Prod.mk.injEq] at he; exact he.1.symm
          have h1 := hb s (.inr (by rw [hft]; simp))
          rw [← h1, hcs]
          simp only
          rw [if_pos hc]; exact he
        · cases he
      · cases he
    · rename_i s off m hx
      split at he
      · rename_i cs k hcs hy
        split at he
        · rename_i hc
          have hft : ft = ⟨[], [s], []⟩ := by simp only [Option.some.injEq, Prod.mk.injEq] at he; exact he.1.symm
          have h1 := hb s (.inr (by rw [hft]; simp))
          rw [← h1, hcs, hy]
          exact (if_pos hc).trans he
        · cases he
      · cases he
    · cases he
  · rw [← hev _ (by simp [Op.operands])]; exact he
  · rename_i op xT x y yT
    rw [← hev x (by simp [Op.operands]), ← hev y (by simp [Op.operands])]; exact he
  · rw [← hev _ (by simp [Op.operands])]; exact he
  · rw [← hev _ (by simp [Op.operands])]; exact he
  · -- slice
    rename_i t x lo hi mx
    rw [← hev x (by simp [Op.operands]), ← opt_map_ev (l := lo) (fun y hy => hev y (by simp [Op.operands]; simp at hy; simp [hy])), ← opt_map_ev (l := hi) (fun y hy => hev y (by simp [Op.operands]; simp at hy; simp [hy])), ← opt_map_ev (l := mx) (fun y hy => hev y (by simp [Op.operands]; simp at hy; simp [hy]))]
    exact he
  · rename_i t x f
    rw [← hev x (by simp [Op.operands])]; exact he
  · rename_i t x f
    rw [← hev x (by simp [Op.operands])]; exact he
  · rename_i t x i
    rw [← hev x (by simp [Op.operands]), ← hev i (by simp [Op.operands])]; exact he
  · rename_i t x i
    rw [← hev x (by simp [Op.operands]), ← hev i (by simp [Op.operands])]; exact he
  · rename_i x i
    rw [← hev x (by simp [Op.operands])]; exact he
  · -- buildSlice
    rename_i t len parts
    have hp : ∀ q ∈ parts.toList, st.ev q.2 = st'.ev q.2 := fun q hq => hev q.2 (by simp [Op.operands]; exact ⟨q.1, by simpa using hq⟩)
    have hm : (parts.toList.map fun q => (st.ev q.2).drop) = parts.toList.map fun q => (st'.ev q.2).drop := List.map_congr_left fun q hq => by rw [hp q hq]
    rw [← hm]
    split at he
    · rename_i d e hd hu
      split at he
      · rename_i z hz hfr
        split at he
        · rename_i hc
          have hft : ft = ⟨[], [], [d]⟩ := by simp only [Option.some.injEq, Prod.mk.injEq] at he; exact he.1.symm
          have h1 := hr d (by rw [hft]; simp) 0
          have hall : parts.toList.all (fun q => (st'.ev q.2).plain && allOne (st'.ev q.2).cells && decide ((st'.ev q.2).cells.length = tsize P e)) = true := by
            rw [← all_congr' (f := fun (q : Nat × Operand) => (st.ev q.2).plain && allOne (st.ev q.2).cells && decide ((st.ev q.2).cells.length = tsize P e)) (fun q hq => by rw [hp q hq])]
            exact hc.1
          simp only [hd, hu, hz, ← h1, hfr]
          rw [if_pos ⟨hall, hc.2⟩]; exact he
        · cases he
      · cases he
    · cases he
  · -- call
    rename_i c
    split at he
    · rename_i d hd hc
      rw [← map_ev (l := c.args.toList) (fun x hx => hev x (by simp [Op.operands, Call.operands, hc]; simpa using hx))]
      split at he
      · exact builtin_local he hr
      · exact effFrz_local he hb (fun ft1 E1 vs' hn _ h => builtin_local h (fun x hx => hr x (by rw [hn]; exact hx)))
    · rename_i d b _ hd hc
      rw [← map_ev (l := c.args.toList) (fun x hx => hev x (by simp [Op.operands, Call.operands, hc]; simpa using hx))]
      exact builtin_local he hr
    · rename_i d f hd hc
      rw [← hev f (by simp [Op.operands, Call.operands, hc]), ← map_ev (l := c.args.toList) (fun x hx => hev x (by simp [Op.operands, Call.operands, hc]; right; simpa using hx))]
      split at he
      · split at he
        · exact effCall_local he (fun s hs => hb s (.inr hs)) hr
        · exact effFrz_local he hb (fun ft1 E1 vs' hn hbx h => effCall_local h hbx (fun x hx => hr x (by rw [hn]; exact hx)))
      · split at he
        · exact effCall_local he (fun s hs => hb s (.inr hs)) hr
        · cases he
      · cases he
    · cases he
  · -- makeFunc
    rename_i g first captured
    split at he
    · rename_i x h1 h2
      rw [← hev x (by simp [Op.operands]; right; simpa using (by rw [h2]; simp : x ∈ captured.toList))]
      exact he
    · cases he
  · cases he

theorem eff_foot (he : eff Γ P o st = some (ft, E)) : (∀ x ∈ E.boxes, x.1 ∈ ft.wr) ∧ ∀ x ∈ E.rows, x.1.1 ∈ ft.nm := by
  have pureC : ∀ {x : AV}, pureE x = some (ft, E) → (∀ x ∈ E.boxes, x.1 ∈ ft.wr) ∧ ∀ x ∈ E.rows, x.1.1 ∈ ft.nm := by
    intro x h; cases h; exact ⟨fun x h => (by simp at h), fun x h => (by simp at h)⟩
  have oblC : ∀ {p : Prop} {x : AV}, oblE p x = some (ft, E) → (∀ x ∈ E.boxes, x.1 ∈ ft.wr) ∧ ∀ x ∈ E.rows, x.1.1 ∈ ft.nm := by
    intro p x h; cases h; exact ⟨fun x h => (by simp at h), fun x h => (by simp at h)⟩
  unfold eff at he
  simp only at he
  split at he
  case h_4 =>
    split at he
    · split at he
      · cases he
        refine ⟨fun x h => ?_, fun x h => ?_⟩
        · simp at h; simp [h]
        · exact List.mem_singleton.2 (nilRows_heads _ _ _ x h)
      · cases he
    · cases he
  case h_5 =>
    split at he
    · split at he
      · cases he
        refine ⟨fun x h => ?_, fun x h => ?_⟩
        · simp at h; simp [h]
        · exact List.mem_singleton.2 (nilRows_heads _ _ _ x h)
      · cases he
    · cases he
  case h_20 => 
    have bf : ∀ {d : Nat} {b : Builtin} {ts : Array TypeId} {vs : List AV} {st : St} {ft : Foot} {E : Eff}, effBuiltin P d b ts vs st = some (ft, E) → (∀ x ∈ E.boxes, x.1 ∈ ft.wr) ∧ ∀ x ∈ E.rows, x.1.1 ∈ ft.nm :=
      fun he => ⟨fun x h => (by rw [(builtin_foot he).1] at h; simp at h), (builtin_foot he).2⟩
    split at he
    · split at he
      · exact bf he
      · exact effFrz_foot he (fun _ _ _ h => bf h)
    · exact bf he
    · split at he
      · split at he
        · exact effCall_foot he
        · exact effFrz_foot he (fun _ _ _ h => effCall_foot h)
      · split at he
        · exact effCall_foot he
        · cases he
      · cases he
    · cases he
  all_goals (try (exact pureC he))
  all_goals (repeat' (split at he))
  all_goals first
    | exact pureC he
    | exact oblC he
    | (cases he; done)
    | (cases he; constructor <;> intro x h <;> simp at h <;> simp [h])

def usesOf (ops : Array Oper) (o : Oper) : List Tmp := o.looksAt ops

def apartF (ops : Array Oper) (o1 o2 : Oper) : Bool :=
  (match o1.dst with | some d => !(usesOf ops o2).contains d && o2.dst != some d | none => true) && (match o2.dst with | some d => !(usesOf ops o1).contains d | none => true)

theorem upd_upd {α : Type} (f : Nat → α) {k k' : Nat} (v v' : α) (h : k ≠ k') : upd (upd f k v) k' v' = upd (upd f k' v') k v := by
  funext x
  unfold upd
  by_cases h1 : x = k
  · subst h1
    have : (x == k') = false := by simpa using h
    simp [this]
  · have h2 : (x == k) = false := by simpa using h1
    simp [h2]
theorem updAll_at (f : Nat → Option (List AV)) : ∀ (l : List (Nat × List AV)) (x : Nat), (∀ q ∈ l, q.1 ≠ x) → updAll f l x = f x
  | [], x, _ => rfl
  | (k, c) :: l, x, h => by
    have h1 : ∀ f', updAll f' l x = f' x := fun f' => updAll_at f' l x (fun q hq => h q (by simp [hq]))
    simp only [updAll]
    rw [h1]
    have : (x == k) = false := by have := h (k, c) (by simp); simpa using fun e => this e.symm
    simp [upd, this]
theorem updAll_in : ∀ (l : List (Nat × List AV)) (f g : Nat → Option (List AV)) (x : Nat), (∃ q ∈ l, q.1 = x) → updAll f l x = updAll g l x
  | [], f, g, x, h => by obtain ⟨q, h, _⟩ := h; simp at h
  | (k, c) :: l, f, g, x, h => by
    simp only [updAll]
    by_cases hl : ∃ q ∈ l, q.1 = x
    · exact updAll_in l _ _ x hl
    · have hn : ∀ q ∈ l, q.1 ≠ x := fun q hq e => hl ⟨q, hq, e⟩
      rw [updAll_at _ l x hn, updAll_at _ l x hn]
      obtain ⟨q, hq, e⟩ := h
      rcases List.mem_cons.1 hq with rfl | hq
      · simp at e; subst e; simp [upd]
      · exact absurd ⟨q, hq, e⟩ hl
theorem updAll_comm (f : Nat → Option (List AV)) {l l' : List (Nat × List AV)} (h : ∀ q ∈ l, ∀ q' ∈ l', q.1 ≠ q'.1) : updAll (updAll f l) l' = updAll (updAll f l') l := by
  funext x
  by_cases h1 : ∃ q ∈ l, q.1 = x
  · have hn : ∀ q ∈ l', q.1 ≠ x := by
      obtain ⟨q, hq, e⟩ := h1
      intro q' hq' e'
      exact h q hq q' hq' (by rw [e, e'])
    rw [updAll_at _ l' x hn]
    exact updAll_in l _ _ x h1
  · have hn : ∀ q ∈ l, q.1 ≠ x := fun q hq e => h1 ⟨q, hq, e⟩
    rw [updAll_at _ l x hn]
    by_cases h2 : ∃ q ∈ l', q.1 = x
    · exact updAll_in l' _ _ x h2
    · have hn' : ∀ q ∈ l', q.1 ≠ x := fun q hq e => h2 ⟨q, hq, e⟩
      rw [updAll_at _ l' x hn', updAll_at _ l' x hn', updAll_at _ l x hn]
theorem updRows_out (l : List ((Nat × Nat) × RowSt)) (f : Nat → Nat → RowSt) (x y : Nat) (h : ∀ q ∈ l, q.1.1 ≠ x) : updRows f l x y = f x y :=
  updRows_at l f x y (fun q hq e => h q hq (by rw [e]))
theorem updRows_same : ∀ (l : List ((Nat × Nat) × RowSt)) (f g : Nat → Nat → RowSt) (x y : Nat), f x y = g x y → updRows f l x y = updRows g l x y
  | [], f, g, x, y, h => h
  | (k, c) :: l, f, g, x, y, h => by
    simp only [updRows]
    exact updRows_same l _ _ x y (by unfold upd2; rw [h])
theorem updRows_comm (f : Nat → Nat → RowSt) {l l' : List ((Nat × Nat) × RowSt)} (h : ∀ q ∈ l, ∀ q' ∈ l', q.1.1 ≠ q'.1.1) : updRows (updRows f l) l' = updRows (updRows f l') l := by
  funext x y
  by_cases h1 : ∃ q ∈ l, q.1.1 = x
  · have hn : ∀ q ∈ l', q.1.1 ≠ x := by
      obtain ⟨q, hq, e⟩ := h1
      intro q' hq' e'
      exact h q hq q' hq' (by rw [e, e'])
    rw [updRows_out l' _ x y hn]
    exact updRows_same l _ _ x y (updRows_out l' f x y hn).symm
  · have hn : ∀ q ∈ l, q.1.1 ≠ x := fun q hq e => h1 ⟨q, hq, e⟩
    rw [updRows_out l _ x y hn]
    exact updRows_same l' _ _ x y (updRows_out l f x y hn)
end
end Go.Proofs.Ytddilmocngedjaa
/- A region that draws its order: whatever the order, what the text's order says. -/
namespace Go.Proofs.Ytddilmocngedjaa
set_option linter.unusedVariables false
set_option linter.unusedSimpArgs false
open Go.RowKit

def maskOf (acc : List Nat) (o : Oper) : Nat := o.after.toList.foldl (fun s e => if Region.binds .any e then s ||| (2 ^ e.on ||| acc.getD e.on 0) else s) 0
def masks : List Oper → List Nat → List Nat
  | [], acc => acc
  | o :: r, acc => masks r (acc ++ [maskOf acc o])
def pairOK (ops : Array Oper) (p : Nat) (o : Oper) (f : Foot) : Nat → List Oper → List Foot → List Nat → Bool
  | q, o' :: r, f' :: fs, m :: ms => (m.testBit p || (apartF ops o o' && !clash f f')) && pairOK ops p o f (q + 1) r fs ms
  | _, _, _, _ => true
def pairsOK (ops : Array Oper) : Nat → List Oper → List Foot → List Nat → Bool
  | p, o :: r, f :: fs, _ :: ms => pairOK ops p o f (p + 1) r fs ms && pairsOK ops (p + 1) r fs ms
  | _, _, _, _ => true
def edgesOK : Nat → List Oper → Bool
  | _, [] => true
  | i, o :: r => o.after.toList.all (fun e => !Region.binds .any e || decide (e.on < i)) && edgesOK (i + 1) r
def drawOK (ops : Array Oper) (fs : List Foot) : Bool :=
  edgesOK 0 ops.toList && (match masks ops.toList [] with | ms => pairsOK ops 0 ops.toList fs ms)

inductive RunI (Γ : Nat → Option Con) (P : Program) (ops : Array Oper) : List (Nat × Foot) → St → St → Prop
  | nil (st : St) : RunI Γ P ops [] st st
  | cons {i : Nat} {o : Oper} {ft : Foot} {l : List (Nat × Foot)} {st st1 st2 : St} (ho : ops[i]? = some o) (h : StepF Γ P ops o st ft st1) (r : RunI Γ P ops l st1 st2) : RunI Γ P ops ((i, ft) :: l) st st2

section
variable {P : Program} {n : Nat} {w0 : World} {own own' : OwnP} {st st' st1 st2 stF : St} {G G' : Gh} {a : Act} {w w' : World} {o : Oper} {Γ : Nat → Option Con} {ops : Array Oper} {ft : Foot} {E : Eff}

theorem meet_false {a b : List Nat} (h : meet a b = false) : ∀ x ∈ a, x ∉ b := by
  intro x hx hb
  unfold meet at h
  rw [List.any_eq_false] at h
  have := h x hx
  apply this
  rw [List.any_eq_true]
  exact ⟨x, hb, by simp⟩
theorem clash_false {f g : Foot} (h : clash f g = false) : (∀ x ∈ f.wr, x ∉ g.wr) ∧ (∀ x ∈ f.wr, x ∉ g.rd) ∧ (∀ x ∈ f.rd, x ∉ g.wr) ∧ ∀ x ∈ f.nm, x ∉ g.nm := by
  unfold clash at h
  simp only [Bool.or_eq_false_iff] at h
  exact ⟨meet_false h.1.1.1, meet_false h.1.1.2, meet_false h.1.2, meet_false h.2⟩
theorem apartF_spec {o1 o2 : Oper} (h : apartF ops o1 o2 = true) : (∀ d, o1.dst = some d → d ∉ usesOf ops o2) ∧ (∀ d, o1.dst = some d → o2.dst ≠ some d) ∧ (∀ d, o2.dst = some d → d ∉ usesOf ops o1) := by
  unfold apartF at h
  simp only [Bool.and_eq_true] at h
  refine ⟨fun d hd => ?_, fun d hd => ?_, fun d hd => ?_⟩
  · have := h.1; rw [hd] at this; simp at this; simpa using this.1
  · have := h.1; rw [hd] at this; simp at this; exact this.2
  · have := h.2; rw [hd] at this; simpa using this

theorem uses_ev (h : ∀ t ∈ usesOf ops o, st.tmps t = st2.tmps t) : ∀ x ∈ o.op.operands, st.ev x = st2.ev x := by
  intro x hx
  cases x with
  | tmp t => exact h t (List.mem_append_left _ (List.mem_filterMap.2 ⟨.tmp t, by simpa using hx, rfl⟩))
  | _ => rfl
theorem uses_guard {g : Nat} {want : Bool} (hg : o.guard = some (g, want)) (h : ∀ t ∈ usesOf ops o, st.tmps t = st2.tmps t) : guardOf ops st g = guardOf ops st2 g := by
  unfold guardOf
  cases hd : (ops[g]?).bind (·.dst) with
  | none => rfl
  | some d => exact h d (List.mem_append_right _ (by simp [hg, hd]))

theorem step_delta (h : StepF Γ P ops o st ft st') : ∃ E : Eff, st' = E.app o.dst st ∧ (∀ x ∈ E.boxes, x.1 ∈ ft.wr) ∧ (∀ x ∈ E.rows, x.1.1 ∈ ft.nm) ∧
    ∀ st2, (∀ t ∈ usesOf ops o, st.tmps t = st2.tmps t) → (∀ s, s ∈ ft.rd ∨ s ∈ ft.wr → st.boxes s = st2.boxes s) → (∀ h ∈ ft.nm, ∀ y, st.rows h y = st2.rows h y) → StepF Γ P ops o st2 ft (E.app o.dst st2) := by
  cases h with
  | run _ E hg he ho =>
    obtain ⟨f1, f2⟩ := eff_foot he
    refine ⟨E, rfl, f1, f2, fun st2 h1 h2 h3 => .run ft E ?_ (eff_local (uses_ev h1) he h2 h3) ho⟩
    rcases hg with hg | ⟨g, want, hg, hb⟩
    · exact .inl hg
    · exact .inr ⟨g, want, hg, by rw [← uses_guard hg h1]; exact hb⟩
  | skip hg =>
    obtain ⟨g, want, hg, hb⟩ := hg
    have e : ∀ s : St, s.put o.dst .skip = (⟨True, .skip, [], []⟩ : Eff).app o.dst s := by
      intro s; cases o.dst <;> rfl
    refine ⟨⟨True, .skip, [], []⟩, e st, fun x h => (by simp at h), fun x h => (by simp at h), fun st2 h1 _ _ => ?_⟩
    rw [← e]
    exact .skip ⟨g, want, hg, by rw [← uses_guard hg h1]; exact hb⟩

theorem app_tmps (E : Eff) {dst : Option Tmp} {t : Nat} (h : dst ≠ some t) : (E.app dst st).tmps t = st.tmps t := by
  cases dst with
  | none => rfl
  | some d =>
    have : (t == d) = false := by simp; rintro rfl; exact h rfl
    simp [Eff.app, upd, this]
theorem app_comm (E1 E2 : Eff) {d1 d2 : Option Tmp} (hd : ∀ d, d1 = some d → d2 ≠ some d) (hb : ∀ q ∈ E1.boxes, ∀ q' ∈ E2.boxes, q.1 ≠ q'.1) (hr : ∀ q ∈ E1.rows, ∀ q' ∈ E2.rows, q.1.1 ≠ q'.1.1) (st : St) :
    E2.app d2 (E1.app d1 st) = E1.app d1 (E2.app d2 st) := by
  unfold Eff.app
  simp only [St.mk.injEq]
  refine ⟨?_, updAll_comm _ hb, updRows_comm _ hr⟩
  cases d1 with
  | none => cases d2 <;> rfl
  | some x =>
    cases d2 with
    | none => rfl
    | some y => exact upd_upd _ _ _ (fun e => hd x rfl (by rw [e]))

theorem swap_step {o1 o2 : Oper} {f1 f2 : Foot} (h1 : StepF Γ P ops o1 st f1 st1) (h2 : StepF Γ P ops o2 st1 f2 st2) (hap : apartF ops o1 o2 = true) (hcl : clash f1 f2 = false) : ∃ s, StepF Γ P ops o2 st f2 s ∧ StepF Γ P ops o1 s f1 st2 := by
  obtain ⟨E1, rfl, b1, r1, t1⟩ := step_delta h1
  obtain ⟨E2, rfl, b2, r2, t2⟩ := step_delta h2
  obtain ⟨a1, a2, a3⟩ := apartF_spec hap
  obtain ⟨c1, c2, c3, c4⟩ := clash_false hcl
  have g2 := t2 st (fun t ht => app_tmps E1 (fun e => a1 t e ht)) (fun s hs => updAll_at _ _ s (fun q hq e => by
      rcases hs with hs | hs
      · exact c2 q.1 (b1 q hq) (by rw [e]; exact hs)
      · exact c1 q.1 (b1 q hq) (by rw [e]; exact hs))) (fun h hh y => updRows_out _ _ h y (fun q hq e => c4 q.1.1 (r1 q hq) (by rw [e]; exact hh)))
  have g1 := t1 (E2.app o2.dst st) (fun t ht => (app_tmps E2 (fun e => a3 t e ht)).symm) (fun s hs => (updAll_at _ _ s (fun q hq e => by
      rcases hs with hs | hs
      · exact c3 s hs (by rw [← e]; exact b2 q hq)
      · exact c1 s hs (by rw [← e]; exact b2 q hq))).symm) (fun h hh y => (updRows_out _ _ h y (fun q hq e => c4 h hh (by rw [← e]; exact r2 q hq))).symm)
  refine ⟨_, g2, ?_⟩
  rw [app_comm E1 E2 a2 (fun q hq q' hq' e => c1 q.1 (b1 q hq) (by rw [e]; exact b2 q' hq')) (fun q hq q' hq' e => c4 q.1.1 (r1 q hq) (by rw [e]; exact r2 q' hq')) st]
  exact g1

theorem bubble {i : Nat} {fi : Foot} : ∀ (pre post : List (Nat × Foot)) (st : St), RunI Γ P ops (pre ++ (i, fi) :: post) st stF → (∀ x ∈ pre, ∀ o1 o2, ops[x.1]? = some o1 → ops[i]? = some o2 → apartF ops o1 o2 = true ∧ clash x.2 fi = false) →
    ∃ o s, ops[i]? = some o ∧ StepF Γ P ops o st fi s ∧ RunI Γ P ops (pre ++ post) s stF
  | [], post, st, h, _ => by
    cases h with
    | cons ho h r => exact ⟨_, _, ho, h, r⟩
  | (j, fj) :: pre, post, st, h, hp => by
    cases h with
    | cons hoj hj r =>
      obtain ⟨o, s, ho, hs, r'⟩ := bubble pre post _ r (fun x hx => hp x (by simp [hx]))
      obtain ⟨h1, h2⟩ := hp (j, fj) (by simp) _ _ hoj ho
      obtain ⟨s', g1, g2⟩ := swap_step hj hs h1 h2
      exact ⟨o, s', ho, g1, .cons hoj g2 r'⟩

theorem run_index : ∀ (k : Nat) (l : List Oper) (st : St) (fs : List Foot), l = ops.toList.drop k → RunF Γ P ops l st fs stF → RunI Γ P ops ((List.range' k l.length).zip fs) st stF ∧ fs.length = l.length
  | k, [], st, fs, hl, h => by cases h; exact ⟨.nil _, rfl⟩
  | k, o :: l, st, fs, hl, h => by
    cases h with
    | cons h1 r =>
      have h2 : ops.toList[k]? = some o := by
        have := congrArg (·[0]?) hl
        simp only [List.getElem?_cons_zero, List.getElem?_drop, Nat.add_zero] at this
        exact this.symm
      have h3 : l = ops.toList.drop (k + 1) := by
        have := congrArg List.tail hl
        simpa using this
      obtain ⟨g1, g2⟩ := run_index (k + 1) l _ _ h3 r
      refine ⟨?_, by simp [g2]⟩
      simp only [List.length_cons, List.range'_succ, List.zip_cons_cons]
      exact .cons (by simpa using h2) h1 g1
end
end Go.Proofs.Ytddilmocngedjaa
/- A region that draws its order, in a real world. -/
namespace Go.Proofs.Ytddilmocngedjaa
set_option linter.unusedVariables false
set_option linter.unusedSimpArgs false
open Go.RowKit

section
variable {P : Program} {n : Nat} {w0 : World} {own own' : OwnP} {st st' st1 st2 stF : St} {G G' : Gh} {a : Act} {w w' : World} {o : Oper} {Γ : Nat → Option Con} {ops : Array Oper} {ft : Foot} {E : Eff}

theorem masks_length : ∀ (l : List Oper) (acc : List Nat), (masks l acc).length = acc.length + l.length
  | [], acc => rfl
  | o :: l, acc => by simp only [masks, masks_length l]; simp; omega
theorem masks_keep : ∀ (l : List Oper) (acc : List Nat) (k : Nat), k < acc.length → (masks l acc)[k]? = acc[k]?
  | [], acc, k, h => rfl
  | o :: l, acc, k, h => by
    simp only [masks]
    rw [masks_keep l _ k (by simp; omega), List.getElem?_append_left h]
theorem masks_at : ∀ (l : List Oper) (acc : List Nat) (k : Nat) o, l[k]? = some o → ∃ acc' : List Nat, (masks l acc)[acc.length + k]? = some (maskOf acc' o) ∧ acc'.length = acc.length + k ∧ ∀ j, j < acc'.length → acc'[j]? = (masks l acc)[j]?
  | [], acc, k, o, h => by simp at h
  | x :: l, acc, 0, o, h => by
    simp at h; subst h
    simp only [masks, Nat.add_zero]
    refine ⟨acc, ?_, rfl, fun j hj => ?_⟩
    · rw [masks_keep l _ _ (by simp)]; simp
    · rw [masks_keep l _ j (by simp; omega), List.getElem?_append_left hj]
  | x :: l, acc, k + 1, o, h => by
    simp only [masks]
    obtain ⟨acc', h1, h2, h3⟩ := masks_at l (acc ++ [maskOf acc x]) k o (by simpa using h)
    refine ⟨acc', ?_, ?_, h3⟩
    · rw [← h1]; congr 1; simp; omega
    · rw [h2]; simp; omega

theorem fold_bits (acc : List Nat) (k : Nat) : ∀ (l : List Edge) (s : Nat), (l.foldl (fun s e => if Region.binds .any e then s ||| (2 ^ e.on ||| acc.getD e.on 0) else s) s).testBit k = true →
    s.testBit k = true ∨ ∃ e ∈ l, Region.binds .any e = true ∧ (e.on = k ∨ (acc.getD e.on 0).testBit k = true)
  | [], s, h => .inl h
  | e :: l, s, h => by
    simp only [List.foldl_cons] at h
    rcases fold_bits acc k l _ h with h1 | ⟨e', h1, h2⟩
    · split at h1
      · rename_i hb
        rw [Nat.testBit_or, Nat.testBit_or, Bool.or_eq_true, Bool.or_eq_true] at h1
        rcases h1 with h1 | h1 | h1
        · exact .inl h1
        · right
          refine ⟨e, by simp, hb, .inl ?_⟩
          rw [Nat.testBit_two_pow] at h1
          simpa using h1
        · exact .inr ⟨e, by simp, hb, .inr h1⟩
      · exact .inl h1
    · exact .inr ⟨e', by simp [h1], h2⟩

theorem mask_spec {i k m : Nat} (ho : ops[i]? = some o) (hm : (masks ops.toList [])[i]? = some m) (hk : m.testBit k = true) : ∃ e ∈ o.after, Region.binds .any e = true ∧ (e.on = k ∨ ∃ m', (masks ops.toList [])[e.on]? = some m' ∧ m'.testBit k = true) := by
  obtain ⟨acc', h1, h2, h3⟩ := masks_at ops.toList [] i o (by simpa using ho)
  simp only [List.length_nil, Nat.zero_add] at h1 h2
  rw [hm] at h1
  cases h1
  unfold maskOf at hk
  rcases fold_bits acc' k _ 0 hk with h | ⟨e, h4, h5, h6⟩
  · simp at h
  · refine ⟨e, by simpa using h4, h5, ?_⟩
    rcases h6 with h6 | h6
    · exact .inl h6
    · right
      by_cases hl : e.on < acc'.length
      · have h7 := h3 e.on hl
        rw [List.getElem?_eq_getElem hl] at h7
        refine ⟨_, h7.symm, ?_⟩
        simpa [List.getD, List.getElem?_eq_getElem hl] using h6
      · rw [List.getD_eq_getElem?_getD, List.getElem?_eq_none (by omega)] at h6
        simp at h6

theorem edges_spec : ∀ (l : List Oper) (i k : Nat) o, edgesOK i l = true → l[k]? = some o → ∀ e ∈ o.after, Region.binds .any e = true → e.on < i + k
  | [], i, k, o, _, h => by simp at h
  | x :: l, i, 0, o, h, ho => by
    simp at ho; subst ho
    simp only [edgesOK, Bool.and_eq_true, List.all_eq_true] at h
    intro e he hb
    have := h.1 e (by simpa using he)
    simpa [hb] using this
  | x :: l, i, k + 1, o, h, ho => by
    simp only [edgesOK, Bool.and_eq_true] at h
    intro e he hb
    have := edges_spec l (i + 1) k o h.2 (by simpa using ho) e he hb
    omega

theorem pair_spec (p : Nat) (o : Oper) (f : Foot) : ∀ (l : List Oper) (fs : List Foot) (ms : List Nat) (q k : Nat) o' f' m, pairOK ops p o f q l fs ms = true → l[k]? = some o' → fs[k]? = some f' → ms[k]? = some m → m.testBit p = true ∨ (apartF ops o o' = true ∧ clash f f' = false)
  | [], _, _, _, k, o', f', m, _, h, _, _ => by simp at h
  | _ :: _, [], _, _, k, o', f', m, _, _, h, _ => by simp at h
  | _ :: _, _ :: _, [], _, k, o', f', m, _, _, _, h => by simp at h
  | x :: l, g :: fs, b :: ms, q, 0, o', f', m, h, h1, h2, h3 => by
    simp at h1 h2 h3; subst h1 h2 h3
    simp only [pairOK, Bool.and_eq_true, Bool.or_eq_true, Bool.not_eq_true'] at h
    exact h.1
  | x :: l, g :: fs, b :: ms, q, k + 1, o', f', m, h, h1, h2, h3 => by
    simp only [pairOK, Bool.and_eq_true] at h
    exact pair_spec p o f l fs ms (q + 1) k o' f' m h.2 (by simpa using h1) (by simpa using h2) (by simpa using h3)
theorem pairs_spec : ∀ (l : List Oper) (fs : List Foot) (ms : List Nat) (p0 p q : Nat) o f o' f' m, pairsOK ops p0 l fs ms = true → p < q → l[p]? = some o → fs[p]? = some f → ms.length = l.length → l[q]? = some o' → fs[q]? = some f' → ms[q]? = some m →
    m.testBit (p0 + p) = true ∨ (apartF ops o o' = true ∧ clash f f' = false)
  | [], _, _, _, p, q, o, f, o', f', m, _, _, h, _, _, _, _, _ => by simp at h
  | _ :: _, [], _, _, p, q, o, f, o', f', m, _, _, _, h, _, _, _, _ => by simp at h
  | _ :: _, _ :: _, [], _, p, q, o, f, o', f', m, _, _, _, _, h, _, _, _ => by simp at h
  | x :: l, g :: fs, b :: ms, p0, 0, q, o, f, o', f', m, h, hpq, h1, h2, h3, h4, h5, h6 => by
    simp at h1 h2; subst h1 h2
    simp only [pairsOK, Bool.and_eq_true] at h
    obtain ⟨q', rfl⟩ : ∃ q', q = q' + 1 := ⟨q - 1, by omega⟩
    exact pair_spec p0 x g l fs ms (p0 + 1) q' o' f' m h.1 (by simpa using h4) (by simpa using h5) (by simpa using h6)
  | x :: l, g :: fs, b :: ms, p0, p + 1, q, o, f, o', f', m, h, hpq, h1, h2, h3, h4, h5, h6 => by
    simp only [pairsOK, Bool.and_eq_true] at h
    obtain ⟨q', rfl⟩ : ∃ q', q = q' + 1 := ⟨q - 1, by omega⟩
    have := pairs_spec l fs ms (p0 + 1) p q' o f o' f' m h.2 (by omega) (by simpa using h1) (by simpa using h2) (by simpa using h3) (by simpa using h4) (by simpa using h5) (by simpa using h6)
    rw [show p0 + (p + 1) = p0 + 1 + p from by omega]
    exact this

def restOf (ops : Array Oper) (listed : Array Bool) : List Nat := (List.range ops.size).filter fun i => !listed.getD i true

theorem set_listed {listed : Array Bool} {i : Nat} (hi : i < listed.size) (k : Nat) : (listed.setIfInBounds i true).getD k true = (listed.getD k true || k == i) := by
  by_cases hk : k = i
  · subst hk; simp [Array.getD_eq_getD_getElem?, hi]
  · have : (k == i) = false := by simpa using hk
    rw [this, Bool.or_false]
    simp [Array.getD_eq_getD_getElem?, Array.getElem?_setIfInBounds_ne (Ne.symm hk)]

theorem mem_ready' {listed : Array Bool} {i : Nat} : i ∈ Region.ready .any ops listed ↔ listed.getD i true = false ∧ ∃ o, ops[i]? = some o ∧ ∀ e ∈ o.after, Region.binds .any e = true → listed.getD e.on false = true := by
  unfold Region.ready
  simp only [List.mem_filter, List.mem_range, Bool.and_eq_true, Bool.not_eq_true']
  constructor
  · rintro ⟨h1, h2, h3⟩
    refine ⟨h2, ops[i], Array.getElem?_eq_getElem h1, ?_⟩
    rw [Array.getElem?_eq_getElem h1] at h3
    simp only [Option.map_some, Option.getD_some, Array.all_eq_true] at h3
    intro e he hb
    obtain ⟨k, hk, rfl⟩ := Array.getElem_of_mem he
    have := h3 k hk
    simpa [hb] using this
  · rintro ⟨h1, o, ho, h2⟩
    have hlt := (Array.getElem?_eq_some_iff.1 ho).1
    refine ⟨hlt, h1, ?_⟩
    rw [ho]
    simp only [Option.map_some, Option.getD_some, Array.all_eq_true]
    intro k hk
    by_cases hb : Region.binds .any o.after[k] = true
    · simp [hb, h2 _ (Array.getElem_mem hk) hb]
    · simp only [Bool.not_eq_true] at hb; simp [hb]

theorem all_listed' {listed : Array Bool} (hs : listed.size = ops.size) (he : edgesOK 0 ops.toList = true) (hr : Region.ready .any ops listed = []) : ∀ m i, i < m → i < ops.size → listed.getD i true = true := by
  intro m
  induction m with
  | zero => intro i h; omega
  | succ m ih =>
    intro i hi hlt
    by_cases hx : listed.getD i true = true
    · exact hx
    · exfalso
      have hm : i ∈ Region.ready .any ops listed := by
        refine mem_ready'.2 ⟨by simpa using hx, ops[i], Array.getElem?_eq_getElem hlt, fun e he' hb => ?_⟩
        have hj := edges_spec ops.toList 0 i ops[i] he (by simp [hlt]) e he' hb
        rw [Nat.zero_add] at hj
        have h4 := ih e.on (by omega) (by omega)
        have h5 : e.on < listed.size := by omega
        simpa [Array.getD_eq_getD_getElem?, h5] using h4
      rw [hr] at hm; cases hm

theorem rest_split {listed : Array Bool} {i : Nat} (hs : listed.size = ops.size) {l : List (Nat × Foot)} (hl : l.map (·.1) = restOf ops listed) (hi : i < ops.size) (hu : listed.getD i true = false) :
    ∃ pre fi post, l = pre ++ (i, fi) :: post ∧ (pre ++ post).map (·.1) = restOf ops (listed.setIfInBounds i true) := by
  have hm : i ∈ l.map (·.1) := by rw [hl]; exact List.mem_filter.2 ⟨List.mem_range.2 hi, by simp [hu]⟩
  obtain ⟨⟨i', fi⟩, hx, rfl⟩ := List.mem_map.1 hm
  obtain ⟨pre, post, rfl⟩ := List.append_of_mem hx
  refine ⟨pre, fi, post, rfl, ?_⟩
  simp only at hu hi hl ⊢
  have hnd : (restOf ops listed).Nodup := List.nodup_range.filter _
  rw [← hl] at hnd
  simp only [List.map_append, List.map_cons] at hnd hl
  have h1 : restOf ops (listed.setIfInBounds i' true) = (restOf ops listed).filter (fun k => k != i') := by
    unfold restOf
    rw [List.filter_filter]
    apply List.filter_congr
    intro k _
    rw [set_listed (by omega)]
    cases listed.getD k true <;> cases h : (k == i') <;> simp [bne, h]
  rw [h1, ← hl, List.filter_append, List.filter_cons]
  simp only [bne_self_eq_false, Bool.false_eq_true, if_false]
  rw [List.nodup_append] at hnd
  obtain ⟨n1, n2, n3⟩ := hnd
  rw [List.nodup_cons] at n2
  rw [List.map_append, List.filter_eq_self.2, List.filter_eq_self.2]
  · intro k hk
    simp only [bne_iff_ne]
    rintro rfl
    exact n2.1 hk
  · intro k hk
    simp only [bne_iff_ne]
    rintro rfl
    exact n3 k hk k (by simp) rfl

theorem any_run (hS : Sound P Γ) (hd : dstsOK n ops.toList = true) (hed : edgesOK 0 ops.toList = true) {Q : Exit → Act → World → Prop} (hQ : ∀ G' a' w', Rel P n w0 own stF G' a' w' → Q .normal a' w') :
    ∀ (fuel : Nat) (listed : Array Bool) (l : List (Nat × Foot)) (st : St) (G : Gh) (a : Act) (w : World), RunI Γ P ops l st stF → l.map (·.1) = restOf ops listed →
      l.Pairwise (fun x y => ∀ o o' m, ops[x.1]? = some o → ops[y.1]? = some o' → (masks ops.toList [])[y.1]? = some m → m.testBit x.1 = true ∨ (apartF ops o o' = true ∧ clash x.2 y.2 = false)) →
      Rel P n w0 own st G a w → listed.size = ops.size → l.length ≤ fuel → (∀ j, j < ops.size → listed.getD j true = true → ∀ m k, (masks ops.toList [])[j]? = some m → m.testBit k = true → listed.getD k false = true) →
      wpAny P .any ops Q fuel listed a w := by
  have last : ∀ (listed : Array Bool) (l : List (Nat × Foot)) (st : St) (G : Gh) (a : Act) (w : World), RunI Γ P ops l st stF → l.map (·.1) = restOf ops listed → Rel P n w0 own st G a w → listed.size = ops.size → Region.ready .any ops listed = [] → Q .normal a w := by
    intro listed l st G a w hrun hl hR hs hr
    have hall := all_listed' hs hed hr
    have : restOf ops listed = [] := by
      unfold restOf
      rw [List.filter_eq_nil_iff]
      intro i hi
      have := hall _ i (Nat.lt_succ_self _) (List.mem_range.1 hi)
      simp [this]
    rw [this] at hl
    have : l = [] := by simpa using hl
    subst this
    cases hrun
    exact hQ G a w hR
  intro fuel
  induction fuel with
  | zero =>
    intro listed l st G a w hrun hl hp hR hs hf hc
    have hl0 : l = [] := List.eq_nil_of_length_eq_zero (by omega)
    have hr : Region.ready .any ops listed = [] := by
      cases hr : Region.ready .any ops listed with
      | nil => rfl
      | cons x xs =>
        exfalso
        have hx : x ∈ Region.ready .any ops listed := by rw [hr]; simp
        obtain ⟨h1, o, ho, _⟩ := mem_ready'.1 hx
        have hm : x ∈ restOf ops listed := List.mem_filter.2 ⟨List.mem_range.2 (Array.getElem?_eq_some_iff.1 ho).1, by simp [h1]⟩
        rw [← hl, hl0] at hm; simp at hm
    exact ⟨hr, last listed l st G a w hrun hl hR hs hr⟩
  | succ fuel ih =>
    intro listed l st G a w hrun hl hp hR hs hf hc
    refine ⟨fun hr => last listed l st G a w hrun hl hR hs hr, fun i hi => ?_⟩
    obtain ⟨hu, o, ho, haf⟩ := mem_ready'.1 hi
    have hilt : i < ops.size := (Array.getElem?_eq_some_iff.1 ho).1
    obtain ⟨pre, fi, post, rfl, hl'⟩ := rest_split hs hl hilt hu
    have hml : (masks ops.toList []).length = ops.size := by rw [masks_length]; simp
    obtain ⟨m, hm⟩ : ∃ m, (masks ops.toList [])[i]? = some m := ⟨_, List.getElem?_eq_getElem (by rw [hml]; exact hilt)⟩
    -- all that comes before it is listed
    have hbef : ∀ k, m.testBit k = true → listed.getD k false = true := by
      intro k hk
      obtain ⟨e, he, hb, h1⟩ := mask_spec ho hm hk
      have hle := haf e he hb
      rcases h1 with rfl | ⟨m', hm', hk'⟩
      · exact hle
      · have hlt : e.on < ops.size := by
          rw [← hml]; exact (List.getElem?_eq_some_iff.1 hm').1
        refine hc e.on hlt ?_ m' k hm' hk'
        have h5 : e.on < listed.size := by omega
        simpa [Array.getD_eq_getD_getElem?, h5] using hle
    have hap : ∀ x ∈ pre, ∀ o1 o2, ops[x.1]? = some o1 → ops[i]? = some o2 → apartF ops o1 o2 = true ∧ clash x.2 fi = false := by
      intro x hx o1 o2 h1 h2
      rw [List.pairwise_append] at hp
      have := hp.2.2 x hx (i, fi) (by simp) o1 o2 m h1 h2 hm
      rcases this with h3 | h3
      · exfalso
        have h4 := hbef x.1 h3
        have hxm : x.1 ∈ restOf ops listed := by rw [← hl]; exact List.mem_map.2 ⟨x, by simp [hx], rfl⟩
        have h5 := (List.mem_filter.1 hxm).2
        have h6 : x.1 < listed.size := by
          rw [hs]; exact List.mem_range.1 (List.mem_filter.1 hxm).1
        simp [Array.getD_eq_getD_getElem?, h6] at h4 h5
        rw [h4] at h5; cases h5
      · exact h3
    obtain ⟨o', s, ho', hs', hrun'⟩ := bubble pre post st hrun hap
    rw [ho] at ho'; cases ho'
    have hdo := dstsOK_get hd (o := o) (by
      have : ops.toList[i]? = some o := by simpa using ho
      exact List.mem_of_getElem? this)
    have key := step_sound hS hR hdo hs' (K := wpAny P .any ops Q fuel (listed.setIfInBounds i true)) (Q := Q) (fun G' a' w' hR' => by
      refine ih _ (pre ++ post) s G' a' w' hrun' hl' ?_ hR' (by simp [hs]) (by simp at hf ⊢; omega) ?_
      · rw [List.pairwise_append] at hp ⊢
        obtain ⟨p1, p2, p3⟩ := hp
        rw [List.pairwise_cons] at p2
        exact ⟨p1, p2.2, fun x hx y hy => p3 x hx y (by simp [hy])⟩
      · intro j hj hlj m' k hm' hk'
        rw [set_listed (by omega)] at hlj
        have h6 : listed.getD k false = true := by
          rcases Bool.or_eq_true_iff.1 hlj with h | h
          · exact hc j hj h m' k hm' hk'
          · have : j = i := by simpa using h
            subst this
            rw [hm] at hm'; cases hm'
            exact hbef k hk'
        have h7 : k < listed.size := by
          by_cases h : k < listed.size
          · exact h
          · simp [Array.getD_eq_getD_getElem?, h] at h6
        have h8 := set_listed (listed := listed) (i := i) (by omega) k
        have h9 : listed.getD k true = true := by simpa [Array.getD_eq_getD_getElem?, h7] using h6
        rw [h9, Bool.true_or] at h8
        have h10 : k < (listed.setIfInBounds i true).size := by simpa using h7
        simpa [Array.getD_eq_getD_getElem?, h10, h7] using h8)
    unfold wpOp
    rw [ho]
    simp only
    rcases key with ⟨h1, h2⟩ | ⟨h1, h2⟩
    · rw [if_pos h1]; exact .inl h2
    · rw [if_neg (by rw [h1]; simp)]; exact h2

theorem region_draw (hS : Sound P Γ) (hmx : P.follows .mixedOrders = true) {Q : Exit → Act → World → Prop} {id : Nat} {fs : List Foot} (hd : dstsOK n ops.toList = true) (hR : Rel P n w0 own st G a w) (h : RunF Γ P ops ops.toList st fs st') (hok : drawOK ops fs = true)
    (hQ : ∀ G' a' w', Rel P n w0 own st' G' a' w' → Q .normal a' w') : (Code.region id ops true).wp P Q a w := by
  refine wp_region_any hmx ?_
  unfold drawOK at hok
  simp only [Bool.and_eq_true] at hok
  obtain ⟨hed, hpr⟩ := hok
  obtain ⟨hi, hlen⟩ := run_index 0 ops.toList st fs (by simp) h
  have hml : (masks ops.toList []).length = ops.toList.length := by rw [masks_length]; simp
  have hmap : (((List.range' 0 ops.toList.length).zip fs).map (·.1)) = restOf ops (Array.replicate ops.size false) := by
    have h1 : ((List.range' 0 ops.toList.length).zip fs).map (·.1) = List.range' 0 ops.toList.length := by
      rw [show (fun x : Nat × Foot => x.1) = Prod.fst from rfl, List.map_fst_zip (by simp [hlen])]
    rw [h1]
    unfold restOf
    rw [List.filter_eq_self.2]
    · simp [List.range_eq_range']
    · intro i hi
      have : i < ops.size := List.mem_range.1 hi
      simp [Array.getD_eq_getD_getElem?, this]
  refine any_run hS hd hed hQ ops.size _ _ st G a _ hi hmap ?_ (by exact hR.drew) (by simp) (by simp [hlen]) ?_
  · rw [List.pairwise_iff_getElem]
    intro p q hp hq hpq o o' m h1 h2 h3
    simp only [List.getElem_zip, List.getElem_range', Nat.zero_add, Nat.one_mul] at h1 h2 h3 ⊢
    have hp' : p < fs.length := by simp at hp; omega
    have hq' : q < fs.length := by simp at hq; omega
    have := pairs_spec ops.toList fs (masks ops.toList []) 0 p q o fs[p] o' fs[q] m hpr hpq (by simpa using h1) (List.getElem?_eq_getElem hp') hml (by simpa using h2) (List.getElem?_eq_getElem hq') h3
    simpa using this
  · intro j hj h1
    simp [Array.getD_eq_getD_getElem?, hj] at h1
end
end Go.Proofs.Ytddilmocngedjaa
/- Names of rows may change between the rounds of a loop: the same memory, told with other names. -/
namespace Go.Proofs.Ytddilmocngedjaa
set_option linter.unusedVariables false
set_option linter.unusedSimpArgs false
open Go.RowKit

def mapV1 (f : AV → AV) : AV → AV
  | .agg cs => .agg (cs.map f)
  | v => f v
def mapV (f : AV → AV) : AV → AV
  | .tup vs => .tup (vs.map (mapV1 f))
  | v => mapV1 f v
def scrubC (a b : Nat) : AV → AV
  | .sl xs (.row x y e) => bif (Nat.beq x a && Nat.beq y b) then .sl xs .no else .sl xs (.row x y e)
  | c => c
def renC (a b a' b' : Nat) : AV → AV
  | .sl xs (.row x y e) => bif (Nat.beq x a && Nat.beq y b) then .sl xs (.row a' b' e) else .sl xs (.row x y e)
  | c => c
def St.map (st : St) (f : AV → AV) (R : Nat → Nat → RowSt) : St := { tmps := fun t => mapV f (st.tmps t), boxes := fun s => (match st.boxes s with | some cs => some (cs.map f) | none => none), rows := R }
inductive Ghost where
  | kill (a b : Nat)
  | mv (a b a' b' : Nat)
  | nilT (t a b e : Nat)
  | noT (t : Nat)
  | noB (s j : Nat)
  | raw
def AV.noCell : AV → AV
  | .sl xs _ => .sl xs .no
  | c => c
def noNth : Nat → List AV → List AV
  | 0, c :: r => c.noCell :: r
  | j + 1, c :: r => c :: noNth j r
  | _, [] => []
def Ghost.run (P : Program) : Ghost → St → St
  | .kill a b, st => st.map (scrubC a b) (upd2 st.rows (a, b) .free)
  | .mv a b a' b', st => match st.rows a b, st.rows a' b' with
    | .live tip, .free => st.map (renC a b a' b') (upd2 (upd2 st.rows (a, b) .free) (a', b') (.live tip))
    | _, _ => st
  | .nilT t a b e, st => match st.tmps t, st.rows a b with
    | .sl xs .nil, .free => (if 0 < tsize P e then { tmps := upd st.tmps t (.sl xs (.row a b e)), boxes := st.boxes, rows := upd2 st.rows (a, b) (.live 0) } else st)
    | _, _ => st
  | .noT t, st => match st.tmps t with
    | .sl xs _ => { tmps := upd st.tmps t (.sl xs .no), boxes := st.boxes, rows := st.rows }
    | _ => st
  | .noB s j, st => match st.boxes s with
    | some cs => { tmps := st.tmps, boxes := upd st.boxes s (some (noNth j cs)), rows := st.rows }
    | none => st
  | .raw, st => st
def canonCell (P : Program) (s j : Nat) (c : AV) (st : St) : St :=
  match c with
  | .sl _ (.row d y _) => (match (Nat.beq d s && Nat.beq y j) with
    | true => st
    | false => (match st.rows d y with
      | .live _ => (match st.rows s j with
        | .live _ => st
        | _ => Ghost.run P (.mv d y s j) (Ghost.run P (.kill s j) st))
      | _ => st))
  | _ => st
def canonCells (P : Program) (s : Nat) : Nat → List AV → St → St
  | _, [], st => st
  | j, c :: r, st => canonCells P s (j + 1) r (canonCell P s j c st)
def keepB (st : St) : Nat → List (Nat × List AV)
  | 0 => []
  | s + 1 => match st.boxes s with
    | some cs => (s, cs) :: keepB st s
    | none => keepB st s
def canonL (P : Program) : List (Nat × List AV) → St → St
  | [], st => st
  | (s, cs) :: r, st => canonL P r (canonCells P s 0 cs st)
def canonB (P : Program) (n : Nat) (st : St) : St := canonL P (keepB st n) st
def ghosts1 (P : Program) : List Ghost → St → St
  | [], st => st
  | g :: r, st => ghosts1 P r (g.run P st)
def ghosts (P : Program) (n : Nat) (gs : List Ghost) (st : St) : St := match gs with
  | .raw :: r => ghosts1 P r st
  | gs => ghosts1 P gs (canonB P n st)

section
variable {P : Program} {n : Nat} {w0 : World} {own own' : OwnP} {st st' : St} {G G' : Gh} {a : Act} {w w' : World}

theorem beq2 {x y p q : Nat} : (Nat.beq x p && Nat.beq y q) = true ↔ x = p ∧ y = q := by
  simp [Bool.and_eq_true, Nat.beq_eq]
theorem beq2_not {x y p q : Nat} (h : ¬ (x = p ∧ y = q)) : (Nat.beq x p && Nat.beq y q) = false := by
  cases hb : (Nat.beq x p && Nat.beq y q) with
  | false => rfl
  | true => exact absurd (beq2.1 hb) h

theorem Rel.view (hR : Rel P n w0 own st G a w) (f : AV → AV) (R : Nat → Nat → RowSt) (σ : Nat → Nat → Nat × Nat) (hbx : G'.bx = G.bx) (hbad : G'.bad = G.bad)
    (hrow : ∀ x y tip, R x y = .live tip → st.rows (σ x y).1 (σ x y).2 = .live tip ∧ G'.cv x y = G.cv (σ x y).1 (σ x y).2 ∧ G'.et x y = G.et (σ x y).1 (σ x y).2)
    (hσ : ∀ x y tip x' y' tip', R x y = .live tip → R x' y' = .live tip' → σ x y = σ x' y' → x = x' ∧ y = y')
    (hone : ∀ c, c.one = true → (f c).one = true) (hagg : ∀ c, (∀ cs, c ≠ .agg cs) → (∀ cs, c ≠ .tup cs) → (∀ cs, f c ≠ .agg cs) ∧ ∀ cs, f c ≠ .tup cs)
    (hf : (∀ b o u, stable P st G b o → w.cell? ⟨b, o, none⟩ = some u → stable P (st.map f R) G' b o ∧ w.cell? ⟨b, o, none⟩ = some u) → ∀ c u, Rep1 P st G w c u → Rep1 P (st.map f R) G' w (f c) u) :
    Rel P n w0 own (st.map f R) G' a w := by
  have hb : ∀ s cs', (st.map f R).boxes s = some cs' → ∃ cs, st.boxes s = some cs ∧ cs' = cs.map f := by
    intro s cs' h
    simp only [St.map] at h
    split at h
    · rename_i cs hcs; cases h; exact ⟨cs, hcs, rfl⟩
    · cases h
  have hb2 : ∀ s cs, st.boxes s = some cs → (st.map f R).boxes s = some (cs.map f) := by
    intro s cs h
    simp only [St.map, h]
  have hst : ∀ b o u, stable P st G b o → w.cell? ⟨b, o, none⟩ = some u → stable P (st.map f R) G' b o ∧ w.cell? ⟨b, o, none⟩ = some u := by
    intro b o u hs hc
    refine ⟨⟨by rw [hbad]; exact hs.1, fun s cs h => ?_, fun x y tip h h' => ?_⟩, hc⟩
    · obtain ⟨cs0, h0, e0⟩ := hb s cs h
      rw [hbx]; exact fun hne => hs.2.1 s cs0 h0 (by rintro rfl; exact hne e0)
    · obtain ⟨h1, h2, h3⟩ := hrow x y tip h
      rw [h2] at h'
      rw [h3]
      exact hs.2.2 _ _ tip h1 h'
  have cell := hf hst
  have agg : ∀ v u, RepA P st G w v u → (∀ cs, v ≠ .tup cs) → RepA P (st.map f R) G' w (mapV1 f v) u := by
    intro v u h hnt
    by_cases hv : ∃ cs, v = .agg cs
    · obtain ⟨cs, rfl⟩ := hv
      obtain ⟨us, h1, h2, h3⟩ := h
      refine (⟨us, h1, by simpa using h2, fun i c hc => ?_⟩ : RepA P (st.map f R) G' w (.agg (cs.map f)) u)
      simp only [List.getElem?_map, Option.map_eq_some_iff] at hc
      obtain ⟨c', hc', rfl⟩ := hc
      obtain ⟨h4, u', h5, h6⟩ := h3 i c' hc'
      exact ⟨hone c' h4, u', h5, cell c' u' h6⟩
    · have hv' : ∀ cs, v ≠ .agg cs := fun cs e => hv ⟨cs, e⟩
      rw [RepA_eq hv'] at h
      have e : mapV1 f v = f v := by cases v <;> first | rfl | exact absurd rfl (hv' _)
      rw [e, RepA_eq (hagg v hv' hnt).1]
      exact cell v u h
  refine ⟨hR.size, hR.defers, fun t => ?_, ⟨fun s cs h => ?_, fun s cs s' cs' h h' he => ?_, fun x y tip h => ?_, fun x y tip x' y' tip' g h h' hg hg' => ?_, fun s cs x y tip h h' hg => ?_⟩, hR.pres, fun s cs h => ?_, fun x y tip g h h' => ?_, by rw [hbad]; exact hR.bad, fun x y tip g o h h' => ?_, fun s b h => ?_, by rw [hbad]; exact hR.same⟩
  · have h := hR.tmps t
    show Rep P (st.map f R) G' w (mapV f (st.tmps t)) _
    by_cases hv : ∃ vs, st.tmps t = .tup vs
    · obtain ⟨vs, hvs⟩ := hv
      rw [hvs] at h ⊢
      obtain ⟨us, h1, h2, h3⟩ := h
      refine (⟨us, h1, by simpa using h2, fun i c hc => ?_⟩ : Rep P (st.map f R) G' w (.tup (vs.map (mapV1 f))) _)
      simp only [List.getElem?_map, Option.map_eq_some_iff] at hc
      obtain ⟨c', hc', rfl⟩ := hc
      obtain ⟨u, h4, h5⟩ := h3 i c' hc'
      refine ⟨u, h4, agg c' u h5 ?_⟩
      rintro cs rfl
      exact (h5 : False).elim
    · have hv' : ∀ vs, st.tmps t ≠ .tup vs := fun vs e => hv ⟨vs, e⟩
      generalize st.tmps t = v at h hv' ⊢
      have e : mapV f v = mapV1 f v := by cases v <;> first | rfl | exact absurd rfl (hv' _)
      rw [e]
      exact Rep.ofA (agg v _ (h.toA hv') hv')
  · obtain ⟨cs0, h0, rfl⟩ := hb s cs h
    obtain ⟨us, t, h1, h2, h3⟩ := hR.mem.box s cs0 h0
    refine ⟨us, t, by rw [hbx]; exact h1, by simpa using h2, fun i c hc => ?_⟩
    simp only [List.getElem?_map, Option.map_eq_some_iff] at hc
    obtain ⟨c', hc', rfl⟩ := hc
    obtain ⟨h4, u, h5, h6⟩ := h3 i c' hc'
    exact ⟨hone c' h4, u, h5, cell c' u h6⟩
  · obtain ⟨c0, h0, _⟩ := hb s cs h
    obtain ⟨c0', h0', _⟩ := hb s' cs' h'
    rw [hbx] at he
    exact hR.mem.inj s c0 s' c0' h0 h0' he
  · obtain ⟨h1, h2, h3⟩ := hrow x y tip h
    rw [h2, h3]
    exact hR.mem.row _ _ tip h1
  · obtain ⟨h1, h2, _⟩ := hrow x y tip h
    obtain ⟨h1', h2', _⟩ := hrow x' y' tip' h'
    rw [h2] at hg
    rw [h2'] at hg'
    obtain ⟨e1, e2⟩ := hR.mem.rinj _ _ tip _ _ tip' g h1 h1' hg hg'
    exact hσ x y tip x' y' tip' h h' (Prod.ext e1 e2)
  · obtain ⟨c0, h0, _⟩ := hb s cs h
    obtain ⟨h1, h2, _⟩ := hrow x y tip h'
    rw [h2, hbx] at hg
    exact hR.mem.brow s c0 _ _ tip h0 h1 hg
  · obtain ⟨c0, h0, _⟩ := hb s cs h
    rw [hbx]; exact hR.obox s c0 h0
  · obtain ⟨h1, h2, h3⟩ := hrow x y tip h
    rw [h2] at h'
    rw [h3]
    exact hR.orow _ _ tip g h1 h'
  · obtain ⟨h1, h2, _⟩ := hrow x y tip h
    rw [h2] at h'
    rw [hbad]
    exact hR.rbad _ _ tip g o h1 h'
  · obtain ⟨⟨c, h1⟩, h2⟩ := hR.pin s b h
    exact ⟨⟨_, hb2 s c h1⟩, by rw [hbx]; exact h2⟩

theorem upd2_at {α : Type} (f : Nat → Nat → α) (x y : Nat) (v : α) (x' y' : Nat) : upd2 f (x, y) v x' y' = if x' = x ∧ y' = y then v else f x' y' := by
  by_cases h : x' = x ∧ y' = y
  · obtain ⟨rfl, rfl⟩ := h; rw [if_pos ⟨rfl, rfl⟩]; exact upd2_same _ _ _ _
  · rw [if_neg h]; exact upd2_other _ _ h
theorem Rel.kill (hR : Rel P n w0 own st G a w) (x y : Nat) : Rel P n w0 own (st.map (scrubC x y) (upd2 st.rows (x, y) .free)) G a w := by
  refine hR.view (scrubC x y) _ (fun p q => (p, q)) rfl rfl (fun p q tip h => ?_) (fun p q tip p' q' tip' _ _ h => by cases h; exact ⟨rfl, rfl⟩) (fun c h => ?_) (fun c h1 h2 => ?_) (fun hst c u h => ?_)
  · rw [upd2_at] at h
    split at h
    · cases h
    · exact ⟨h, rfl, rfl⟩
  · cases c with
    | sl xs ow =>
      cases ow with
      | row p q e =>
        simp only [scrubC]
        cases (Nat.beq p x && Nat.beq q y) <;> rfl
      | _ => rfl
    | _ => exact h
  · cases c with
    | sl xs ow =>
      cases ow with
      | row p q e =>
        simp only [scrubC]
        cases (Nat.beq p x && Nat.beq q y) <;> simp
      | _ => simp [scrubC]
    | agg cs => exact absurd rfl (h1 _)
    | tup cs => exact absurd rfl (h2 _)
    | _ => simp [scrubC]
  · cases c with
    | sl xs ow =>
      cases ow with
      | row p q e =>
        obtain ⟨h1, h2⟩ := h
        simp only [scrubC]
        by_cases hpq : p = x ∧ q = y
        · rw [beq2.2 hpq]
          exact RepP.mono h1 hst
        · rw [beq2_not hpq]
          refine (⟨RepP.mono h1 hst, ?_⟩ : Rep1 P _ G w (.sl xs (.row p q e)) u)
          show (match upd2 st.rows (x, y) .free p q with | .free => False | .dead => True | .live tip => e = G.et p q ∧ xs.length ≤ tip ∧ (xs.length = tip → u = G.cv p q))
          rw [upd2_at, if_neg hpq]
          exact h2
      | no => exact RepP.mono h hst
      | nil => exact h
    | ptr s off =>
      obtain ⟨⟨cs, h1⟩, h2⟩ := h
      exact ⟨⟨cs.map (scrubC x y), by simp only [St.map, h1]⟩, h2⟩
    | vec s off m p =>
      obtain ⟨⟨cs, h1⟩, h2⟩ := h
      exact ⟨⟨cs.map (scrubC x y), by simp only [St.map, h1]⟩, h2⟩
    | eptr z j =>
      obtain ⟨b, off, h1, h2⟩ := h
      exact ⟨b, off, h1, fun i c hc => by
        obtain ⟨h0, h3, u', h4, h5⟩ := h2 i c hc
        exact ⟨h0, (hst _ _ _ h3 h4).1, u', h4, h5.mono hst⟩⟩
    | agg _ => exact h
    | tup _ => exact h
    | _ => exact RepP.mono h hst
theorem Rel.mv (hR : Rel P n w0 own st G a w) {x y x' y' tip : Nat} (hl : st.rows x y = .live tip) (hfr : st.rows x' y' = .free) :
    ∃ G', Rel P n w0 own (st.map (renC x y x' y') (upd2 (upd2 st.rows (x, y) .free) (x', y') (.live tip))) G' a w := by
  obtain ⟨G', hG'⟩ : ∃ G' : Gh, G' = ⟨G.bx, fun p q => if p = x' ∧ q = y' then G.cv x y else G.cv p q, fun p q => if p = x' ∧ q = y' then G.et x y else G.et p q, G.bad⟩ := ⟨_, rfl⟩
  have hne : ¬ (x = x' ∧ y = y') := by rintro ⟨rfl, rfl⟩; rw [hl] at hfr; cases hfr
  have hrows : ∀ p q, upd2 (upd2 st.rows (x, y) .free) (x', y') (.live tip) p q = if p = x' ∧ q = y' then .live tip else if p = x ∧ q = y then .free else st.rows p q := by
    intro p q; rw [upd2_at, upd2_at]
  refine ⟨G', hR.view (renC x y x' y') _ (fun p q => if p = x' ∧ q = y' then (x, y) else (p, q)) (by rw [hG']) (by rw [hG']) (fun p q t h => ?_) (fun p q t p' q' t' h h' he => ?_) (fun c h => ?_) (fun c h1 h2 => ?_) (fun hst c u h => ?_)⟩
  · rw [hrows] at h
    split at h
    · rename_i hpq
      cases h
      rw [hG']
      simp only [if_pos hpq]
      exact ⟨hl, trivial, trivial⟩
    · rename_i hpq
      split at h
      · cases h
      · rw [hG']
        simp only [if_neg hpq]
        exact ⟨h, trivial, trivial⟩
  · rw [hrows] at h h'
    by_cases h1 : p = x' ∧ q = y'
    · by_cases h2 : p' = x' ∧ q' = y'
      · exact ⟨h1.1.trans h2.1.symm, h1.2.trans h2.2.symm⟩
      · rw [if_pos h1, if_neg h2] at he
        rw [if_neg h2] at h'
        cases he
        rw [if_pos ⟨rfl, rfl⟩] at h'
        cases h'
    · by_cases h2 : p' = x' ∧ q' = y'
      · rw [if_neg h1, if_pos h2] at he
        rw [if_neg h1] at h
        cases he
        rw [if_pos ⟨rfl, rfl⟩] at h
        cases h
      · rw [if_neg h1, if_neg h2] at he
        cases he
        exact ⟨rfl, rfl⟩
  · cases c with
    | sl xs ow =>
      cases ow with
      | row p q e =>
        simp only [renC]
        cases (Nat.beq p x && Nat.beq q y) <;> rfl
      | _ => rfl
    | _ => exact h
  · cases c with
    | sl xs ow =>
      cases ow with
      | row p q e =>
        simp only [renC]
        cases (Nat.beq p x && Nat.beq q y) <;> simp
      | _ => simp [renC]
    | agg cs => exact absurd rfl (h1 _)
    | tup cs => exact absurd rfl (h2 _)
    | _ => simp [renC]
  · cases c with
    | sl xs ow =>
      cases ow with
      | row p q e =>
        obtain ⟨h1, h2⟩ := h
        simp only [renC]
        by_cases hpq : p = x ∧ q = y
        · obtain ⟨rfl, rfl⟩ := hpq
          rw [beq2.2 ⟨rfl, rfl⟩]
          rw [hl] at h2
          refine (⟨RepP.mono h1 hst, ?_⟩ : Rep1 P _ G' w (.sl xs (.row x' y' e)) u)
          show (match upd2 (upd2 st.rows (p, q) .free) (x', y') (.live tip) x' y' with | .free => False | .dead => True | .live tip => e = G'.et x' y' ∧ xs.length ≤ tip ∧ (xs.length = tip → u = G'.cv x' y'))
          rw [hrows, if_pos ⟨rfl, rfl⟩, hG']
          simp only [and_self, if_true]
          exact h2
        · rw [beq2_not hpq]
          have hf2 : ¬ (p = x' ∧ q = y') := by
            rintro ⟨rfl, rfl⟩
            rw [hfr] at h2
            exact h2
          refine (⟨RepP.mono h1 hst, ?_⟩ : Rep1 P _ G' w (.sl xs (.row p q e)) u)
          show (match upd2 (upd2 st.rows (x, y) .free) (x', y') (.live tip) p q with | .free => False | .dead => True | .live tip => e = G'.et p q ∧ xs.length ≤ tip ∧ (xs.length = tip → u = G'.cv p q))
          rw [hrows, if_neg hf2, if_neg hpq, hG']
          simp only [if_neg hf2]
          exact h2
      | no => exact RepP.mono h hst
      | nil => exact h
    | ptr s off =>
      obtain ⟨⟨cs, h1⟩, h2⟩ := h
      exact ⟨⟨cs.map (renC x y x' y'), by simp only [St.map, h1]⟩, by rw [hG']; exact h2⟩
    | vec s off m p =>
      obtain ⟨⟨cs, h1⟩, h2⟩ := h
      exact ⟨⟨cs.map (renC x y x' y'), by simp only [St.map, h1]⟩, by rw [hG']; exact h2⟩
    | eptr z j =>
      obtain ⟨b, off, h1, h2⟩ := h
      exact ⟨b, off, h1, fun i c hc => by
        obtain ⟨h0, h3, u', h4, h5⟩ := h2 i c hc
        exact ⟨h0, (hst _ _ _ h3 h4).1, u', h4, h5.mono hst⟩⟩
    | agg _ => exact h
    | tup _ => exact h
    | _ => exact RepP.mono h hst
theorem Rel.nilT (hR : Rel P n w0 own st G a w) {t aa bb e : Nat} {xs : List AV} (ht : st.tmps t = .sl xs .nil) (hf : st.rows aa bb = .free) (hp : 0 < tsize P e) :
    ∃ G', Rel P n w0 own { tmps := upd st.tmps t (.sl xs (.row aa bb e)), boxes := st.boxes, rows := upd2 st.rows (aa, bb) (.live 0) } G' a w := by
  obtain ⟨G', hG'⟩ : ∃ G' : Gh, G' = ⟨G.bx, fun x y => if x = aa ∧ y = bb then .slice none 0 0 else G.cv x y, fun x y => if x = aa ∧ y = bb then e else G.et x y, G.bad⟩ := ⟨_, rfl⟩
  obtain ⟨st', hst'⟩ : ∃ s', s' = ({ tmps := upd st.tmps t (.sl xs (.row aa bb e)), boxes := st.boxes, rows := upd2 st.rows (aa, bb) (.live 0) } : St) := ⟨_, rfl⟩
  refine ⟨G', ?_⟩
  rw [← hst']
  have hbx : ∀ x, st'.boxes x = st.boxes x := fun x => by rw [hst']
  have hrw : ∀ x y, st'.rows x y = if x = aa ∧ y = bb then .live 0 else st.rows x y := fun x y => by rw [hst']; exact upd2_at _ _ _ _ _ _
  have hold : ∀ x y, ¬ (x = aa ∧ y = bb) → G'.cv x y = G.cv x y ∧ G'.et x y = G.et x y := by
    intro x y h; rw [hG']; simp only; rw [if_neg h, if_neg h]; exact ⟨rfl, rfl⟩
  have hnew : G'.cv aa bb = .slice none 0 0 ∧ G'.et aa bb = e := by rw [hG']; simp
  have hlv : ∀ {x y tip g}, st'.rows x y = .live tip → (G'.cv x y).ownBlock = some g → st.rows x y = .live tip ∧ G'.cv x y = G.cv x y ∧ G'.et x y = G.et x y := by
    intro x y tip g h h'
    rw [hrw] at h
    split at h
    · rename_i hh
      obtain ⟨rfl, rfl⟩ := hh
      rw [hnew.1] at h'
      simp [Value.ownBlock] at h'
    · rename_i hh
      exact ⟨h, hold x y hh⟩
  have hGb : G'.bx = G.bx := by rw [hG']
  have hk : Kp P st G w st' G' w := by
    refine ⟨fun b o u hs hcell => ⟨⟨by rw [hG']; exact hs.1, fun x c h => ?_, fun x y tip h h' => ?_⟩, hcell⟩, fun x c h => ⟨⟨c, by rw [hbx]; exact h⟩, by rw [hGb]⟩, fun x y h => ?_, fun _ _ h => by rw [hG'] at h; exact h⟩
    · rw [hbx] at h
      rw [hGb]; exact hs.2.1 x c h
    · obtain ⟨h1, h2, h3⟩ := hlv h h'
      rw [h2] at h'
      rw [h3]
      exact hs.2.2 x y tip h1 h'
    · have hne : ¬ (x = aa ∧ y = bb) := by rintro ⟨rfl, rfl⟩; exact h hf
      rw [hrw, if_neg hne]
      exact ⟨h, fun tip h' => ⟨tip, h', (hold x y hne).2, Nat.le_refl _, fun _ => (hold x y hne).1⟩⟩
  refine ⟨hR.size, hR.defers, fun z => ?_, ⟨fun x c h => ?_, fun x c x' c' h h' he => ?_, fun x y tip h => ?_, fun x y tip x' y' tip' g h h' hg hg' => ?_, fun x c y z tip h h' hg => ?_⟩, hR.pres, fun x c h => ?_, fun x y tip g h h' => ?_, by rw [hG']; exact hR.bad, fun x y tip g o h h' => ?_, fun x b h => ?_, by rw [hG']; exact hR.same⟩
  · by_cases hz : z = t
    · subst hz
      have h := hR.tmps z
      rw [ht] at h
      obtain ⟨rfl, h2⟩ := (h : Rep1 P st G w (.sl xs .nil) _)
      have e1 : st'.tmps z = .sl [] (.row aa bb e) := by rw [hst']; simp [upd]
      rw [e1, h2]
      refine (⟨.slnil _ _ _ (by unfold maxLen; omega), ?_⟩ : Rep1 P st' G' w (.sl [] (.row aa bb e)) (.slice none 0 0))
      rw [hrw, if_pos ⟨rfl, rfl⟩]
      exact ⟨hnew.2.symm, Nat.le_refl _, fun _ => hnew.1.symm⟩
    · have e1 : st'.tmps z = st.tmps z := by
        rw [hst']
        have : (z == t) = false := by simpa using hz
        simp [upd, this]
      rw [e1]
      exact (hR.tmps z).keep hk
  · rw [hbx] at h
    obtain ⟨us, t, q1, q2, q3⟩ := hR.mem.box x c h
    rw [hGb]
    exact ⟨us, t, q1, q2, fun i c hi => by obtain ⟨q4, u, q5, q6⟩ := q3 i c hi; exact ⟨q4, u, q5, q6.keep hk⟩⟩
  · rw [hbx] at h h'
    rw [hGb] at he
    exact hR.mem.inj x c x' c' h h' he
  · rw [hrw] at h
    split at h
    · rename_i hh
      obtain ⟨rfl, rfl⟩ := hh
      cases h
      rw [hnew.1, hnew.2]
      exact ⟨hp, [], World.ownsRow_nil _ _ _ _⟩
    · rename_i hh
      rw [(hold x y hh).1, (hold x y hh).2]
      exact hR.mem.row x y tip h
  · obtain ⟨h1, h2, _⟩ := hlv h hg
    obtain ⟨h1', h2', _⟩ := hlv h' hg'
    rw [h2] at hg
    rw [h2'] at hg'
    exact hR.mem.rinj x y tip x' y' tip' g h1 h1' hg hg'
  · rw [hbx] at h
    rw [hGb] at hg
    obtain ⟨h1, h2, _⟩ := hlv h' hg
    rw [h2] at hg
    exact hR.mem.brow x c y z tip h h1 hg
  · rw [hbx] at h
    rw [hGb]; exact hR.obox x c h
  · obtain ⟨h1, h2, h3⟩ := hlv h h'
    rw [h2] at h'
    rw [h3]
    exact hR.orow x y tip g h1 h'
  · obtain ⟨h1, h2, h3⟩ := hlv h h'
    rw [h2] at h'
    have := hR.rbad x y tip g o h1 h'
    rw [hG']; exact this
  · obtain ⟨⟨c, h1⟩, h2⟩ := hR.pin x b h
    exact ⟨⟨c, by rw [hbx]; exact h1⟩, by rw [hGb]; exact h2⟩
theorem Kp.alike {st st' : St} {G : Gh} {w : World} (hb : st'.boxes = st.boxes) (hr : st'.rows = st.rows) : Kp P st G w st' G w := by
  refine ⟨fun b o u h1 h2 => ⟨⟨h1.1, by rw [hb]; exact h1.2.1, by rw [hr]; exact h1.2.2⟩, h2⟩, fun s cs h => ⟨⟨cs, by rw [hb]; exact h⟩, rfl⟩, fun a b h => ⟨by rw [hr]; exact h, fun tip h' => ⟨tip, by rw [← hr]; exact h', rfl, Nat.le_refl _, fun _ => rfl⟩⟩, fun _ _ h => h⟩
theorem Rel.noT (hR : Rel P n w0 own st G a w) {t : Nat} {xs : List AV} {o : Own} (ht : st.tmps t = .sl xs o) :
    Rel P n w0 own { tmps := upd st.tmps t (.sl xs .no), boxes := st.boxes, rows := st.rows } G a w := by
  have hk : Kp P st G w { tmps := upd st.tmps t (.sl xs .no), boxes := st.boxes, rows := st.rows } G w := Kp.alike rfl rfl
  refine ⟨hR.size, hR.defers, fun z => ?_, ⟨fun s cs h => ?_, hR.mem.inj, hR.mem.row, hR.mem.rinj, hR.mem.brow⟩, hR.pres, hR.obox, hR.orow, hR.bad, hR.rbad, hR.pin, hR.same⟩
  · by_cases hz : z = t
    · subst hz
      have h := (hR.tmps z).keep hk
      rw [ht] at h
      have e1 : upd st.tmps z (AV.sl xs .no) z = .sl xs .no := by simp [upd]
      show Rep P _ G w (upd st.tmps z (AV.sl xs .no) z) _
      rw [e1]
      refine Rep.of1 ?_
      have h1 : Rep1 P _ G w (.sl xs o) (a.tmps.getD z undef) := h
      cases o with
      | no => exact h1
      | nil =>
        obtain ⟨rfl, h2⟩ := (h1 : Rep1 P _ G w (.sl xs .nil) _)
        rw [h2]
        exact (RepP.slnil .no none 0 (by unfold maxLen; omega) : RepP w _ (.sl [] .no) (.slice none 0 0))
      | row x y e => exact h1.1
    · have e1 : upd st.tmps t (AV.sl xs .no) z = st.tmps z := by
        have : (z == t) = false := by simpa using hz
        simp [upd, this]
      show Rep P _ G w (upd st.tmps t (AV.sl xs .no) z) _
      rw [e1]
      exact (hR.tmps z).keep hk
  · obtain ⟨us, t', q1, q2, q3⟩ := hR.mem.box s cs h
    exact ⟨us, t', q1, q2, fun i c hi => by obtain ⟨q4, u, q5, q6⟩ := q3 i c hi; exact ⟨q4, u, q5, q6.keep hk⟩⟩
theorem noNth_get : ∀ (cs : List AV) (j i : Nat), (noNth j cs)[i]? = if i = j then (cs[i]?).map AV.noCell else cs[i]?
  | [], j, i => by cases j <;> simp [noNth]
  | c :: r, 0, 0 => by simp [noNth]
  | c :: r, 0, i + 1 => by simp [noNth]
  | c :: r, j + 1, 0 => by simp [noNth]
  | c :: r, j + 1, i + 1 => by
    simp only [noNth, List.getElem?_cons_succ]
    rw [noNth_get r j i]
    by_cases h : i = j
    · rw [if_pos h, if_pos (by omega)]
    · rw [if_neg h, if_neg (by omega)]
theorem noNth_len : ∀ (cs : List AV) (j : Nat), (noNth j cs).length = cs.length
  | [], j => by cases j <;> rfl
  | c :: r, 0 => rfl
  | c :: r, j + 1 => by simp only [noNth, List.length_cons, noNth_len r j]
theorem Rep1.noCell {c : AV} {u : Value} (h : Rep1 P st G w c u) : Rep1 P st G w c.noCell u := by
  cases c with
  | sl xs o =>
    show Rep1 P st G w (.sl xs .no) u
    cases o with
    | no => exact h
    | nil =>
      obtain ⟨rfl, h2⟩ := (h : Rep1 P st G w (.sl xs .nil) u)
      rw [h2]
      exact (RepP.slnil .no none 0 (by unfold maxLen; omega) : RepP w (stable P st G) (.sl [] .no) (.slice none 0 0))
    | row x y e => exact h.1
  | _ => exact h
theorem noCell_one {c : AV} (h : c.one = true) : c.noCell.one = true := by cases c <;> first | exact h | rfl
theorem Rel.noB (hR : Rel P n w0 own st G a w) {s j : Nat} {cs : List AV} (hs : st.boxes s = some cs) :
    Rel P n w0 own { tmps := st.tmps, boxes := upd st.boxes s (some (noNth j cs)), rows := st.rows } G a w := by
  obtain ⟨st', hst⟩ : ∃ st' : St, st' = { tmps := st.tmps, boxes := upd st.boxes s (some (noNth j cs)), rows := st.rows } := ⟨_, rfl⟩
  rw [← hst]
  have hbx : ∀ x, x ≠ s → st'.boxes x = st.boxes x := by
    intro x hx
    have : (x == s) = false := by simpa using hx
    rw [hst]; simp [upd, this]
  have hbs : st'.boxes s = some (noNth j cs) := by rw [hst]; simp [upd]
  have htm : st'.tmps = st.tmps := by rw [hst]
  have hrw : st'.rows = st.rows := by rw [hst]
  have hne : noNth j cs ≠ [] → cs ≠ [] := by
    intro h e; subst e; apply h; cases j <;> rfl
  have hin : ∀ x c', st'.boxes x = some c' → ∃ c, st.boxes x = some c ∧ (c' ≠ [] → c ≠ []) := by
    intro x c' h
    by_cases hx : x = s
    · subst hx; rw [hbs] at h; cases h; exact ⟨cs, hs, hne⟩
    · rw [hbx x hx] at h; exact ⟨c', h, id⟩
  have hk : Kp P st G w st' G w := by
    refine ⟨fun b o u h1 h2 => ⟨⟨h1.1, fun x c' h h' => ?_, by rw [hrw]; exact h1.2.2⟩, h2⟩, fun x c h => ⟨?_, rfl⟩, fun a b h => ⟨by rw [hrw]; exact h, fun tip h' => ⟨tip, by rw [← hrw]; exact h', rfl, Nat.le_refl _, fun _ => rfl⟩⟩, fun _ _ h => h⟩
    · obtain ⟨c, h3, h4⟩ := hin x c' h
      exact h1.2.1 x c h3 (h4 h')
    · by_cases hx : x = s
      · subst hx; exact ⟨_, hbs⟩
      · exact ⟨c, by rw [hbx x hx]; exact h⟩
  refine ⟨hR.size, hR.defers, fun z => ?_, ⟨fun x c h => ?_, fun x c x' c' h h' he => ?_, by rw [hrw]; exact hR.mem.row, by rw [hrw]; exact hR.mem.rinj, fun x c y z tip h h' => ?_⟩, hR.pres, fun x c h => ?_, by rw [hrw]; exact hR.orow, hR.bad, by rw [hrw]; exact hR.rbad, fun x b h => ?_, hR.same⟩
  · rw [htm]; exact (hR.tmps z).keep hk
  · by_cases hx : x = s
    · subst hx
      rw [hbs] at h
      cases h
      obtain ⟨us, t', q1, q2, q3⟩ := hR.mem.box x cs hs
      refine ⟨us, t', q1, by rw [noNth_len]; exact q2, fun i c hi => ?_⟩
      rw [noNth_get] at hi
      split at hi
      · simp only [Option.map_eq_some_iff] at hi
        obtain ⟨c0, hi, rfl⟩ := hi
        obtain ⟨q4, u, q5, q6⟩ := q3 i c0 hi
        exact ⟨noCell_one q4, u, q5, (q6.keep hk).noCell⟩
      · obtain ⟨q4, u, q5, q6⟩ := q3 i c hi
        exact ⟨q4, u, q5, q6.keep hk⟩
    · rw [hbx x hx] at h
      obtain ⟨us, t', q1, q2, q3⟩ := hR.mem.box x c h
      exact ⟨us, t', q1, q2, fun i c hi => by obtain ⟨q4, u, q5, q6⟩ := q3 i c hi; exact ⟨q4, u, q5, q6.keep hk⟩⟩
  · obtain ⟨c1, h1, _⟩ := hin x c h
    obtain ⟨c2, h2, _⟩ := hin x' c' h'
    exact hR.mem.inj x c1 x' c2 h1 h2 he
  · obtain ⟨c1, h1, _⟩ := hin x c h
    rw [hrw] at h'
    exact hR.mem.brow x c1 y z tip h1 h'
  · obtain ⟨c1, h1, _⟩ := hin x c h
    exact hR.obox x c1 h1
  · obtain ⟨⟨c, h1⟩, h2⟩ := hR.pin x b h
    refine ⟨?_, h2⟩
    by_cases hx : x = s
    · subst hx; exact ⟨_, hbs⟩
    · exact ⟨c, by rw [hbx x hx]; exact h1⟩
theorem Rel.ghost (hR : Rel P n w0 own st G a w) (g : Ghost) : ∃ G', Rel P n w0 own (g.run P st) G' a w := by
  cases g with
  | kill x y => exact ⟨G, hR.kill x y⟩
  | mv x y x' y' =>
    simp only [Ghost.run]
    split
    · rename_i tip h1 h2
      exact hR.mv h1 h2
    · exact ⟨G, hR⟩
  | nilT t x y e =>
    simp only [Ghost.run]
    split
    · rename_i xs h1 h2
      split
      · rename_i hp
        exact hR.nilT h1 h2 hp
      · exact ⟨G, hR⟩
    · exact ⟨G, hR⟩
  | noT t =>
    simp only [Ghost.run]
    split
    · rename_i xs o h1
      exact ⟨G, hR.noT h1⟩
    · exact ⟨G, hR⟩
  | noB s j =>
    simp only [Ghost.run]
    split
    · rename_i cs h1
      exact ⟨G, hR.noB h1⟩
    · exact ⟨G, hR⟩
  | raw => exact ⟨G, hR⟩
theorem Rel.canonCell (hR : Rel P n w0 own st G a w) (s j : Nat) (c : AV) : ∃ G', Rel P n w0 own (Go.Proofs.Ytddilmocngedjaa.canonCell P s j c st) G' a w := by
  unfold Go.Proofs.Ytddilmocngedjaa.canonCell
  split
  · split
    · exact ⟨G, hR⟩
    · split
      · split
        · exact ⟨G, hR⟩
        · obtain ⟨G1, hR1⟩ := hR.ghost (.kill s j)
          exact hR1.ghost (.mv _ _ s j)
      · exact ⟨G, hR⟩
  · exact ⟨G, hR⟩
theorem Rel.canonCells : ∀ (cs : List AV) (s j : Nat) (st : St) (G : Gh), Rel P n w0 own st G a w → ∃ G', Rel P n w0 own (Go.Proofs.Ytddilmocngedjaa.canonCells P s j cs st) G' a w
  | [], s, j, st, G, hR => ⟨G, hR⟩
  | c :: cs, s, j, st, G, hR => by
    obtain ⟨G1, hR1⟩ := hR.canonCell s j c
    exact Rel.canonCells cs s (j + 1) _ G1 hR1
theorem Rel.canonL : ∀ (l : List (Nat × List AV)) (st : St) (G : Gh), Rel P n w0 own st G a w → ∃ G', Rel P n w0 own (Go.Proofs.Ytddilmocngedjaa.canonL P l st) G' a w
  | [], st, G, hR => ⟨G, hR⟩
  | (s, cs) :: l, st, G, hR => by
    obtain ⟨G1, hR1⟩ := Rel.canonCells cs s 0 st G hR
    exact Rel.canonL l _ G1 hR1
theorem Rel.canonB (k : Nat) (st : St) (G : Gh) (hR : Rel P n w0 own st G a w) : ∃ G', Rel P n w0 own (Go.Proofs.Ytddilmocngedjaa.canonB P k st) G' a w := Rel.canonL _ st G hR
theorem Rel.ghosts1 : ∀ (gs : List Ghost) (st : St) (G : Gh), Rel P n w0 own st G a w → ∃ G', Rel P n w0 own (Go.Proofs.Ytddilmocngedjaa.ghosts1 P gs st) G' a w
  | [], st, G, hR => ⟨G, hR⟩
  | g :: gs, st, G, hR => by
    obtain ⟨G1, hR1⟩ := hR.ghost g
    exact Rel.ghosts1 gs _ G1 hR1
theorem Rel.ghosts (k : Nat) (gs : List Ghost) (st : St) (G : Gh) (hR : Rel P n w0 own st G a w) : ∃ G', Rel P n w0 own (Go.Proofs.Ytddilmocngedjaa.ghosts P k gs st) G' a w := by
  unfold Go.Proofs.Ytddilmocngedjaa.ghosts
  split
  · exact Rel.ghosts1 _ _ G hR
  · obtain ⟨G1, hR1⟩ := Rel.canonB k st G hR
    exact Rel.ghosts1 _ _ G1 hR1
end
end Go.Proofs.Ytddilmocngedjaa
/- A function's code, by content: its verification condition (awp), and its contract. -/
namespace Go.Proofs.Ytddilmocngedjaa
set_option linter.unusedVariables false
set_option linter.unusedSimpArgs false
open Go.RowKit

inductive Ex where
  | normal
  | exit (id : Nat)
  | ret

def lookT : List (Nat × AV) → Nat → AV
  | [], _ => .any
  | (k, v) :: r, t => bif t == k then v else lookT r t
def lookB : List (Nat × List AV) → Nat → Option (List AV)
  | [], _ => none
  | (k, v) :: r, t => bif t == k then some v else lookB r t
def lookR : List ((Nat × Nat) × Nat) → Nat → Nat → RowSt
  | [], _, _ => .free
  | (k, v) :: r, x, y => bif (x == k.1 && y == k.2) then .live v else lookR r x y
def mkSt (T : List (Nat × AV)) (B : List (Nat × List AV)) (R : List ((Nat × Nat) × Nat)) : St := { tmps := lookT T, boxes := lookB B, rows := lookR R }
def AV.knownCell (B : List Nat) (R : List (Nat × Nat)) : AV → Bool
  | .ptr s _ => B.contains s
  | .vec s _ _ _ => B.contains s
  | .sl _ (.row a b _) => R.contains (a, b)
  | _ => true
def AV.known (B : List Nat) (R : List (Nat × Nat)) : AV → Bool
  | .tup vs => vs.all fun v => v.cells.all (AV.knownCell B R)
  | v => v.cells.all (AV.knownCell B R)
def listT (st : St) : List (Nat × AV) → Prop
  | [] => True
  | (k, v) :: r => st.tmps k = v ∧ listT st r
def listB (st : St) : List (Nat × List AV) → Prop
  | [] => True
  | (k, v) :: r => st.boxes k = some v ∧ listB st r
def listR (st : St) : List ((Nat × Nat) × Nat) → Prop
  | [] => True
  | (k, v) :: r => (match st.rows k.1 k.2 with | .live t => t = v | _ => False) ∧ listR st r
def knownAll (T : List (Nat × AV)) (B : List (Nat × List AV)) (R : List ((Nat × Nat) × Nat)) : Bool :=
  (T.all fun x => x.2.known (B.map (·.1)) (R.map (·.1))) && (B.all fun x => x.2.all (AV.knownCell (B.map (·.1)) (R.map (·.1))))
def Less (pins : List Nat) (st : St) (T : List (Nat × AV)) (B : List (Nat × List AV)) (R : List ((Nat × Nat) × Nat)) : Prop := listT st T ∧ listB st B ∧ listR st R ∧ knownAll T B R = true ∧ (pins.all fun s => (B.map (·.1)).contains s) = true

def evCond (st : St) (c : Operand) (X Y : Prop) : Prop :=
  match st.ev c with
  | .bool b => match b with
    | true => X
    | false => Y
  | _ => False

structure LoopInv where
  V : Type
  T : V → List (Nat × AV)
  B : V → List (Nat × List AV)
  R : V → List ((Nat × Nat) × Nat)
  inv : V → Prop
  mu : V → Nat
inductive LoopPlan where
  | inv (gs : List Ghost) (J : LoopInv)
  | invK (gs : List Ghost) (J : LoopInv) (κ : J.V → Nat)
  | unroll (gs : List Ghost) (k : Nat)
def rowsIn (R : Nat → Nat → RowSt) : List AV → List ((Nat × Nat) × Nat) → List ((Nat × Nat) × Nat)
  | [], l => l
  | .sl _ (.row a b _) :: r, l => match R a b with
    | .live t => ((a, b), t) :: rowsIn R r l
    | _ => rowsIn R r l
  | _ :: r, l => rowsIn R r l
def rowsInB (R : Nat → Nat → RowSt) : List (Nat × List AV) → List ((Nat × Nat) × Nat) → List ((Nat × Nat) × Nat)
  | [], l => l
  | (_, cs) :: r, l => rowsIn R cs (rowsInB R r l)
def rowsInT (st : St) : Nat → List ((Nat × Nat) × Nat)
  | 0 => []
  | t + 1 => match st.tmps t with
    | .sl xs o => rowsIn st.rows [.sl xs o] (rowsInT st t)
    | .agg cs => rowsIn st.rows cs (rowsInT st t)
    | _ => rowsInT st t
def keepT (st : St) (B : List Nat) (R : List (Nat × Nat)) : Nat → List (Nat × AV)
  | 0 => []
  | t + 1 => match st.tmps t with
    | .any => keepT st B R t
    | .skip => keepT st B R t
    | v => (match v.known B R with
      | true => (t, v) :: keepT st B R t
      | false => keepT st B R t)
def keepOK (pins : List Nat) (T : List (Nat × AV)) (B : List (Nat × List AV)) (R : List ((Nat × Nat) × Nat)) : Prop := knownAll T B R = true ∧ (pins.all fun s => (B.map (·.1)).contains s) = true
def keepK3 (pins : List Nat) (K : St → Prop) (B : List (Nat × List AV)) (R : List ((Nat × Nat) × Nat)) (T : List (Nat × AV)) : Prop := keepOK pins T B R ∧ K (mkSt T B R)
def keepK2 (pins : List Nat) (st : St) (n : Nat) (K : St → Prop) (B : List (Nat × List AV)) (R : List ((Nat × Nat) × Nat)) (bs : List Nat) (rs : List (Nat × Nat)) : Prop := keepK3 pins K B R (keepT st bs rs n)
def keepK1 (pins : List Nat) (st : St) (n : Nat) (K : St → Prop) (B : List (Nat × List AV)) (R : List ((Nat × Nat) × Nat)) : Prop := keepK2 pins st n K B R (B.map (·.1)) (R.map (·.1))
def keepK0 (pins : List Nat) (st : St) (n : Nat) (K : St → Prop) (B : List (Nat × List AV)) : Prop := keepK1 pins st n K B (rowsInB st.rows B (rowsInT st n))
def keepK (pins : List Nat) (st : St) (n : Nat) (K : St → Prop) : Prop := keepK0 pins st n K (keepB st n)
def unrollK (P : Program) (pins : List Nat) (n : Nat) (gs : List Ghost) (body : St → (Ex → St → Prop) → Prop) : Nat → St → (Ex → St → Prop) → Prop
  | 0, _, _ => False
  | k + 1, st, Q => keepK pins (ghosts P n gs st) n fun st => body st fun e s => match e with | .normal => unrollK P pins n gs body k s Q | e => Q e s
def awp (pins : List Nat) (L : Nat → Option LoopPlan) (Γ : Nat → Option Con) (P : Program) (n : Nat) : Nat → Code → St → (Ex → St → Prop) → Prop
  | cur, .skip, st, Q => Q .normal st
  | cur, .label _, st, Q => Q .normal st
  | cur, .region _ ops draw, st, Q => dstsOK n ops.toList = true ∧ runK Γ P ops ops.toList st [] fun fs st' => (match draw with | true => drawOK ops fs = true ∧ Q .normal st' | false => Q .normal st')
  | cur, .seq x y, st, Q => awp pins L Γ P n cur x st fun e s => match e with | .normal => awp pins L Γ P n cur y s Q | e => Q e s
  | cur, .cond c x y, st, Q => evCond st c (awp pins L Γ P n cur x st Q) (awp pins L Γ P n cur y st Q)
  | cur, .block id b, st, Q => awp pins L Γ P n id b st fun e s => match e with | .exit i => (match decide (i = id) with | true => Q .normal s | false => Q (.exit i) s) | e => Q e s
  | cur, .loop b, st, Q => match L cur with
    | none => False
    | some (.unroll gs k) => unrollK P pins n gs (fun st Q => awp pins L Γ P n cur b st Q) k st Q
    | some (.invK gs J κ) => ∃ v0 : J.V, (Less pins (ghosts P n gs st) (J.T v0) (J.B v0) (J.R v0) ∧ J.inv v0) ∧
      ∀ v : J.V, J.inv v → κ v = κ v0 → awp pins L Γ P n cur b (mkSt (J.T v) (J.B v) (J.R v)) fun e s' => match e with | .normal => ∃ v' : J.V, Less pins (ghosts P n gs s') (J.T v') (J.B v') (J.R v') ∧ J.inv v' ∧ κ v' = κ v0 ∧ J.mu v' < J.mu v | e => Q e s'
    | some (.inv gs J) => (∃ v : J.V, Less pins (ghosts P n gs st) (J.T v) (J.B v) (J.R v) ∧ J.inv v) ∧
      ∀ v : J.V, J.inv v → awp pins L Γ P n cur b (mkSt (J.T v) (J.B v) (J.R v)) fun e s' => match e with | .normal => ∃ v' : J.V, Less pins (ghosts P n gs s') (J.T v') (J.B v') (J.R v') ∧ J.inv v' ∧ J.mu v' < J.mu v | e => Q e s'
  | cur, .exit id, st, Q => Q (.exit id) st
  | cur, .ret, st, Q => Q .ret st
  | _, _, _, _ => False

section
variable {P : Program} {n : Nat} {w0 : World} {own own' : OwnP} {st st' : St} {G G' : Gh} {a : Act} {w w' : World} {Γ : Nat → Option Con}

theorem lookT_spec {T : List (Nat × AV)} (h : listT st T) (t : Nat) : lookT T t = .any ∨ lookT T t = st.tmps t := by
  induction T with
  | nil => exact .inl rfl
  | cons x T ih =>
    obtain ⟨k, v⟩ := x
    simp only [lookT]
    by_cases hk : t = k
    · subst hk; right; simp [h.1]
    · have : (t == k) = false := by simpa using hk
      simp only [this, cond_false]
      exact ih h.2
theorem lookB_spec {B : List (Nat × List AV)} (h : listB st B) {s : Nat} {c : List AV} (hs : lookB B s = some c) : st.boxes s = some c := by
  induction B with
  | nil => cases hs
  | cons x B ih =>
    obtain ⟨k, v⟩ := x
    simp only [lookB] at hs
    by_cases hk : s = k
    · subst hk; simp at hs; rw [← hs]; exact h.1
    · have : (s == k) = false := by simpa using hk
      simp only [this, cond_false] at hs
      exact ih h.2 hs
theorem lookB_mem {B : List (Nat × List AV)} {s : Nat} (h : (B.map (·.1)).contains s = true) : ∃ c, lookB B s = some c := by
  induction B with
  | nil => simp at h
  | cons x B ih =>
    obtain ⟨k, v⟩ := x
    simp only [lookB]
    by_cases hk : s = k
    · subst hk; exact ⟨v, by simp⟩
    · have : (s == k) = false := by simpa using hk
      simp only [this, cond_false]
      refine ih ?_
      simpa [hk] using h
theorem lookR_spec {R : List ((Nat × Nat) × Nat)} (h : listR st R) {x y tip : Nat} (hs : lookR R x y = .live tip) : st.rows x y = .live tip := by
  induction R with
  | nil => cases hs
  | cons z R ih =>
    obtain ⟨k, v⟩ := z
    simp only [lookR] at hs
    by_cases hk : x = k.1 ∧ y = k.2
    · obtain ⟨rfl, rfl⟩ := hk
      simp at hs
      have := h.1
      split at this
      · rename_i hh; rw [hh, this, hs]
      · exact this.elim
    · have : (x == k.1 && y == k.2) = false := by
        rw [Bool.and_eq_false_iff]
        by_cases h1 : x = k.1
        · right; simp; intro h2; exact hk ⟨h1, h2⟩
        · left; simpa using h1
      simp only [this, cond_false] at hs
      exact ih h.2 hs
theorem lookR_mem {R : List ((Nat × Nat) × Nat)} {x y : Nat} (h : (R.map (·.1)).contains (x, y) = true) : ∃ t, lookR R x y = .live t := by
  induction R with
  | nil => simp at h
  | cons z R ih =>
    obtain ⟨k, v⟩ := z
    simp only [lookR]
    by_cases hk : x = k.1 ∧ y = k.2
    · obtain ⟨rfl, rfl⟩ := hk; exact ⟨v, by simp⟩
    · have : (x == k.1 && y == k.2) = false := by
        rw [Bool.and_eq_false_iff]
        by_cases h1 : x = k.1
        · right; simp; intro h2; exact hk ⟨h1, h2⟩
        · left; simpa using h1
      simp only [this, cond_false]
      refine ih ?_
      simp only [List.map_cons, List.contains_cons, Bool.or_eq_true, beq_iff_eq] at h
      rcases h with h | h
      · exact absurd ⟨congrArg Prod.fst h, congrArg Prod.snd h⟩ hk
      · exact h
theorem lookR_not_dead {R : List ((Nat × Nat) × Nat)} {x y : Nat} : lookR R x y ≠ .dead := by
  induction R with
  | nil => simp [lookR]
  | cons z R ih =>
    simp only [lookR]
    cases (x == z.1.1 && y == z.1.2) <;> simp [ih]

theorem lookT_any {T : List (Nat × AV)} {t : Nat} (hm : ¬ ∃ v, (t, v) ∈ T ∧ lookT T t = v) : lookT T t = .any := by
  induction T with
  | nil => rfl
  | cons x T ih =>
    obtain ⟨k, v⟩ := x
    by_cases hkk : t = k
    · subst hkk
      exact absurd ⟨v, by simp, by simp [lookT]⟩ hm
    · have hf : (t == k) = false := by simpa using hkk
      have he : lookT ((k, v) :: T) t = lookT T t := by simp [lookT, hf]
      rw [he]
      refine ih ?_
      rintro ⟨v', h1, h2⟩
      exact hm ⟨v', by simp [h1], by rw [he]; exact h2⟩
theorem lookB_in {B : List (Nat × List AV)} {s : Nat} {cs : List AV} (h : lookB B s = some cs) : (s, cs) ∈ B := by
  induction B with
  | nil => cases h
  | cons x B ih =>
    obtain ⟨k, v⟩ := x
    simp only [lookB] at h
    by_cases hkk : s = k
    · subst hkk; simp at h; simp [h]
    · have hf : (s == k) = false := by simpa using hkk
      simp only [hf, cond_false] at h
      simp [ih h]

theorem keepB_list (st : St) : ∀ n, listB st (keepB st n)
  | 0 => trivial
  | s + 1 => by
    simp only [keepB]
    split
    · rename_i cs h; exact ⟨h, keepB_list st s⟩
    · exact keepB_list st s
theorem rowsIn_list (st : St) : ∀ (cs : List AV) (l : List ((Nat × Nat) × Nat)), listR st l → listR st (rowsIn st.rows cs l)
  | [], l, h => h
  | c :: cs, l, h => by
    have ih := rowsIn_list st cs l h
    unfold rowsIn
    split
    · rename_i h0; cases h0
    · rename_i h0
      cases h0
      split
      · rename_i t ht
        refine ⟨?_, ih⟩
        simp only [ht]
      · exact ih
    · rename_i h0
      cases h0
      exact ih
theorem rowsInB_list (st : St) : ∀ (B : List (Nat × List AV)) (l : List ((Nat × Nat) × Nat)), listR st l → listR st (rowsInB st.rows B l)
  | [], l, h => h
  | (s, cs) :: B, l, h => rowsIn_list st cs _ (rowsInB_list st B l h)
theorem rowsInT_list (st : St) : ∀ n, listR st (rowsInT st n)
  | 0 => trivial
  | t + 1 => by
    simp only [rowsInT]
    split
    · exact rowsIn_list st _ _ (rowsInT_list st t)
    · exact rowsIn_list st _ _ (rowsInT_list st t)
    · exact rowsInT_list st t
theorem keepT_list (st : St) (B : List Nat) (R : List (Nat × Nat)) : ∀ n, listT st (keepT st B R n)
  | 0 => trivial
  | t + 1 => by
    simp only [keepT]
    split
    · exact keepT_list st B R t
    · exact keepT_list st B R t
    · split
      · exact ⟨rfl, keepT_list st B R t⟩
      · exact keepT_list st B R t
theorem Rel.less (hR : Rel P n w0 own st G a w) {T : List (Nat × AV)} {B : List (Nat × List AV)} {R : List ((Nat × Nat) × Nat)} {pins : List Nat} (hpin : ∀ s b, own.pin s = some b → s ∈ pins) (h : Less pins st T B R) : Rel P n w0 own (mkSt T B R) G a w := by
  obtain ⟨hT, hB, hRr, hk, hpn⟩ := h
  unfold knownAll at hk
  simp only [Bool.and_eq_true] at hk
  obtain ⟨hk1, hk2⟩ := hk
  rw [List.all_eq_true] at hk1 hk2
  have hst : ∀ b o, stable P st G b o → stable P (mkSt T B R) G b o := fun b o hs => ⟨hs.1, fun s cs h => hs.2.1 s cs (lookB_spec hB h), fun x y tip h => hs.2.2 x y tip (lookR_spec hRr h)⟩
  have hmono : ∀ b o u, stable P st G b o → w.cell? ⟨b, o, none⟩ = some u → stable P (mkSt T B R) G b o ∧ w.cell? ⟨b, o, none⟩ = some u := fun b o u h1 h2 => ⟨hst b o h1, h2⟩
  have cell : ∀ {c : AV} {u : Value}, Rep1 P st G w c u → c.knownCell (B.map (·.1)) (R.map (·.1)) = true → Rep1 P (mkSt T B R) G w c u := by
    intro c u hc hn
    cases c with
    | ptr s off =>
      obtain ⟨_, h2⟩ := hc
      exact ⟨lookB_mem hn, h2⟩
    | vec s off m p =>
      obtain ⟨_, h2⟩ := hc
      exact ⟨lookB_mem hn, h2⟩
    | sl xs ow =>
      cases ow with
      | no => exact RepP.mono hc hmono
      | nil => exact hc
      | row x y e =>
        obtain ⟨h1, h2⟩ := hc
        refine ⟨h1.mono hmono, ?_⟩
        obtain ⟨t, ht⟩ := lookR_mem hn
        have h3 := lookR_spec hRr ht
        have h4 : (mkSt T B R).rows x y = .live t := ht
        rw [h4]
        rw [h3] at h2
        exact h2
    | eptr x j =>
      obtain ⟨b, off, h1, h2⟩ := hc
      exact ⟨b, off, h1, fun i c hc => by obtain ⟨h0, h3, u, h4, h5⟩ := h2 i c hc; exact ⟨h0, hst _ _ h3, u, h4, h5.mono hmono⟩⟩
    | agg _ => exact hc
    | tup _ => exact hc
    | skip => exact RepP.mono hc hmono
    | any => exact RepP.mono hc hmono
    | bool _ => exact RepP.mono hc hmono
    | int _ _ => exact RepP.mono hc hmono
    | str _ => exact RepP.mono hc hmono
    | nilptr => exact RepP.mono hc hmono
    | fn _ _ => exact RepP.mono hc hmono
    | nilfn => exact RepP.mono hc hmono
  have agg : ∀ {v : AV} {r : Value}, RepA P st G w v r → v.cells.all (AV.knownCell (B.map (·.1)) (R.map (·.1))) = true → RepA P (mkSt T B R) G w v r := by
    intro v r hv hn
    rw [List.all_eq_true] at hn
    by_cases ha : ∃ cs, v = .agg cs
    · obtain ⟨cs, rfl⟩ := ha
      obtain ⟨us, h1, h2, h3⟩ := hv
      exact ⟨us, h1, h2, fun i c hc => by obtain ⟨h0, u, h4, h5⟩ := h3 i c hc; exact ⟨h0, u, h4, cell h5 (hn c (List.mem_of_getElem? hc))⟩⟩
    · have ha' : ∀ cs, v ≠ .agg cs := fun cs e => ha ⟨cs, e⟩
      rw [RepA_eq ha'] at hv ⊢
      exact cell hv (hn v (by rw [cellsOf_one ha']; simp))
  refine ⟨hR.size, hR.defers, fun t => ?_, ⟨fun s cs h => ?_, fun s cs s' cs' h h' he => hR.mem.inj s cs s' cs' (lookB_spec hB h) (lookB_spec hB h') he, fun x y tip h => hR.mem.row x y tip (lookR_spec hRr h),
    fun x y tip x' y' tip' g h h' => hR.mem.rinj x y tip x' y' tip' g (lookR_spec hRr h) (lookR_spec hRr h'), fun s cs x y tip h h' => hR.mem.brow s cs x y tip (lookB_spec hB h) (lookR_spec hRr h')⟩, hR.pres,
    fun s cs h => hR.obox s cs (lookB_spec hB h), fun x y tip g h => hR.orow x y tip g (lookR_spec hRr h), hR.bad, fun x y tip g o h => hR.rbad x y tip g o (lookR_spec hRr h), fun s b h => ⟨lookB_mem (by rw [List.all_eq_true] at hpn; exact hpn s (hpin s b h)), (hR.pin s b h).2⟩, hR.same⟩
  · have hv := hR.tmps t
    have : (mkSt T B R).tmps t = lookT T t := rfl
    rw [this]
    by_cases hm : ∃ v, (t, v) ∈ T ∧ lookT T t = v
    · obtain ⟨v, hm1, hm2⟩ := hm
      rw [hm2]
      rcases lookT_spec hT t with h | h
      · rw [hm2] at h; rw [h]; exact rep_any _
      · rw [hm2] at h
        rw [← h] at hv
        have hkn := hk1 (t, v) hm1
        simp only at hkn
        by_cases ht : ∃ vs, v = .tup vs
        · obtain ⟨vs, rfl⟩ := ht
          obtain ⟨us, q1, q2, q3⟩ := hv
          simp only [AV.known, List.all_eq_true] at hkn
          refine ⟨us, q1, q2, fun i c hc => ?_⟩
          obtain ⟨u, q4, q5⟩ := q3 i c hc
          exact ⟨u, q4, agg q5 (by rw [List.all_eq_true]; exact hkn c (List.mem_of_getElem? hc))⟩
        · have ht' : ∀ vs, v ≠ .tup vs := fun vs e => ht ⟨vs, e⟩
          rw [Rep_eq ht'] at hv ⊢
          refine agg hv ?_
          cases v <;> first | exact hkn | exact absurd rfl (ht' _)
    · have : lookT T t = .any := lookT_any hm
      rw [this]; exact rep_any _
  · obtain ⟨us, t, h1, h2, h3⟩ := hR.mem.box s cs (lookB_spec hB h)
    refine ⟨us, t, h1, h2, fun i c hc => ?_⟩
    obtain ⟨h4, u, h5, h6⟩ := h3 i c hc
    refine ⟨h4, u, h5, cell h6 ?_⟩
    have : (s, cs) ∈ B := lookB_in h
    have hkb := hk2 (s, cs) this
    simp only [List.all_eq_true] at hkb
    exact hkb c (List.mem_of_getElem? hc)
theorem Rel.keep (hR : Rel P n w0 own st G a w) {pins : List Nat} (hpin : ∀ s b, own.pin s = some b → s ∈ pins) {k : Nat} {K : St → Prop} (h : keepK pins st k K) : ∃ st', K st' ∧ Rel P n w0 own st' G a w :=
  ⟨_, h.2, hR.less hpin ⟨keepT_list st _ _ _, keepB_list st _, rowsInB_list st _ _ (rowsInT_list st _), h.1.1, h.1.2⟩⟩
end
end Go.Proofs.Ytddilmocngedjaa
/- The verification condition of code holds of the real run. -/
namespace Go.Proofs.Ytddilmocngedjaa
set_option linter.unusedVariables false
set_option linter.unusedSimpArgs false
open Go.RowKit

def Ex.real : Ex → Exit
  | .normal => .normal
  | .exit i => .exit i
  | .ret => .ret

section
variable {P : Program} {n : Nat} {w0 : World} {own own' : OwnP} {st st' : St} {G G' : Gh} {a : Act} {w w' : World} {Γ : Nat → Option Con}

theorem awp_sound {pins : List Nat} {L : Nat → Option LoopPlan} (hpin : ∀ s b, own.pin s = some b → s ∈ pins) (hS : Sound P Γ) (hmx : P.follows .mixedOrders = true) : ∀ (c : Code) (cur : Nat) (st : St) (G : Gh) (a : Act) (w : World) (Q : Ex → St → Prop) (R : Exit → Act → World → Prop),
    awp pins L Γ P n cur c st Q → Rel P n w0 own st G a w → (∀ e s G a w, Q e s → Rel P n w0 own s G a w → R e.real a w) → c.wp P R a w := by
  intro c
  induction c with
  | skip => exact fun cur st G a w Q R h hR hQ => wp_skip (hQ .normal st G a w h hR)
  | label l => exact fun cur st G a w Q R h hR hQ => wp_label (hQ .normal st G a w h hR)
  | ret => exact fun cur st G a w Q R h hR hQ => wp_ret (hQ .ret st G a w h hR)
  | exit id => exact fun cur st G a w Q R h hR hQ => wp_exit (hQ (.exit id) st G a w h hR)
  | region id ops draw =>
    intro cur st G a w Q R h hR hQ
    obtain ⟨hd, h⟩ := h
    obtain ⟨fs, st', h1, h2⟩ := runK_run _ _ _ _ h
    rw [List.nil_append] at h2
    cases draw with
    | false => exact region_text hS hd hR h1 fun G' a' w' hR' => hQ .normal _ _ _ _ h2 hR'
    | true => exact region_draw hS hmx hd hR h1 h2.1 fun G' a' w' hR' => hQ .normal _ _ _ _ h2.2 hR'
  | seq x y ihx ihy =>
    intro cur st G a w Q R h hR hQ
    refine wp_seq (ihx cur st G a w _ _ h hR ?_)
    intro e s G a w hq hR'
    cases e with
    | normal => exact ihy cur s G a w Q R hq hR' hQ
    | exit i => exact hQ (.exit i) s G a w hq hR'
    | ret => exact hQ .ret s G a w hq hR'
  | cond c x y ihx ihy =>
    intro cur st G a w Q R h hR hQ
    have hc := hR.ev c
    simp only [awp, evCond] at h
    split at h
    · rename_i b hb
      rw [hb] at hc
      have hc' := hc.inv_bool
      cases b with
      | true => exact wp_cond_true hc' (ihx cur st G a w Q R h hR hQ)
      | false => exact wp_cond_false hc' (ihy cur st G a w Q R h hR hQ)
    · exact h.elim
  | block id b ih =>
    intro cur st G a w Q R h hR hQ
    refine wp_block (ih id st G a w _ _ h hR ?_)
    intro e s G a w hq hR'
    cases e with
    | normal => exact hQ .normal s G a w hq hR'
    | exit i =>
      by_cases hi : i = id
      · simp only [hi, decide_true] at hq
        simp only [Ex.real, Exit.inBlock, hi, if_true]
        exact hQ .normal s G a w hq hR'
      · simp only [hi, decide_false] at hq
        simp only [Ex.real, Exit.inBlock, hi, if_false]
        exact hQ (.exit i) s G a w hq hR'
    | ret => exact hQ .ret s G a w hq hR'
  | loop b ih =>
    intro cur st G a w Q R h hR hQ
    simp only [awp] at h
    split at h
    · exact h.elim
    · rename_i gs k hk
      refine wp_loop_ghost (fun k a w => ∃ st G, unrollK P pins n gs (fun st Q => awp pins L Γ P n cur b st Q) k st Q ∧ Rel P n w0 own st G a w) k ⟨st, G, h, hR⟩ ?_
      rintro k a w ⟨st, G, h, hR⟩
      cases k with
      | zero => exact h.elim
      | succ k =>
        obtain ⟨G2, hR2⟩ := Rel.ghosts n gs _ _ hR
        obtain ⟨st3, h3, hR3⟩ := hR2.keep hpin h
        refine ih cur st3 G2 a w _ _ h3 hR3 ?_
        intro e s' G a w hq hR'
        cases e with
        | normal => exact ⟨k, by omega, s', G, hq, hR'⟩
        | exit i => exact hQ (.exit i) s' G a w hq hR'
        | ret => exact hQ .ret s' G a w hq hR'
    · rename_i gs J κ hJ
      obtain ⟨v0, ⟨hl, hI⟩, hstep⟩ := h
      obtain ⟨G1, hR1⟩ := Rel.ghosts n gs _ _ hR
      refine wp_loop_ghost (fun k a w => ∃ v G, J.inv v ∧ κ v = κ v0 ∧ J.mu v = k ∧ Rel P n w0 own (mkSt (J.T v) (J.B v) (J.R v)) G a w) (J.mu v0) ⟨_, G1, hI, rfl, rfl, hR1.less hpin hl⟩ ?_
      rintro k a w ⟨v, G, hI, hκ, rfl, hR⟩
      refine ih cur _ G a w _ _ (hstep v hI hκ) hR ?_
      intro e s' G a w hq hR'
      cases e with
      | normal =>
        obtain ⟨v', hl', hI', hκ', hm⟩ := hq
        obtain ⟨G2, hR2⟩ := Rel.ghosts n gs _ _ hR'
        exact ⟨_, hm, v', G2, hI', hκ', rfl, hR2.less hpin hl'⟩
      | exit i => exact hQ (.exit i) s' G a w hq hR'
      | ret => exact hQ .ret s' G a w hq hR'
    · rename_i gs J hJ
      obtain ⟨⟨v0, hl, hI⟩, hstep⟩ := h
      obtain ⟨G1, hR1⟩ := Rel.ghosts n gs _ _ hR
      refine wp_loop_ghost (fun k a w => ∃ v G, J.inv v ∧ J.mu v = k ∧ Rel P n w0 own (mkSt (J.T v) (J.B v) (J.R v)) G a w) (J.mu v0) ⟨_, G1, hI, rfl, hR1.less hpin hl⟩ ?_
      rintro k a w ⟨v, G, hI, rfl, hR⟩
      refine ih cur _ G a w _ _ (hstep v hI) hR ?_
      intro e s' G a w hq hR'
      cases e with
      | normal =>
        obtain ⟨v', hl', hI', hm⟩ := hq
        obtain ⟨G2, hR2⟩ := Rel.ghosts n gs _ _ hR'
        exact ⟨_, hm, v', G2, hI', rfl, hR2.less hpin hl'⟩
      | exit i => exact hQ (.exit i) s' G a w hq hR'
      | ret => exact hQ .ret s' G a w hq hR'
  | _ => intro cur st G a w Q R h; exact h.elim
end
end Go.Proofs.Ytddilmocngedjaa
/- Where a function ends: its results, and what is told of them. -/
namespace Go.Proofs.Ytddilmocngedjaa
set_option linter.unusedVariables false
set_option linter.unusedSimpArgs false
open Go.RowKit

def resVal1 (P : Program) (s : St) : ResultVar → Option AV
  | .tmp t => some (s.tmps t)
  | .cell a t => match s.tmps a with
    | .ptr b off => match s.boxes b with
      | some cs => if off + tsize P t ≤ cs.length ∧ (P.underlying t).isSome = true ∧ (tagg P t = true ∨ tsize P t = 1) then some (if tagg P t then .agg ((cs.drop off).take (tsize P t)) else cellAt cs off) else none
      | none => none
    | _ => none
def resVals (P : Program) (s : St) : List ResultVar → Option (List AV)
  | [] => some []
  | x :: r => match resVal1 P s x, resVals P s r with
    | some v, some vs => some (v :: vs)
    | _, _ => none
def resVal (P : Program) (s : St) (rs : List ResultVar) : Option AV :=
  match resVals P s rs with
  | some [v] => some v
  | some vs => some (.tup vs)
  | none => none

def fit1 (P : Program) (R : Nat → Nat → RowSt) (c c' : AV) : Prop :=
  match c', c with
  | .bool a, .bool b => a = b
  | .int k a, .int k' b => if k = k' then a = b else False
  | .str a, .str b => a = b
  | .nilptr, .nilptr => True
  | .nilfn, .nilfn => True
  | .sl ys (.row _ _ e'), .sl xs (.row a b e) => if e' = e then (match R a b with | .live tip => 0 < tsize P e ∧ ys = xs ∧ tip = xs.length | _ => False) else False
  | .sl ys (.row _ _ e'), .sl _ .nil => 0 < tsize P e' ∧ ys = []
  | .sl ys .no, .sl xs _ => ys = xs
  | .sl ys .nil, .sl xs .nil => ys = xs
  | _, _ => False
def fits (P : Program) (R : Nat → Nat → RowSt) : List AV → List AV → Prop
  | [], [] => True
  | c :: A, c' :: L => fit1 P R c c' ∧ fits P R A L
  | _, _ => False
def AV.unPtr : AV → AV
  | .ptr _ _ => .nilptr
  | c => c
def unPtrs : List AV → List AV
  | [] => []
  | c :: r => c.unPtr :: unPtrs r
def newName : Nat := 2000
def ptrFit (bi : List Nat) (nw : Option Nat) : AV → AV → Bool
  | .ptr s off, .ptr a off' => Nat.beq off off' && (match Nat.beq a newName with
    | true => (match nw with | some n => Nat.beq s n | none => false)
    | false => (Nat.beq s a && (match bi with | [i] => Nat.beq i a | _ => false)))
  | .ptr _ _, _ => false
  | _, .ptr _ _ => false
  | _, _ => true
def ptrFits (bi : List Nat) (nw : Option Nat) : List AV → List AV → Bool
  | [], [] => true
  | c :: A, c' :: L => ptrFit bi nw c c' && ptrFits bi nw A L
  | _, _ => false
def AV.noPtr : AV → Bool
  | .ptr _ _ => false
  | _ => true
def shape1 : AV → AV → Bool
  | .agg a, .agg b => a.length == b.length && b.all AV.noPtr
  | .agg _, _ => false
  | _, .agg _ => false
  | .tup _, _ => false
  | _, .tup _ => false
  | _, .vec _ _ _ _ => false
  | _, _ => true
def shapes : List AV → List AV → Bool
  | [], [] => true
  | a :: x, b :: y => shape1 a b && shapes x y
  | _, _ => false
def shape : AV → AV → Bool
  | .tup a, .tup b => shapes a b
  | a, b => shape1 a b
def nodupB : List (Nat × Nat) → Bool
  | [] => true
  | q :: r => !(r.any fun x => x.1 == q.1 && x.2 == q.2) && nodupB r
def boxIxs : Nat → List Arg → List Nat
  | _, [] => []
  | i, .box _ :: r => i :: boxIxs (i + 1) r
  | i, .val _ :: r => boxIxs (i + 1) r
def findNew : List AV → List AV → Option Nat
  | .ptr s _ :: A, .ptr a _ :: L => match Nat.beq a newName with
    | true => some s
    | false => findNew A L
  | _ :: A, _ :: L => findNew A L
  | _, _ => none
def nwOf (r : Res) (v : AV) : Option Nat :=
  match r.new with
  | some _ => findNew v.cellsT r.val.cellsT
  | none => none
def boxThen (bi : List Nat) (r : Option (List AV)) (B : Nat → Option (List AV)) : Option (List AV) :=
  match bi, r with
  | [], none => some []
  | [i], some cs => (match Nat.beq i newName with
    | true => none
    | false => (match B i with
      | some A => (match Nat.beq A.length cs.length with | true => some A | false => none)
      | none => none))
  | _, _ => none
def newThen (bi : List Nat) (nw : Option Nat) (r : Option (List AV)) (B : Nat → Option (List AV)) : Option (List AV) :=
  match r with
  | none => some []
  | some cn => (match nw with
    | some n => (match bi.contains n with
      | true => none
      | false => (match B n with
        | some N => (match Nat.beq N.length cn.length with | true => some N | false => none)
        | none => none))
    | none => none)

def exitOK (P : Program) (rs : List ResultVar) (bi : List Nat) (r : Res) (s : St) : Prop :=
  match resVal P s rs with
  | some v => shape v r.val = true ∧ ptrFits bi (nwOf r v) v.cellsT r.val.cellsT = true ∧ (match boxThen bi r.box s.boxes, newThen bi (nwOf r v) r.new s.boxes with
    | some A, some N => fits P s.rows (A ++ (N ++ unPtrs v.cellsT)) (r.box.getD [] ++ (r.new.getD [] ++ unPtrs r.val.cellsT)) ∧ nodupB (outNames (A ++ (N ++ unPtrs v.cellsT)) (r.box.getD [] ++ (r.new.getD [] ++ unPtrs r.val.cellsT))) = true
    | _, _ => False)
  | none => False
def exitQ (P : Program) (rs : List ResultVar) (bi : List Nat) (r : Res) (e : Ex) (s : St) : Prop :=
  match e with
  | .exit _ => False
  | _ => exitOK P rs bi r s

def resRun (tmps : Array Value) : ResultVar → Sem Value
  | .tmp t => pure (tmps.getD t undef)
  | .cell y t => do loadVar t (← asAddr (tmps.getD y undef))
theorem results_eq (fn : Func) (tmps : Array Value) : results fn tmps = (do
    let vs ← fn.results.mapM (resRun tmps)
    pure (if h : vs.size = 1 then vs[0] else .tuple vs)) := rfl
section
variable {P : Program} {n : Nat} {w0 : World} {own own' : OwnP} {st st' stX : St} {G G' GX GE : Gh} {a : Act} {w w' : World} {A L : List AV} {d : Nat}

theorem run_res1 (hR : Rel P n w0 own st G a w) {x : ResultVar} {v : AV} (h : resVal1 P st x = some v) :
    ∃ u, (resRun a.tmps x).run P w = .ok u w ∧ Rep P st G w v u := by
  cases x with
  | tmp t =>
    cases h
    exact ⟨_, by simp [resRun], hR.tmps t⟩
  | cell y t =>
    simp only [resVal1] at h
    split at h
    · rename_i b off hy
      split at h
      · rename_i cs hb
        split at h
        · rename_i hc
          obtain ⟨u, h1, h2⟩ := pure_loadPtr (o := { (default : Oper) with op := .load t (.tmp y) }) hR rfl (e2 := (by have := hR.tmps y; rw [hy] at this; exact this.inv_ptr.2)) hb hc.1 hc.2.1 hc.2.2
          refine ⟨u, ?_, by cases h; exact h2⟩
          have e1 := hR.tmps y
          rw [hy] at e1
          obtain ⟨_, e2⟩ := e1.inv_ptr
          simp only [execOp, Act.eval, e2, Instr.loadAt, Instr.sureAddr] at h1
          simp only [resRun, e2, asAddr]
          simp only [Sem.run_bind, Sem.run_map, Sem.run_pure, Result.andThen] at h1 ⊢
          cases hl : (loadVar t ⟨G.bx b, off, none⟩).run P w with
          | ok u' w' => rw [hl] at h1; simp at h1; obtain ⟨rfl, rfl⟩ := h1; rfl
          | halt h' w' => rw [hl] at h1; simp at h1
        · cases h
      · cases h
    · cases h

theorem run_res (hR : Rel P n w0 own st G a w) : ∀ (l : List ResultVar) (vs : List AV), resVals P st l = some vs →
    ∃ us : List Value, (l.mapM (resRun a.tmps)).run P w = .ok us w ∧ us.length = vs.length ∧ ∀ (i : Nat) v, vs[i]? = some v → ∃ u, us[i]? = some u ∧ Rep P st G w v u
  | [], vs, h => by
    cases h
    exact ⟨[], by simp, rfl, fun i v h => by simp at h⟩
  | x :: l, vs, h => by
    simp only [resVals] at h
    split at h
    · rename_i v vs' h1 h2
      cases h
      obtain ⟨u, h3, h4⟩ := run_res1 hR h1
      obtain ⟨us, h5, h6, h7⟩ := run_res hR l vs' h2
      refine ⟨u :: us, ?_, by simp [h6], fun i v' hv => ?_⟩
      · rw [List.mapM_cons]
        simp only [Sem.run_bind, h3, h5, Sem.run_pure, Result.andThen]
      · cases i with
        | zero => simp at hv; subst hv; exact ⟨u, rfl, h4⟩
        | succ i => simpa using h7 i v' (by simpa using hv)
    · cases h

theorem run_results (hR : Rel P n w0 own st G a w) {fn : Func} {v : AV} (h : resVal P st fn.results.toList = some v) : ∃ u, (results fn a.tmps).run P w = .ok u w ∧
    ((Rep P st G w v u ∧ ∀ cs, v ≠ .tup cs) ∨ ∃ vs us, v = .tup vs ∧ u = .tuple us ∧ us.size = vs.length ∧ ∀ (i : Nat) c, vs[i]? = some c → ∃ u, us[i]? = some u ∧ Rep P st G w c u) := by
  unfold resVal at h
  cases hv : resVals P st fn.results.toList with
  | none => rw [hv] at h; cases h
  | some vs =>
    obtain ⟨us, h1, h2, h3⟩ := run_res hR _ _ hv
    rw [hv] at h
    have hm : (results fn a.tmps).run P w = .ok (if h : us.toArray.size = 1 then us.toArray[0] else .tuple us.toArray) w := by
      rw [results_eq]
      have : fn.results = fn.results.toList.toArray := by simp
      rw [this]
      rw [List.mapM_toArray]
      simp only [Sem.run_bind, Sem.run_map, Result.andThen]
      rw [h1]
      rfl
    refine ⟨_, hm, ?_⟩
    clear hm h1 hv
    match vs, us, h2, h3, h with
    | [x], [u], _, h3, h =>
      obtain rfl : x = v := by simpa using h
      obtain ⟨u', h4, h5⟩ := h3 0 x rfl
      simp at h4; subst h4
      by_cases ht : ∃ cs, x = .tup cs
      · obtain ⟨cs, rfl⟩ := ht
        right
        obtain ⟨us', q1, q2, q3⟩ := h5
        exact ⟨cs, us', rfl, by simpa using q1, q2, fun i c hc => by obtain ⟨u, q4, q5⟩ := q3 i c hc; exact ⟨u, q4, Rep.ofA q5⟩⟩
      · left
        exact ⟨by simpa using h5, fun cs e => ht ⟨cs, e⟩⟩
    | [], [], _, h3, h =>
      obtain rfl : AV.tup [] = v := by simpa using h
      exact .inr ⟨[], #[], rfl, by simp, rfl, fun i c hc => by simp at hc⟩
    | x :: y :: vs, u0 :: u1 :: us, h2, h3, h =>
      obtain rfl : AV.tup (x :: y :: vs) = v := by simpa using h
      exact .inr ⟨_, (u0 :: u1 :: us).toArray, rfl, by simp, by simpa using h2, fun i c hc => by simpa using h3 i c hc⟩
    | [], _ :: _, h2, _, _ => simp at h2
    | _ :: _, [], h2, _, _ => simp at h2
    | [_], _ :: _ :: _, h2, _, _ => simp at h2
    | _ :: _ :: _, [_], h2, _, _ => simp at h2

theorem fit1_spec {c c' : AV} (h : fit1 P st.rows c c') : OutFit st c c' ∧ c'.one = true ∧ (∀ s off, c' ≠ .ptr s off) ∧ ∀ t, rowOf c' = some t → 0 < tsize P t.2 := by
  unfold fit1 at h
  split at h
  · subst h; exact ⟨⟨rfl, rfl⟩, rfl, by simp, by simp [rowOf]⟩
  · split at h
    · rename_i hk; subst hk h; exact ⟨⟨rfl, rfl⟩, rfl, by simp, by simp [rowOf]⟩
    · exact h.elim
  · subst h; exact ⟨⟨rfl, rfl⟩, rfl, by simp, by simp [rowOf]⟩
  · exact ⟨⟨rfl, rfl⟩, rfl, by simp, by simp [rowOf]⟩
  · exact ⟨⟨rfl, rfl⟩, rfl, by simp, by simp [rowOf]⟩
  · split at h
    · rename_i he
      subst he
      split at h
      · rename_i tip hr
        obtain ⟨h1, rfl, h3⟩ := h
        refine ⟨⟨rfl, rfl, ?_⟩, rfl, by simp, by simp [rowOf, h1]⟩
        rw [hr]; exact h3
      · exact h.elim
    · exact h.elim
  · obtain ⟨h1, h2⟩ := h
    exact ⟨h2, rfl, by simp, by simp [rowOf, h1]⟩
  · exact ⟨h, rfl, by simp, by simp [rowOf]⟩
  · exact ⟨h, rfl, by simp, by simp [rowOf]⟩
  · exact h.elim
theorem fits_spec : ∀ (A L : List AV), fits P st.rows A L → A.length = L.length ∧ ∀ (p : Nat) c c', A[p]? = some c → L[p]? = some c' → fit1 P st.rows c c'
  | [], [], _ => ⟨rfl, fun p c c' h => by simp at h⟩
  | c :: A, c' :: L, h => by
    obtain ⟨h1, h2⟩ := fits_spec A L h.2
    refine ⟨by simp [h1], fun p x x' hx hx' => ?_⟩
    cases p with
    | zero => simp at hx hx'; subst hx hx'; exact h.1
    | succ p => exact h2 p x x' (by simpa using hx) (by simpa using hx')
  | [], _ :: _, h => h.elim
  | _ :: _, [], h => h.elim
theorem nodupB_spec : ∀ (l : List (Nat × Nat)), nodupB l = true → l.Nodup
  | [], _ => List.nodup_nil
  | q :: l, h => by
    simp only [nodupB, Bool.and_eq_true, Bool.not_eq_true', List.any_eq_false] at h
    rw [List.nodup_cons]
    exact ⟨fun hm => h.1 q hm (by simp), nodupB_spec l h.2⟩

def retOut (site : Option (Nat × Nat)) (d n : Nat) : AV → AV
  | .ptr a off => .ptr (retPtr site d a) off
  | c => retCell d n c
theorem retOut_one {site : Option (Nat × Nat)} {p : Nat} {c : AV} (h : c.one = true) : (retOut site d p c).one = true := by
  unfold retOut
  split
  · rfl
  · exact retCell_one h
theorem retOut_noPtr {site : Option (Nat × Nat)} {p : Nat} {c : AV} (h : c.noPtr = true) : retOut site d p c = retCell d p c := by
  cases c <;> first | rfl | cases h
theorem unPtrs_eq (l : List AV) : unPtrs l = l.map AV.unPtr := by
  induction l with
  | nil => rfl
  | cons c l ih => simp [unPtrs, ih]
theorem unPtr_row (c : AV) : rowOf c.unPtr = rowOf c ∧ rowName c.unPtr = rowName c := by
  cases c <;> exact ⟨rfl, rfl⟩
theorem ptrFits_get {bi : List Nat} {nw : Option Nat} : ∀ (A L : List AV), ptrFits bi nw A L = true → ∀ (p : Nat) c c', A[p]? = some c → L[p]? = some c' → ptrFit bi nw c c' = true
  | [], [], _ => fun p c c' h => by simp at h
  | c :: A, c' :: L, h => by
    simp only [ptrFits, Bool.and_eq_true] at h
    intro p x x' hx hx'
    cases p with
    | zero => simp at hx hx'; subst hx hx'; exact h.1
    | succ p => exact ptrFits_get A L h.2 p x x' (by simpa using hx) (by simpa using hx')
  | [], _ :: _, h => by cases h
  | _ :: _, [], h => by cases h

theorem ret1 {v v' : AV} {u : Value} {site : Option (Nat × Nat)} {k : Nat} (hv : Rep P st G w v u) (hs : shape1 v v' = true)
    (hc : ∀ (p : Nat) c c' u, v.cells[p]? = some c → v'.cells[p]? = some c' → Rep1 P st G w c u → Rep1 P stX GX w (retOut site d (k + p) c') u ∧ c'.one = true) : RepA P stX GX w (retVal1 site d k v') u := by
  by_cases ha : ∃ cs, v = .agg cs
  · obtain ⟨cs, rfl⟩ := ha
    cases v' with
    | agg cs' =>
      simp only [shape1, beq_iff_eq, Bool.and_eq_true] at hs
      obtain ⟨hs, hnp⟩ := hs
      rw [List.all_eq_true] at hnp
      obtain ⟨us, rfl, h1, h2⟩ := (hv : RepA P st G w (.agg cs) u)
      refine (⟨us, rfl, by rw [retCells_length]; omega, fun i c hi => ?_⟩ : RepA P stX GX w (.agg (retCells d k cs')) (.agg us))
      rw [retCells_get] at hi
      simp only [Option.map_eq_some_iff] at hi
      obtain ⟨c', h3, rfl⟩ := hi
      have hlt : i < cs.length := by rw [hs]; exact (List.getElem?_eq_some_iff.1 h3).1
      obtain ⟨_, u, h4, h5⟩ := h2 i _ (List.getElem?_eq_getElem hlt)
      obtain ⟨h6, h7⟩ := hc i _ c' u (List.getElem?_eq_getElem hlt) h3 h5
      rw [retOut_noPtr (hnp c' (List.mem_of_getElem? h3))] at h6
      exact ⟨retCell_one h7, u, h4, h6⟩
    | _ => simp [shape1] at hs
  · have ha' : ∀ cs, v ≠ .agg cs := fun cs e => ha ⟨cs, e⟩
    have hb' : ∀ cs, v' ≠ .agg cs := by rintro cs rfl; cases v <;> simp_all [shape1]
    have ht' : ∀ cs, v ≠ .tup cs := by rintro cs rfl; cases v' <;> simp_all [shape1]
    have e1 : v.cells = [v] := by cases v <;> first | rfl | exact absurd rfl (ha' _)
    have e2 : v'.cells = [v'] := by cases v' <;> first | rfl | exact absurd rfl (hb' _)
    obtain ⟨h6, h7⟩ := hc 0 v v' u (by rw [e1]; rfl) (by rw [e2]; rfl) (hv.to1 ht' ha')
    have e3 : retVal1 site d k v' = retOut site d k v' := by
      cases v' with
      | agg cs => exact absurd rfl (hb' cs)
      | vec _ _ _ _ => cases v <;> simp [shape1] at hs
      | _ => rfl
    rw [e3, RepA_eq (by intro cs e; have := retOut_one (d := d) (site := site) (p := k) h7; rw [e] at this; cases this)]
    simpa using h6
theorem newC_shape {v v' : AV} {d k : Nat} {cs : List AV} (h : shape v v' = true) : newC v' d k cs = retCells d k cs := by
  have h1 : v'.isVec = false := by
    unfold AV.isVec
    split
    · cases v <;> simp [shape, shape1] at h
    · cases v with
      | tup vs =>
        cases vs with
        | nil => simp [shape, shapes] at h
        | cons x xs => cases x <;> simp [shape, shapes, shape1] at h
      | _ => simp [shape, shape1] at h
    · rfl
  unfold newC
  rw [h1]
theorem shape1_cells {v v' : AV} (h : shape1 v v' = true) : v.cells.length = v'.cells.length := by
  cases v <;> cases v' <;> simp_all [shape1, AV.cells]
theorem rets {site : Option (Nat × Nat)} : ∀ (vs vs' : List AV) (us : List Value) (k : Nat), shapes vs vs' = true → us.length = vs.length → (∀ (i : Nat) v, vs[i]? = some v → ∃ u, us[i]? = some u ∧ Rep P st G w v u) →
    (∀ (p : Nat) c c' u, (vs.flatMap AV.cells)[p]? = some c → (vs'.flatMap AV.cells)[p]? = some c' → Rep1 P st G w c u → Rep1 P stX GX w (retOut site d (k + p) c') u ∧ c'.one = true) →
    vs'.length = vs.length ∧ ∀ (i : Nat) c, (retVals site d k vs')[i]? = some c → ∃ u, us[i]? = some u ∧ RepA P stX GX w c u
  | [], [], us, k, _, _, _, _ => ⟨rfl, fun i c h => by simp [retVals] at h⟩
  | v :: vs, v' :: vs', us, k, hs, hl, hv, hc => by
    simp only [shapes, Bool.and_eq_true] at hs
    obtain ⟨u, us', rfl⟩ : ∃ u us', us = u :: us' := by
      cases us with
      | nil => simp at hl
      | cons u us' => exact ⟨u, us', rfl⟩
    have hlen := shape1_cells hs.1
    obtain ⟨h1, h2⟩ := rets vs vs' us' (k + v'.cells.length) hs.2 (by simpa using hl) (fun i x hx => by simpa using hv (i + 1) x (by simpa using hx)) (by
      intro p c c' u h1 h2 h3
      have := hc (v.cells.length + p) c c' u (by simp only [List.flatMap_cons]; rw [List.getElem?_append_right (by omega)]; simpa using h1) (by simp only [List.flatMap_cons]; rw [hlen, List.getElem?_append_right (by omega)]; simpa using h2) h3
      rw [hlen, ← Nat.add_assoc] at this
      exact this)
    refine ⟨by simp [h1], fun i c hi => ?_⟩
    cases i with
    | zero =>
      simp only [retVals, List.getElem?_cons_zero, Option.some.injEq] at hi
      subst hi
      obtain ⟨u0, e1, h4⟩ := hv 0 v rfl
      simp at e1; subst e1
      exact ⟨u, rfl, ret1 h4 hs.1 fun p c c' u0 h1 h2 h3 => hc p c c' u0 (by simp only [List.flatMap_cons]; rw [List.getElem?_append_left (List.getElem?_eq_some_iff.1 h1).1]; exact h1) (by simp only [List.flatMap_cons]; rw [List.getElem?_append_left (List.getElem?_eq_some_iff.1 h2).1]; exact h2) h3⟩
    | succ i =>
      simp only [retVals, List.getElem?_cons_succ] at hi
      simpa using h2 i c hi
  | [], _ :: _, _, _, hs, _, _, _ => by simp [shapes] at hs
  | _ :: _, [], _, _, hs, _, _, _ => by simp [shapes] at hs
theorem retVals_length (site : Option (Nat × Nat)) (d : Nat) : ∀ (vs : List AV) (k : Nat), (retVals site d k vs).length = vs.length
  | [], _ => rfl
  | v :: vs, k => by simp [retVals, retVals_length site d vs]
end
end Go.Proofs.Ytddilmocngedjaa
/- A function's contract from its verification condition. -/
namespace Go.Proofs.Ytddilmocngedjaa
set_option linter.unusedVariables false
set_option linter.unusedSimpArgs false
open Go.RowKit

def AV.bare : AV → AV
  | .sl xs _ => .sl xs .no
  | v => v
def AV.okay (c : AV) : Prop := ∃ (P : Program) (st : St) (G : Gh) (w : World) (r : Value), Rep1 P st G w c.bare r
def Arg.cells : Arg → List AV
  | .val (.tup _) => []
  | .val v => v.cells
  | .box cs => cs
def ArgsOkay (args : List Arg) : Prop := ∀ x ∈ args, ∀ c ∈ x.cells, c.okay

section
variable {P : Program} {n : Nat} {w0 : World} {own own' : OwnP} {st st' stX : St} {G G' GX GE : Gh} {a : Act} {w w' : World} {A L : List AV} {d : Nat}

theorem boxIxs_get : ∀ (l : List Arg) (k i : Nat), i ∈ boxIxs k l ↔ ∃ j cs, i = k + j ∧ l[j]? = some (.box cs)
  | [], k, i => by simp [boxIxs]
  | .box cs :: l, k, i => by
    simp only [boxIxs, List.mem_cons, boxIxs_get l (k + 1) i]
    constructor
    · rintro (rfl | ⟨j, cs', rfl, h⟩)
      · exact ⟨0, cs, rfl, rfl⟩
      · exact ⟨j + 1, cs', by omega, by simpa using h⟩
    · rintro ⟨j, cs', rfl, h⟩
      cases j with
      | zero => left; rfl
      | succ j => right; exact ⟨j, cs', by omega, by simpa using h⟩
  | .val v :: l, k, i => by
    simp only [boxIxs, boxIxs_get l (k + 1) i]
    constructor
    · rintro ⟨j, cs', rfl, h⟩
      exact ⟨j + 1, cs', by omega, by simpa using h⟩
    · rintro ⟨j, cs', rfl, h⟩
      cases j with
      | zero => simp at h
      | succ j => exact ⟨j, cs', by omega, by simpa using h⟩

theorem okay_of {c : AV} {u : Value} (h : Rep1 P st G w c u) : c.okay := by
  refine ⟨P, st, G, w, u, ?_⟩
  cases c with
  | sl xs ow =>
    cases ow with
    | row x y e => exact h.1
    | nil =>
      obtain ⟨rfl, rfl⟩ := (h : Rep1 P st G w (.sl xs .nil) u)
      exact RepP.slnil _ _ _ (by unfold maxLen; omega)
    | no => exact h
  | _ => exact h
theorem okay_of_repP {c : AV} {u : Value} (h : RepP w (stable P st G) c u) : c.okay := by
  refine ⟨P, st, G, w, u, ?_⟩
  cases c with
  | sl xs ow =>
    have h1 : RepP w (stable P st G) (.sl xs .no) u := h.own
    exact h1
  | ptr s off => cases h
  | vec _ _ _ _ => cases h
  | eptr s off => cases h
  | agg cs => cases h
  | tup cs => cases h
  | _ => exact h
theorem okay_int {k : IntKind} {i : Int} (h : (AV.int k i).okay) : k.min ≤ i ∧ i ≤ k.max := by
  obtain ⟨P, st, G, w, r, h⟩ := h
  exact (Rep.inv_int (Rep.of1 h)).2
theorem okay_str {l : List UInt8} (h : (AV.str l).okay) : l.length ≤ 9223372036854775807 := by
  obtain ⟨P, st, G, w, r, h⟩ := h
  exact (Rep.inv_str (Rep.of1 h)).2
theorem okay_sl {xs : List AV} {ow : Own} (h : (AV.sl xs ow).okay) : xs.length ≤ maxLen ∧ ∀ x ∈ xs, ∀ c ∈ x.cells, c.okay := by
  obtain ⟨P, st, G, w, r, h⟩ := h
  have h2 : RepP w (stable P st G) (.sl xs .no) r := h
  cases h2 with
  | slnil => exact ⟨by simp, fun x hx => by simp at hx⟩
  | sl _ _ b off cap size us hc hm hsz hS hr =>
    refine ⟨by omega, fun x hx c hc => ?_⟩
    obtain ⟨i, hi⟩ := List.getElem?_of_mem hx
    obtain ⟨j, hj⟩ := List.getElem?_of_mem hc
    exact okay_of_repP (hr i x j c hi hj)

theorem came_okay {args : List Arg} {vals : Array Value} (h : Came P args vals w GE own) : ArgsOkay args := by
  intro x hx c hc
  obtain ⟨i, hi⟩ := List.getElem?_of_mem hx
  cases x with
  | box cs =>
    have hb : (entrySt args).boxes i = some (retCells 1000 0 cs) := by simp [entrySt, hi]
    obtain ⟨us, t, _, _, h3⟩ := h.mem.box i _ hb
    obtain ⟨k, hk⟩ := List.getElem?_of_mem (show c ∈ cs from hc)
    obtain ⟨_, u, _, h5⟩ := h3 k (retCell 1000 k c) (by rw [retCells_get, hk]; simp)
    cases c with
    | sl xs ow =>
      cases ow with
      | row x y e =>
        obtain ⟨h6, h7⟩ := (h5 : Rep1 P (entrySt args) GE w (.sl xs (.row 1000 k e)) u)
        exact ⟨P, _, GE, w, u, h6⟩
      | nil => exact okay_of (c := .sl xs .nil) h5
      | no => exact okay_of (c := .sl xs .no) h5
    | _ => exact okay_of h5
  | val v =>
    have ht : (entrySt args).tmps i = v := by simp [entrySt, hi]
    have hr := h.tmps i
    rw [ht] at hr
    by_cases htp : ∃ vs, v = .tup vs
    · obtain ⟨vs, rfl⟩ := htp
      simp [Arg.cells] at hc
    · have htp' : ∀ vs, v ≠ .tup vs := fun vs e => htp ⟨vs, e⟩
      have hcs : (Arg.val v).cells = v.cells := by cases v <;> first | rfl | exact absurd rfl (htp' _)
      rw [hcs] at hc
      by_cases ha : ∃ cs, v = .agg cs
      · obtain ⟨cs, rfl⟩ := ha
        obtain ⟨us, _, _, h3⟩ := (hr : RepA P _ GE w (.agg cs) _)
        obtain ⟨k, hk⟩ := List.getElem?_of_mem (show c ∈ cs from hc)
        obtain ⟨_, u, _, h5⟩ := h3 k c hk
        exact okay_of h5
      · have ha' : ∀ cs, v ≠ .agg cs := fun cs e => ha ⟨cs, e⟩
        have e1 : v.cells = [v] := by cases v <;> first | rfl | exact absurd rfl (ha' _)
        rw [e1] at hc
        obtain rfl : c = v := by simpa using hc
        exact okay_of (hr.to1 htp' ha')

theorem shape_one {v v' : AV} (h : shape v v' = true) (h2 : ∀ cs, v ≠ .tup cs) : shape1 v v' = true ∧ ∀ cs, v' ≠ .tup cs := by
  have e : shape v v' = shape1 v v' := by cases v <;> first | rfl | exact absurd rfl (h2 _)
  rw [e] at h
  refine ⟨h, ?_⟩
  rintro cs rfl
  cases v <;> first | exact absurd rfl (h2 _) | cases h
theorem shapes_no_tup : ∀ (vs vs' : List AV), shapes vs vs' = true → ∀ x ∈ vs, ∀ cs, x ≠ .tup cs
  | [], _, _, x, hx, _ => by simp at hx
  | v :: vs, [], h, _, _, _ => by cases h
  | v :: vs, v' :: vs', h, x, hx, cs => by
    simp only [shapes, Bool.and_eq_true] at h
    rcases List.mem_cons.1 hx with rfl | hx
    · rintro rfl
      cases v' <;> cases h.1
    · exact shapes_no_tup vs vs' h.2 x hx cs
theorem cellsT_rep {v v' : AV} {u : Value} (hshape : shape v v' = true) (hu : (Rep P st G w v u ∧ ∀ cs, v ≠ .tup cs) ∨ ∃ vs us, v = .tup vs ∧ u = .tuple us ∧ us.size = vs.length ∧ ∀ (i : Nat) c, vs[i]? = some c → ∃ u, us[i]? = some u ∧ Rep P st G w c u) {p : Nat} {c : AV} (h : v.cellsT[p]? = some c) : ∃ u, Rep1 P st G w c u := by
  have one : ∀ {v : AV} {u : Value} {p : Nat} {c : AV}, Rep P st G w v u → (∀ cs, v ≠ .tup cs) → v.cells[p]? = some c → ∃ u, Rep1 P st G w c u := by
    intro v u p c hv hnt h
    by_cases ha : ∃ cs, v = .agg cs
    · obtain ⟨cs, rfl⟩ := ha
      obtain ⟨us, _, _, h3⟩ := (hv : RepA P st G w (.agg cs) u)
      obtain ⟨_, u, _, h4⟩ := h3 p c h
      exact ⟨u, h4⟩
    · have ha' : ∀ cs, v ≠ .agg cs := fun cs e => ha ⟨cs, e⟩
      have e1 : v.cells = [v] := by cases v <;> first | rfl | exact absurd rfl (ha' _)
      rw [e1] at h
      cases p with
      | zero => simp at h; subst h; exact ⟨u, hv.to1 hnt ha'⟩
      | succ p => simp at h
  rcases hu with ⟨h1, h2⟩ | ⟨vs, us, rfl, rfl, h3, h4⟩
  · have e1 : v.cellsT = v.cells := by cases v <;> first | rfl | exact absurd rfl (h2 _)
    rw [e1] at h
    exact one h1 h2 h
  · have hm : c ∈ vs.flatMap AV.cells := List.mem_of_getElem? h
    obtain ⟨x, hx, hcx⟩ := List.mem_flatMap.1 hm
    obtain ⟨i, hi⟩ := List.getElem?_of_mem hx
    obtain ⟨u, _, h5⟩ := h4 i x hi
    obtain ⟨k, hk⟩ := List.getElem?_of_mem hcx
    by_cases hxt : ∃ cs, x = .tup cs
    · obtain ⟨cs, e⟩ := hxt
      cases v' with
      | tup vs' => exact absurd e (shapes_no_tup vs vs' hshape x hx cs)
      | _ => simp [shape, shape1] at hshape
    · exact one h5 (fun cs e => hxt ⟨cs, e⟩) hk

theorem boxThen_spec {bi : List Nat} {rb : Option (List AV)} {B : Nat → Option (List AV)} {A : List AV} (h : boxThen bi rb B = some A) :
    (bi = [] ∧ rb = none ∧ A = []) ∨ ∃ i cs, bi = [i] ∧ i ≠ newName ∧ rb = some cs ∧ B i = some A ∧ A.length = cs.length := by
  unfold boxThen at h
  split at h
  · cases h; exact .inl ⟨rfl, rfl, rfl⟩
  · rename_i i cs
    split at h
    · cases h
    · rename_i hne
      split at h
      · rename_i A' hB
        split at h
        · rename_i hl
          cases h
          exact .inr ⟨i, cs, rfl, fun e => by subst e; simp at hne, rfl, hB, Nat.eq_of_beq_eq_true hl⟩
        · cases h
      · cases h
  · cases h
theorem newThen_spec {bi : List Nat} {nw : Option Nat} {rn : Option (List AV)} {B : Nat → Option (List AV)} {N : List AV} (h : newThen bi nw rn B = some N) :
    (rn = none ∧ N = []) ∨ ∃ n cn, nw = some n ∧ rn = some cn ∧ n ∉ bi ∧ B n = some N ∧ N.length = cn.length := by
  unfold newThen at h
  split at h
  · cases h; exact .inl ⟨rfl, rfl⟩
  · rename_i cn
    split at h
    · rename_i n
      split at h
      · cases h
      · rename_i hne
        split at h
        · rename_i N' hB
          split at h
          · rename_i hl
            cases h
            exact .inr ⟨n, cn, rfl, rfl, by simpa using hne, hB, Nat.eq_of_beq_eq_true hl⟩
          · cases h
        · cases h
    · cases h
theorem ptrFit_spec {bi : List Nat} {nw : Option Nat} {c : AV} {a off : Nat} (h : ptrFit bi nw c (.ptr a off) = true) : ∃ s, c = .ptr s off ∧ ((a = newName ∧ nw = some s) ∨ (a ≠ newName ∧ s = a ∧ bi = [a])) := by
  cases c with
  | ptr s off' =>
    simp only [ptrFit, Bool.and_eq_true] at h
    obtain ⟨h1, h2⟩ := h
    obtain rfl := Nat.eq_of_beq_eq_true h1
    refine ⟨s, rfl, ?_⟩
    split at h2
    · rename_i ha
      have ha' := Nat.eq_of_beq_eq_true ha
      split at h2
      · exact .inl ⟨ha', by rw [Nat.eq_of_beq_eq_true h2]⟩
      · cases h2
    · rename_i ha
      simp only [Bool.and_eq_true] at h2
      obtain ⟨h3, h4⟩ := h2
      have h3' := Nat.eq_of_beq_eq_true h3
      split at h4
      · exact .inr ⟨fun e => by subst e; simp at ha, h3', by rw [Nat.eq_of_beq_eq_true h4]⟩
      · cases h4
  | _ => cases h
theorem ptrFit_not {bi : List Nat} {nw : Option Nat} {c c' : AV} (h : ptrFit bi nw c c' = true) (h' : ∀ a off, c' ≠ .ptr a off) : ∀ a off, c ≠ .ptr a off := by
  rintro a off rfl
  cases c' with
  | ptr a off => exact h' _ _ rfl
  | _ => cases h
theorem unPtr_of {c : AV} (h : ∀ a off, c ≠ .ptr a off) : c.unPtr = c := by
  cases c <;> first | rfl | exact absurd rfl (h _ _)
theorem tells_map {L L' : List AV} (h : L.map rowOf = L'.map rowOf) (y : Nat) : tells L y = tells L' y := by
  have e : ∀ l : List AV, tells l y = ((l.map rowOf)[y]?).join := by
    intro l
    unfold tells
    rw [List.getElem?_map]
    cases l[y]? <;> rfl
  rw [e, e, h]
theorem unPtrs_rowOf (l : List AV) : (unPtrs l).map rowOf = l.map rowOf := by
  rw [unPtrs_eq, List.map_map]
  exact List.map_congr_left fun c _ => (unPtr_row c).1

theorem back_of {args : List Arg} {vals : Array Value} {r : Res} {site : Option (Nat × Nat)} {v : AV} {u : Value} (hc : Came P args vals w0 GE own) {own2 : OwnP} (ho2 : own2 = ⟨own.of, fun s => (match args[s]? with | some (.box _) => some (GE.bx s) | _ => none), GE.bad⟩)
    (hR : Rel P n w0 own2 st G a w) (hsite : site.isSome = r.box.isSome) (hs : ∀ i s, site = some (i, s) → s ≠ d ∧ ∃ cs, args[i]? = some (.box cs)) (hshape : shape v r.val = true)
    (hu : (Rep P st G w v u ∧ ∀ cs, v ≠ .tup cs) ∨ ∃ vs us, v = .tup vs ∧ u = .tuple us ∧ us.size = vs.length ∧ ∀ (i : Nat) c, vs[i]? = some c → ∃ u, us[i]? = some u ∧ Rep P st G w c u)
    {nw : Option Nat} (hnw : r.new = none → nw = none) (hp : ptrFits (boxIxs 0 args) nw v.cellsT r.val.cellsT = true) {A N : List AV} (hA : boxThen (boxIxs 0 args) r.box st.boxes = some A) (hN : newThen (boxIxs 0 args) nw r.new st.boxes = some N)
    (hf : fits P st.rows (A ++ (N ++ unPtrs v.cellsT)) (r.box.getD [] ++ (r.new.getD [] ++ unPtrs r.val.cellsT))) (hn : (outNames (A ++ (N ++ unPtrs v.cellsT)) (r.box.getD [] ++ (r.new.getD [] ++ unPtrs r.val.cellsT))).Nodup) :
    ∃ GX, Back P w0 own GE d site r GX u w := by
  obtain ⟨L, hL⟩ : ∃ L, L = r.box.getD [] ++ (r.new.getD [] ++ unPtrs r.val.cellsT) := ⟨_, rfl⟩
  obtain ⟨Z, hZ⟩ : ∃ Z, Z = A ++ (N ++ unPtrs v.cellsT) := ⟨_, rfl⟩
  rw [← hL, ← hZ] at hf hn
  have hout : ∀ y, tells r.outs y = tells L y := by
    intro y
    refine tells_map ?_ y
    rw [hL]
    simp only [Res.outs, List.map_append, unPtrs_rowOf, List.append_assoc]
  obtain ⟨hlen, hfit⟩ := fits_spec _ _ hf
  have hA' := boxThen_spec hA
  have hN' := newThen_spec hN
  have hpg := ptrFits_get _ _ hp
  have hAl : A.length = (r.box.getD []).length := by
    rcases hA' with ⟨_, h1, h2⟩ | ⟨i, cs, _, _, h2, h3, h4⟩
    · simp [h1, h2]
    · simp [h2, h4]
  have hNl : N.length = (r.new.getD []).length := by
    rcases hN' with ⟨h1, h2⟩ | ⟨i, cs, _, h2, _, h3, h4⟩
    · simp [h1, h2]
    · simp [h2, h4]
  have hsi : ∀ i s, site = some (i, s) → ∃ cs, boxIxs 0 args = [i] ∧ i ≠ newName ∧ r.box = some cs ∧ st.boxes i = some A ∧ A.length = cs.length := by
    intro i s h
    obtain ⟨_, cs', hi'⟩ := hs i s h
    have hi2 : i ∈ boxIxs 0 args := (boxIxs_get args 0 i).2 ⟨i, cs', by omega, hi'⟩
    rcases hA' with ⟨h1, _, _⟩ | ⟨i', cs, h1, h2, h3, h4, h5⟩
    · rw [h1] at hi2; simp at hi2
    · rw [h1] at hi2
      obtain rfl : i = i' := by simpa using hi2
      exact ⟨cs, h1, h2, h3, h4, h5⟩
  obtain ⟨bx0, hbx0⟩ : ∃ b, b = (match site with | some (i, _) => GE.bx i | none => 0) := ⟨_, rfl⟩
  obtain ⟨bx1, hbx1⟩ : ∃ b, b = (match nw with | some n => G.bx n | none => 0) := ⟨_, rfl⟩
  obtain ⟨GX, hGX⟩ : ∃ g : Gh, g = ⟨fun x => if x = d then bx1 else bx0, fun _ y => toldCv G Z y, fun _ y => toldEt L y, GE.bad⟩ := ⟨_, rfl⟩
  obtain ⟨stX, hX⟩ : ∃ s, s = exitSt d site r := ⟨_, rfl⟩
  have hXr : ∀ x y, stX.rows x y = if x = d then (match tells L y with | some t => .live t.1 | none => .free) else .free := by
    intro x y; rw [hX]
    simp only [exitSt]
    rw [retRows_at]
    simp only [Nat.zero_le, and_true, Nat.sub_zero, hout]
    try rfl
  have hXb : ∀ x c, stX.boxes x = some c → (∃ i cs, site = some (i, x) ∧ r.box = some cs ∧ c = retCells d 0 cs) ∨ (x = d ∧ ∃ cn, r.new = some cn ∧ c = retCells d (r.box.getD []).length cn) := by
    intro x c h
    rw [hX] at h
    simp only [exitSt] at h
    rcases Option.eq_none_or_eq_some site with hst | ⟨⟨i, s⟩, hst⟩
    · have hrb : r.box = none := by
        rw [hst] at hsite
        cases hb : r.box with
        | none => rfl
        | some _ => rw [hb] at hsite; cases hsite
      rw [hst, hrb] at h
      simp only at h
      split at h
      · rename_i hx
        simp only [Option.map_eq_some_iff] at h
        obtain ⟨cn, h1, rfl⟩ := h
        exact .inr ⟨hx, cn, h1, by rw [newC_shape hshape]; simp [hrb]⟩
      · cases h
    · obtain ⟨cs, _, _, hb, _⟩ := hsi i s hst
      rw [hst, hb] at h
      simp only at h
      split at h
      · rename_i hx
        subst hx
        cases h
        exact .inl ⟨i, cs, hst, hb, rfl⟩
      · split at h
        · rename_i hx
          simp only [Option.map_eq_some_iff] at h
          obtain ⟨cn, h1, rfl⟩ := h
          exact .inr ⟨hx, cn, h1, by rw [newC_shape hshape]; simp [hb]⟩
        · cases h
  have hXd : r.new.isSome = true → ∃ c, stX.boxes d = some c := by
    intro h
    obtain ⟨cn, hcn⟩ := Option.isSome_iff_exists.1 h
    rw [hX]
    simp only [exitSt]
    rcases Option.eq_none_or_eq_some site with hst | ⟨⟨i, s⟩, hst⟩
    · rw [hst, hcn]; simp
    · obtain ⟨cs, _, _, hb, _⟩ := hsi i s hst
      rw [hst, hb, hcn]
      simp only
      rw [if_neg (fun e => (hs i s hst).1 e.symm)]
      simp
  have hXs : ∀ i s, site = some (i, s) → ∃ c, stX.boxes s = some c := by
    intro i s h
    obtain ⟨cs, _, _, h2, _⟩ := hsi i s h
    rw [hX]
    simp only [exitSt, h, h2, if_pos]
    exact ⟨_, rfl⟩
  have hpin : ∀ i s, site = some (i, s) → (∃ cs, st.boxes i = some cs) ∧ G.bx i = GE.bx i := by
    intro i s h
    obtain ⟨_, cs, h1⟩ := hs i s h
    exact hR.pin i (GE.bx i) (by rw [ho2]; simp [h1])
  have hbxE : ∀ i s, site = some (i, s) → GX.bx s = GE.bx i := by
    intro i s h; rw [hGX]; simp only; rw [if_neg (hs i s h).1, hbx0, h]
  have hbxN : ∀ n, nw = some n → GX.bx d = G.bx n := by
    intro n h; rw [hGX]; simp only; rw [if_pos trivial, hbx1, h]
  have hand : Hand P st G w Z L d stX GX := by
    refine ⟨hR.mem, hlen, fun p c c' h1 h2 => (fit1_spec (hfit p c c' h1 h2)).1, hn, fun p t ht => ?_, hXr, fun x c h => ?_, fun y => by rw [hGX], fun y => by rw [hGX], fun b o u' h1 _ => ?_, fun p c h => ?_⟩
    · unfold tells at ht
      simp only [Option.bind_eq_some_iff] at ht
      obtain ⟨c', h1, h2⟩ := ht
      have hlt : p < Z.length := by rw [hlen]; exact (List.getElem?_eq_some_iff.1 h1).1
      exact (fit1_spec (hfit p _ c' (List.getElem?_eq_getElem hlt) h1)).2.2.2 t h2
    · rcases hXb x c h with ⟨i, cs, h1, h2, rfl⟩ | ⟨rfl, cn, h1, rfl⟩
      · obtain ⟨_, h3⟩ := hpin i x h1
        obtain ⟨cs', _, _, h4, h5, h6⟩ := hsi i x h1
        rw [h2] at h4; cases h4
        exact ⟨i, A, h5, by rw [h3]; exact hbxE i x h1, fun hne hA => hne (List.length_eq_zero_iff.1 (by rw [retCells_length, ← h6, hA]; rfl))⟩
      · rcases hN' with ⟨h2, _⟩ | ⟨n, cn', h2, h8, _, h3, h6⟩
        · rw [h2] at h1; cases h1
        · rw [h1] at h8; cases h8
          exact ⟨n, N, h3, hbxN n h2, fun hne hA => hne (List.length_eq_zero_iff.1 (by rw [retCells_length, ← h6, hA]; rfl))⟩
    · have := h1.1
      rw [hR.same, ho2] at this
      rw [hGX]; exact this
    · rw [hZ] at h
      rcases Nat.lt_or_ge p A.length with hp | hp
      · rcases hA' with ⟨_, _, h2⟩ | ⟨i, cs, _, _, _, h3, _⟩
        · rw [h2] at hp; simp at hp
        · obtain ⟨us, t, _, _, h5⟩ := hR.mem.box i A h3
          rw [List.getElem?_append_left hp] at h
          obtain ⟨_, u', _, h6⟩ := h5 p c h
          exact ⟨u', h6⟩
      · rw [List.getElem?_append_right hp] at h
        rcases Nat.lt_or_ge (p - A.length) N.length with hp' | hp'
        · rcases hN' with ⟨_, h2⟩ | ⟨i, cs, _, _, _, h3, _⟩
          · rw [h2] at hp'; simp at hp'
          · obtain ⟨us, t, _, _, h5⟩ := hR.mem.box i N h3
            rw [List.getElem?_append_left hp'] at h
            obtain ⟨_, u', _, h6⟩ := h5 _ c h
            exact ⟨u', h6⟩
        · rw [List.getElem?_append_right hp', unPtrs_eq, List.getElem?_map, Option.map_eq_some_iff] at h
          obtain ⟨c0, h, rfl⟩ := h
          by_cases hp0 : ∃ a off, c0 = .ptr a off
          · obtain ⟨a, off, rfl⟩ := hp0
            exact ⟨.pointer none, (RepP.nilptr : RepP w _ .nilptr _)⟩
          · rw [unPtr_of (fun a off e => hp0 ⟨a, off, e⟩)]
            exact cellsT_rep hshape hu h
  have hcellv : ∀ (p : Nat) c c' u', v.cellsT[p]? = some c → r.val.cellsT[p]? = some c' → Rep1 P st G w c u' → Rep1 P stX GX w (retOut site d ((r.box.getD []).length + (r.new.getD []).length + p) c') u' ∧ c'.one = true := by
    intro p c c' u' h1 h2 h3
    have hpf := hpg p c c' h1 h2
    by_cases hp0 : ∃ a off, c' = .ptr a off
    · obtain ⟨a', off, rfl⟩ := hp0
      refine ⟨?_, rfl⟩
      obtain ⟨s0, rfl, hh⟩ := ptrFit_spec hpf
      obtain ⟨_, h4⟩ := h3
      simp only [retOut]
      rcases hh with ⟨rfl, hh⟩ | ⟨hne, rfl, hbi⟩
      · have hrs : r.new.isSome = true := by
          cases hrn : r.new with
          | none => rw [hnw hrn] at hh; cases hh
          | some _ => rfl
        have e : retPtr site d newName = d := by
          unfold retPtr
          split
          · rename_i i s
            obtain ⟨_, _, h6, _⟩ := hsi i s rfl
            rw [if_neg (fun e => h6 e.symm)]
          · rfl
        rw [e]
        exact ⟨hXd hrs, by rw [h4, hbxN s0 hh]⟩
      · have hrb : r.box.isSome = true := by
          rcases hA' with ⟨h5, _⟩ | ⟨_, _, _, _, h6, _⟩
          · rw [hbi] at h5; cases h5
          · rw [h6]; rfl
        rw [hrb] at hsite
        obtain ⟨⟨i, s⟩, hi⟩ := Option.isSome_iff_exists.1 hsite
        obtain ⟨_, h6, _⟩ := hsi i s hi
        rw [hbi] at h6
        obtain rfl : s0 = i := by simpa using h6
        have e : retPtr site d s0 = s := by
          unfold retPtr
          rw [hi]
          simp
        rw [e]
        exact ⟨hXs s0 s hi, by rw [h4, hbxE s0 s hi, (hpin s0 s hi).2]⟩
    · have hq' : ∀ a off, c' ≠ .ptr a off := fun a off e => hp0 ⟨a, off, e⟩
      have hq := ptrFit_not hpf hq'
      have e1 : Z[(r.box.getD []).length + (r.new.getD []).length + p]? = some c := by
        rw [hZ, List.getElem?_append_right (by omega), List.getElem?_append_right (by omega), unPtrs_eq, List.getElem?_map, show (r.box.getD []).length + (r.new.getD []).length + p - A.length - N.length = p from by omega, h1]
        simp [unPtr_of hq]
      have e2 : L[(r.box.getD []).length + (r.new.getD []).length + p]? = some c' := by
        rw [hL, List.getElem?_append_right (by omega), List.getElem?_append_right (by omega), unPtrs_eq, List.getElem?_map, show (r.box.getD []).length + (r.new.getD []).length + p - (r.box.getD []).length - (r.new.getD []).length = p from by omega, h2]
        simp [unPtr_of hq']
      have h4 := fit1_spec (hfit _ _ _ e1 e2)
      have e3 : retOut site d ((r.box.getD []).length + (r.new.getD []).length + p) c' = retCell d ((r.box.getD []).length + (r.new.getD []).length + p) c' := by
        cases c' <;> first | rfl | exact absurd rfl (hq' _ _)
      rw [e3]
      exact ⟨hand.rep1 e1 e2 h3, h4.2.1⟩
  refine ⟨GX, ?_⟩
  have hmem : Mem P stX GX w := by
    refine hand.memX (fun x c h => ?_) (fun x c x' c' h h' he => ?_)
    · rcases hXb x c h with ⟨i, cs, h1, h2, rfl⟩ | ⟨rfl, cn, h1, rfl⟩
      · obtain ⟨cs', _, _, h4, h5, h6⟩ := hsi i x h1
        rw [h2] at h4; cases h4
        obtain ⟨us, t, h7, h8, h9⟩ := hR.mem.box i A h5
        refine ⟨us, t, ?_, by rw [retCells_length, ← h6]; exact h8, fun p c hp => ?_⟩
        · rw [hbxE i x h1, ← (hpin i x h1).2]; exact h7
        · rw [retCells_get] at hp
          simp only [Option.map_eq_some_iff] at hp
          obtain ⟨c', h10, rfl⟩ := hp
          have hlt : p < A.length := by rw [h6]; exact (List.getElem?_eq_some_iff.1 h10).1
          have e1 : Z[p]? = some A[p] := by rw [hZ, List.getElem?_append_left hlt]; exact List.getElem?_eq_getElem hlt
          have e2 : L[p]? = some c' := by
            rw [hL, h2]
            simp only [Option.getD_some]
            rw [List.getElem?_append_left (by omega)]; exact h10
          obtain ⟨_, u', h11, h12⟩ := h9 p A[p] (List.getElem?_eq_getElem hlt)
          have := hand.rep1 e1 e2 h12
          refine ⟨retCell_one (fit1_spec (hfit _ _ _ e1 e2)).2.1, u', h11, ?_⟩
          rw [Nat.zero_add]; exact this
      · rcases hN' with ⟨h2, _⟩ | ⟨n, cn', h2, h3, _, h5, h6⟩
        · rw [h2] at h1; cases h1
        · rw [h1] at h3; cases h3
          obtain ⟨us, t, h7, h8, h9⟩ := hR.mem.box n N h5
          refine ⟨us, t, ?_, by rw [retCells_length, ← h6]; exact h8, fun p c hp => ?_⟩
          · rw [hbxN n h2]; exact h7
          · rw [retCells_get] at hp
            simp only [Option.map_eq_some_iff] at hp
            obtain ⟨c', h10, rfl⟩ := hp
            have hlt : p < N.length := by rw [h6]; exact (List.getElem?_eq_some_iff.1 h10).1
            have e1 : Z[(r.box.getD []).length + p]? = some N[p] := by
              rw [hZ, List.getElem?_append_right (by omega), show (r.box.getD []).length + p - A.length = p from by omega, List.getElem?_append_left hlt]; exact List.getElem?_eq_getElem hlt
            have e2 : L[(r.box.getD []).length + p]? = some c' := by
              rw [hL, List.getElem?_append_right (by omega), Nat.add_sub_cancel_left, h1]
              simp only [Option.getD_some]
              rw [List.getElem?_append_left (by omega)]; exact h10
            obtain ⟨_, u', h11, h12⟩ := h9 p N[p] (List.getElem?_eq_getElem hlt)
            have := hand.rep1 e1 e2 h12
            exact ⟨retCell_one (fit1_spec (hfit _ _ _ e1 e2)).2.1, u', h11, this⟩
    · have key : ∀ i s cn, site = some (i, s) → r.new = some cn → GX.bx s ≠ GX.bx d := by
        intro i s cn h1 h2 h3
        obtain ⟨_, h4, _, _, h5, _⟩ := hsi i s h1
        rcases hN' with ⟨h6, _⟩ | ⟨n, _, h6, _, h7, h8, _⟩
        · rw [h6] at h2; cases h2
        · rw [hbxE i s h1, hbxN n h6, ← (hpin i s h1).2] at h3
          have := hR.mem.inj i A n N h5 h8 h3
          subst this
          exact h7 (by rw [h4]; simp)
      rcases hXb x c h with ⟨i, cs, h1, _⟩ | ⟨rfl, cn, h1, _⟩
      · rcases hXb x' c' h' with ⟨i', cs', h1', _⟩ | ⟨rfl, cn, h1', _⟩
        · rw [h1] at h1'; cases h1'; rfl
        · exact absurd he (key i x cn h1 h1')
      · rcases hXb x' c' h' with ⟨i', cs', h1', _⟩ | ⟨rfl, cn', h1', _⟩
        · exact absurd he.symm (key i' x' cn h1' h1)
        · rfl
  have hpre : Pres w0 own w := by
    have := hR.pres
    rw [ho2] at this
    exact ⟨this.os, this.tape, this.output, this.size, this.block, this.cell⟩
  have hof : ∀ g, own2 g = own g := by intro g; rw [ho2]
  rw [hX] at hmem hand hcellv
  refine ⟨hmem, ?_, hbxE, hpre, fun s c h => ?_, fun x y tip g h h' => ?_, by rw [hGX], fun x y tip g o h h' => ?_⟩
  · rcases hu with ⟨h1, h2⟩ | ⟨vs, us, rfl, rfl, h3, h4⟩
    · have hs1 := shape_one hshape h2
      have e1 : v.cellsT = v.cells := by cases v <;> first | rfl | exact absurd rfl (h2 _)
      have e2 : r.val.cellsT = r.val.cells := by cases hv : r.val <;> first | rfl | exact absurd hv (hs1.2 _)
      have e3 : ∀ k, retVal site d k r.val = retVal1 site d k r.val := by intro k; cases hv : r.val <;> first | rfl | exact absurd hv (hs1.2 _)
      rw [e3]
      exact Rep.ofA (ret1 h1 hs1.1 (by rw [← e1, ← e2]; exact hcellv))
    · cases hv : r.val with
      | tup vs' =>
        rw [hv] at hshape hcellv
        obtain ⟨h5, h6⟩ := rets (site := site) vs vs' us.toList ((r.box.getD []).length + (r.new.getD []).length) hshape (by simpa using h3) (fun i x hx => by simpa using h4 i x hx) hcellv
        refine (⟨us, rfl, ?_, fun i c hi => ?_⟩ : Rep P _ GX w (.tup (retVals site d ((r.box.getD []).length + (r.new.getD []).length) vs')) (.tuple us))
        · rw [retVals_length]; omega
        · simpa using h6 i c hi
      | _ => rw [hv] at hshape; simp [shape, shape1] at hshape
  · rcases hXb s c (by rw [hX]; exact h) with ⟨i, cs, h1, _⟩ | ⟨rfl, cn, h1, _⟩
    · right
      rw [hbxE i s h1]
      obtain ⟨_, cs', h2⟩ := hs i s h1
      exact hc.own.box i (retCells 1000 0 cs') (by simp [entrySt, h2])
    · rcases hN' with ⟨h2, _⟩ | ⟨n, cn', h2, h3, _, h5, h6⟩
      · rw [h2] at h1; cases h1
      · have := hR.obox n N h5
        rw [hof] at this
        rw [hbxN n h2]
        exact this
  · obtain ⟨rfl, c, c', t, h1, h2, h3, h4, h5, h6⟩ := hand.told h
    rcases h6 with ⟨xs, q, rfl, h7, h8, h9, h10⟩ | ⟨h7, _⟩
    · rw [h8] at h'
      have := hR.orow _ _ _ _ h7 h'
      rw [hof, h10] at this
      rw [h5]; exact this
    · rw [h7] at h'; cases h'
  · obtain ⟨rfl, c, c', t, h1, h2, h3, h4, h5, h6⟩ := hand.told h
    rcases h6 with ⟨xs, q, rfl, h7, h8, h9, h10⟩ | ⟨h7, _⟩
    · rw [h8] at h'
      have := hR.rbad _ _ _ _ o h7 h'
      rw [hR.same, ho2] at this
      rw [hGX]; exact this
    · rw [h7] at h'; cases h'

theorem meets_of_awp {f : Nat} {fn : Func} {c : Code} {F : Con} {Γ : Nat → Option Con} (hS : Sound P Γ) (hmx : P.follows .mixedOrders = true) (hfn : P.funcs[f]? = some fn) (hb : fn.body = some c) (hent : ∀ args w, (callFunc f args).run P w = .ok (.enter f args) w)
    {L : List Arg → Nat → Option LoopPlan} (h : ∀ args q r, F args = some (q, r) → q → ArgsOkay args → args.length ≤ fn.ntmps ∧ awp (boxIxs 0 args) (L args) Γ P fn.ntmps 0 c (entrySt args) (exitQ P fn.results.toList (boxIxs 0 args) r)) : Meets P f F := by
  refine ⟨hent, ?_⟩
  intro args vals w GE own d site q r hF hq hc hsite hs
  obtain ⟨hlen, hawp⟩ := h args q r hF hq (came_okay hc)
  obtain ⟨own2, ho2⟩ : ∃ o : OwnP, o = ⟨own.of, fun s => (match args[s]? with | some (.box _) => some (GE.bx s) | _ => none), GE.bad⟩ := ⟨_, rfl⟩
  refine calls_of_wp hfn hb ?_
  have hR : Rel P fn.ntmps w own2 (entrySt args) GE { tmps := vals ++ Array.replicate (fn.ntmps - vals.size) undef, defers := [] } w := by
    refine ⟨?_, rfl, fun t => ?_, hc.mem, Pres.refl _ _, fun s cs h => .inr ?_, fun x y tip g h h' => .inr ⟨_, ?_, Nat.le_refl _⟩, hc.bad, hc.rbad, fun s b h => ?_, by rw [ho2]⟩
    · simp [hc.size]; omega
    · have := hc.tmps t
      have e : (vals ++ Array.replicate (fn.ntmps - vals.size) undef).getD t undef = vals.getD t undef := by
        simp only [Array.getD_eq_getD_getElem?, Array.getElem?_append]
        split
        · rfl
        · rename_i hge
          rw [Array.getElem?_eq_none (xs := vals) (by omega), Array.getElem?_replicate]
          split <;> rfl
      simp only [e]; exact this
    · rw [ho2]; exact hc.own.box s cs h
    · rw [ho2]; exact hc.own.row x y tip g h h'
    · rw [ho2] at h
      simp only at h
      split at h
      · rename_i cs hi
        cases h
        exact ⟨⟨_, by simp [entrySt, hi]; rfl⟩, rfl⟩
      · cases h
  refine awp_sound (own := own2) (pins := boxIxs 0 args) (L := L args) ?_ hS hmx c 0 (entrySt args) GE _ w _ _ hawp hR ?_
  · intro s b h
    rw [ho2] at h
    simp only at h
    split at h
    · rename_i cs hi
      exact (boxIxs_get args 0 s).2 ⟨s, cs, by omega, hi⟩
    · cases h
  · intro e s G a w' hq hR'
    have fin : exitOK P fn.results.toList (boxIxs 0 args) r s → a.defers = [] ∧ ∃ v, (results fn a.tmps).run P w' = .ok v w' ∧ ∃ GX v', (Ending.returned v = .returned v') ∧ Back P w own GE d site r GX v' w' := by
      intro hx
      refine ⟨hR'.defers, ?_⟩
      unfold exitOK at hx
      split at hx
      · rename_i v hv
        obtain ⟨h1, hpf, h2⟩ := hx
        obtain ⟨u, h3, h4⟩ := run_results hR' hv
        refine ⟨u, h3, ?_⟩
        split at h2
        · rename_i A N hA hN
          obtain ⟨GX, hB⟩ := back_of hc ho2 hR' hsite hs h1 h4 (nw := nwOf r v) (fun h => by simp [nwOf, h]) hpf hA hN h2.1 (nodupB_spec _ h2.2)
          exact ⟨GX, u, rfl, hB⟩
        · exact h2.elim
      · exact hx.elim
    cases e with
    | normal =>
      obtain ⟨h1, v, h2, GX, v', h3, h4⟩ := fin hq
      exact ⟨h1, v, h2, GX, v', h3, h4⟩
    | exit i => exact hq.elim
    | ret =>
      obtain ⟨h1, v, h2, GX, v', h3, h4⟩ := fin hq
      exact ⟨h1, v, h2, GX, v', h3, h4⟩
end
end Go.Proofs.Ytddilmocngedjaa
/- From a law's contract to its walk; and a flat struct of whole numbers among arguments. -/
namespace Go.Proofs.Ytddilmocngedjaa
set_option linter.unusedVariables false
set_option linter.unusedSimpArgs false
open Go.RowKit

section
variable {P : Program}

def noGh : Gh := ⟨fun _ => 0, fun _ _ => .slice none 0 0, fun _ _ => 0, fun _ _ => False⟩
def noOwn : OwnP := ⟨fun _ => none, fun _ => none, fun _ _ => False⟩
def vals (l : List AV) : List Arg := l.map .val

theorem vals_get (l : List AV) (i : Nat) : (vals l)[i]? = (l[i]?).map .val := by simp [vals]
theorem vals_boxes (l : List AV) (s : Nat) : (entrySt (vals l)).boxes s = none := by
  simp only [entrySt, vals_get]
  cases l[s]? <;> rfl
theorem vals_boxOf (l : List AV) : boxOf (vals l) = [] := by
  induction l with
  | nil => rfl
  | cons v l ih => simpa [vals, boxOf] using ih
theorem vals_rows (l : List AV) (x y : Nat) : (entrySt (vals l)).rows x y = .free := by
  simp [entrySt, vals_boxOf, retRows, updRows]

theorem vals_came {l : List AV} {us : Array Value} {w : World} (hs : us.size = l.length) (h : ∀ (i : Nat) v, l[i]? = some v → ∃ u, us[i]? = some u ∧ Rep P (entrySt (vals l)) noGh w v u) : Came P (vals l) us w noGh noOwn := by
  refine ⟨by simp [vals, hs], ⟨fun s cs h => (by rw [vals_boxes] at h; cases h), fun s cs s' cs' h => (by rw [vals_boxes] at h; cases h), fun x y tip h => (by rw [vals_rows] at h; cases h), fun x y tip x' y' tip' g h => (by rw [vals_rows] at h; cases h), fun s cs x y tip h => (by rw [vals_boxes] at h; cases h)⟩, fun i => ?_, ⟨fun s cs h => (by rw [vals_boxes] at h; cases h), fun x y tip g h => (by rw [vals_rows] at h; cases h), fun b t h => (by cases h)⟩, fun b o h => h.elim, fun x y tip g o h => (by rw [vals_rows] at h; cases h)⟩
  have e : (entrySt (vals l)).tmps i = match l[i]? with | some v => v | none => .skip := by
    simp only [entrySt, vals_get]
    cases l[i]? <;> rfl
  rw [e]
  cases hv : l[i]? with
  | none =>
    have : l.length ≤ i := by
      rcases Nat.lt_or_ge i l.length with h | h
      · rw [List.getElem?_eq_getElem h] at hv; cases hv
      · exact h
    have : us.getD i undef = undef := by simp [Array.getD_eq_getD_getElem?, hs, this]
    rw [this]
    exact rep_skip
  | some v =>
    obtain ⟨u, h1, h2⟩ := h i v hv
    have : us.getD i undef = u := by simp [Array.getD_eq_getD_getElem?, h1]
    rw [this]
    exact h2

def lookΓ : List (Nat × Con) → Nat → Option Con
  | [], _ => none
  | (k, F) :: r, f => bif Nat.beq f k then some F else lookΓ r f
theorem sound_of : ∀ (l : List (Nat × Con)), (∀ p ∈ l, Meets P (p.1 % 4096) p.2) → Sound P (lookΓ l)
  | [], _ => fun f F h => by cases h
  | (k, F) :: l, h => by
    intro f F' hf
    simp only [lookΓ] at hf
    cases hq : Nat.beq f k with
    | true =>
      rw [hq] at hf
      simp only [cond_true, Option.some.injEq] at hf
      subst hf
      have e := Nat.eq_of_beq_eq_true hq
      subst e
      exact h (f, F) (by simp)
    | false =>
      rw [hq] at hf
      exact sound_of l (fun p hp => h p (by simp [hp])) f F' hf

theorem law_of_meets {f : Nat} {F : Con} (hM : Meets P f F) {l : List AV} {us : Array Value} {w : World} {q : Prop} (hF : F (vals l) = some (q, ⟨.bool true, none, none⟩)) (hq : q) (hs : us.size = l.length)
    (h : ∀ (i : Nat) v, l[i]? = some v → ∃ u, us[i]? = some u ∧ Rep P (entrySt (vals l)) noGh w v u) : Calls P f us w fun e w' => e = .returned (.bool true) ∧ Below w.heap.size w w' := by
  refine (hM.calls (vals l) us w noGh noOwn 0 none q ⟨.bool true, none, none⟩ hF hq (vals_came hs h) rfl (fun i s h => by cases h)).mono ?_
  rintro e w' ⟨GX, v, rfl, hB⟩
  refine ⟨?_, ⟨hB.pres.os, hB.pres.tape, hB.pres.output, hB.pres.size, fun b hb => hB.pres.block b hb rfl⟩⟩
  have hv : Rep P (exitSt 0 none ⟨.bool true, none, none⟩) GX w' (.bool true) v := hB.val
  rw [hv.inv_bool]

theorem flat_ints {W : World} {base : Nat} {t : TypeId} {v : Value} {ts : List TypeId} {k : IntKind} (ht : tagg P t = true) (hts : P.cellTypes P.depth t = some ts) (hn : P.cellsOf t = ts.length) (hp : 0 < ts.length) (hk : ts.all (fun u => match P.underlying u with | some (.int k') => decide (k' = k) | _ => false) = true)
    (hv : Value.okWide P W .any base t v) : ∃ l : List Int, v = .agg (l.map (Value.int k)).toArray ∧ l.length = ts.length ∧ ∀ x ∈ l, k.min ≤ x ∧ x ≤ k.max := by
  have key : ∃ cs, v = .agg cs ∧ cs.size = P.cellsOf t ∧ Row.okWide P W .any base t cs := by
    unfold Value.okWide at hv
    unfold tagg at ht
    cases hu : P.underlying t with
    | none => rw [hu] at ht; cases ht
    | some d => rw [hu] at hv ht; cases d <;> first | exact hv | cases ht
  obtain ⟨cs, rfl, hsz, ts', hts', _, hc⟩ := key
  rw [hts] at hts'
  cases hts'
  rw [List.all_eq_true] at hk
  have cell : ∀ (i : Nat) v, cs[i]? = some v → ∃ n, v = .int k n ∧ k.min ≤ n ∧ n ≤ k.max := by
    intro i v hi
    obtain ⟨u, h1, h2⟩ := hc i v hi
    have hu : P.underlying u = some (.int k) := by
      have := hk u (List.mem_of_getElem? h1)
      split at this
      · rename_i k' h; rw [h, of_decide_eq_true this]
      · cases this
    unfold Cell.okWide at h2
    rw [hu] at h2
    simp only at h2
    unfold Cell.ok at h2
    rw [hu] at h2
    cases v <;> simp at h2
    obtain ⟨rfl, h3⟩ := h2
    exact ⟨_, rfl, h3.1, h3.2⟩
  have hcs : cs = ((cs.toList.map fun v => match v with | .int _ n => n | _ => 0).map (Value.int k)).toArray := by
    apply Array.ext'
    rw [List.map_map]
    refine (List.map_id _).symm.trans (List.map_congr_left fun v hv => ?_)
    obtain ⟨i, hi⟩ := List.getElem?_of_mem hv
    obtain ⟨n, rfl, _⟩ := cell i v (by simpa using hi)
    rfl
  refine ⟨_, congrArg Value.agg hcs, by simp [hsz, hn], fun x hx => ?_⟩
  simp only [List.mem_map] at hx
  obtain ⟨v, hv, rfl⟩ := hx
  obtain ⟨i, hi⟩ := List.getElem?_of_mem hv
  obtain ⟨n, rfl, h1, h2⟩ := cell i v (by simpa using hi)
  exact ⟨h1, h2⟩

theorem rep_flat {st : St} {G : Gh} {w : World} {k : IntKind} {l : List Int} (h : ∀ x ∈ l, k.min ≤ x ∧ x ≤ k.max) : Rep P st G w (.agg (l.map (AV.int k))) (.agg (l.map (Value.int k)).toArray) := by
  refine (⟨(l.map (Value.int k)).toArray, rfl, by simp, fun i c hc => ?_⟩ : RepA P st G w (.agg (l.map (AV.int k))) (.agg (l.map (Value.int k)).toArray))
  simp only [List.getElem?_map, Option.map_eq_some_iff] at hc
  obtain ⟨x, hx, rfl⟩ := hc
  have := h x (List.mem_of_getElem? hx)
  exact ⟨rfl, .int k x, by simp [hx], (RepP.int k x this.1 this.2 : RepP w _ (.int k x) (.int k x))⟩
end
end Go.Proofs.Ytddilmocngedjaa
/- Contracts by content, out of contracts that were proved of addresses: a library's function, or one's own. -/
namespace Go.Proofs.Ytddilmocngedjaa
set_option linter.unusedVariables false
set_option linter.unusedSimpArgs false
open Go.RowKit

def RepV1 (w : World) (S : Nat → Nat → Prop) (v : AV) (r : Value) : Prop :=
  match v with
  | .agg cs => ∃ us : Array Value, r = .agg us ∧ us.size = cs.length ∧ ∀ (i : Nat) c, cs[i]? = some c → c.one = true ∧ ∃ u, us[i]? = some u ∧ RepP w S c u
  | v => RepP w S v r
def RepV (w : World) (S : Nat → Nat → Prop) (v : AV) (r : Value) : Prop :=
  match v with
  | .tup vs => ∃ us : Array Value, r = .tuple us ∧ us.size = vs.length ∧ ∀ (i : Nat) c, vs[i]? = some c → ∃ u, us[i]? = some u ∧ RepV1 w S c u
  | v => RepV1 w S v r
def AV.bareCell : AV → Bool
  | .sl _ .no => true
  | .sl _ _ => false
  | .ptr _ _ => false
  | .vec _ _ _ _ => false
  | .eptr _ _ => false
  | .tup _ => false
  | .agg _ => false
  | _ => true
def AV.bareAll : AV → Bool
  | .tup vs => vs.all fun v => v.cells.all AV.bareCell
  | v => v.cells.all AV.bareCell
def More (S : Nat → Nat → Prop) (w : World) (b o : Nat) : Prop := S b o ∨ w.heap.size ≤ b

section
variable {P : Program} {w w' : World} {st : St} {G : Gh} {S S' : Nat → Nat → Prop}

theorem repV1_of {v : AV} {r : Value} (h : RepA P st G w v r) (hp : v.cells.all AV.plainCell = true) : RepV1 w (stable P st G) v.drop r := by
  rw [List.all_eq_true] at hp
  by_cases hv : ∃ cs, v = .agg cs
  · obtain ⟨cs, rfl⟩ := hv
    obtain ⟨us, rfl, h2, h3⟩ := h
    refine ⟨us, rfl, by simpa using h2, fun i c hc => ?_⟩
    simp only [List.getElem?_map, Option.map_eq_some_iff] at hc
    obtain ⟨c', hc', rfl⟩ := hc
    obtain ⟨h4, u, h5, h6⟩ := h3 i c' hc'
    exact ⟨dropCell_one h4, u, h5, plain_repP h6 (hp c' (List.mem_of_getElem? hc'))⟩
  · have hv' : ∀ cs, v ≠ .agg cs := fun cs e => hv ⟨cs, e⟩
    rw [RepA_eq hv'] at h
    have h2 := plain_repP h (hp v (by rw [cellsOf_one hv']; simp))
    have e : v.drop = v.dropCell := by cases v <;> first | rfl | exact absurd rfl (hv' _)
    rw [e]
    unfold RepV1
    split
    · rename_i cs hcs
      rw [hcs] at h2; cases h2
    · exact h2
theorem repV_of {v : AV} {r : Value} (h : Rep P st G w v r) (hp : v.plain = true) : RepV w (stable P st G) v.drop r := by
  by_cases hv : ∃ cs, v = .tup cs
  · obtain ⟨cs, rfl⟩ := hv
    simp [AV.plain, AV.cells, AV.plainCell] at hp
  · have hv' : ∀ cs, v ≠ .tup cs := fun cs e => hv ⟨cs, e⟩
    have h1 := repV1_of (h.toA hv') hp
    unfold RepV
    split
    · rename_i vs hvs
      cases v <;> first | (simp [AV.drop, AV.dropCell] at hvs; done) | (exact absurd rfl (hv' _)) | skip
      rename_i xs ow
      cases ow <;> simp [AV.drop, AV.dropCell] at hvs
    · exact h1

theorem bare_rep1 {c : AV} {u : Value} (h : RepP w (stable P st G) c u) (hb : c.bareCell = true) : Rep1 P st G w c u := by
  refine repP_to1 h ?_ ?_
  · rintro xs rfl; cases hb
  · rintro xs x y e rfl; cases hb
theorem bare_repA {v : AV} {u : Value} (h : RepV1 w (stable P st G) v u) (hb : v.cells.all AV.bareCell = true) : RepA P st G w v u := by
  rw [List.all_eq_true] at hb
  by_cases hv : ∃ cs, v = .agg cs
  · obtain ⟨cs, rfl⟩ := hv
    obtain ⟨us, h1, h2, h3⟩ := h
    exact ⟨us, h1, h2, fun i c hc => by obtain ⟨h4, u, h5, h6⟩ := h3 i c hc; exact ⟨h4, u, h5, bare_rep1 h6 (hb c (List.mem_of_getElem? hc))⟩⟩
  · have hv' : ∀ cs, v ≠ .agg cs := fun cs e => hv ⟨cs, e⟩
    rw [RepA_eq hv']
    refine bare_rep1 ?_ (hb v (by rw [cellsOf_one hv']; simp))
    unfold RepV1 at h
    split at h
    · exact absurd rfl (hv' _)
    · exact h
theorem bare_rep {v : AV} {u : Value} (h : RepV w (stable P st G) v u) (hb : v.bareAll = true) : Rep P st G w v u := by
  by_cases hv : ∃ cs, v = .tup cs
  · obtain ⟨vs, rfl⟩ := hv
    simp only [AV.bareAll, List.all_eq_true] at hb
    obtain ⟨us, h1, h2, h3⟩ := h
    exact ⟨us, h1, h2, fun i c hc => by
      obtain ⟨u, h5, h6⟩ := h3 i c hc
      exact ⟨u, h5, bare_repA h6 (by rw [List.all_eq_true]; exact hb c (List.mem_of_getElem? hc))⟩⟩
  · have hv' : ∀ cs, v ≠ .tup cs := fun cs e => hv ⟨cs, e⟩
    rw [Rep_eq hv']
    refine bare_repA ?_ ?_
    · unfold RepV at h
      split at h
      · exact absurd rfl (hv' _)
      · exact h
    · unfold AV.bareAll at hb
      split at hb
      · exact absurd rfl (hv' _)
      · exact hb
theorem RepV1_eq {v : AV} {r : Value} (hv : ∀ cs, v ≠ .agg cs) : RepV1 w S v r = RepP w S v r := by
  cases v <;> first | rfl | exact absurd rfl (hv _)
theorem RepV_eq {v : AV} {r : Value} (hv : ∀ cs, v ≠ .tup cs) : RepV w S v r = RepV1 w S v r := by
  cases v <;> first | rfl | exact absurd rfl (hv _)
theorem RepV1.mono {v : AV} {r : Value} (h : RepV1 w S v r) (hk : ∀ b o u, S b o → w.cell? ⟨b, o, none⟩ = some u → S' b o ∧ w'.cell? ⟨b, o, none⟩ = some u) : RepV1 w' S' v r := by
  by_cases hv : ∃ cs, v = .agg cs
  · obtain ⟨cs, rfl⟩ := hv
    obtain ⟨us, h1, h2, h3⟩ := h
    exact ⟨us, h1, h2, fun i c hc => by obtain ⟨h4, u, h5, h6⟩ := h3 i c hc; exact ⟨h4, u, h5, h6.mono hk⟩⟩
  · have hv' : ∀ cs, v ≠ .agg cs := fun cs e => hv ⟨cs, e⟩
    rw [RepV1_eq hv'] at h ⊢
    exact RepP.mono h hk
theorem RepV.mono {v : AV} {r : Value} (h : RepV w S v r) (hk : ∀ b o u, S b o → w.cell? ⟨b, o, none⟩ = some u → S' b o ∧ w'.cell? ⟨b, o, none⟩ = some u) : RepV w' S' v r := by
  by_cases hv : ∃ cs, v = .tup cs
  · obtain ⟨cs, rfl⟩ := hv
    obtain ⟨us, h1, h2, h3⟩ := h
    exact ⟨us, h1, h2, fun i c hc => by obtain ⟨u, h5, h6⟩ := h3 i c hc; exact ⟨u, h5, h6.mono hk⟩⟩
  · have hv' : ∀ cs, v ≠ .tup cs := fun cs e => hv ⟨cs, e⟩
    rw [RepV_eq hv'] at h ⊢
    exact RepV1.mono h hk

theorem ret_bareCell {d n : Nat} {c : AV} (h : c.bareCell = true) : retCell d n c = c := by
  unfold retCell
  split
  · cases h
  · rfl
theorem ret_bareCells {d : Nat} : ∀ {n : Nat} {cs : List AV}, cs.all AV.bareCell = true → retCells d n cs = cs
  | _, [], _ => rfl
  | n, c :: cs, h => by
    simp only [List.all_cons, Bool.and_eq_true] at h
    simp only [retCells, ret_bareCell h.1, ret_bareCells h.2]
theorem ret_bare1 {site : Option (Nat × Nat)} {d n : Nat} {v : AV} (h : v.cells.all AV.bareCell = true) : retVal1 site d n v = v := by
  cases v with
  | ptr _ _ => simp [AV.cells, AV.bareCell] at h
  | vec _ _ _ _ => simp [AV.cells, AV.bareCell] at h
  | agg cs => simp only [retVal1, ret_bareCells (show cs.all AV.bareCell = true from h)]
  | _ => exact ret_bareCell (d := d) (n := n) (by simpa [AV.cells] using h)
theorem ret_bares {site : Option (Nat × Nat)} {d : Nat} : ∀ {n : Nat} {vs : List AV}, (vs.all fun v => v.cells.all AV.bareCell) = true → retVals site d n vs = vs
  | _, [], _ => rfl
  | n, c :: cs, h => by
    simp only [List.all_cons, Bool.and_eq_true] at h
    simp only [retVals, ret_bare1 h.1, ret_bares h.2]
theorem ret_bare {site : Option (Nat × Nat)} {d n : Nat} {v : AV} (h : v.bareAll = true) : retVal site d n v = v := by
  cases v with
  | tup vs => simp only [retVal, ret_bares (show (vs.all fun v => v.cells.all AV.bareCell) = true from h)]
  | _ => exact ret_bare1 (site := site) (d := d) (n := n) h
theorem bare_row {c : AV} (h : c.bareCell = true) : rowOf c = none := by
  cases c with
  | sl xs ow => cases ow <;> first | rfl | cases h
  | _ => rfl
theorem bare_tells {v : AV} (h : v.bareAll = true) (y : Nat) : tells v.cellsT y = none := by
  unfold tells
  cases hc : v.cellsT[y]? with
  | none => rfl
  | some c =>
    have hm := List.mem_of_getElem? hc
    refine bare_row ?_
    by_cases hv : ∃ cs, v = .tup cs
    · obtain ⟨vs, rfl⟩ := hv
      obtain ⟨x, hx, hxc⟩ := List.mem_flatMap.1 hm
      simp only [AV.bareAll, List.all_eq_true] at h
      exact h x hx c hxc
    · have hv' : ∀ cs, v ≠ .tup cs := fun cs e => hv ⟨cs, e⟩
      have e1 : v.cellsT = v.cells := by cases v <;> first | rfl | exact absurd rfl (hv' _)
      have e2 : v.bareAll = v.cells.all AV.bareCell := by cases v <;> first | rfl | exact absurd rfl (hv' _)
      rw [e1] at hm
      rw [e2, List.all_eq_true] at h
      exact h c hm

def AV.flatCell : AV → Bool
  | .sl _ _ => false
  | _ => true
theorem RepP.flat {c : AV} {u : Value} {S S' : Nat → Nat → Prop} (h : RepP w S c u) (hf : c.flatCell = true) : RepP w' S' c u := by
  cases h with
  | any => exact .any _
  | skip => exact .skip
  | bool b => exact .bool b
  | int k n h1 h2 => exact .int k n h1 h2
  | str l h => exact .str l h
  | nilptr => exact .nilptr
  | nilfn => exact .nilfn
  | fn f => exact .fn f
  | slnil o a cap h => cases hf
  | sl xs o b off cap size us hc hm hsz hS hr => cases hf

theorem pres_below {own : OwnP} (h : Below w.heap.size w w') : Pres w own w' :=
  ⟨h.os, h.tape, h.output, h.size, fun b hb _ => h.block b hb, fun b t hb _ o u _ hc => by rw [h.cell hb]; exact hc⟩

theorem meets_plain {f : Nat} {F : Con} (hent : ∀ args w, (callFunc f args).run P w = .ok (.enter f args) w)
    (h : ∀ args q r, F args = some (q, r) → q → ∃ l : List AV, args = vals l ∧ l.all AV.plain = true ∧ (∀ v ∈ l, v.drop = v) ∧ r.box = none ∧ r.new = none ∧ r.val.bareAll = true ∧
      ∀ (us : Array Value) (w : World) (S : Nat → Nat → Prop), us.size = l.length → (∀ (i : Nat) v, l[i]? = some v → ∃ u, us[i]? = some u ∧ RepV w S v u) →
        Calls P f us w fun e w' => ∃ v, e = .returned v ∧ Below w.heap.size w w' ∧ RepV w' (More S w) r.val v) : Meets P f F := by
  refine ⟨hent, ?_⟩
  intro args us w GE own d site q r hF hq hc hsite hs
  obtain ⟨l, rfl, hpl, hdr, hbox, hnew, hbare, hcall⟩ := h args q r hF hq
  obtain rfl : site = none := by
    rw [hbox] at hsite
    cases site with
    | none => rfl
    | some _ => cases hsite
  have hsz : us.size = l.length := by simpa [vals] using hc.size
  refine (hcall us w (stable P (entrySt (vals l)) GE) hsz (fun i v hv => ?_)).mono ?_
  · have hi := (List.getElem?_eq_some_iff.1 hv).1
    have e : (entrySt (vals l)).tmps i = v := by simp [entrySt, vals_get, hv]
    have h1 := hc.tmps i
    rw [e] at h1
    rw [List.all_eq_true] at hpl
    have h2 := repV_of h1 (hpl v (List.mem_of_getElem? hv))
    rw [hdr v (List.mem_of_getElem? hv)] at h2
    refine ⟨us.getD i undef, ?_, h2⟩
    have hi' : i < us.size := by omega
    simp [Array.getD_eq_getD_getElem?, hi']
  · rintro e w' ⟨v, rfl, hb, hv⟩
    have htl : ∀ y, tells r.outs y = none := by
      intro y
      have : r.outs = r.val.cellsT := by simp [Res.outs, hbox, hnew]
      rw [this]; exact bare_tells hbare y
    have hxr : ∀ x y, (exitSt d none r).rows x y = .free := by
      intro x y
      simp only [exitSt]
      rw [retRows_at]
      simp [htl]
    have hxb : ∀ x, (exitSt d none r).boxes x = none := by
      intro x
      simp only [exitSt]
      rw [hnew]; simp
    refine ⟨⟨fun _ => 0, fun _ _ => .slice none 0 0, fun _ _ => 0, GE.bad⟩, v, rfl, ⟨fun s cs h => (by rw [hxb] at h; cases h), fun s cs s' cs' h => (by rw [hxb] at h; cases h), fun x y tip h => (by rw [hxr] at h; cases h), fun x y tip x' y' tip' g h => (by rw [hxr] at h; cases h), fun s cs x y tip h => (by rw [hxb] at h; cases h)⟩, ?_, fun i s h => (by cases h), pres_below hb, fun s cs h => (by rw [hxb] at h; cases h), fun x y tip g h => (by rw [hxr] at h; cases h), rfl, fun x y tip g o h => (by rw [hxr] at h; cases h)⟩
    rw [ret_bare hbare]
    refine bare_rep (hv.mono fun b o u hso hcell => ⟨⟨?_, fun s cs h => (by rw [hxb] at h; cases h), fun x y tip h => (by rw [hxr] at h; cases h)⟩, hcell⟩) hbare
    rcases hso with h1 | h1
    · exact h1.1
    · intro hbad
      have := hc.bad b o hbad
      omega

theorem meets_row {f : Nat} {F : Con} (hent : ∀ args w, (callFunc f args).run P w = .ok (.enter f args) w)
    (h : ∀ args q r, F args = some (q, r) → q → ∃ (l : List AV) (xs : List AV) (e : Nat), args = vals l ∧ l.all AV.plain = true ∧ (∀ v ∈ l, v.drop = v) ∧ r = ⟨.sl xs (.row 0 0 e), none, none⟩ ∧ 0 < tsize P e ∧ (∀ x ∈ xs, x.cells.all AV.flatCell = true) ∧
      ∀ (us : Array Value) (w : World) (S : Nat → Nat → Prop), us.size = l.length → (∀ (i : Nat) v, l[i]? = some v → ∃ u, us[i]? = some u ∧ RepV w S v u) →
        Calls P f us w fun en w' => ∃ v, en = .returned v ∧ Below w.heap.size w w' ∧ ∃ zs, w'.ownsRow w.heap.size e (tsize P e) v xs.length zs ∧ FL w' (More S w) (tsize P e) xs zs) : Meets P f F := by
  refine ⟨hent, ?_⟩
  intro args us w GE own d site q r hF hq hc hsite hs
  obtain ⟨l, xs, e, rfl, hpl, hdr, rfl, hpos, hflat, hcall⟩ := h args q r hF hq
  obtain rfl : site = none := by
    cases site with
    | none => rfl
    | some _ => cases hsite
  have hsz : us.size = l.length := by simpa [vals] using hc.size
  refine (hcall us w (stable P (entrySt (vals l)) GE) hsz (fun i v hv => ?_)).mono ?_
  · have hi := (List.getElem?_eq_some_iff.1 hv).1
    have e : (entrySt (vals l)).tmps i = v := by simp [entrySt, vals_get, hv]
    have h1 := hc.tmps i
    rw [e] at h1
    rw [List.all_eq_true] at hpl
    have h2 := repV_of h1 (hpl v (List.mem_of_getElem? hv))
    rw [hdr v (List.mem_of_getElem? hv)] at h2
    refine ⟨us.getD i undef, ?_, h2⟩
    have hi' : i < us.size := by omega
    simp [Array.getD_eq_getD_getElem?, hi']
  · rintro en w' ⟨v, rfl, hb, zs, hown, hfl⟩
    have hxr : ∀ x y, (exitSt d none ⟨.sl xs (.row 0 0 e), none, none⟩).rows x y = if x = d ∧ y = 0 then .live xs.length else .free := by
      intro x y
      have ho : (⟨.sl xs (.row 0 0 e), none, none⟩ : Res).outs = [.sl xs (.row 0 0 e)] := rfl
      simp only [exitSt]
      rw [retRows_at, ho]
      simp only [Nat.zero_le, and_true, Nat.sub_zero]
      cases y with
      | zero =>
        have : tells [AV.sl xs (.row 0 0 e)] 0 = some (xs.length, e) := rfl
        simp only [this, and_true]
      | succ y =>
        have : tells [AV.sl xs (.row 0 0 e)] (y + 1) = none := by simp [tells]
        simp [this]
    have hxl : ∀ {x y tip}, (exitSt d none ⟨.sl xs (.row 0 0 e), none, none⟩).rows x y = .live tip → x = d ∧ y = 0 ∧ tip = xs.length := by
      intro x y tip h
      rw [hxr] at h
      split at h
      · rename_i h1; cases h; exact ⟨h1.1, h1.2, rfl⟩
      · cases h
    have hxb : ∀ x, (exitSt d none ⟨.sl xs (.row 0 0 e), none, none⟩).boxes x = none := by
      intro x
      simp [exitSt]
    have hown0 : w'.ownsRow 0 e (tsize P e) v xs.length zs := ⟨hown.1, by
      rcases hown.2 with h1 | ⟨g, cap, cur, h1, h2, h3⟩
      · exact .inl h1
      · exact .inr ⟨g, cap, cur, h1, Nat.zero_le _, h3⟩⟩
    refine ⟨⟨fun _ => 0, fun _ _ => v, fun _ _ => e, GE.bad⟩, v, rfl, ⟨fun s cs h => (by rw [hxb] at h; cases h), fun s cs s' cs' h => (by rw [hxb] at h; cases h), fun x y tip h => ?_, fun x y tip x' y' tip' g h h' _ _ => ?_, fun s cs x y tip h => (by rw [hxb] at h; cases h)⟩, ?_, fun i s h => (by cases h), pres_below hb, fun s cs h => (by rw [hxb] at h; cases h), fun x y tip g h hg => .inl (hown.lt g hg).1, rfl, fun x y tip g o h hg => ?_⟩
    · obtain ⟨_, _, rfl⟩ := hxl h
      exact ⟨hpos, zs, hown0⟩
    · obtain ⟨rfl, rfl, _⟩ := hxl h
      obtain ⟨rfl, rfl, _⟩ := hxl h'
      exact ⟨rfl, rfl⟩
    · refine (⟨?_, ?_⟩ : Rep1 P _ _ w' (.sl xs (.row d 0 e)) v)
      · refine FL.row (S := stable P _ _) hown0 rfl ?_ ?_
        · -- the elements' own slices lie outside the new block, or in it ahead of its end
          refine ⟨hfl.1, fun i x hx => ⟨(hfl.2 i x hx).1, fun j c hcj => ?_⟩⟩
          obtain ⟨h1, u, h2, h3⟩ := (hfl.2 i x hx).2 j c hcj
          refine ⟨h1, u, h2, ?_⟩
          have hf := hflat x (List.mem_of_getElem? hx)
          rw [List.all_eq_true] at hf
          exact h3.flat (hf c (List.mem_of_getElem? hcj))
        · intro g o hg ho
          refine ⟨?_, fun s cs h => (by rw [hxb] at h; cases h), fun x y tip h hg' => ?_⟩
          · intro hbad
            have := hc.bad g o hbad
            have := (hown.lt g hg).1
            omega
          · obtain ⟨_, _, rfl⟩ := hxl h
            exact ho
      · have := hxr d 0
        rw [if_pos ⟨rfl, rfl⟩] at this
        rw [this]
        exact ⟨rfl, Nat.le_refl _, fun _ => rfl⟩
    · intro hbad
      have := hc.bad g o hbad
      have := (hown.lt g hg).1
      omega
theorem meets_plain_ex {f : Nat} {F : Con} (hent : ∀ args w, (callFunc f args).run P w = .ok (.enter f args) w)
    (h : ∀ args q r, F args = some (q, r) → q → ∃ l : List AV, args = vals l ∧ l.all AV.plain = true ∧ (∀ v ∈ l, v.drop = v) ∧ r.box = none ∧ r.new = none ∧ r.val.bareAll = true ∧
      ∀ (us : Array Value) (w : World) (S : Nat → Nat → Prop), us.size = l.length → (∀ (i : Nat) v, l[i]? = some v → ∃ u, us[i]? = some u ∧ RepV w S v u ∧ ∀ xs, v = .sl xs .nil → u = .slice none 0 0) →
        Calls P f us w fun e w' => ∃ v, e = .returned v ∧ Below w.heap.size w w' ∧ RepV w' (More S w) r.val v) : Meets P f F := by
  refine ⟨hent, ?_⟩
  intro args us w GE own d site q r hF hq hc hsite hs
  obtain ⟨l, rfl, hpl, hdr, hbox, hnew, hbare, hcall⟩ := h args q r hF hq
  obtain rfl : site = none := by
    rw [hbox] at hsite
    cases site with
    | none => rfl
    | some _ => cases hsite
  have hsz : us.size = l.length := by simpa [vals] using hc.size
  refine (hcall us w (stable P (entrySt (vals l)) GE) hsz (fun i v hv => ?_)).mono ?_
  · have hi := (List.getElem?_eq_some_iff.1 hv).1
    have e : (entrySt (vals l)).tmps i = v := by simp [entrySt, vals_get, hv]
    have h1 := hc.tmps i
    rw [e] at h1
    rw [List.all_eq_true] at hpl
    have h2 := repV_of h1 (hpl v (List.mem_of_getElem? hv))
    rw [hdr v (List.mem_of_getElem? hv)] at h2
    refine ⟨us.getD i undef, ?_, h2, fun xs hx => by subst hx; exact (show xs = [] ∧ _ = Value.slice none 0 0 from h1).2⟩
    have hi' : i < us.size := by omega
    simp [Array.getD_eq_getD_getElem?, hi']
  · rintro e w' ⟨v, rfl, hb, hv⟩
    have htl : ∀ y, tells r.outs y = none := by
      intro y
      have : r.outs = r.val.cellsT := by simp [Res.outs, hbox, hnew]
      rw [this]; exact bare_tells hbare y
    have hxr : ∀ x y, (exitSt d none r).rows x y = .free := by
      intro x y
      simp only [exitSt]
      rw [retRows_at]
      simp [htl]
    have hxb : ∀ x, (exitSt d none r).boxes x = none := by
      intro x
      simp only [exitSt]
      rw [hnew]; simp
    refine ⟨⟨fun _ => 0, fun _ _ => .slice none 0 0, fun _ _ => 0, GE.bad⟩, v, rfl, ⟨fun s cs h => (by rw [hxb] at h; cases h), fun s cs s' cs' h => (by rw [hxb] at h; cases h), fun x y tip h => (by rw [hxr] at h; cases h), fun x y tip x' y' tip' g h => (by rw [hxr] at h; cases h), fun s cs x y tip h => (by rw [hxb] at h; cases h)⟩, ?_, fun i s h => (by cases h), pres_below hb, fun s cs h => (by rw [hxb] at h; cases h), fun x y tip g h => (by rw [hxr] at h; cases h), rfl, fun x y tip g o h => (by rw [hxr] at h; cases h)⟩
    rw [ret_bare hbare]
    refine bare_rep (hv.mono fun b o u hso hcell => ⟨⟨?_, fun s cs h => (by rw [hxb] at h; cases h), fun x y tip h => (by rw [hxr] at h; cases h)⟩, hcell⟩) hbare
    rcases hso with h1 | h1
    · exact h1.1
    · intro hbad
      have := hc.bad b o hbad
      omega
theorem meets_row_ex {f : Nat} {F : Con} (hent : ∀ args w, (callFunc f args).run P w = .ok (.enter f args) w)
    (h : ∀ args q r, F args = some (q, r) → q → ∃ (l : List AV) (xs : List AV) (e : Nat), args = vals l ∧ l.all AV.plain = true ∧ (∀ v ∈ l, v.drop = v) ∧ r = ⟨.sl xs (.row 0 0 e), none, none⟩ ∧ 0 < tsize P e ∧ (∀ x ∈ xs, x.cells.all AV.flatCell = true) ∧
      ∀ (us : Array Value) (w : World) (S : Nat → Nat → Prop), us.size = l.length → (∀ (i : Nat) v, l[i]? = some v → ∃ u, us[i]? = some u ∧ RepV w S v u ∧ ∀ xs, v = .sl xs .nil → u = .slice none 0 0) →
        Calls P f us w fun en w' => ∃ v, en = .returned v ∧ Below w.heap.size w w' ∧ ∃ zs, w'.ownsRow w.heap.size e (tsize P e) v xs.length zs ∧ FL w' (More S w) (tsize P e) xs zs) : Meets P f F := by
  refine ⟨hent, ?_⟩
  intro args us w GE own d site q r hF hq hc hsite hs
  obtain ⟨l, xs, e, rfl, hpl, hdr, rfl, hpos, hflat, hcall⟩ := h args q r hF hq
  obtain rfl : site = none := by
    cases site with
    | none => rfl
    | some _ => cases hsite
  have hsz : us.size = l.length := by simpa [vals] using hc.size
  refine (hcall us w (stable P (entrySt (vals l)) GE) hsz (fun i v hv => ?_)).mono ?_
  · have hi := (List.getElem?_eq_some_iff.1 hv).1
    have e : (entrySt (vals l)).tmps i = v := by simp [entrySt, vals_get, hv]
    have h1 := hc.tmps i
    rw [e] at h1
    rw [List.all_eq_true] at hpl
    have h2 := repV_of h1 (hpl v (List.mem_of_getElem? hv))
    rw [hdr v (List.mem_of_getElem? hv)] at h2
    refine ⟨us.getD i undef, ?_, h2, fun xs hx => by subst hx; exact (show xs = [] ∧ _ = Value.slice none 0 0 from h1).2⟩
    have hi' : i < us.size := by omega
    simp [Array.getD_eq_getD_getElem?, hi']
  · rintro en w' ⟨v, rfl, hb, zs, hown, hfl⟩
    have hxr : ∀ x y, (exitSt d none ⟨.sl xs (.row 0 0 e), none, none⟩).rows x y = if x = d ∧ y = 0 then .live xs.length else .free := by
      intro x y
      have ho : (⟨.sl xs (.row 0 0 e), none, none⟩ : Res).outs = [.sl xs (.row 0 0 e)] := rfl
      simp only [exitSt]
      rw [retRows_at, ho]
      simp only [Nat.zero_le, and_true, Nat.sub_zero]
      cases y with
      | zero =>
        have : tells [AV.sl xs (.row 0 0 e)] 0 = some (xs.length, e) := rfl
        simp only [this, and_true]
      | succ y =>
        have : tells [AV.sl xs (.row 0 0 e)] (y + 1) = none := by simp [tells]
        simp [this]
    have hxl : ∀ {x y tip}, (exitSt d none ⟨.sl xs (.row 0 0 e), none, none⟩).rows x y = .live tip → x = d ∧ y = 0 ∧ tip = xs.length := by
      intro x y tip h
      rw [hxr] at h
      split at h
      · rename_i h1; cases h; exact ⟨h1.1, h1.2, rfl⟩
      · cases h
    have hxb : ∀ x, (exitSt d none ⟨.sl xs (.row 0 0 e), none, none⟩).boxes x = none := by
      intro x
      simp [exitSt]
    have hown0 : w'.ownsRow 0 e (tsize P e) v xs.length zs := ⟨hown.1, by
      rcases hown.2 with h1 | ⟨g, cap, cur, h1, h2, h3⟩
      · exact .inl h1
      · exact .inr ⟨g, cap, cur, h1, Nat.zero_le _, h3⟩⟩
    refine ⟨⟨fun _ => 0, fun _ _ => v, fun _ _ => e, GE.bad⟩, v, rfl, ⟨fun s cs h => (by rw [hxb] at h; cases h), fun s cs s' cs' h => (by rw [hxb] at h; cases h), fun x y tip h => ?_, fun x y tip x' y' tip' g h h' _ _ => ?_, fun s cs x y tip h => (by rw [hxb] at h; cases h)⟩, ?_, fun i s h => (by cases h), pres_below hb, fun s cs h => (by rw [hxb] at h; cases h), fun x y tip g h hg => .inl (hown.lt g hg).1, rfl, fun x y tip g o h hg => ?_⟩
    · obtain ⟨_, _, rfl⟩ := hxl h
      exact ⟨hpos, zs, hown0⟩
    · obtain ⟨rfl, rfl, _⟩ := hxl h
      obtain ⟨rfl, rfl, _⟩ := hxl h'
      exact ⟨rfl, rfl⟩
    · refine (⟨?_, ?_⟩ : Rep1 P _ _ w' (.sl xs (.row d 0 e)) v)
      · refine FL.row (S := stable P _ _) hown0 rfl ?_ ?_
        · -- the elements' own slices lie outside the new block, or in it ahead of its end
          refine ⟨hfl.1, fun i x hx => ⟨(hfl.2 i x hx).1, fun j c hcj => ?_⟩⟩
          obtain ⟨h1, u, h2, h3⟩ := (hfl.2 i x hx).2 j c hcj
          refine ⟨h1, u, h2, ?_⟩
          have hf := hflat x (List.mem_of_getElem? hx)
          rw [List.all_eq_true] at hf
          exact h3.flat (hf c (List.mem_of_getElem? hcj))
        · intro g o hg ho
          refine ⟨?_, fun s cs h => (by rw [hxb] at h; cases h), fun x y tip h hg' => ?_⟩
          · intro hbad
            have := hc.bad g o hbad
            have := (hown.lt g hg).1
            omega
          · obtain ⟨_, _, rfl⟩ := hxl h
            exact ho
      · have := hxr d 0
        rw [if_pos ⟨rfl, rfl⟩] at this
        rw [this]
        exact ⟨rfl, Nat.le_refl _, fun _ => rfl⟩
    · intro hbad
      have := hc.bad g o hbad
      have := (hown.lt g hg).1
      omega
def Arg.deNil : Arg → Arg
  | .val (.sl xs .nil) => .val (.sl xs .no)
  | a => a
def Con.orNil (F : Con) : Con := fun args =>
  match F args with
  | some x => some x
  | none => F (args.map Arg.deNil)
theorem deNil_box {args : List Arg} {i : Nat} {cs : List AV} : (args.map Arg.deNil)[i]? = some (.box cs) ↔ args[i]? = some (.box cs) := by
  rw [List.getElem?_map]
  cases h : args[i]? with
  | none => simp
  | some a =>
    simp only [Option.map_some, Option.some.injEq]
    unfold Arg.deNil
    split <;> simp
theorem deNil_boxOf1 (a : Arg) {l l' : List Arg} (h : boxOf l = boxOf l') : boxOf (a.deNil :: l) = boxOf (a :: l') := by
  cases a with
  | box cs => rfl
  | val v =>
    cases v with
    | sl xs o => cases o <;> exact h
    | _ => exact h
theorem deNil_boxOf (args : List Arg) : boxOf (args.map Arg.deNil) = boxOf args := by
  induction args with
  | nil => rfl
  | cons a l ih => exact deNil_boxOf1 a ih
theorem deNil_st (args : List Arg) : (entrySt (args.map Arg.deNil)).boxes = (entrySt args).boxes ∧ (entrySt (args.map Arg.deNil)).rows = (entrySt args).rows := by
  refine ⟨?_, ?_⟩
  · funext s
    simp only [entrySt]
    cases h : args[s]? with
    | none => simp [h]
    | some a =>
      simp only [List.getElem?_map, h, Option.map_some]
      cases a with
      | box cs => rfl
      | val v =>
        cases v with
        | sl xs o => cases o <;> rfl
        | _ => rfl
  · simp only [entrySt, deNil_boxOf]
theorem Kp.same {st st' : St} {G : Gh} {w : World} (hb : st'.boxes = st.boxes) (hr : st'.rows = st.rows) : Kp P st G w st' G w := by
  refine ⟨fun b o u h1 h2 => ⟨⟨h1.1, by rw [hb]; exact h1.2.1, by rw [hr]; exact h1.2.2⟩, h2⟩, fun s cs h => ⟨⟨cs, by rw [hb]; exact h⟩, rfl⟩, fun a b h => ⟨by rw [hr]; exact h, fun tip h' => ⟨tip, by rw [← hr]; exact h', rfl, Nat.le_refl _, fun _ => rfl⟩⟩, fun _ _ h => h⟩
theorem Came.deNil {args : List Arg} {us : Array Value} {w : World} {GE : Gh} {own : OwnP} (h : Came P args us w GE own) : Came P (args.map Arg.deNil) us w GE own := by
  obtain ⟨hb, hr⟩ := deNil_st args
  have hk : Kp P (entrySt args) GE w (entrySt (args.map Arg.deNil)) GE w := Kp.same hb hr
  have bx : ∀ s, (entrySt (args.map Arg.deNil)).boxes s = (entrySt args).boxes s := fun s => by rw [hb]
  have rw' : ∀ a b, (entrySt (args.map Arg.deNil)).rows a b = (entrySt args).rows a b := fun a b => by rw [hr]
  refine ⟨by simpa using h.size, ⟨fun s cs hs => ?_, fun s cs s' cs' h1 h2 => ?_, fun a b tip h1 => ?_, fun a b tip a' b' tip' g h1 h2 => ?_, fun s cs a b tip h1 h2 => ?_⟩, fun i => ?_, ⟨fun s cs hs => ?_, fun a b tip g h1 => ?_, fun b t h1 => ?_⟩, h.bad, fun a b tip g o h1 => ?_⟩
  · rw [bx] at hs
    obtain ⟨us, t, h1, h2, h3⟩ := h.mem.box s cs hs
    exact ⟨us, t, h1, h2, fun i c hc => by obtain ⟨h4, u, h5, h6⟩ := h3 i c hc; exact ⟨h4, u, h5, h6.keep hk⟩⟩
  · rw [bx] at h1 h2; exact h.mem.inj s cs s' cs' h1 h2
  · rw [rw'] at h1; exact h.mem.row a b tip h1
  · rw [rw'] at h1 h2; exact h.mem.rinj a b tip a' b' tip' g h1 h2
  · rw [bx] at h1; rw [rw'] at h2; exact h.mem.brow s cs a b tip h1 h2
  · have h0 := (h.tmps i).keep hk
    have e : (entrySt (args.map Arg.deNil)).tmps i = (entrySt args).tmps i ∨ ∃ xs, (entrySt args).tmps i = .sl xs .nil ∧ (entrySt (args.map Arg.deNil)).tmps i = .sl xs .no := by
      simp only [entrySt, List.getElem?_map]
      cases hi : args[i]? with
      | none => exact .inl rfl
      | some a =>
        cases a with
        | box cs => exact .inl rfl
        | val v =>
          cases v with
          | sl xs o =>
            cases o with
            | nil => exact .inr ⟨xs, rfl, rfl⟩
            | _ => exact .inl rfl
          | _ => exact .inl rfl
    rcases e with e | ⟨xs, e1, e2⟩
    · rw [e]; exact h0
    · rw [e1] at h0
      rw [e2]
      obtain ⟨rfl, h2⟩ := (h0 : Rep1 P _ GE w (.sl xs .nil) _)
      rw [h2]
      exact (RepP.slnil .no none 0 (by unfold maxLen; omega) : RepP w _ (.sl [] .no) (.slice none 0 0))
  · rw [bx] at hs; exact h.own.box s cs hs
  · rw [rw'] at h1; exact h.own.row a b tip g h1
  · rcases h.own.only b t h1 with ⟨s, cs, h2, h3⟩ | ⟨x, y, tip, h2, h3⟩
    · exact .inl ⟨s, cs, by rw [bx]; exact h2, h3⟩
    · exact .inr ⟨x, y, tip, by rw [rw']; exact h2, h3⟩
  · rw [rw'] at h1; exact h.rbad a b tip g o h1
theorem Meets.orNil {f : Nat} {F : Con} (h : Meets P f F) : Meets P f F.orNil := by
  refine ⟨h.enters, fun args us w GE own d site q r hF hq hc hsite hs => ?_⟩
  unfold Con.orNil at hF
  split at hF
  · rename_i x hx
    cases hF
    exact h.calls args us w GE own d site q r hx hq hc hsite hs
  · exact h.calls (args.map Arg.deNil) us w GE own d site q r hF hq hc.deNil hsite fun i s hi => by
      obtain ⟨h1, cs, h2⟩ := hs i s hi
      exact ⟨h1, cs, deNil_box.2 h2⟩
end
end Go.Proofs.Ytddilmocngedjaa
