/- A region that draws its order: whatever the order, what the text's order says. -/
import Derived.Test.YtnhfjdbnkpbbkabLaxY
namespace Go.Proofs.Ytnhfjdbnkpbbkab
set_option linter.unusedVariables false
set_option linter.unusedSimpArgs false
open Go.RowKit

/-- what comes before each operation, as bits -/
def maskOf (acc : List Nat) (o : Oper) : Nat := o.after.toList.foldl (fun s e => if Region.binds .any e then s ||| (2 ^ e.on ||| acc.getD e.on 0) else s) 0
def masks : List Oper → List Nat → List Nat
  | [], acc => acc
  | o :: r, acc => masks r (acc ++ [maskOf acc o])
/-- an operation, against all behind it -/
def pairOK (ops : Array Oper) (p : Nat) (o : Oper) (f : Foot) : Nat → List Oper → List Foot → List Nat → Bool
  | q, o' :: r, f' :: fs, m :: ms => (m.testBit p || (apartF ops o o' && !clash f f')) && pairOK ops p o f (q + 1) r fs ms
  | _, _, _, _ => true
def pairsOK (ops : Array Oper) : Nat → List Oper → List Foot → List Nat → Bool
  | p, o :: r, f :: fs, _ :: ms => pairOK ops p o f (p + 1) r fs ms && pairsOK ops (p + 1) r fs ms
  | _, _, _, _ => true
def edgesOK : Nat → List Oper → Bool
  | _, [] => true
  | i, o :: r => o.after.toList.all (fun e => !Region.binds .any e || decide (e.on < i)) && edgesOK (i + 1) r
def drawOK (ops : Array Oper) (fs : List Foot) : Bool :=
  edgesOK 0 ops.toList && (match masks ops.toList [] with | ms => pairsOK ops 0 ops.toList fs ms)

inductive RunI (Γ : Nat → Option Con) (P : Program) (ops : Array Oper) : List (Nat × Foot) → St → St → Prop
  | nil (st : St) : RunI Γ P ops [] st st
  | cons {i : Nat} {o : Oper} {ft : Foot} {l : List (Nat × Foot)} {st st1 st2 : St} (ho : ops[i]? = some o) (h : StepF Γ P ops o st ft st1) (r : RunI Γ P ops l st1 st2) : RunI Γ P ops ((i, ft) :: l) st st2

section
variable {P : Program} {n : Nat} {w0 : World} {own own' : OwnP} {st st' st1 st2 stF : St} {G G' : Gh} {a : Act} {w w' : World} {o : Oper} {Γ : Nat → Option Con} {ops : Array Oper} {ft : Foot} {E : Eff}

theorem meet_false {a b : List Nat} (h : meet a b = false) : ∀ x ∈ a, x ∉ b := by
  intro x hx hb
  unfold meet at h
  rw [List.any_eq_false] at h
  have := h x hx
  apply this
  rw [List.any_eq_true]
  exact ⟨x, hb, by simp⟩
theorem clash_false {f g : Foot} (h : clash f g = false) : (∀ x ∈ f.wr, x ∉ g.wr) ∧ (∀ x ∈ f.wr, x ∉ g.rd) ∧ (∀ x ∈ f.rd, x ∉ g.wr) ∧ ∀ x ∈ f.nm, x ∉ g.nm := by
  unfold clash at h
  simp only [Bool.or_eq_false_iff] at h
  exact ⟨meet_false h.1.1.1, meet_false h.1.1.2, meet_false h.1.2, meet_false h.2⟩
theorem apartF_spec {o1 o2 : Oper} (h : apartF ops o1 o2 = true) : (∀ d, o1.dst = some d → d ∉ usesOf ops o2) ∧ (∀ d, o1.dst = some d → o2.dst ≠ some d) ∧ (∀ d, o2.dst = some d → d ∉ usesOf ops o1) := by
  unfold apartF at h
  simp only [Bool.and_eq_true] at h
  refine ⟨fun d hd => ?_, fun d hd => ?_, fun d hd => ?_⟩
  · have := h.1; rw [hd] at this; simp at this; simpa using this.1
  · have := h.1; rw [hd] at this; simp at this; exact this.2
  · have := h.2; rw [hd] at this; simpa using this

theorem uses_ev (h : ∀ t ∈ usesOf ops o, st.tmps t = st2.tmps t) : ∀ x ∈ o.op.operands, st.ev x = st2.ev x := by
  intro x hx
  cases x with
  | tmp t => exact h t (List.mem_append_left _ (List.mem_filterMap.2 ⟨.tmp t, by simpa using hx, rfl⟩))
  | _ => rfl
theorem uses_guard {g : Nat} {want : Bool} (hg : o.guard = some (g, want)) (h : ∀ t ∈ usesOf ops o, st.tmps t = st2.tmps t) : guardOf ops st g = guardOf ops st2 g := by
  unfold guardOf
  cases hd : (ops[g]?).bind (·.dst) with
  | none => rfl
  | some d => exact h d (List.mem_append_right _ (by simp [hg, hd]))

theorem step_delta (h : StepF Γ P ops o st ft st') : ∃ E : Eff, st' = E.app o.dst st ∧ (∀ x ∈ E.boxes, x.1 ∈ ft.wr) ∧ (∀ x ∈ E.rows, x.1.1 ∈ ft.nm) ∧
    ∀ st2, (∀ t ∈ usesOf ops o, st.tmps t = st2.tmps t) → (∀ s, s ∈ ft.rd ∨ s ∈ ft.wr → st.boxes s = st2.boxes s) → (∀ h ∈ ft.nm, ∀ y, st.rows h y = st2.rows h y) → StepF Γ P ops o st2 ft (E.app o.dst st2) := by
  cases h with
  | run _ E hg he ho =>
    obtain ⟨f1, f2⟩ := eff_foot he
    refine ⟨E, rfl, f1, f2, fun st2 h1 h2 h3 => .run ft E ?_ (eff_local (uses_ev h1) he h2 h3) ho⟩
    rcases hg with hg | ⟨g, want, hg, hb⟩
    · exact .inl hg
    · exact .inr ⟨g, want, hg, by rw [← uses_guard hg h1]; exact hb⟩
  | skip hg =>
    obtain ⟨g, want, hg, hb⟩ := hg
    have e : ∀ s : St, s.put o.dst .skip = (⟨True, .skip, [], []⟩ : Eff).app o.dst s := by
      intro s; cases o.dst <;> rfl
    refine ⟨⟨True, .skip, [], []⟩, e st, fun x h => (by simp at h), fun x h => (by simp at h), fun st2 h1 _ _ => ?_⟩
    rw [← e]
    exact .skip ⟨g, want, hg, by rw [← uses_guard hg h1]; exact hb⟩

theorem app_tmps (E : Eff) {dst : Option Tmp} {t : Nat} (h : dst ≠ some t) : (E.app dst st).tmps t = st.tmps t := by
  cases dst with
  | none => rfl
  | some d =>
    have : (t == d) = false := by simp; rintro rfl; exact h rfl
    simp [Eff.app, upd, this]
theorem app_comm (E1 E2 : Eff) {d1 d2 : Option Tmp} (hd : ∀ d, d1 = some d → d2 ≠ some d) (hb : ∀ q ∈ E1.boxes, ∀ q' ∈ E2.boxes, q.1 ≠ q'.1) (hr : ∀ q ∈ E1.rows, ∀ q' ∈ E2.rows, q.1.1 ≠ q'.1.1) (st : St) :
    E2.app d2 (E1.app d1 st) = E1.app d1 (E2.app d2 st) := by
  unfold Eff.app
  simp only [St.mk.injEq]
  refine ⟨?_, updAll_comm _ hb, updRows_comm _ hr⟩
  cases d1 with
  | none => cases d2 <;> rfl
  | some x =>
    cases d2 with
    | none => rfl
    | some y => exact upd_upd _ _ _ (fun e => hd x rfl (by rw [e]))

theorem swap_step {o1 o2 : Oper} {f1 f2 : Foot} (h1 : StepF Γ P ops o1 st f1 st1) (h2 : StepF Γ P ops o2 st1 f2 st2) (hap : apartF ops o1 o2 = true) (hcl : clash f1 f2 = false) : ∃ s, StepF Γ P ops o2 st f2 s ∧ StepF Γ P ops o1 s f1 st2 := by
  obtain ⟨E1, rfl, b1, r1, t1⟩ := step_delta h1
  obtain ⟨E2, rfl, b2, r2, t2⟩ := step_delta h2
  obtain ⟨a1, a2, a3⟩ := apartF_spec hap
  obtain ⟨c1, c2, c3, c4⟩ := clash_false hcl
  have g2 := t2 st (fun t ht => app_tmps E1 (fun e => a1 t e ht)) (fun s hs => updAll_at _ _ s (fun q hq e => by
      rcases hs with hs | hs
      · exact c2 q.1 (b1 q hq) (by rw [e]; exact hs)
      · exact c1 q.1 (b1 q hq) (by rw [e]; exact hs))) (fun h hh y => updRows_out _ _ h y (fun q hq e => c4 q.1.1 (r1 q hq) (by rw [e]; exact hh)))
  have g1 := t1 (E2.app o2.dst st) (fun t ht => (app_tmps E2 (fun e => a3 t e ht)).symm) (fun s hs => (updAll_at _ _ s (fun q hq e => by
      rcases hs with hs | hs
      · exact c3 s hs (by rw [← e]; exact b2 q hq)
      · exact c1 s hs (by rw [← e]; exact b2 q hq))).symm) (fun h hh y => (updRows_out _ _ h y (fun q hq e => c4 h hh (by rw [← e]; exact r2 q hq))).symm)
  refine ⟨_, g2, ?_⟩
  rw [app_comm E1 E2 a2 (fun q hq q' hq' e => c1 q.1 (b1 q hq) (by rw [e]; exact b2 q' hq')) (fun q hq q' hq' e => c4 q.1.1 (r1 q hq) (by rw [e]; exact r2 q' hq')) st]
  exact g1

/-- an operation that touches nothing of those ahead of it comes first -/
theorem bubble {i : Nat} {fi : Foot} : ∀ (pre post : List (Nat × Foot)) (st : St), RunI Γ P ops (pre ++ (i, fi) :: post) st stF → (∀ x ∈ pre, ∀ o1 o2, ops[x.1]? = some o1 → ops[i]? = some o2 → apartF ops o1 o2 = true ∧ clash x.2 fi = false) →
    ∃ o s, ops[i]? = some o ∧ StepF Γ P ops o st fi s ∧ RunI Γ P ops (pre ++ post) s stF
  | [], post, st, h, _ => by
    cases h with
    | cons ho h r => exact ⟨_, _, ho, h, r⟩
  | (j, fj) :: pre, post, st, h, hp => by
    cases h with
    | cons hoj hj r =>
      obtain ⟨o, s, ho, hs, r'⟩ := bubble pre post _ r (fun x hx => hp x (by simp [hx]))
      obtain ⟨h1, h2⟩ := hp (j, fj) (by simp) _ _ hoj ho
      obtain ⟨s', g1, g2⟩ := swap_step hj hs h1 h2
      exact ⟨o, s', ho, g1, .cons hoj g2 r'⟩

theorem run_index : ∀ (k : Nat) (l : List Oper) (st : St) (fs : List Foot), l = ops.toList.drop k → RunF Γ P ops l st fs stF → RunI Γ P ops ((List.range' k l.length).zip fs) st stF ∧ fs.length = l.length
  | k, [], st, fs, hl, h => by cases h; exact ⟨.nil _, rfl⟩
  | k, o :: l, st, fs, hl, h => by
    cases h with
    | cons h1 r =>
      have h2 : ops.toList[k]? = some o := by
        have := congrArg (·[0]?) hl
        simp only [List.getElem?_cons_zero, List.getElem?_drop, Nat.add_zero] at this
        exact this.symm
      have h3 : l = ops.toList.drop (k + 1) := by
        have := congrArg List.tail hl
        simpa using this
      obtain ⟨g1, g2⟩ := run_index (k + 1) l _ _ h3 r
      refine ⟨?_, by simp [g2]⟩
      simp only [List.length_cons, List.range'_succ, List.zip_cons_cons]
      exact .cons (by simpa using h2) h1 g1
end
end Go.Proofs.Ytnhfjdbnkpbbkab
