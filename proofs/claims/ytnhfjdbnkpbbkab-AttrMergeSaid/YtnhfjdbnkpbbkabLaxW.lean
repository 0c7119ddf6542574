/- A row of operations, in the text's order. -/
import Derived.Test.YtnhfjdbnkpbbkabLaxV
namespace Go.Proofs.Ytnhfjdbnkpbbkab
set_option linter.unusedVariables false
set_option linter.unusedSimpArgs false
open Go.RowKit

/-- one operation's step -/
inductive StepF (Γ : Nat → Option Con) (P : Program) (ops : Array Oper) (o : Oper) (st : St) : Foot → St → Prop
  | run (ft : Foot) (E : Eff) (hg : o.guard = none ∨ ∃ g want, o.guard = some (g, want) ∧ guardOf ops st g = .bool want) (he : eff Γ P o st = some (ft, E)) (ho : E.obl) : StepF Γ P ops o st ft (E.app o.dst st)
  | skip (hg : ∃ g want, o.guard = some (g, want) ∧ (guardOf ops st g = .bool (!want) ∨ guardOf ops st g = .skip)) : StepF Γ P ops o st ⟨[], [], []⟩ (st.put o.dst .skip)

inductive RunF (Γ : Nat → Option Con) (P : Program) (ops : Array Oper) : List Oper → St → List Foot → St → Prop
  | nil (st : St) : RunF Γ P ops [] st [] st
  | cons {o : Oper} {l : List Oper} {st st1 st2 : St} {ft : Foot} {fs : List Foot} (h : StepF Γ P ops o st ft st1) (r : RunF Γ P ops l st1 fs st2) : RunF Γ P ops (o :: l) st (ft :: fs) st2

section
variable {P : Program} {n : Nat} {w0 : World} {own own' : OwnP} {st st' st1 : St} {G G' : Gh} {a : Act} {w w' : World} {o : Oper} {Γ : Nat → Option Con} {ops : Array Oper} {ft : Foot}

theorem opK_step {K : Foot → St → Prop} (h : opK Γ P ops o st K) : ∃ ft st', StepF Γ P ops o st ft st' ∧ K ft st' := by
  unfold opK at h
  split at h
  · rename_i hg
    split at h
    · rename_i ft E he
      exact ⟨ft, _, .run ft E (.inl hg) he h.1, h.2⟩
    · exact h.elim
  · rename_i g want hg
    split at h
    · rename_i b hb
      have h : opB Γ P o st b want K := by
        cases b with
        | true => simp only at h; rw [fixG_eq hb] at h; exact h
        | false => simp only at h; rw [fixG_eq hb] at h; exact h
      unfold opB at h
      split at h
      · split at h
        · rename_i ft E he
          exact ⟨ft, _, .run ft E (.inr ⟨g, _, hg, hb⟩) he h.1, h.2⟩
        · exact h.elim
      · split at h
        · rename_i ft E he
          exact ⟨ft, _, .run ft E (.inr ⟨g, _, hg, hb⟩) he h.1, h.2⟩
        · exact h.elim
      · rename_i h1 h2
        refine ⟨_, _, .skip ⟨g, want, hg, .inl ?_⟩, h⟩
        rw [hb]
        cases b <;> cases want <;> simp_all
    · rename_i hb
      exact ⟨_, _, .skip ⟨g, want, hg, .inr hb⟩, h⟩
    · exact h.elim

theorem runK_run : ∀ (l : List Oper) (st : St) (fs : List Foot) (K : List Foot → St → Prop), runK Γ P ops l st fs K → ∃ fs' st', RunF Γ P ops l st fs' st' ∧ K (fs ++ fs') st'
  | [], st, fs, K, h => ⟨[], st, .nil st, by simpa [runK] using h⟩
  | o :: l, st, fs, K, h => by
    obtain ⟨ft, st1, h1, h2⟩ := opK_step h
    obtain ⟨fs', st', h3, h4⟩ := runK_run l st1 (fs ++ [ft]) K h2
    exact ⟨ft :: fs', st', .cons h1 h3, by simpa using h4⟩

theorem Rel.skip (hR : Rel P n w0 own st G a w) {dst : Option Tmp} (hd : ∀ d, dst = some d → d < n) : Rel P n w0 own (st.put dst .skip) G (a.put dst undef) w := by
  have := hR.pure hd (p := True) (rep_skip (P := P) (st := st) (G := G) (w := w))
  cases dst <;> exact this

theorem guard_real (hR : Rel P n w0 own st G a w) {g : Nat} : (∀ b, guardOf ops st g = .bool b → yielded ops a.tmps g = some b) ∧ (guardOf ops st g = .skip → yielded ops a.tmps g = none) := by
  unfold guardOf yielded
  cases hd : (ops[g]?).bind (·.dst) with
  | none => simp
  | some d =>
    have hr := hR.tmps d
    simp only [Option.bind_some]
    constructor
    · intro b hb
      rw [hb] at hr
      have := hr.inv_bool
      rw [Array.getD_eq_getD_getElem?] at this
      cases hq : a.tmps[d]? with
      | none => rw [hq] at this; cases this
      | some v =>
        rw [hq] at this
        simp only [Option.getD_some] at this
        subst this
        rfl
    · intro hb
      rw [hb] at hr
      have := hr.inv_skip
      rw [Array.getD_eq_getD_getElem?] at this
      cases hq : a.tmps[d]? with
      | none => rfl
      | some v =>
        rw [hq] at this
        simp only [Option.getD_some] at this
        subst this
        rfl

/-- a step, in a real world -/
theorem step_sound (hS : Sound P Γ) (hR : Rel P n w0 own st G a w) (hd : ∀ d, o.dst = some d → d < n) (h : StepF Γ P ops o st ft st') {K : Act → World → Prop} {Q : Exit → Act → World → Prop} (hK : ∀ G' a' w', Rel P n w0 own st' G' a' w' → K a' w') :
    (Region.wanted o (yielded ops a.tmps) = true ∧ o.wp P a w K Q) ∨ (Region.wanted o (yielded ops a.tmps) = false ∧ K (a.put o.dst undef) w) := by
  cases h with
  | run _ E hg he ho =>
    left
    refine ⟨?_, eff_sound hS hR hd he ho (fun G' v w' h => hK G' _ w' h)⟩
    unfold Region.wanted
    rcases hg with hg | ⟨g, want, hg, hb⟩
    · rw [hg]
    · rw [hg]
      simp only
      rw [(guard_real hR).1 _ hb]
      simp
  | skip hg =>
    right
    obtain ⟨g, want, hg, hb⟩ := hg
    refine ⟨?_, hK G _ w (hR.skip hd)⟩
    unfold Region.wanted
    rw [hg]
    simp only
    rcases hb with hb | hb
    · rw [(guard_real hR).1 _ hb]
      cases want <;> rfl
    · rw [(guard_real hR).2 hb]
      rfl

def dstsOK (n : Nat) (l : List Oper) : Bool := l.all fun o => match o.dst with | some d => decide (d < n) | none => true
theorem dstsOK_get {l : List Oper} (h : dstsOK n l = true) (ho : o ∈ l) : ∀ d, o.dst = some d → d < n := by
  intro d hd
  unfold dstsOK at h
  rw [List.all_eq_true] at h
  have := h o ho
  rw [hd] at this
  simpa using this

theorem run_list (hS : Sound P Γ) {Q : Exit → Act → World → Prop} : ∀ (l : List Oper) (st : St) (G : Gh) (a : Act) (w : World) (fs : List Foot) (st' : St), dstsOK n l = true → Rel P n w0 own st G a w → RunF Γ P ops l st fs st' →
    (∀ G' a' w', Rel P n w0 own st' G' a' w' → Q .normal a' w') → wpList P ops Q l a w
  | [], st, G, a, w, fs, st', _, hR, h, hQ => by
    cases h
    exact hQ G a w hR
  | o :: l, st, G, a, w, fs, st', hd, hR, h, hQ => by
    cases h with
    | cons h1 h2 =>
      have hd1 := dstsOK_get hd (o := o) (by simp)
      have hd2 : dstsOK n l = true := by
        unfold dstsOK at hd ⊢
        simp only [List.all_cons, Bool.and_eq_true] at hd
        exact hd.2
      have := step_sound hS hR hd1 h1 (K := wpList P ops Q l) (Q := Q) (fun G' a' w' hR' => run_list hS l _ G' a' w' _ st' hd2 hR' h2 hQ)
      unfold wpList
      rcases this with ⟨h3, h4⟩ | ⟨h3, h4⟩
      · rw [if_pos h3]; exact .inl h4
      · rw [if_neg (by rw [h3]; simp)]; exact h4

theorem Kp.drew : Kp P st G w st G w.drew := ⟨fun _ _ _ h1 h2 => ⟨h1, h2⟩, fun s cs h => ⟨⟨cs, h⟩, rfl⟩, fun a b h => ⟨h, fun tip h' => ⟨tip, h', rfl, Nat.le_refl _, fun _ => rfl⟩⟩⟩
theorem Rel.drew (hR : Rel P n w0 own st G a w) : Rel P n w0 own st G a w.drew := by
  refine ⟨hR.size, hR.defers, fun t => (hR.tmps t).keep Kp.drew, ⟨fun s cs h => ?_, hR.mem.inj, fun x y tip h => ?_, hR.mem.rinj, hR.mem.brow⟩, ⟨hR.pres.os, hR.pres.tape, hR.pres.output, hR.pres.size, hR.pres.block, hR.pres.cell⟩, hR.obox, hR.orow, hR.bad, hR.rbad, hR.pin, hR.same⟩
  · obtain ⟨us, t, h1, h2, h3⟩ := hR.mem.box s cs h
    exact ⟨us, t, h1, h2, fun i c hc => by obtain ⟨h4, u, h5, h6⟩ := h3 i c hc; exact ⟨h4, u, h5, h6.keep Kp.drew⟩⟩
  · obtain ⟨h1, us, h2⟩ := hR.mem.row x y tip h
    exact ⟨h1, us, h2⟩

/-- a region in the text's order -/
theorem region_text (hS : Sound P Γ) {Q : Exit → Act → World → Prop} {id : Nat} {fs : List Foot} (hd : dstsOK n ops.toList = true) (hR : Rel P n w0 own st G a w) (h : RunF Γ P ops ops.toList st fs st')
    (hQ : ∀ G' a' w', Rel P n w0 own st' G' a' w' → Q .normal a' w') : (Code.region id ops false).wp P Q a w :=
  wp_region_list (run_list hS _ st G a w fs st' hd hR h hQ)
end
end Go.Proofs.Ytnhfjdbnkpbbkab
