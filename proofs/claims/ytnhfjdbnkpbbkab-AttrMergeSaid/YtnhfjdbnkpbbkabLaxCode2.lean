/- The verification condition of code holds of the real run. -/
import Derived.Test.YtnhfjdbnkpbbkabLaxCode
import Derived.Deep.LoopGhost
namespace Go.Proofs.Ytnhfjdbnkpbbkab
set_option linter.unusedVariables false
set_option linter.unusedSimpArgs false
open Go.RowKit

def Ex.real : Ex → Exit
  | .normal => .normal
  | .exit i => .exit i
  | .ret => .ret

section
variable {P : Program} {n : Nat} {w0 : World} {own own' : OwnP} {st st' : St} {G G' : Gh} {a : Act} {w w' : World} {Γ : Nat → Option Con}

theorem awp_sound {pins : List Nat} {L : Nat → Option LoopInv} (hpin : ∀ s b, own.pin s = some b → s ∈ pins) (hS : Sound P Γ) (hmx : P.follows .mixedOrders = true) : ∀ (c : Code) (cur : Nat) (st : St) (G : Gh) (a : Act) (w : World) (Q : Ex → St → Prop) (R : Exit → Act → World → Prop),
    awp pins L Γ P n cur c st Q → Rel P n w0 own st G a w → (∀ e s G a w, Q e s → Rel P n w0 own s G a w → R e.real a w) → c.wp P R a w := by
  intro c
  induction c with
  | skip => exact fun cur st G a w Q R h hR hQ => wp_skip (hQ .normal st G a w h hR)
  | label l => exact fun cur st G a w Q R h hR hQ => wp_label (hQ .normal st G a w h hR)
  | ret => exact fun cur st G a w Q R h hR hQ => wp_ret (hQ .ret st G a w h hR)
  | exit id => exact fun cur st G a w Q R h hR hQ => wp_exit (hQ (.exit id) st G a w h hR)
  | region id ops draw =>
    intro cur st G a w Q R h hR hQ
    obtain ⟨hd, h⟩ := h
    obtain ⟨fs, st', h1, h2⟩ := runK_run _ _ _ _ h
    rw [List.nil_append] at h2
    cases draw with
    | false => exact region_text hS hd hR h1 fun G' a' w' hR' => hQ .normal _ _ _ _ h2 hR'
    | true => exact region_draw hS hmx hd hR h1 h2.1 fun G' a' w' hR' => hQ .normal _ _ _ _ h2.2 hR'
  | seq x y ihx ihy =>
    intro cur st G a w Q R h hR hQ
    refine wp_seq (ihx cur st G a w _ _ h hR ?_)
    intro e s G a w hq hR'
    cases e with
    | normal => exact ihy cur s G a w Q R hq hR' hQ
    | exit i => exact hQ (.exit i) s G a w hq hR'
    | ret => exact hQ .ret s G a w hq hR'
  | cond c x y ihx ihy =>
    intro cur st G a w Q R h hR hQ
    have hc := hR.ev c
    simp only [awp, evCond] at h
    split at h
    · rename_i b hb
      rw [hb] at hc
      have hc' := hc.inv_bool
      cases b with
      | true => exact wp_cond_true hc' (ihx cur st G a w Q R h hR hQ)
      | false => exact wp_cond_false hc' (ihy cur st G a w Q R h hR hQ)
    · exact h.elim
  | block id b ih =>
    intro cur st G a w Q R h hR hQ
    refine wp_block (ih id st G a w _ _ h hR ?_)
    intro e s G a w hq hR'
    cases e with
    | normal => exact hQ .normal s G a w hq hR'
    | exit i =>
      by_cases hi : i = id
      · simp only [hi, decide_true] at hq
        simp only [Ex.real, Exit.inBlock, hi, if_true]
        exact hQ .normal s G a w hq hR'
      · simp only [hi, decide_false] at hq
        simp only [Ex.real, Exit.inBlock, hi, if_false]
        exact hQ (.exit i) s G a w hq hR'
    | ret => exact hQ .ret s G a w hq hR'
  | loop b ih =>
    intro cur st G a w Q R h hR hQ
    simp only [awp] at h
    split at h
    · exact h.elim
    rename_i J hJ
    obtain ⟨⟨v0, hl, hI⟩, hstep⟩ := h
    refine wp_loop_ghost (fun k a w => ∃ v G, J.inv v ∧ J.mu v = k ∧ Rel P n w0 own (mkSt (J.T v) (J.B v) (J.R v)) G a w) (J.mu v0) ⟨_, G, hI, rfl, hR.less hpin hl⟩ ?_
    rintro k a w ⟨v, G, hI, rfl, hR⟩
    refine ih cur _ G a w _ _ (hstep v hI) hR ?_
    intro e s' G a w hq hR'
    cases e with
    | normal =>
      obtain ⟨v', hl', hI', hm⟩ := hq
      exact ⟨_, hm, v', G, hI', rfl, hR'.less hpin hl'⟩
    | exit i => exact hQ (.exit i) s' G a w hq hR'
    | ret => exact hQ .ret s' G a w hq hR'
  | _ => intro cur st G a w Q R h; exact h.elim
end
end Go.Proofs.Ytnhfjdbnkpbbkab
