/- One operation, whatever it is: a real world does what its reading by content says. -/
import Derived.Test.YtnhfjdbnkpbbkabLaxU
namespace Go.Proofs.Ytnhfjdbnkpbbkab
set_option linter.unusedVariables false
set_option linter.unusedSimpArgs false
open Go.RowKit

section
variable {P : Program} {n : Nat} {w0 : World} {own own' : OwnP} {st st' stX : St} {G G' GX GE : Gh} {a : Act} {w w' : World} {o : Oper} {Γ : Nat → Option Con}
  {K : Act → World → Prop} {Q : Exit → Act → World → Prop}

theorem wp_call_av (hS : Sound P Γ) (hR : Rel P n w0 own st G a w) {c : Call} {fo : Operand} {f : Nat} {d : Tmp} (ho : o.op = .call c) (hc : c.callee = .value fo) (hf : st.ev fo = .fn f []) (hdst : o.dst = some d) (hd : d < n) {ft : Foot} {E : Eff}
    (he : effCall Γ d f (c.args.toList.map st.ev) st = some (ft, E)) (hobl : E.obl) (hK : ∀ G' v w', Rel P n w0 own (E.app o.dst st) G' (a.put o.dst v) w' → K (a.put o.dst v) w') : o.wp P a w K Q := by
  unfold effCall at he
  split at he
  · rename_i F p hF hp
    split at he
    · rename_i q r hr
      simp only at he
      split at he
      · rename_i hcond
        obtain ⟨hs, hfree, hdn⟩ := hcond
        have hE : E = callEff p q d r := by
          simp only [Option.some.injEq, Prod.mk.injEq] at he
          exact he.2.symm
        subst hE
        obtain ⟨ho1, ho2⟩ := hobl
        have hM := hS f F hF
        have hdn' : st.boxes d = none := by simpa using hdn
        obtain ⟨N, GE, own', hin⟩ := hand_in hR (us := c.args.map a.eval) (by simp) (fun i v hv => by
          simp only [List.getElem?_map, Option.map_eq_some_iff] at hv
          obtain ⟨x, hx, rfl⟩ := hv
          have : (c.args.map a.eval).getD i undef = a.eval x := by
            have h1 : c.args[i]? = some x := by simpa using hx
            simp [Array.getD_eq_getD_getElem?, h1]
          rw [this]
          exact hR.ev x) hp ho1
        have hcalls := hM.calls p.args (c.args.map a.eval) w GE own' d p.site q r hr ho2 hin.came hs (fun i s h => by
          obtain ⟨_, ⟨cs, h1⟩, h2⟩ := hin.site i s h
          exact ⟨(by rintro rfl; rw [hdn'] at h1; cases h1), h2⟩)
        have hfv : a.eval fo = .func (.func f) #[] #[] := by
          have := hR.ev fo
          rw [hf] at this
          exact this.inv_fn
        have run : (execOp a.eval o).run P w = .ok (.enter f (c.args.map a.eval)) w := by
          simp [execOp, ho, resolve, hc, hfv, Deferred.ofValue, invoke, hM.enters]
        unfold Oper.wp
        rw [run, Oper.upon_enter]
        refine hcalls.mono ?_
        rintro e w' ⟨GX, v, rfl, hback⟩
        obtain ⟨G', hR'⟩ := hand_back (q := q) hR hin hback hs hfree hdn' hd
        have := hK G' v w' (by rw [hdst]; exact hR')
        exact this
      · cases he
    · cases he
  · cases he

theorem wp_pure (hR : Rel P n w0 own st G a w) (hd : ∀ d, o.dst = some d → d < n) {p : Prop} {x : AV} (h : PureOK P st G w o a x) (hK : ∀ G' v w', Rel P n w0 own ((⟨p, x, [], []⟩ : Eff).app o.dst st) G' (a.put o.dst v) w' → K (a.put o.dst v) w') : o.wp P a w K Q := by
  obtain ⟨v, h1, h2⟩ := h
  exact wp_value h1 (hK G v w (hR.pure hd h2))

theorem pureE_some {x : AV} {r : Foot × Eff} (h : pureE x = some r) : r.2 = ⟨True, x, [], []⟩ := by cases h; rfl
theorem oblE_some {p : Prop} {x : AV} {r : Foot × Eff} (h : oblE p x = some r) : r.2 = ⟨p, x, [], []⟩ := by cases h; rfl

theorem builtin_sound (hR : Rel P n w0 own st G a w) (hd : ∀ d, o.dst = some d → d < n) {c : Call} {b : Builtin} {d : Tmp} (ho : o.op = .call c) (hc : c.callee = .builtin b) (hdst : o.dst = some d) {ft : Foot} {E : Eff} (he : effBuiltin P d b c.argTypes (c.args.toList.map st.ev) st = some (ft, E)) (hobl : E.obl)
    (hK : ∀ G' v w', Rel P n w0 own (E.app o.dst st) G' (a.put o.dst v) w' → K (a.put o.dst v) w') : o.wp P a w K Q := by
  unfold effBuiltin at he
  split at he
  · -- len
    rename_i v hv
    split at he
    · rename_i t ht
      simp only [Option.bind_eq_some_iff] at he
      obtain ⟨x, h1, h2⟩ := he
      have hE := pureE_some h2
      simp only at hE
      subst hE
      obtain ⟨y, hy, rfl⟩ : ∃ y, c.args.toList = [y] ∧ st.ev y = v := by
        cases hq : c.args.toList with
        | nil => rw [hq] at hv; simp at hv
        | cons y ys => rw [hq] at hv; simp at hv; exact ⟨y, by rw [hv.2], hv.1⟩
      exact wp_pure hR hd (pure_len hR ho hc hy ht h1) hK
    · cases he
  · rename_i v r hv
    simp only [Option.bind_eq_some_iff] at he
    obtain ⟨x, h1, h2⟩ := he
    have hE := pureE_some h2
    simp only at hE
    subst hE
    exact wp_pure hR hd (pure_max hR ho hc hv h1) hK
  · rename_i v r hv
    simp only [Option.bind_eq_some_iff] at he
    obtain ⟨x, h1, h2⟩ := he
    have hE := pureE_some h2
    simp only at hE
    subst hE
    exact wp_pure hR hd (pure_min hR ho hc hv h1) hK
  · -- append
    rename_i xs ow y hv
    split at he
    · rename_i t u hts
      obtain ⟨x1, x2, hargs, hx1, rfl⟩ : ∃ x1 x2, c.args.toList = [x1, x2] ∧ st.ev x1 = .sl xs ow ∧ st.ev x2 = y := by
        cases hq : c.args.toList with
        | nil => rw [hq] at hv; simp at hv
        | cons y1 ys =>
          cases ys with
          | nil => rw [hq] at hv; simp at hv
          | cons y2 zs => rw [hq] at hv; simp at hv; exact ⟨y1, y2, by rw [hv.2.2], hv.1, hv.2.1⟩
      unfold effAppend at he
      split at he
      · rename_i e ht
        split at he
        · rename_i ys hsrc
          split at he
          · rename_i hcond
            obtain ⟨c1, c2, c3, c4, c5⟩ := hcond
            split at he
            · split at he
              · rename_i hfr
                simp only [Option.some.injEq, Prod.mk.injEq] at he
                obtain ⟨_, rfl⟩ := he
                obtain ⟨o1, o2, o3⟩ := hobl
                have hx0 : xs = [] := by
                  have := hR.ev x1; rw [hx1] at this; exact (this : Rep1 P st G w (.sl xs .nil) _).1
                subst hx0
                refine wp_append_av (nm := (d, 0)) hR ho hc hargs hts hdst (hd d hdst) ht hx1 hsrc c1 c2 c3 c4 c5 o3 (by simp) (by simpa using o1) (by simpa using o2) (.inl ⟨rfl, rfl, hfr⟩) (p := True) ?_
                intro G' v w' hR'
                have e0 : ([] : List AV).length + ys.length = ys.length := by simp
                rw [e0] at hR'
                have := hK G' v w' (by rw [hdst]; exact hR')
                rw [hdst] at this
                exact this
              · cases he
            · rename_i p1 p2 e'
              split at he
              · rename_i tip hlv
                split at he
                · rename_i hee
                  subst hee
                  simp only [Option.some.injEq, Prod.mk.injEq] at he
                  obtain ⟨_, rfl⟩ := he
                  obtain ⟨o1, o2, o3, o4, o5⟩ := hobl
                  subst o1
                  refine wp_append_av (nm := (p1, p2)) hR ho hc hargs hts hdst (hd d hdst) ht hx1 hsrc c1 c2 c3 c4 c5 o5 o4 o2 o3 (.inr ⟨rfl, hlv⟩) (p := True) ?_
                  intro G' v w' hR'
                  have := hK G' v w' (by rw [hdst]; exact hR')
                  rw [hdst] at this
                  exact this
                · cases he
              · cases he
            · cases he
          · cases he
        · cases he
      · cases he
    · cases he
  · cases he

theorem eff_sound (hS : Sound P Γ) (hR : Rel P n w0 own st G a w) (hd : ∀ d, o.dst = some d → d < n) {ft : Foot} {E : Eff} (he : eff Γ P o st = some (ft, E)) (hobl : E.obl)
    (hK : ∀ G' v w', Rel P n w0 own (E.app o.dst st) G' (a.put o.dst v) w' → K (a.put o.dst v) w') : o.wp P a w K Q := by
  have pureC : ∀ {x : AV} {r : Foot × Eff}, pureE x = some r → r = (ft, E) → PureOK P st G w o a x → o.wp P a w K Q := by
    intro x r h1 h2 h3
    have := pureE_some h1
    rw [h2] at this
    simp only at this
    subst this
    exact wp_pure hR hd h3 hK
  have oblC : ∀ {p : Prop} {x : AV}, oblE p x = some (ft, E) → (p → PureOK P st G w o a x) → o.wp P a w K Q := by
    intro p x h1 h3
    have := oblE_some h1
    simp only at this
    subst this
    exact wp_pure hR hd (h3 hobl) hK
  unfold eff at he
  simp only at he
  split at he
  · rename_i x hop
    exact pureC he rfl (pure_move hR hop)
  · rename_i x hop
    exact pureC he rfl (pure_assign hR hop)
  · -- pick
    rename_i c x y hop
    split at he
    · rename_i b hb
      have hp := pure_pick hR hop hb
      rw [pickAV_eq] at hp
      split at he
      · exact oblC he (fun h => by rw [h] at hp; exact hp)
      · exact oblC he (fun h => by rw [h] at hp; exact hp)
      · exact pureC he rfl (pure_pick hR hop hb)
    · cases he
  · -- alloc
    rename_i e hop
    split at he
    · rename_i d z hdst hz
      split at he
      · rename_i hc
        simp only [Option.some.injEq, Prod.mk.injEq] at he
        obtain ⟨_, rfl⟩ := he
        refine wp_alloc_av hR hop hdst (hd d hdst) hz hc.2.1 hc.2.2 (p := True) ?_
        intro G' v w' hR'
        have := hK G' v w' (by rw [hdst]; exact hR')
        rw [hdst] at this
        exact this
      · cases he
    · cases he
  · -- box
    rename_i e x hop
    split at he
    · rename_i d hdst
      split at he
      · rename_i hc
        simp only [Option.some.injEq, Prod.mk.injEq] at he
        obtain ⟨_, rfl⟩ := he
        refine wp_box_av hR hop hdst (hd d hdst) hc.1 hc.2 (p := True) ?_
        intro G' v w' hR'
        have := hK G' v w' (by rw [hdst]; exact hR')
        rw [hdst] at this
        exact this
      · cases he
    · cases he
  · -- build
    rename_i t parts hop
    split at he
    · rename_i fs z ht hz
      split at he
      · rename_i cs hf
        split at he
        · rename_i hc
          exact pureC he rfl (pure_build hR hop ht hz hf hc.2.1 hc.2.2.1 hc.2.2.2 hc.1)
        · cases he
      · cases he
    · rename_i m e z ht hz
      split at he
      · rename_i cs hf
        split at he
        · rename_i hc
          exact pureC he rfl (pure_buildArr hR hop ht hz hf hc.2.2.1 hc.2.2.2 hc.1)
        · cases he
      · cases he
    · cases he
  · -- load
    rename_i t x hop
    split at he
    · rename_i s off hx
      split at he
      · rename_i cs hb
        split at he
        · rename_i hc
          simp only [Option.some.injEq, Prod.mk.injEq] at he
          obtain ⟨_, rfl⟩ := he
          have hle := of_decide_eq_true hobl
          have e1 := subAV_eq cs off (tsize P t) hle
          have e2 : tagg P t = true ∨ pickFrom 0 cs off = cellAt cs off := by
            rcases hc.2 with h | h
            · exact .inl h
            · exact .inr (by rw [pickFrom_eq cs 0 off (Nat.zero_le _) (by omega), Nat.sub_zero])
          have e3 : (if tagg P t = true then AV.agg (subAV cs off (tsize P t)) else pickFrom 0 cs off) = (if tagg P t = true then .agg ((cs.drop off).take (tsize P t)) else cellAt cs off) := by
            by_cases hg : tagg P t = true
            · rw [if_pos hg, if_pos hg, e1]
            · rw [if_neg hg, if_neg hg, e2.resolve_left hg]
          refine wp_pure hR hd (p := decide (off + tsize P t ≤ cs.length) = true) (pure_loadPtr hR hop hx hb hle hc.1 hc.2) ?_
          rw [← e3]; exact hK
        · cases he
      · cases he
    · rename_i y j hx
      split at he
      · rename_i hc
        exact oblC he (fun hp => pure_loadEptr hR hop hx hc.1 hc.2.1 hc.2.2 hp)
      · cases he
    · cases he
  · -- store
    rename_i t x y hop
    split at he
    · rename_i s off hx
      split at he
      · rename_i cs hb
        split at he
        · rename_i hc
          simp only [Option.some.injEq, Prod.mk.injEq] at he
          obtain ⟨_, rfl⟩ := he
          have hle := of_decide_eq_true hobl
          have e1 := splice_eq cs off (st.ev y).cells (by rw [hc.1]; exact hle)
          rw [e1] at hK
          exact wp_store_av hR hop hd hx hb hc.1 hc.2.1 hle hc.2.2 (p := decide (off + tsize P t ≤ cs.length) = true) (fun G' w' hR' => hK G' undef w' hR')
        · cases he
      · cases he
    · cases he
  · -- nilCheck
    rename_i x hop
    split at he
    · rename_i s off hx
      exact pureC he rfl (pure_nilCheck hR hop hx (.inl ⟨_, _, rfl⟩))
    · rename_i y j hx
      exact pureC he rfl (pure_nilCheck hR hop hx (.inr ⟨_, _, rfl⟩))
    · cases he
  · -- binOp
    rename_i op xT x y yT hop
    split at he
    · rename_i p v hb
      exact oblC he (fun hp => pure_bin hR hop hb hp)
    · cases he
  · -- unOp
    rename_i op xT x hop
    split at he
    · rename_i p v hb
      exact oblC he (fun _ => pure_un hR hop hb)
    · cases he
  · -- convert
    rename_i s t x hop
    split at he
    · rename_i d k k' i hs ht hx
      exact pureC he rfl (pure_convInt hR hop hs ht hx)
    · rename_i l hs ht hx
      exact pureC he rfl (pure_convStr hR hop hs ht hx)
    · cases he
  · -- slice
    rename_i t x lo hi mx hop
    split at he
    · rename_i l ht hx
      split at he
      · split at he
        · rename_i p i j hb
          exact oblC he (fun hp => pure_sliceStr hR hop ht hx hb hp)
        · cases he
      · cases he
    · rename_i e xs ow ht hx
      split at he
      · cases he
      · rename_i hn
        split at he
        · rename_i p i j hb
          exact oblC he (fun hp => pure_slice hR hop ht hx hb hp.1 hp.2 (by cases h : P.underlying e <;> simp_all))
        · cases he
    · cases he
  · -- fieldAddr
    rename_i t x f hop
    split at he
    · rename_i fs ht
      split at he
      · rename_i fd hf
        split at he
        · cases he
        · rename_i h0
          split at he
          · rename_i s off hx
            exact pureC he rfl (pure_fieldAddr hR hop ht hf h0 hx (.inl ⟨_, _, rfl, rfl⟩))
          · rename_i y j hx
            exact pureC he rfl (pure_fieldAddr hR hop ht hf h0 hx (.inr ⟨_, _, rfl, rfl⟩))
          · cases he
      · cases he
    · cases he
  · -- field
    rename_i t x f hop
    split at he
    · rename_i fs ht
      split at he
      · rename_i fd cs hf hx
        split at he
        · rename_i hc
          exact pureC he rfl (pure_field hR hop ht hf hx hc.1 hc.2.1 hc.2.2)
        · cases he
      · cases he
    · cases he
  · -- indexAddr
    rename_i t x i hop
    split at he
    · rename_i m e s off k j ht hx hi
      split at he
      · cases he
      · exact oblC he (fun hp => pure_indexPtr hR hop ht hx hi hp.1 hp.2 (by cases h : P.underlying e <;> simp_all))
    · rename_i m e y q k j ht hx hi
      split at he
      · cases he
      · exact oblC he (fun hp => pure_indexEptr hR hop ht hx hi hp.1 hp.2 (by cases h : P.underlying e <;> simp_all))
    · rename_i e xs ow k j ht hx hi
      split at he
      · cases he
      · exact oblC he (fun hp => pure_indexSl hR hop ht hx hi hp.1 hp.2.1 hp.2.2 (by cases h : P.underlying e <;> simp_all))
    · cases he
  · -- index
    rename_i t x i hop
    split at he
    · rename_i l k j ht hx hi
      exact oblC he (fun hp => pure_index hR hop ht hx hi hp.1 hp.2)
    · rename_i m e cs k j ht hx hi
      split at he
      · rename_i hc
        exact oblC he (fun hp => pure_indexArr hR hop ht hx hi hp.1 hp.2.1 hp.2.2 hc.1 hc.2)
      · cases he
    · cases he
  · -- extract
    rename_i x i hop
    split at he
    · rename_i vs hx
      split at he
      · rename_i v hv
        exact pureC he rfl (pure_extract hR hop hx hv)
      · cases he
    · cases he
  · -- buildSlice
    rename_i t len parts hop
    split at he
    · rename_i d e hdst ht
      split at he
      · rename_i z hz hfr
        split at he
        · rename_i hc
          simp only [Option.some.injEq, Prod.mk.injEq] at he
          obtain ⟨_, rfl⟩ := he
          obtain ⟨c1, c2, c3, c4, c5, c6, c7⟩ := hc
          refine wp_buildSlice_av hR hop hdst (hd d hdst) ht hz hfr c1 c2 c3 c4 c5 c6 c7 (p := True) ?_
          intro G' v w' hR'
          have := hK G' v w' (by rw [hdst]; exact hR')
          rw [hdst] at this
          exact this
        · cases he
      · cases he
    · cases he
  · -- call
    rename_i c hop
    split at he
    · rename_i d b hdst hc
      exact builtin_sound hR hd hop hc hdst he hobl hK
    · rename_i d f hdst hc
      split at he
      · rename_i f' hf
        exact wp_call_av hS hR hop hc hf hdst (hd d hdst) he hobl hK
      · cases he
    · cases he
  · cases he
end
end Go.Proofs.Ytnhfjdbnkpbbkab
