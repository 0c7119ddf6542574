/- Boxes made and written: the frame's state follows. -/
import Derived.Test.YtnhfjdbnkpbbkabLaxL
namespace Go.Proofs.Ytnhfjdbnkpbbkab
set_option linter.unusedVariables false
set_option linter.unusedSimpArgs false
open Go.RowKit

section
variable {P : Program} {n : Nat} {w0 : World} {own : OwnP} {st st' : St} {G G' : Gh} {a : Act} {w w' : World} {o : Oper}

theorem Rel.setBox (hR : Rel P n w0 own st G a w) {dst : Option Tmp} (hd : ∀ d, dst = some d → d < n) {s : Nat} {cs cs' : List AV} {us : List Value} (hb : st.boxes s = some cs) (hr : RL P st G w cs' us) (hl : cs'.length = cs.length) {p : Prop} :
    Rel P n w0 own ((⟨p, .skip, [(s, cs')], []⟩ : Eff).app dst st) G (a.put dst undef) (w.setRow (G.bx s) us.toArray) := by
  obtain ⟨vs, t, h1, h2, h3⟩ := hR.mem.box s cs hb
  have hlt : G.bx s < w.heap.size := (Array.getElem?_eq_some_iff.1 h1).1
  have hnew : ∀ s', ((⟨p, .skip, [(s, cs')], []⟩ : Eff).app dst st).boxes s' = if s' = s then some cs' else st.boxes s' := by
    intro s'
    simp only [Eff.app, updAll, upd]
    by_cases h : s' = s
    · simp [h]
    · have hb : (s' == s) = false := by simpa using h
      simp [h, hb]
  have hlive : ∀ s' c, ((⟨p, .skip, [(s, cs')], []⟩ : Eff).app dst st).boxes s' = some c → ∃ c', st.boxes s' = some c' := by
    intro s' c h
    rw [hnew] at h
    split at h
    · rename_i e; subst e; exact ⟨cs, hb⟩
    · exact ⟨c, h⟩
  have hg : w.grownBy (w.setRow (G.bx s) us.toArray) (some (G.bx s)) := ⟨rfl, rfl, rfl, by simp, fun k hk hne => setRow_other w _ k _ (fun e => hne (by rw [e]))⟩
  have hk : Kp P st G w ((⟨p, .skip, [(s, cs')], []⟩ : Eff).app dst st) G (w.setRow (G.bx s) us.toArray) := by
    refine ⟨?_, ?_, ?_⟩
    · intro b o u ⟨s0, s1, s2⟩ hc
      refine ⟨⟨s0, ?_, s2⟩, ?_⟩
      · intro s' c hs
        obtain ⟨c', hc'⟩ := hlive s' c hs
        exact s1 s' c' hc'
      · rw [cell_setRow_other w _ _ _ (fun e => s1 s cs hb e.symm)]; exact hc
    · intro s' c hs
      refine ⟨?_, rfl⟩
      rw [hnew]
      split
      · exact ⟨_, rfl⟩
      · exact ⟨c, hs⟩
    · intro x y h
      exact ⟨h, fun tip h' => ⟨tip, h', rfl, Nat.le_refl _, fun _ => rfl⟩⟩
  refine hR.step hd hk (fun _ => rep_skip) ?_ ?_ ?_ ?_ rfl hR.rbad
  · refine ⟨?_, ?_, ?_, hR.mem.rinj, ?_⟩
    · intro s' c hs
      rw [hnew] at hs
      split at hs
      · rename_i e; subst e; cases hs
        refine ⟨us.toArray, t, setRow_heap w _ vs _ t (0, 0) h1, by simpa using hr.1, fun i c hc => ?_⟩
        obtain ⟨h4, u, h5, h6⟩ := hr.2 i c hc
        exact ⟨h4, u, by simpa using h5, h6.keep hk⟩
      · rename_i hne
        obtain ⟨vs', t', h4, h5, h6⟩ := hR.mem.box s' c hs
        have hbne : G.bx s' ≠ G.bx s := fun e => hne (hR.mem.inj s' c s cs hs hb e)
        refine ⟨vs', t', by rw [setRow_other w _ _ _ hbne]; exact h4, h5, fun i q hq => ?_⟩
        obtain ⟨h7, u, h8, h9⟩ := h6 i q hq
        exact ⟨h7, u, h8, h9.keep hk⟩
    · intro s1 c1 s2 c2 q1 q2 he
      obtain ⟨c1', q1'⟩ := hlive s1 c1 q1
      obtain ⟨c2', q2'⟩ := hlive s2 c2 q2
      exact hR.mem.inj s1 c1' s2 c2' q1' q2' he
    · intro x y tip h
      obtain ⟨h4, vs', h5⟩ := hR.mem.row x y tip h
      refine ⟨h4, vs', h5.kept hg (.inr ?_)⟩
      exact hR.mem.brow s cs x y tip hb h
    · intro s1 c1 x y tip q1 h
      obtain ⟨c1', q1'⟩ := hlive s1 c1 q1
      exact hR.mem.brow s1 c1' x y tip q1' h
  · have hp := hR.pres
    refine ⟨hp.os, hp.tape, hp.output, by simpa using hp.size, fun b hb' ho => ?_, fun b t hb' ho q u hq hc => ?_⟩
    · have hne : b ≠ G.bx s := by
        rintro rfl
        rcases hR.obox s cs hb with h | h
        · omega
        · rw [ho] at h; cases h
      rw [setRow_other w _ _ _ hne]
      exact hp.block b hb' ho
    · have hne : b ≠ G.bx s := by
        rintro rfl
        rcases hR.obox s cs hb with h | h
        · omega
        · rw [ho] at h; cases h; omega
      rw [cell_setRow_other w _ _ _ hne]
      exact hp.cell b t hb' ho q u hq hc
  · intro s' c hs
    obtain ⟨c', hc'⟩ := hlive s' c hs
    exact hR.obox s' c' hc'
  · exact hR.orow

theorem zero_real {e : TypeId} {z : AV} (h : zeroAV P e = some z) : ∃ zv, (zeroValue e).run P w = .ok zv w ∧ z = ofVal zv ∧ (P.info? e).bind (·.zero) = some zv := by
  unfold zeroAV at h
  cases hi : P.info? e with
  | none => rw [hi] at h; cases h
  | some i =>
    rw [hi] at h
    simp only [Option.map_eq_some_iff] at h
    obtain ⟨zv, h1, rfl⟩ := h
    exact ⟨zv, by simp [zeroValue, typeInfo, hi, h1], rfl, by simp [h1]⟩

variable {K : Act → World → Prop} {Q : Exit → Act → World → Prop}

theorem wp_alloc_av {e : TypeId} {d : Tmp} {z : AV} (hR : Rel P n w0 own st G a w) (ho : o.op = .alloc e) (hdst : o.dst = some d) (hd : d < n) (hz : zeroAV P e = some z) (h1 : allOne z.cells = true) (hf : (st.boxes d).isNone = true) {p : Prop}
    (hK : ∀ G' v w', Rel P n w0 own ((⟨p, .ptr d 0, [(d, z.cells)], []⟩ : Eff).app (some d) st) G' (a.put (some d) v) w' → K (a.put (some d) v) w') : o.wp P a w K Q := by
  obtain ⟨zv, h2, rfl, _⟩ := zero_real (P := P) (w := w) hz
  obtain ⟨rl, _⟩ := (rep_ofVal (P := P) (st := st) (G := G) (w := w) zv).rl h1
  obtain ⟨G', hR'⟩ := hR.newBox hd e rl.1 (by simpa using hf) rl.2 (p := p)
  have run : (execOp a.eval o).run P w = .ok (.value (.pointer (some ⟨w.heap.size, 0, none⟩))) (w.alloc (.cells zv.cells e)) := by
    simp [execOp, ho, Instr.alloc, h2, newVar, newRow]
  refine wp_value run ?_
  rw [hdst]
  have := hK G' _ _ hR'
  simpa using this

theorem wp_box_av {e : TypeId} {d : Tmp} {x : Operand} (hR : Rel P n w0 own st G a w) (ho : o.op = .box e x) (hdst : o.dst = some d) (hd : d < n) (h1 : allOne (st.ev x).cells = true) (hf : (st.boxes d).isNone = true) {p : Prop}
    (hK : ∀ G' v w', Rel P n w0 own ((⟨p, .ptr d 0, [(d, (st.ev x).cells)], []⟩ : Eff).app (some d) st) G' (a.put (some d) v) w' → K (a.put (some d) v) w') : o.wp P a w K Q := by
  obtain ⟨rl, _⟩ := (hR.ev x).rl h1
  obtain ⟨G', hR'⟩ := hR.newBox hd e rl.1 (by simpa using hf) rl.2 (p := p)
  have run : (execOp a.eval o).run P w = .ok (.value (.pointer (some ⟨w.heap.size, 0, none⟩))) (w.alloc (.cells (a.eval x).cells e)) := by
    simp [execOp, ho, Instr.box, newVar, newRow]
  refine wp_value run ?_
  rw [hdst]
  have := hK G' _ _ hR'
  simpa using this

theorem wp_store_av {t : TypeId} {x y : Operand} {s off : Nat} {cs : List AV} (hR : Rel P n w0 own st G a w) (ho : o.op = .store t x y) (hd : ∀ d, o.dst = some d → d < n) (hx : st.ev x = .ptr s off) (hb : st.boxes s = some cs)
    (hl : (st.ev y).cells.length = tsize P t) (h1 : allOne (st.ev y).cells = true) (hfit : off + tsize P t ≤ cs.length) (h0 : tsize P t ≠ 0) {p : Prop}
    (hK : ∀ G' w', Rel P n w0 own ((⟨p, .skip, [(s, spliceL cs off (st.ev y).cells)], []⟩ : Eff).app o.dst st) G' (a.put o.dst undef) w' → K (a.put o.dst undef) w') : o.wp P a w K Q := by
  have e1 := hR.ev x
  rw [hx] at e1
  obtain ⟨_, e2⟩ := e1.inv_ptr
  obtain ⟨rl, hone⟩ := (hR.ev y).rl h1
  obtain ⟨us, tt, h2, h3, h4⟩ := hR.mem.box s cs hb
  have hlen : (a.eval y).cells.toList.length = (st.ev y).cells.length := rl.1
  have hsz : (a.eval y).cells.size = tsize P t := by rw [← Array.length_toList, hlen, hl]
  have hst := run_storeCells_at P (G.bx s) off tt (a.eval y).cells.toList 0 us w h2 (by simp; omega) hone
  have rlu : RL P st G w cs us.toList := ⟨by simpa using h3, fun i c hc => by obtain ⟨q1, u, q2, q3⟩ := h4 i c hc; exact ⟨q1, u, by simpa using q2, q3⟩⟩
  have hR' := hR.setBox hd hb (rlu.splice rl (off := off) (by omega)) (by simp [spliceL]; omega) (p := p)
  have run : (execOp a.eval o).run P w = .ok .skip (w.setRow (G.bx s) (us.toList.take off ++ (a.eval y).cells.toList ++ us.toList.drop (off + (a.eval y).cells.toList.length)).toArray) := by
    have hs := run_size_pos (P := P) h0 w
    simp only [Nat.add_zero] at hst
    simp only [execOp, ho, e2, Instr.storeAt, Instr.sureAddr, storeVar, Sem.run_bind, Sem.run_pure, Result.andThen_ok, hs, hsz, ne_eq, not_true_eq_false, if_false, hst]
  unfold Oper.wp
  rw [run]
  exact hK G _ hR'

theorem pure_build {t : TypeId} {parts : Array (Nat × Operand)} {fs : Array Field} {z : AV} {cs : List AV} (hR : Rel P n w0 own st G a w) (ho : o.op = .build t parts) (ht : P.underlying t = some (.struct fs)) (hz : zeroAV P t = some z)
    (hf : fillAV (fun i => (fs[i]?).map fun f => (f.offset, tsize P f.type)) z.cells (parts.toList.map fun q => (q.1, st.ev q.2)) = some cs) (h1 : allOne cs = true) (hi : fs.toList.all (fun f => (P.info? f.type).isSome) = true)
    (hp : parts.toList.all (fun q => allOne (st.ev q.2).cells) = true) (hz1 : allOne z.cells = true) : PureOK P st G w o a (.agg cs) := by
  obtain ⟨zv, h2, rfl, h3⟩ := zero_real (P := P) (w := w) hz
  obtain ⟨rl, _⟩ := (rep_ofVal (P := P) (st := st) (G := G) (w := w) zv).rl hz1
  obtain ⟨it, hit⟩ := info_of_underlying ht
  have hpl : ∃ places, fs.toList.mapM (fun f => (P.info? f.type).map fun i => (f.offset, i.size)) = some places ∧ ∀ i : Nat, ((fs[i]?).map fun (f : Field) => (f.offset, tsize P f.type)) = places.toArray[i]? := by
    have : ∀ (l : List Field), l.all (fun f => (P.info? f.type).isSome) = true → l.mapM (fun f => (P.info? f.type).map fun i => (f.offset, i.size)) = some (l.map fun (f : Field) => (f.offset, tsize P f.type)) := by
      intro l
      induction l with
      | nil => intro _; rfl
      | cons f l ih =>
        intro h
        simp only [List.all_cons, Bool.and_eq_true] at h
        obtain ⟨i, hi⟩ := Option.isSome_iff_exists.1 h.1
        rw [List.mapM_cons, hi, ih h.2]
        simp [tsize, Program.cellsOf, hi]
    exact ⟨_, this _ hi, fun i => by simp⟩
  obtain ⟨places, hpl1, hpl2⟩ := hpl
  obtain ⟨vs, h4, h5⟩ := fill_run (P := P) (st := st) (G := G) (w := w) hpl2 _ (parts.toList.map fun q => (q.1, a.eval q.2)) _ cs zv.cells hf rl (by simp) (fun i q r hq hr => by
    simp only [List.getElem?_map, Option.map_eq_some_iff] at hq hr
    obtain ⟨y, hy, rfl⟩ := hq
    obtain ⟨y', hy', rfl⟩ := hr
    rw [hy] at hy'; cases hy'
    rw [List.all_eq_true] at hp
    exact ⟨rfl, hR.ev y.2, hp y (List.mem_of_getElem? hy)⟩)
  have hzz : it.zero = some zv := by rw [hit] at h3; exact h3
  have hb : P.built t (parts.map fun (i, x) => (i, a.eval x)).toList = some vs := by
    have e : (parts.map fun (i, x) => (i, a.eval x)).toList = parts.toList.map fun q => (q.1, a.eval q.2) := by simp
    simp only [Program.built, hit, ht, hzz, hpl1, e]
    exact h4
  refine ⟨.agg vs, ?_, ?_⟩
  · simp only [execOp, ho, Sem.run_bind, run_build w t _ vs hb, Result.andThen_ok, Sem.run_pure]
  · exact ⟨vs, rfl, by simpa using h5.1, fun i c hc => by obtain ⟨q1, u, q2, q3⟩ := h5.2 i c hc; exact ⟨q1, u, by simpa using q2, q3⟩⟩

theorem pure_buildArr {t e : TypeId} {m : Nat} {parts : Array (Nat × Operand)} {z : AV} {cs : List AV} (hR : Rel P n w0 own st G a w) (ho : o.op = .build t parts) (ht : P.underlying t = some (.array m e)) (hz : zeroAV P t = some z)
    (hf : fillAV (fun i => some (i * tsize P e, tsize P e)) z.cells (parts.toList.map fun q => (q.1, st.ev q.2)) = some cs) (hi : (P.info? e).isSome = true)
    (hp : parts.toList.all (fun q => allOne (st.ev q.2).cells) = true) (hz1 : allOne z.cells = true) : PureOK P st G w o a (.agg cs) := by
  obtain ⟨zv, h2, rfl, h3⟩ := zero_real (P := P) (w := w) hz
  obtain ⟨rl, _⟩ := (rep_ofVal (P := P) (st := st) (G := G) (w := w) zv).rl hz1
  obtain ⟨it, hit⟩ := info_of_underlying ht
  obtain ⟨ie, hie⟩ := Option.isSome_iff_exists.1 hi
  have hse : tsize P e = ie.size := by simp [tsize, Program.cellsOf, hie]
  obtain ⟨vs, h4, h5⟩ := fill_run (P := P) (st := st) (G := G) (w := w) (place' := fun i => some (i * ie.size, ie.size)) (fun i => by rw [hse]) _ (parts.toList.map fun q => (q.1, a.eval q.2)) _ cs zv.cells hf rl (by simp) (fun i q r hq hr => by
    simp only [List.getElem?_map, Option.map_eq_some_iff] at hq hr
    obtain ⟨y, hy, rfl⟩ := hq
    obtain ⟨y', hy', rfl⟩ := hr
    rw [hy] at hy'; cases hy'
    rw [List.all_eq_true] at hp
    exact ⟨rfl, hR.ev y.2, hp y (List.mem_of_getElem? hy)⟩)
  have hzz : it.zero = some zv := by rw [hit] at h3; exact h3
  have hb : P.built t (parts.map fun (i, x) => (i, a.eval x)).toList = some vs := by
    have e : (parts.map fun (i, x) => (i, a.eval x)).toList = parts.toList.map fun q => (q.1, a.eval q.2) := by simp
    simp only [Program.built, hit, ht, hzz, hie, e]
    exact h4
  refine ⟨.agg vs, ?_, ?_⟩
  · simp only [execOp, ho, Sem.run_bind, run_build w t _ vs hb, Result.andThen_ok, Sem.run_pure]
  · exact ⟨vs, rfl, by simpa using h5.1, fun i c hc => by obtain ⟨q1, u, q2, q3⟩ := h5.2 i c hc; exact ⟨q1, u, by simpa using q2, q3⟩⟩
end
end Go.Proofs.Ytnhfjdbnkpbbkab
