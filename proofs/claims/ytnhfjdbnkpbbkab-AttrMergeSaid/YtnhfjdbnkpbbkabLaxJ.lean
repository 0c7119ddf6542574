/- Lengths, the greatest and the least, structs, reads: a real world does what the reading by content says. -/
import Derived.Test.YtnhfjdbnkpbbkabLaxI
namespace Go.Proofs.Ytnhfjdbnkpbbkab
set_option linter.unusedVariables false
set_option linter.unusedSimpArgs false
open Go.RowKit

section
variable {P : Program} {n : Nat} {w0 : World} {own : OwnP} {st st' : St} {G G' : Gh} {a : Act} {w w' : World} {o : Oper}

theorem run_builtin {c : Call} {b : Builtin} (ho : o.op = .call c) (hc : c.callee = .builtin b) :
    (execOp a.eval o).run P w = (builtin b c.argTypes o.type (c.args.map fun | .const _ => true | _ => false) (c.args.map a.eval)).run P w := by
  simp [execOp, ho, resolve, hc, invoke]
  rfl

theorem pure_len {c : Call} {x : Operand} {t : TypeId} {v : AV} (hR : Rel P n w0 own st G a w) (ho : o.op = .call c) (hc : c.callee = .builtin .len) (hargs : c.args.toList = [x]) (ht : c.argTypes[0]? = some t) (he : effLen P t (st.ev x) = some v) :
    PureOK P st G w o a v := by
  have e1 := hR.ev x
  have ha : c.args = #[x] := by
    apply Array.ext'
    simpa using hargs
  have run := run_builtin (P := P) (w := w) (a := a) ho hc
  rw [ha] at run
  unfold effLen at he
  split at he
  · rename_i hu
    split at he
    · rename_i l hx
      cases he
      rw [hx] at e1
      obtain ⟨e2, e3⟩ := e1.inv_str
      exact pure_int (by rw [run]; simp [builtin, Builtin.len_, ht, e2, run_underlying hu, size_mk, goInt]) (len63 e3).1 (len63 e3).2
    · cases he
  · rename_i hu
    split at he
    · rename_i xs ow hx
      cases he
      rw [hx] at e1
      obtain ⟨ad, cap, e2, e3, e4⟩ := e1.inv_sl.form
      have e5 : xs.length ≤ 9223372036854775807 := by unfold maxLen at e4; omega
      exact pure_int (by rw [run]; simp [builtin, Builtin.len_, ht, e2, run_underlying hu, goInt]) (len63 e5).1 (len63 e5).2
    · cases he
  · rename_i m hu
    split at he
    · rename_i hm
      cases he
      exact pure_int (by rw [run]; simp [builtin, Builtin.len_, ht, run_underlying hu, goInt]) (len63 hm).1 (len63 hm).2
    · cases he
  · cases he

theorem fold_run {f : AV → AV → Option AV} {g : Value → Value → Sem Value} (hfg : ∀ x y z u v, f x y = some z → Rep P st G w x u → Rep P st G w y v → ∃ r, (g u v).run P w = .ok r w ∧ Rep P st G w z r) :
    ∀ (ys : List AV) (vs : List Value) (x z : AV) (u : Value), foldAV f x ys = some z → Rep P st G w x u → ys.length = vs.length → (∀ (i : Nat) y v, ys[i]? = some y → vs[i]? = some v → Rep P st G w y v) →
      ∃ r, (vs.foldlM g u).run P w = .ok r w ∧ Rep P st G w z r
  | [], [], x, z, u, h, hx, _, _ => by simp [foldAV] at h; subst h; exact ⟨u, by simp, hx⟩
  | y :: ys, v :: vs, x, z, u, h, hx, hl, hr => by
    simp only [foldAV] at h
    split at h
    · rename_i c hc
      obtain ⟨r, h1, h2⟩ := hfg _ _ _ _ _ hc hx (hr 0 y v rfl rfl)
      obtain ⟨r', h3, h4⟩ := fold_run hfg ys vs c z r h h2 (by simpa using hl) (fun i y v h5 h6 => hr (i + 1) y v (by simpa using h5) (by simpa using h6))
      exact ⟨r', by simp [List.foldlM_cons, h1, h3], h4⟩
    · cases h
  | [], _ :: _, _, _, _, _, _, hl, _ => by simp at hl
  | _ :: _, [], _, _, _, _, _, hl, _ => by simp at hl

theorem rep_ite {k : IntKind} {c : Prop} [Decidable c] {i j : Int} (h1 : k.min ≤ i ∧ i ≤ k.max) (h2 : k.min ≤ j ∧ j ≤ k.max) : Rep P st G w (.int k (if c then i else j)) (.int k (if c then i else j)) := by
  split
  · exact rep_int h1.1 h1.2
  · exact rep_int h2.1 h2.2

theorem max2_run (x y z : AV) (u v : Value) (h : amax x y = some z) (hx : Rep P st G w x u) (hy : Rep P st G w y v) : ∃ r, (Builtin.max2 u v).run P w = .ok r w ∧ Rep P st G w z r := by
  unfold amax at h
  split at h
  · rename_i k i k' j
    split at h
    · rename_i hk; subst hk
      cases h
      obtain ⟨rfl, b⟩ := hx.inv_int
      obtain ⟨rfl, b'⟩ := hy.inv_int
      exact ⟨.int k (if j > i then j else i), by simp [Builtin.max2], rep_ite b' b⟩
    · cases h
  · cases h
theorem min2_run (x y z : AV) (u v : Value) (h : amin x y = some z) (hx : Rep P st G w x u) (hy : Rep P st G w y v) : ∃ r, (Builtin.min2 u v).run P w = .ok r w ∧ Rep P st G w z r := by
  unfold amin at h
  split at h
  · rename_i k i k' j
    split at h
    · rename_i hk; subst hk
      cases h
      obtain ⟨rfl, b⟩ := hx.inv_int
      obtain ⟨rfl, b'⟩ := hy.inv_int
      exact ⟨.int k (if j < i then j else i), by simp [Builtin.min2], rep_ite b' b⟩
    · cases h
  · cases h

theorem args_rep (hR : Rel P n w0 own st G a w) (l : List Operand) : ∀ (i : Nat) y v, (l.map st.ev)[i]? = some y → (l.map a.eval)[i]? = some v → Rep P st G w y v := by
  intro i y v h1 h2
  simp only [List.getElem?_map, Option.map_eq_some_iff] at h1 h2
  obtain ⟨x, hx, rfl⟩ := h1
  obtain ⟨x', hx', rfl⟩ := h2
  rw [hx] at hx'; cases hx'
  exact hR.ev x

theorem pure_max {c : Call} {x : AV} {r : List AV} {z : AV} (hR : Rel P n w0 own st G a w) (ho : o.op = .call c) (hc : c.callee = .builtin .max) (hargs : c.args.toList.map st.ev = x :: r) (he : foldAV amax x r = some z) : PureOK P st G w o a z := by
  obtain ⟨y, ys, hy⟩ : ∃ y ys, c.args.toList = y :: ys := by
    cases hq : c.args.toList with
    | nil => rw [hq] at hargs; simp at hargs
    | cons y ys => exact ⟨y, ys, rfl⟩
  rw [hy] at hargs
  simp only [List.map_cons, List.cons.injEq] at hargs
  obtain ⟨rfl, rfl⟩ := hargs
  obtain ⟨q, h1, h2⟩ := fold_run (P := P) (st := st) (G := G) (w := w) (f := amax) (g := Builtin.max2) max2_run (ys.map st.ev) (ys.map a.eval) (st.ev y) z (a.eval y) he (hR.ev y) (by simp) (args_rep hR ys)
  refine ⟨q, ?_, h2⟩
  rw [run_builtin ho hc]
  simp [builtin, Builtin.max_, hy, h1]
theorem pure_min {c : Call} {x : AV} {r : List AV} {z : AV} (hR : Rel P n w0 own st G a w) (ho : o.op = .call c) (hc : c.callee = .builtin .min) (hargs : c.args.toList.map st.ev = x :: r) (he : foldAV amin x r = some z) : PureOK P st G w o a z := by
  obtain ⟨y, ys, hy⟩ : ∃ y ys, c.args.toList = y :: ys := by
    cases hq : c.args.toList with
    | nil => rw [hq] at hargs; simp at hargs
    | cons y ys => exact ⟨y, ys, rfl⟩
  rw [hy] at hargs
  simp only [List.map_cons, List.cons.injEq] at hargs
  obtain ⟨rfl, rfl⟩ := hargs
  obtain ⟨q, h1, h2⟩ := fold_run (P := P) (st := st) (G := G) (w := w) (f := amin) (g := Builtin.min2) min2_run (ys.map st.ev) (ys.map a.eval) (st.ev y) z (a.eval y) he (hR.ev y) (by simp) (args_rep hR ys)
  refine ⟨q, ?_, h2⟩
  rw [run_builtin ho hc]
  simp [builtin, Builtin.min_, hy, h1]

/-- a read, where the cells are known -/
theorem run_read {x : Operand} {t : TypeId} (ho : o.op = .load t x) {b off : Nat} (hx : a.eval x = .pointer (some ⟨b, off, none⟩)) (us : Nat → Value) (hu : (P.underlying t).isSome = true) (h1 : tagg P t = true ∨ tsize P t = 1)
    (hc : ∀ k, k < tsize P t → w.cell? ⟨b, off + k, none⟩ = some (us k)) :
    (execOp a.eval o).run P w = .ok (.value (if tagg P t then .agg ((List.range (tsize P t)).map us).toArray else us 0)) w := by
  obtain ⟨d, hd⟩ := Option.isSome_iff_exists.1 hu
  obtain ⟨i, hi⟩ := info_of_underlying hd
  by_cases hg : tagg P t = true
  · have hrow : d.isRow = true := by
      unfold tagg at hg
      rw [hd] at hg
      cases d <;> simp_all
    have hcs : w.rangeAt b off ((List.range (tsize P t)).map us) := by
      intro j v hv
      simp only [List.getElem?_map, Option.map_eq_some_iff] at hv
      obtain ⟨k, hk, rfl⟩ := hv
      obtain ⟨hlt, rfl⟩ := List.getElem?_eq_some_iff.1 hk
      simp only [List.getElem_range] at *
      exact hc _ (by simpa using hlt)
    have hsz : (P.info? t).map (·.size) = some ((List.range (tsize P t)).map us).length := by
      simp [hi, tsize, Program.cellsOf]
    simp [execOp, ho, hx, hg, run_loadAt_mid w b off t _ d hcs hd hrow hsz]
  · have h2 : tsize P t = 1 := h1.resolve_left hg
    have hagg : (isAgg t).run P w = .ok false w := by
      unfold isAgg
      rw [Sem.run_bind, run_underlying hd w]
      unfold tagg at hg
      rw [hd] at hg
      cases d <;> simp_all
    have hc0 := hc 0 (by omega)
    simp only [Nat.add_zero] at hc0
    simp [execOp, ho, hx, hg, Instr.loadAt, Instr.sureAddr, loadVar, hagg, hc0]

theorem pure_loadPtr {x : Operand} {t : TypeId} {s off : Nat} {cs : List AV} (hR : Rel P n w0 own st G a w) (ho : o.op = .load t x) (hx : st.ev x = .ptr s off) (hb : st.boxes s = some cs) (hl : off + tsize P t ≤ cs.length)
    (hu : (P.underlying t).isSome = true) (h1 : tagg P t = true ∨ tsize P t = 1) : PureOK P st G w o a (if tagg P t then .agg ((cs.drop off).take (tsize P t)) else cellAt cs off) := by
  have e1 := hR.ev x
  rw [hx] at e1
  obtain ⟨_, e2⟩ := e1.inv_ptr
  obtain ⟨us, tt, h2, h3, h4⟩ := hR.mem.box s cs hb
  have hcell : ∀ k, k < tsize P t → w.cell? ⟨G.bx s, off + k, none⟩ = some (us.getD (off + k) undef) := by
    intro k hk
    have hlt : off + k < us.size := by omega
    simp [World.cell?, h2, hlt]
  refine ⟨_, run_read ho e2 (fun k => us.getD (off + k) undef) hu h1 hcell, ?_⟩
  by_cases hg : tagg P t = true
  · rw [if_pos hg, if_pos hg]
    have := rep_part (P := P) (st := st) (G := G) (w := w) h3 h4 off (tsize P t)
    have he : us.extract off (off + tsize P t) = ((List.range (tsize P t)).map fun k => us.getD (off + k) undef).toArray := by
      apply Array.ext
      · simp; omega
      · intro i hi1 hi2
        simp at hi1 hi2 ⊢
        rw [getElem?_pos _ _ (by omega)]
        rfl
    rw [he] at this
    exact this
  · rw [if_neg hg, if_neg hg]
    have h5 : tsize P t = 1 := h1.resolve_left hg
    have hlt : off < cs.length := by omega
    obtain ⟨_, u, h6, h7⟩ := h4 off cs[off] (List.getElem?_eq_getElem hlt)
    unfold cellAt
    rw [List.getElem?_eq_getElem hlt]
    have : us.getD (off + 0) undef = u := by simp [h6]
    simp only [this, Option.getD_some]
    exact Rep.of1 h7
end
end Go.Proofs.Ytnhfjdbnkpbbkab
