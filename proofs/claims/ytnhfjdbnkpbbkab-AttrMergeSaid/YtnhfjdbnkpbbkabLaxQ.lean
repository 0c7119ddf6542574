/- A slice made of its elements: the frame's state follows. -/
import Derived.Test.YtnhfjdbnkpbbkabLaxP
import Derived.Great.BuildSlice
namespace Go.Proofs.Ytnhfjdbnkpbbkab
set_option linter.unusedVariables false
set_option linter.unusedSimpArgs false
open Go.RowKit

section
variable {P : Program} {n : Nat} {w0 : World} {own : OwnP} {st st' : St} {G G' : Gh} {a : Act} {w w' : World} {o : Oper}

theorem drop_cells (v : AV) : v.drop.cells = v.cells.map AV.dropCell := by
  cases v with
  | agg cs => rfl
  | sl xs ow => cases ow <;> rfl
  | _ => rfl
theorem plain_repP {c : AV} {u : Value} (h : Rep1 P st G w c u) (hp : c.plainCell = true) : RepP w (stable P st G) c.dropCell u := by
  cases c with
  | sl xs ow =>
    cases ow with
    | no => exact h
    | nil => obtain ⟨rfl, rfl⟩ := h; exact .slnil _ _ _ (by unfold maxLen; omega)
    | row x y e => exact h.1
  | ptr _ _ => cases hp
  | eptr _ _ => cases hp
  | agg _ => cases hp
  | tup _ => cases hp
  | any => cases hp
  | skip => cases hp
  | _ => exact h
theorem dropCell_one {c : AV} (h : c.one = true) : c.dropCell.one = true := by
  cases c with
  | sl xs ow => cases ow <;> rfl
  | _ => exact h

theorem fill_dense {size : Nat} : ∀ (vs : List AV) (k : Nat) (cs : List AV), (∀ v ∈ vs, v.cells.length = size) → (k + vs.length) * size ≤ cs.length →
    fillAV (fun i => some (i * size, size)) cs ((vs.zipIdx k).map fun x => (x.2, x.1)) = some (cs.take (k * size) ++ vs.flatMap AV.cells ++ cs.drop ((k + vs.length) * size))
  | [], k, cs, _, h => by simp [fillAV]
  | v :: vs, k, cs, hv, h => by
    have h1 : v.cells.length = size := hv v (by simp)
    simp only [List.length_cons] at h
    have hmul : (k + (vs.length + 1)) * size = k * size + size + vs.length * size := by
      rw [Nat.add_mul, Nat.add_mul, Nat.one_mul]; omega
    rw [hmul] at h
    simp only [List.zipIdx_cons, List.map_cons, fillAV]
    rw [if_pos ⟨h1, by omega⟩]
    have hm2 : (k + 1 + vs.length) * size = k * size + size + vs.length * size := by
      rw [Nat.add_mul, Nat.add_mul, Nat.one_mul]
    rw [fill_dense vs (k + 1) _ (fun x hx => hv x (by simp [hx])) (by rw [hm2]; simp [spliceL]; omega)]
    congr 1
    have hk1 : (k + 1) * size = k * size + size := by rw [Nat.add_mul, Nat.one_mul]
    rw [hk1, hm2]
    simp only [List.length_cons]
    rw [hmul]
    unfold spliceL
    have t1 : (cs.take (k * size)).length = k * size := by simp; omega
    have t2 : (cs.take (k * size) ++ v.cells).length = k * size + size := by simp [h1]; omega
    rw [List.take_append_of_le_length (by omega), List.take_of_length_le (by omega)]
    rw [List.drop_append, t2, List.drop_eq_nil_of_le (by omega)]
    simp only [List.nil_append, List.drop_drop, List.flatMap_cons, List.append_assoc, h1]
    congr 4
    omega

theorem flat_get {size : Nat} : ∀ (vs : List AV), (∀ v ∈ vs, v.cells.length = size) → ∀ (i j : Nat) x, vs[i]? = some x → j < size → (vs.flatMap AV.cells)[i * size + j]? = x.cells[j]?
  | [], _, i, j, x, h, _ => by simp at h
  | v :: vs, hv, 0, j, x, h, hj => by
    simp at h; subst h
    have := hv v (by simp)
    rw [Nat.zero_mul, Nat.zero_add, List.flatMap_cons, List.getElem?_append_left (by omega)]
  | v :: vs, hv, i + 1, j, x, h, hj => by
    have h1 := hv v (by simp)
    have e : (i + 1) * size + j = v.cells.length + (i * size + j) := by rw [h1, Nat.add_mul, Nat.one_mul]; omega
    rw [e, List.flatMap_cons, List.getElem?_append_right (by omega), Nat.add_sub_cancel_left]
    exact flat_get vs (fun x hx => hv x (by simp [hx])) i j x (by simpa using h) hj
theorem flat_len {size : Nat} : ∀ (vs : List AV), (∀ v ∈ vs, v.cells.length = size) → (vs.flatMap AV.cells).length = vs.length * size
  | [], _ => by simp
  | v :: vs, hv => by
    rw [List.flatMap_cons, List.length_append, hv v (by simp), flat_len vs (fun x hx => hv x (by simp [hx])), List.length_cons, Nat.add_mul, Nat.one_mul]
    omega

variable {K : Act → World → Prop} {Q : Exit → Act → World → Prop}

theorem wp_buildSlice_av {t e : TypeId} {len : Nat} {parts : Array (Nat × Operand)} {d : Tmp} {z : AV} (hR : Rel P n w0 own st G a w) (ho : o.op = .buildSlice t len parts) (hdst : o.dst = some d) (hd : d < n) (ht : P.underlying t = some (.slice e))
    (hz : zeroAV P e = some z) (hfree : st.rows d 0 = .free) (hp : parts.toList.all (fun q => (st.ev q.2).plain && allOne (st.ev q.2).cells && decide ((st.ev q.2).cells.length = tsize P e)) = true) (hz1 : allOne z.cells = true) (hzl : z.cells.length = tsize P e)
    (h0 : tsize P e ≠ 0) (hl0 : 0 < len) (hsm : len * tsize P e ≤ 16777216) (hr : parts.toList.map (·.1) = List.range len) {p : Prop}
    (hK : ∀ G' v w', Rel P n w0 own ((⟨p, .sl (parts.toList.map fun q => (st.ev q.2).drop) (.row d 0 e), [], [((d, 0), .live len)]⟩ : Eff).app (some d) st) G' (a.put (some d) v) w' → K (a.put (some d) v) w') : o.wp P a w K Q := by
  obtain ⟨zv, _, rfl, hzv⟩ := zero_real (P := P) (w := w) hz
  cases hi : P.info? e with
  | none => simp [hi] at hzv
  | some i =>
  have hzz : i.zero = some zv := by rw [hi] at hzv; exact hzv
  have hsz : tsize P e = i.size := by simp [tsize, Program.cellsOf, hi]
  have hplen : parts.toList.length = len := by have := congrArg List.length hr; simpa using this
  rw [List.all_eq_true] at hp
  have hp' : ∀ q ∈ parts.toList, (st.ev q.2).plain = true ∧ allOne (st.ev q.2).cells = true ∧ (st.ev q.2).cells.length = i.size := by
    intro q hq
    have := hp q hq
    simp only [Bool.and_eq_true, decide_eq_true_eq] at this
    exact ⟨this.1.1, this.1.2, by rw [← hsz]; exact this.2⟩
  obtain ⟨vs, hvs⟩ : ∃ vs, vs = parts.toList.map fun q => st.ev q.2 := ⟨_, rfl⟩
  have hvsz : ∀ v ∈ vs, v.cells.length = i.size := by
    intro v hv; rw [hvs] at hv
    obtain ⟨q, hq, rfl⟩ := List.mem_map.1 hv
    exact (hp' q hq).2.2
  have hvl : vs.length = len := by rw [hvs]; simpa using hplen
  have hparts : (parts.toList.map fun q => (q.1, st.ev q.2)) = (vs.zipIdx 0).map fun x => (x.2, x.1) := by
    apply List.ext_getElem?
    intro k
    have hk := congrArg (·[k]?) hr
    simp only [List.getElem?_map] at hk ⊢
    rw [List.getElem?_zipIdx, hvs]
    simp only [List.getElem?_map]
    cases hq : parts.toList[k]? with
    | none => simp
    | some q =>
      rw [hq] at hk
      simp only [Option.map_some] at hk
      have : k < len := by rw [← hplen]; exact (List.getElem?_eq_some_iff.1 hq).1
      rw [List.getElem?_range this] at hk
      simp at hk
      simp [hk]
  obtain ⟨rlz, _⟩ := (rep_ofVal (P := P) (st := st) (G := G) (w := w) zv).rl hz1
  have hzs : zv.cells.size = i.size := by rw [← Array.length_toList, rlz.1, hzl, hsz]
  have hip : 0 < i.size := by omega
  have rl0 : RL P st G w ((List.range (len * i.size)).map fun k => cellAt (ofVal zv).cells (k % i.size)) ((Array.range (len * i.size)).map (zv.cells[· % zv.cells.size]!)).toList := by
    refine ⟨by simp, fun k c hc => ?_⟩
    simp only [List.getElem?_map, Option.map_eq_some_iff] at hc
    obtain ⟨k', hk', rfl⟩ := hc
    obtain ⟨hlt, rfl⟩ := List.getElem?_eq_some_iff.1 hk'
    simp only [List.getElem_range] at *
    simp at hlt
    have hm : k % i.size < (ofVal zv).cells.length := by rw [hzl, hsz]; exact Nat.mod_lt _ hip
    obtain ⟨q1, u, q2, q3⟩ := rlz.2 (k % i.size) _ (cellAt_some hm)
    refine ⟨q1, u, ?_, q3⟩
    have hm' : k % i.size < zv.cells.size := by rw [hzs]; exact Nat.mod_lt _ hip
    simp only [Array.getElem?_toList] at q2
    simp [hlt, hzs]
    rw [getElem!_pos zv.cells _ hm']
    rw [Array.getElem?_eq_getElem hm'] at q2
    exact Option.some.inj q2
  have hfill := fill_dense (size := i.size) vs 0 ((List.range (len * i.size)).map fun k => cellAt (ofVal zv).cells (k % i.size)) hvsz (by simp [hvl])
  simp only [Nat.zero_add, Nat.zero_mul, List.take_zero, List.nil_append] at hfill
  rw [List.drop_eq_nil_of_le (by simp [hvl]), List.append_nil, ← hparts] at hfill
  obtain ⟨us, hus, rlu⟩ := fill_run (P := P) (st := st) (G := G) (w := w) (place := fun k => some (k * i.size, i.size)) (place' := fun k => some (k * i.size, i.size)) (fun _ => rfl) _ (parts.toList.map fun q => (q.1, a.eval q.2)) _ _ _ hfill rl0 (by simp) (fun k q r hq hr => by
    simp only [List.getElem?_map, Option.map_eq_some_iff] at hq hr
    obtain ⟨y, hy, rfl⟩ := hq
    obtain ⟨y', hy', rfl⟩ := hr
    rw [hy] at hy'; cases hy'
    exact ⟨rfl, hR.ev y.2, (hp' y (List.mem_of_getElem? hy)).2.1⟩)
  have hpos : ¬ len * i.size = 0 := by
    have := Nat.mul_pos hl0 hip; omega
  have run1 := run_buildSlice w t e len (parts.map fun (i, x) => (i, a.eval x)) us i zv ht hi hzz (by rw [← hsz]; simpa using hsm) hpos (by
    have e : (parts.map fun (i, x) => (i, a.eval x)).toList = parts.toList.map fun q => (q.1, a.eval q.2) := by simp
    rw [e]; exact hus)
  have run : (execOp a.eval o).run P w = .ok (.value (.slice (some ⟨w.heap.size, 0, none⟩) len len)) (w.alloc (.cells us e)) := by
    simp only [execOp, ho, Sem.run_bind, run1, Result.andThen_ok, Sem.run_pure]
  have hul : us.toList.length = len * i.size := by rw [rlu.1, flat_len vs hvsz, hvl]
  have hlenm : len ≤ maxLen := by
    have : len ≤ len * tsize P e := Nat.le_mul_of_pos_right _ (by omega)
    unfold maxLen; omega
  have hown : (w.alloc (.cells us e)).ownsRow 0 e (tsize P e) (.slice (some ⟨w.heap.size, 0, none⟩) len len) len us.toList := by
    rw [hsz]
    refine ⟨hul, .inr ⟨w.heap.size, len, us, rfl, Nat.zero_le _, heap_alloc_new w _, Nat.le_refl _, hlenm, by simpa using hul, ?_⟩⟩
    rw [List.take_of_length_le (by omega)]
  have hzsl : (parts.toList.map fun q => (st.ev q.2).drop) = vs.map AV.drop := by rw [hvs]; simp
  have hfl : FL w (stable P st G) (tsize P e) (vs.map AV.drop) us.toList := by
    rw [hsz]
    refine ⟨by rw [hul]; simp [hvl], fun k x hx => ?_⟩
    simp only [List.getElem?_map, Option.map_eq_some_iff] at hx
    obtain ⟨y, hy, rfl⟩ := hx
    have hym := List.mem_of_getElem? hy
    refine ⟨by rw [drop_cells, List.length_map]; exact hvsz y hym, fun j c hc => ?_⟩
    rw [drop_cells, List.getElem?_map] at hc
    simp only [Option.map_eq_some_iff] at hc
    obtain ⟨c', hc', rfl⟩ := hc
    have hj : j < i.size := by rw [← hvsz y hym]; exact (List.getElem?_eq_some_iff.1 hc').1
    have hfg := flat_get vs hvsz k j y hy hj
    rw [hc'] at hfg
    obtain ⟨q1, u, q2, q3⟩ := rlu.2 _ _ hfg
    refine ⟨dropCell_one q1, u, q2, plain_repP q3 ?_⟩
    have hpl : y.plain = true := by
      rw [hvs] at hym
      obtain ⟨q, hq, rfl⟩ := List.mem_map.1 hym
      exact (hp' q hq).1
    unfold AV.plain at hpl
    rw [List.all_eq_true] at hpl
    exact hpl _ (List.mem_of_getElem? hc')
  rw [hzsl] at hK
  obtain ⟨G', hR'⟩ := hR.setRowName (p := p) (tip := 0) hd (zs := vs.map AV.drop) (.inl ⟨hfree, rfl, rfl⟩) (by omega) hown (World.grownBy_alloc w _ none) (.inr rfl) (fun _ _ _ h => by cases h) (by simp [hvl])
    (fun st'' G' hst'' hbx hk hstab => FL.row hown (by simp [hvl]) (hfl.mono hk.cell) hstab)
  refine wp_value run ?_
  rw [hdst]
  exact hK G' _ _ hR'
end
end Go.Proofs.Ytnhfjdbnkpbbkab
