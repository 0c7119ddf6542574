/- append, at the operation; a slice made of its elements. -/
import Derived.Test.YtnhfjdbnkpbbkabLaxO
namespace Go.Proofs.Ytnhfjdbnkpbbkab
set_option linter.unusedVariables false
set_option linter.unusedSimpArgs false
open Go.RowKit

section
variable {P : Program} {n : Nat} {w0 : World} {own : OwnP} {st st' : St} {G G' : Gh} {a : Act} {w w' : World} {o : Oper}

theorem byte_one (b : UInt8) : (byteAV b).one = true ∧ (byteAV b).cells = [byteAV b] := ⟨rfl, rfl⟩
theorem repP_byte {S : Nat → Nat → Prop} (b : UInt8) : RepP w S (byteAV b) (.int .u8 (b.toNat : Int)) := by
  have hb : b.toNat < 256 := b.toNat_lt
  have h1 : IntKind.u8.min = 0 := by decide
  have h2 : IntKind.u8.max = 255 := by decide
  exact RepP.int _ _ (by omega) (by omega)
theorem FL.bytes {S : Nat → Nat → Prop} (l : List UInt8) : FL w S 1 (l.map byteAV) (byteCells ⟨l.toArray⟩) := by
  refine ⟨by simp [byteCells], fun i x hx => ?_⟩
  simp only [List.getElem?_map, Option.map_eq_some_iff] at hx
  obtain ⟨b, hb, rfl⟩ := hx
  refine ⟨rfl, fun j c hc => ?_⟩
  match j, hc with
  | 0, hc =>
    simp [byteAV, AV.cells] at hc
    subst hc
    exact ⟨rfl, .int .u8 (b.toNat : Int), by simp [byteCells, hb], repP_byte b⟩

theorem src_of {y : AV} {r : Value} {t : TypeId} {ys : List AV} {size e : Nat} (hy : Rep P st G w y r) (hs : srcOf P t y = some ys) (hz : ∀ z ∈ ys, z.cells.length = size) (hf : strFits P e y = true) (he : tsize P e = size) :
    ∃ news, Src P size t r ys.length news w ∧ FL w (stable P st G) size ys news := by
  unfold srcOf at hs
  split at hs
  · rename_i xs ow
    split at hs
    · rename_i e' hu
      cases hs
      obtain ⟨us, ad, cap, rfl, h2, h3⟩ := FL.of (hy.inv_sl) hz
      refine ⟨us, ?_, h2⟩
      have hone : ∀ u ∈ us, u.oneCell' = true := by
        intro u hu
        obtain ⟨k, hk, rfl⟩ := List.getElem_of_mem hu
        rw [h2.1] at hk
        have hsp : 0 < size := by
          rcases Nat.eq_zero_or_pos size with h | h
          · subst h; omega
          · exact h
        have hi : k / size < ys.length := by rw [Nat.div_lt_iff_lt_mul hsp]; exact hk
        have hj : k % size < size := Nat.mod_lt _ hsp
        obtain ⟨h4, h5⟩ := h2.2 _ _ (List.getElem?_eq_getElem hi)
        obtain ⟨h6, u', h7, h8⟩ := h5 (k % size) _ (List.getElem?_eq_getElem (by rw [h4]; exact hj))
        have e : k / size * size + k % size = k := by rw [Nat.mul_comm]; exact Nat.div_add_mod k size
        rw [e] at h7
        have h9 : us[k] = u' := by
          have := List.getElem?_eq_getElem (l := us) (i := k) (by rw [h2.1]; exact hk)
          rw [h7] at this; exact (Option.some.inj this).symm
        rw [h9]
        generalize hq : ys[k / size].cells[k % size]'(by rw [h4]; exact hj) = q at h6 h8
        cases h8 <;> first | rfl | simp [AV.one] at h6
      cases ad with
      | none =>
        have : ys = [] := by
          rcases h3 with h | ⟨_, _, h, _⟩
          · exact h
          · cases h
        subst this
        have hu0 : us = [] := List.eq_nil_of_length_eq_zero (by simpa using h2.1)
        subst hu0
        exact Src.ofNil w hu cap
      | some ad =>
        refine Src.ofSlice w hu ad ys.length cap us h2.1 (fun j u hj => ?_) hone
        rcases h3 with h | ⟨b, off, h, h4⟩
        · subst h
          have hu0 : us = [] := List.eq_nil_of_length_eq_zero (by simpa using h2.1)
          subst hu0; simp at hj
        · cases h
          rw [Addr.add_mid]
          exact h4 j u hj
    · cases hs
  · rename_i l
    split at hs
    · rename_i hst
      cases hs
      obtain ⟨rfl, _⟩ := hy.inv_str
      have h1 : size = 1 := by rw [← he]; simpa [strFits] using hf
      subst h1
      have hu : P.underlying t = some .string := by
        unfold isStrT at hst
        split at hst
        · assumption
        · cases hst
      have := Src.ofString (P := P) w hu ⟨l.toArray⟩
      rw [size_mk] at this
      exact ⟨_, by simpa using this, FL.bytes l⟩
    · cases hs
  · cases hs

variable {K : Act → World → Prop} {Q : Exit → Act → World → Prop}

theorem run_append_op {c : Call} {x y : Operand} {t u : TypeId} {v : Value} (ho : o.op = .call c) (hc : c.callee = .builtin .append) (hargs : c.args.toList = [x, y]) (hts : c.argTypes.toList = [t, u])
    (h : (Builtin.append_ #[t, u] o.type #[a.eval x, a.eval y]).run P w = .ok v w') : (execOp a.eval o).run P w = .ok (.value v) w' := by
  have ha : c.args = #[x, y] := by apply Array.ext'; simpa using hargs
  have hb : c.argTypes = #[t, u] := by apply Array.ext'; simpa using hts
  rw [run_builtin ho hc, ha, hb]
  simp [builtin, h]

theorem zero_cells {e : TypeId} {i : TypeInfo} {z : Value} (hi : P.info? e = some i) (hz : i.zero = some z) (h : (zeroAV P e).map (·.cells.length) = some (tsize P e)) (h1 : (zeroAV P e).map (fun z => allOne z.cells) = some true) : z.cells.size = i.size := by
  have e1 : zeroAV P e = some (ofVal z) := by simp [zeroAV, hi, hz]
  rw [e1] at h h1
  simp only [Option.map_some, Option.some.injEq] at h h1
  have := ((rep_ofVal (P := P) (st := ⟨fun _ => .any, fun _ => none, fun _ _ => .free⟩) (G := ⟨fun _ => 0, fun _ _ => undef, fun _ _ => 0, fun _ _ => False⟩) (w := default) z).rl h1).1.1
  rw [← Array.length_toList, this, h]
  simp [tsize, Program.cellsOf, hi]

theorem wp_append_av {c : Call} {x y : Operand} {t u e : TypeId} {d : Tmp} {xs ys : List AV} {ow : Own} (hR : Rel P n w0 own st G a w) (ho : o.op = .call c) (hc : c.callee = .builtin .append) (hargs : c.args.toList = [x, y]) (hts : c.argTypes.toList = [t, u])
    (hdst : o.dst = some d) (hd : d < n) (ht : P.underlying t = some (.slice e)) (hx : st.ev x = .sl xs ow) (hsrc : srcOf P u (st.ev y) = some ys) (hsf : strFits P e (st.ev y) = true) (hpos : 0 < tsize P e)
    (hz : ((P.info? e).bind (·.zero)).isSome = true) (hzc : (zeroAV P e).map (·.cells.length) = some (tsize P e)) (hz1 : (zeroAV P e).map (fun z => allOne z.cells) = some true) (hys : ∀ z ∈ ys, z.cells.length = tsize P e) (hxs : ∀ z ∈ xs, z.cells.length = tsize P e)
    (hlen : (xs.length + ys.length) * P.bytesOf e ≤ 140737488355328) (hlen2 : xs.length + ys.length ≤ 9223372036854775807) {nm : Nat × Nat} (hcase : (ow = .nil ∧ nm = (d, 0) ∧ st.rows d 0 = .free) ∨ (ow = .row nm.1 nm.2 e ∧ st.rows nm.1 nm.2 = .live xs.length)) {p : Prop}
    (hK : ∀ G' v w', Rel P n w0 own ((⟨p, .sl (xs ++ ys) (.row nm.1 nm.2 e), [], [((nm.1, nm.2), .live (xs.length + ys.length))]⟩ : Eff).app (some d) st) G' (a.put (some d) v) w' → K (a.put (some d) v) w') : o.wp P a w K Q := by
  cases hi : P.info? e with
  | none => simp [hi] at hz
  | some i =>
  cases hzz : i.zero with
  | none => simp [hi, hzz] at hz
  | some z =>
  have hsz : tsize P e = i.size := by simp [tsize, Program.cellsOf, hi]
  have hbe : P.bytesOf e = i.bytes := by simp [Program.bytesOf, hi]
  have hzs := zero_cells hi hzz hzc hz1
  obtain ⟨news, hs, hfl⟩ := src_of (e := e) (hR.ev y) hsrc hys hsf rfl
  rw [hsz] at hs hfl
  have e1 := hR.ev x
  rw [hx] at e1
  -- the row before
  have hrow : ∃ olds, w.ownsRow 0 e i.size (a.eval x) xs.length olds ∧ FL w (stable P st G) i.size xs olds ∧ (∀ tip' v', (ys.length = 0 → v' = a.eval x) → xs.length + ys.length = tip' → RowWas st G P nm.1 nm.2 e tip' v' (a.eval x).ownBlock (if ow = .nil then 0 else xs.length)) := by
    rcases hcase with ⟨rfl, rfl, h3⟩ | ⟨rfl, h3⟩
    · obtain ⟨rfl, h4⟩ := (e1 : Rep1 P st G w (.sl xs .nil) _)
      rw [h4]
      exact ⟨[], World.ownsRow_nil _ _ _ _, FL.nil, fun tip' v' _ _ => .inl ⟨h3, rfl, by simp⟩⟩
    · obtain ⟨h4, h5⟩ := (e1 : Rep1 P st G w (.sl xs (.row nm.1 nm.2 e)) _)
      rw [h3] at h5
      obtain ⟨h6, h7, h8⟩ := h5
      have hcv := h8 rfl
      obtain ⟨h9, olds, h10⟩ := hR.mem.row _ _ _ h3
      rw [← h6, hsz] at h10
      obtain ⟨us, ad, cap, q1, q2, q3⟩ := FL.of (size := i.size) h4 (by rw [← hsz]; exact hxs)
      have holds : us = olds := by
        apply List.ext_getElem?
        intro k
        by_cases hk : k < us.length
        · have hk2 : k < olds.length := by rw [h10.1, ← q2.1]; exact hk
          rw [List.getElem?_eq_getElem hk, List.getElem?_eq_getElem hk2]
          have hne : xs ≠ [] := by rintro rfl; simp [q2.1] at hk
          rcases q3 with q | ⟨b, off, q, q4⟩
          · exact absurd q hne
          · subst q
            have c1 := q4 k _ (List.getElem?_eq_getElem hk)
            rcases h10.2 with ⟨r1, r2⟩ | ⟨g, cap', cur, r1, _⟩
            · exact absurd (List.eq_nil_of_length_eq_zero r2) hne
            · rw [hcv, r1] at q1
              injection q1 with q5 _ _
              cases q5
              have c2 := h10.cells (g := b) (by rw [r1]; rfl) k _ (List.getElem?_eq_getElem hk2)
              rw [Addr.add_mid] at c2
              rw [c1] at c2
              exact c2
        · have hk2 : ¬ k < olds.length := by rw [h10.1, ← q2.1]; exact hk
          rw [List.getElem?_eq_none (by omega), List.getElem?_eq_none (by omega)]
      subst holds
      refine ⟨us, by rw [hcv]; exact h10, q2, fun tip' v' hv' htip => .inr ⟨by simpa using h3, h6.symm, by simp; omega, ?_, by rw [hcv]⟩⟩
      intro hh
      simp at hh
      rw [← hcv]
      exact hv' (by omega)
  obtain ⟨olds, hown, hflx, hwas⟩ := hrow
  have hb2 : (xs.length + ys.length) * i.bytes ≤ 140737488355328 := by
    rw [← hbe]
    exact hlen
  have h63 : xs.length + ys.length ≤ maxLen := by unfold maxLen; omega
  obtain ⟨v', w', hr, hown', hg, hb, hv0⟩ := run_append_av w t u o.type e i z ht hi hzz hzs (a.eval x) xs.length olds hown (a.eval y) ys.length news hs h63 hb2
  have hfl2 := hflx.append hfl
  rw [← hsz] at hown' hfl2 hown
  obtain ⟨G', hR'⟩ := hR.setRowName (p := p) hd (zs := xs ++ ys) (hwas _ v' hv0 rfl) hpos hown' hg (hb.imp id And.left) (fun g q v hgo hq hcell => by
    rcases hb with hb | ⟨_, hb⟩
    · have hle : q < xs.length * tsize P e := by
        refine Nat.lt_of_lt_of_le hq (Nat.mul_le_mul_right _ ?_)
        split <;> omega
      have hlt : q < olds.length := by rw [hown.1]; exact hle
      have c1 := hown.cells hgo q _ (List.getElem?_eq_getElem hlt)
      have c2 := hown'.cells (by rw [hb]; exact hgo) q olds[q] (by rw [List.getElem?_append_left hlt, List.getElem?_eq_getElem hlt])
      rw [Addr.add_mid, Nat.zero_add] at c1 c2
      rw [c2, ← hcell, c1]
    · rw [World.cell?_of_block (w := w) (hb.block g (World.block_lt_of_cell? w _ hcell) (by simp))]; exact hcell)
    (by simp) (fun st'' G' hst'' hbx hk hstab => FL.row hown' (by simp) (hfl2.mono hk.cell) hstab)
  refine wp_value (run_append_op ho hc hargs hts hr) ?_
  rw [hdst]
  exact hK G' v' w' hR'
end
end Go.Proofs.Ytnhfjdbnkpbbkab
