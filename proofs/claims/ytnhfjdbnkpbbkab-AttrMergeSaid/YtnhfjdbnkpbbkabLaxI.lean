/- Cuts of texts and of slices, places in arrays and slices, lengths, the greatest and the least, reads: a real world does what the reading by content says. -/
import Derived.Test.YtnhfjdbnkpbbkabLaxH
namespace Go.Proofs.Ytnhfjdbnkpbbkab
set_option linter.unusedVariables false
set_option linter.unusedSimpArgs false
open Go.RowKit

section
variable {P : Program} {n : Nat} {w0 : World} {own : OwnP} {st st' : St} {G G' : Gh} {a : Act} {w w' : World} {o : Oper}

theorem opt_ev (hR : Rel P n w0 own st G a w) (x : Option Operand) : (∀ y, x.map st.ev = some y → ∃ u, x.map a.eval = some u ∧ Rep P st G w y u) ∧ (x.map st.ev = none → x.map a.eval = none) := by
  cases x with
  | none => exact ⟨by simp, fun _ => rfl⟩
  | some x => exact ⟨fun y hy => by cases hy; exact ⟨_, rfl, hR.ev x⟩, by simp⟩

theorem extract_mk (l : List UInt8) (i j : Nat) : (⟨l.toArray⟩ : ByteArray).extract i j = ⟨((l.take j).drop i).toArray⟩ := by
  apply ByteArray.ext
  rw [ByteArray.data_extract]
  simp [List.extract_eq_take_drop, List.drop_take]

theorem pure_sliceStr {x : Operand} {lo hi : Option Operand} {t : TypeId} {l : List UInt8} {p : Prop} {i j : Nat} (hR : Rel P n w0 own st G a w) (ho : o.op = .slice t x lo hi none) (ht : P.underlying t = some .string) (hx : st.ev x = .str l)
    (hb : bndAV l.length (lo.map st.ev) (hi.map st.ev) none = some (p, i, j)) (hp : p) : PureOK P st G w o a (.str ((l.take j).drop i)) := by
  have e1 := hR.ev x
  rw [hx] at e1
  obtain ⟨e2, e3⟩ := e1.inv_str
  obtain ⟨c, e4, e5, e6, _⟩ := bnd_run (P := P) (w := w) hb hp (opt_ev hR lo).1 (opt_ev hR lo).2 (opt_ev hR hi).1 (opt_ev hR hi).2 (mv := none) (by simp) (by simp) false l.length (Nat.le_refl _)
  refine ⟨.string ((⟨l.toArray⟩ : ByteArray).extract i j), ?_, ?_⟩
  · simp [execOp, ho, e2, Instr.sliceAt, Instr.slice, run_underlying ht, size_mk, e4]
  · rw [extract_mk]
    exact rep_str (by simp; omega)

theorem pure_slice {x : Operand} {lo hi mx : Option Operand} {t e : TypeId} {xs : List AV} {ow : Own} {p : Prop} {i j : Nat} (hR : Rel P n w0 own st G a w) (ho : o.op = .slice t x lo hi mx) (ht : P.underlying t = some (.slice e)) (hx : st.ev x = .sl xs ow)
    (hb : bndAV xs.length (lo.map st.ev) (hi.map st.ev) (mx.map st.ev) = some (p, i, j)) (hp : p) (hsz : ∀ y ∈ xs, y.cells.length = tsize P e) (he : (P.underlying e).isSome = true) : PureOK P st G w o a (.sl ((xs.take j).drop i) .no) := by
  have e1 := hR.ev x
  rw [hx] at e1
  have e2 := e1.inv_sl
  obtain ⟨ad, cap, e3, e4, e5⟩ := e2.form
  obtain ⟨c, e6, e7, e8, e9, e10⟩ := bnd_run (P := P) (w := w) hb hp (opt_ev hR lo).1 (opt_ev hR lo).2 (opt_ev hR hi).1 (opt_ev hR hi).2 (opt_ev hR mx).1 (opt_ev hR mx).2 true cap e4
  obtain ⟨d, hd⟩ := Option.isSome_iff_exists.1 he
  have hs := run_size (P := P) hd w
  refine ⟨.slice (if c = i then ad else ad.map (·.add (i * tsize P e))) (j - i) (c - i), ?_, ?_⟩
  · simp [execOp, ho, e3, Instr.sliceAt, Instr.slice, run_underlying ht, e6, hs]
  · have hlen : ((xs.take j).drop i).length = j - i := by simp; omega
    rw [e3] at e2
    by_cases hn : j - i = 0
    · have : (xs.take j).drop i = [] := List.eq_nil_of_length_eq_zero (by omega)
      rw [this, hn]
      exact rep_sl (.slnil _ _ _ (by omega))
    · have hci : c ≠ i := by omega
      rw [if_neg hci]
      refine rep_sl ?_
      generalize hq : Value.slice ad xs.length cap = q at e2
      cases e2 with
      | slnil => simp at e8; omega
      | sl _ _ b off cap' size us hc hm hsz' hS hr =>
        injection hq with h1 h2 h3
        subst h1 h3
        have hsize : size = tsize P e := by
          have h0 : 0 < xs.length := by omega
          rw [← hsz' 0 xs[0] (List.getElem?_eq_getElem h0)]
          exact hsz _ (List.getElem_mem h0)
        subst hsize
        have key := RepP.sl (w := w) (S := stable P st G) ((xs.take j).drop i) .no b (off + i * tsize P e) (c - i) (tsize P e) (fun k m => us (i + k) m) (by rw [hlen]; omega) (by omega)
          (fun k y hk => by
            rw [List.getElem?_drop, List.getElem?_take] at hk
            split at hk
            · exact hsz' _ _ hk
            · cases hk)
          (fun k y m c' hk hm' => by
            rw [List.getElem?_drop, List.getElem?_take] at hk
            split at hk
            · have := hS _ _ _ _ hk hm'
              rw [Nat.add_mul, ← Nat.add_assoc off] at this
              exact this
            · cases hk)
          (fun k y m c' hk hm' => by
            rw [List.getElem?_drop, List.getElem?_take] at hk
            split at hk
            · exact hr _ _ _ _ hk hm'
            · cases hk)
        rw [hlen] at key
        have hadd : (some (⟨b, off, none⟩ : Addr)).map (·.add (i * tsize P e)) = some ⟨b, off + i * tsize P e, none⟩ := by simp [Addr.add_mid]
        rw [hadd]
        exact key

theorem pure_indexArr {x i : Operand} {t e : TypeId} {m : Nat} {cs : List AV} {k : IntKind} {j : Int} (hR : Rel P n w0 own st G a w) (ho : o.op = .index t x i) (ht : P.underlying t = some (.array m e)) (hx : st.ev x = .agg cs) (hi : st.ev i = .int k j)
    (h0 : 0 ≤ j) (h1 : j < m) (hl : j.toNat * tsize P e + tsize P e ≤ cs.length) (hu : (P.underlying e).isSome = true) (h2 : tagg P e = true ∨ tsize P e = 1) :
    PureOK P st G w o a (if tagg P e then .agg (subAV cs (j.toNat * tsize P e) (tsize P e)) else pickFrom 0 cs (j.toNat * tsize P e)) := by
  have e1 := hR.ev x
  rw [hx] at e1
  have e2 := hR.ev i
  rw [hi] at e2
  obtain ⟨e5, _, _⟩ := e2.inv_int
  obtain ⟨us, e6, e3, e4⟩ := (e1 : RepA P st G w (.agg cs) _)
  obtain ⟨d, hd⟩ := Option.isSome_iff_exists.1 hu
  have hs := run_size (P := P) hd w
  by_cases hg : tagg P e = true
  · rw [if_pos hg, subAV_eq _ _ _ hl]
    have hagg : (isAgg e).run P w = .ok true w := by
      unfold isAgg
      rw [Sem.run_bind, run_underlying hd w]
      unfold tagg at hg
      rw [hd] at hg
      cases d <;> simp_all
    exact ⟨_, by simp [execOp, ho, e6, e5, Instr.index, asIntOf, run_underlying ht, h0, h1, part, hagg, hs], rep_part e3 e4 _ _⟩
  · rw [if_neg hg]
    have h3 : tsize P e = 1 := h2.resolve_left hg
    have hagg : (isAgg e).run P w = .ok false w := by
      unfold isAgg
      rw [Sem.run_bind, run_underlying hd w]
      unfold tagg at hg
      rw [hd] at hg
      cases d <;> simp_all
    have hlt : j.toNat * tsize P e < cs.length := by omega
    obtain ⟨_, u, h4, h5⟩ := e4 (j.toNat * tsize P e) cs[j.toNat * tsize P e] (List.getElem?_eq_getElem hlt)
    rw [pickFrom_eq _ 0 _ (Nat.zero_le _) (by omega), Nat.sub_zero]
    refine ⟨u, by simp [execOp, ho, e6, e5, Instr.index, asIntOf, run_underlying ht, h0, h1, part, hagg, hs, h4], ?_⟩
    unfold cellAt
    rw [List.getElem?_eq_getElem hlt]
    exact Rep.of1 h5
theorem pure_indexPtr {x i : Operand} {t e : TypeId} {m s off : Nat} {k : IntKind} {j : Int} (hR : Rel P n w0 own st G a w) (ho : o.op = .indexAddr t x i) (ht : P.underlying t = some (.array m e)) (hx : st.ev x = .ptr s off) (hi : st.ev i = .int k j)
    (h0 : 0 ≤ j) (h1 : j < m) (he : (P.underlying e).isSome = true) : PureOK P st G w o a (.ptr s (off + j.toNat * tsize P e)) := by
  have e1 := hR.ev x
  have e2 := hR.ev i
  rw [hx] at e1
  rw [hi] at e2
  obtain ⟨e3, e4⟩ := e1.inv_ptr
  obtain ⟨e5, _, _⟩ := e2.inv_int
  obtain ⟨d, hd⟩ := Option.isSome_iff_exists.1 he
  have hs := run_size (P := P) hd w
  exact ⟨.pointer (some ⟨G.bx s, off + j.toNat * tsize P e, none⟩), by simp [execOp, ho, e4, e5, Instr.indexAt, asIntOf, run_underlying ht, Instr.sureAddr, h0, h1, hs, Addr.add_mid], ⟨e3, rfl⟩⟩
theorem pure_indexEptr {x i : Operand} {t e : TypeId} {m q : Nat} {z : AV} {k : IntKind} {j : Int} (hR : Rel P n w0 own st G a w) (ho : o.op = .indexAddr t x i) (ht : P.underlying t = some (.array m e)) (hx : st.ev x = .eptr z q) (hi : st.ev i = .int k j)
    (h0 : 0 ≤ j) (h1 : j < m) (he : (P.underlying e).isSome = true) : PureOK P st G w o a (.eptr z (q + j.toNat * tsize P e)) := by
  have e1 := hR.ev x
  have e2 := hR.ev i
  rw [hx] at e1
  rw [hi] at e2
  obtain ⟨b, off, e4, e6⟩ := (e1 : Rep1 P st G w (.eptr z q) _)
  obtain ⟨e5, _, _⟩ := e2.inv_int
  obtain ⟨d, hd⟩ := Option.isSome_iff_exists.1 he
  have hs := run_size (P := P) hd w
  exact ⟨.pointer (some ⟨b, off + q + j.toNat * tsize P e, none⟩), by simp [execOp, ho, e4, e5, Instr.indexAt, asIntOf, run_underlying ht, Instr.sureAddr, h0, h1, hs, Addr.add_mid], ⟨b, off, by rw [Nat.add_assoc], e6⟩⟩
theorem pure_indexSl {x i : Operand} {t e : TypeId} {xs : List AV} {ow : Own} {k : IntKind} {j : Int} (hR : Rel P n w0 own st G a w) (ho : o.op = .indexAddr t x i) (ht : P.underlying t = some (.slice e)) (hx : st.ev x = .sl xs ow) (hi : st.ev i = .int k j)
    (h0 : 0 ≤ j) (h1 : j < xs.length) (hz : (cellAt xs j.toNat).cells.length = tsize P e) (he : (P.underlying e).isSome = true) : PureOK P st G w o a (.eptr (cellAt xs j.toNat) 0) := by
  have e1 := hR.ev x
  have e2 := hR.ev i
  rw [hx] at e1
  rw [hi] at e2
  have e3 := e1.inv_sl
  obtain ⟨e5, _, _⟩ := e2.inv_int
  obtain ⟨d, hd⟩ := Option.isSome_iff_exists.1 he
  have hs := run_size (P := P) hd w
  generalize hq : a.eval x = q at e3
  cases e3 with
  | slnil => simp at h1; omega
  | sl _ _ b off cap size us hc hm hsz hS hr =>
    have hj : j.toNat < xs.length := by omega
    have hg : cellAt xs j.toNat = xs[j.toNat] := by unfold cellAt; simp [hj]
    have hz' := hsz _ _ (List.getElem?_eq_getElem hj)
    rw [← hg, hz] at hz'
    refine ⟨.pointer (some ⟨b, off + j.toNat * tsize P e, none⟩), by simp [execOp, ho, hq, e5, Instr.indexAt, asIntOf, run_underlying ht, h0, h1, hs, Addr.add_mid], ⟨b, off + j.toNat * tsize P e, rfl, fun m c hmc => ?_⟩⟩
    rw [hg] at hmc
    have h2 := hS _ _ m c (List.getElem?_eq_getElem hj) hmc
    rw [← hz'] at h2
    exact ⟨h2.2.2, h2.1, _, h2.2.1, hr _ _ m c (List.getElem?_eq_getElem hj) hmc⟩
end
end Go.Proofs.Ytnhfjdbnkpbbkab
