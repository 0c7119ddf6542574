/- One operation in a real world does what its reading by content says: the operations that touch no memory of their own. -/
import Derived.Test.YtnhfjdbnkpbbkabLaxC
import Derived.Deep.MidRow
namespace Go.Proofs.Ytnhfjdbnkpbbkab
set_option linter.unusedVariables false
set_option linter.unusedSimpArgs false
open Go.RowKit

section
variable {P : Program} {n : Nat} {w0 : World} {own : OwnP} {st st' : St} {G G' : Gh} {a : Act} {w w' : World}

theorem wp_value {o : Oper} {K : Act → World → Prop} {Q : Exit → Act → World → Prop} {v : Value} (h : (execOp a.eval o).run P w = .ok (.value v) w') (hk : K (a.put o.dst v) w') : o.wp P a w K Q := by
  unfold Oper.wp; rw [h]; exact hk

theorem repP_to1 {v : AV} {r : Value} (h : RepP w (stable P st G) v r) (hv : ∀ xs, v ≠ .sl xs .nil) (hr : ∀ xs x y e, v ≠ .sl xs (.row x y e)) : Rep1 P st G w v r := by
  cases v with
  | sl xs o =>
    cases o with
    | no => exact h
    | nil => exact absurd rfl (hv _)
    | row x y e => exact absurd rfl (hr _ _ _ _)
  | ptr _ _ => cases h
  | eptr _ _ => cases h
  | agg _ => cases h
  | tup _ => cases h
  | _ => exact h

theorem rep_any (v : Value) : Rep P st G w .any v := RepP.any v
theorem rep_skip : Rep P st G w .skip undef := RepP.skip
theorem rep_bool (b : Bool) : Rep P st G w (.bool b) (.bool b) := RepP.bool b
theorem rep_int {k : IntKind} {i : Int} (h1 : k.min ≤ i) (h2 : i ≤ k.max) : Rep P st G w (.int k i) (.int k i) := RepP.int k i h1 h2
theorem rep_str {l : List UInt8} (h : l.length ≤ 9223372036854775807) : Rep P st G w (.str l) (.string ⟨l.toArray⟩) := RepP.str l h
theorem Rep.inv_bool {b : Bool} {r : Value} (h : Rep P st G w (.bool b) r) : r = .bool b := by cases (h : RepP w _ (.bool b) r); rfl
theorem Rep.inv_int {k : IntKind} {i : Int} {r : Value} (h : Rep P st G w (.int k i) r) : r = .int k i ∧ k.min ≤ i ∧ i ≤ k.max := by cases (h : RepP w _ (.int k i) r); exact ⟨rfl, ‹_›, ‹_›⟩
theorem Rep.inv_str {l : List UInt8} {r : Value} (h : Rep P st G w (.str l) r) : r = .string ⟨l.toArray⟩ ∧ l.length ≤ 9223372036854775807 := by cases (h : RepP w _ (.str l) r); exact ⟨rfl, ‹_›⟩
theorem Rep.inv_skip {r : Value} (h : Rep P st G w .skip r) : r = undef := by cases (h : RepP w _ .skip r); rfl
theorem Rep.inv_ptr {s off : Nat} {r : Value} (h : Rep P st G w (.ptr s off) r) : (∃ cs, st.boxes s = some cs) ∧ r = .pointer (some ⟨G.bx s, off, none⟩) := h
theorem Rep.inv_fn {f : Nat} {r : Value} (h : Rep P st G w (.fn f []) r) : r = .func (.func f) #[] #[] := by cases (h : RepP w _ (.fn f []) r); rfl
/-- a slice's content -/
theorem Rep.inv_sl {xs : List AV} {o : Own} {r : Value} (h : Rep P st G w (.sl xs o) r) : RepP w (stable P st G) (.sl xs .no) r := by
  cases o with
  | no => exact h
  | nil => obtain ⟨rfl, rfl⟩ := (h : Rep1 P st G w (.sl xs .nil) r); exact .slnil _ _ _ (by unfold maxLen; omega)
  | row x y e => exact (h : Rep1 P st G w (.sl xs (.row x y e)) r).1
theorem rep_sl {xs : List AV} {r : Value} (h : RepP w (stable P st G) (.sl xs .no) r) : Rep P st G w (.sl xs .no) r := h
theorem RepP.form {S : Nat → Nat → Prop} {xs : List AV} {o : Own} {r : Value} (h : RepP w S (.sl xs o) r) : ∃ ad cap, r = .slice ad xs.length cap ∧ xs.length ≤ cap ∧ cap ≤ maxLen := by
  cases h with
  | slnil _ ad cap h => exact ⟨ad, cap, rfl, Nat.zero_le _, h⟩
  | sl _ _ b off cap size us hc hm _ _ _ => exact ⟨_, cap, rfl, hc, hm⟩

theorem min_max_holds (k : IntKind) (i : Int) : k.min ≤ k.wrap i ∧ k.wrap i ≤ k.max := by
  cases k <;> simp [IntKind.min, IntKind.max, IntKind.wrap, IntKind.bits, IntKind.signed] <;> (try split) <;> omega

theorem rep_ofVal1 (v : Value) : Rep1 P st G w (ofVal1 v) v := by
  unfold ofVal1
  split
  · exact RepP.bool _
  · split
    · rename_i h; exact RepP.int _ _ h.1 h.2
    · exact RepP.any _
  · rename_i s
    split
    · rename_i h
      exact (RepP.str s.data.toList h : RepP w (stable P st G) _ _)
    · exact RepP.any _
  · exact RepP.nilptr
  · exact ⟨rfl, rfl⟩
  · exact RepP.nilfn
  · exact RepP.any _

theorem rep_ofVal (v : Value) : Rep P st G w (ofVal v) v := by
  unfold ofVal
  split
  · rename_i cs
    split
    · rename_i h
      refine (⟨cs, rfl, by simp, fun i c hc => ?_⟩ : RepA P st G w (.agg (cs.toList.map ofVal1)) (.agg cs))
      simp only [List.getElem?_map, Option.map_eq_some_iff] at hc
      obtain ⟨x, hx, rfl⟩ := hc
      refine ⟨?_, x, by simpa using hx, rep_ofVal1 x⟩
      rw [List.all_eq_true] at h
      exact h _ (List.mem_map_of_mem (List.mem_of_getElem? hx))
    · exact rep_any _
  · split
    · rename_i vs h
      have : vs = #[] := by simpa using h
      subst this
      exact rep_skip
    · exact rep_any _
  · rename_i f x y
    split
    · rename_i hx
      split
      · rename_i hy
        have e1 : x = #[] := by simpa using hx
        have e2 : y = #[] := by simpa using hy
        subst e1 e2
        exact RepP.fn f
      · exact rep_any _
    · exact rep_any _
  · exact Rep.of1 (rep_ofVal1 v)

theorem Rel.ev (hR : Rel P n w0 own st G a w) (x : Operand) : Rep P st G w (st.ev x) (a.eval x) := by
  cases x with
  | tmp t => exact hR.tmps t
  | const v => exact rep_ofVal v
  | global g => exact rep_any _
  | func f => exact RepP.fn f

/-- memory is as it was, but for what a step did -/
theorem Rel.step (hR : Rel P n w0 own st G a w) {E : Eff} {dst : Option Tmp} (hd : ∀ d, dst = some d → d < n) (hk : Kp P st G w (E.app dst st) G' w') {v : Value}
    (hv : dst ≠ none → Rep P (E.app dst st) G' w' E.val v) (hm : Mem P (E.app dst st) G' w') (hp : Pres w0 own w')
    (hob : ∀ s cs, (E.app dst st).boxes s = some cs → w0.heap.size ≤ G'.bx s ∨ own (G'.bx s) = some 0)
    (hor : ∀ x y tip g, (E.app dst st).rows x y = .live tip → (G'.cv x y).ownBlock = some g → w0.heap.size ≤ g ∨ ∃ t, own g = some t ∧ t ≤ tip * tsize P (G'.et x y))
    (hbd : G'.bad = G.bad) (hrb : ∀ x y tip g o, (E.app dst st).rows x y = .live tip → (G'.cv x y).ownBlock = some g → ¬ G.bad g o) :
    Rel P n w0 own (E.app dst st) G' (a.put dst v) w' := by
  refine ⟨?_, ?_, ?_, hm, hp, hob, hor, by rw [hbd]; exact hR.bad, by rw [hbd]; exact hrb, fun s b h => (by obtain ⟨⟨cs, h1⟩, h2⟩ := hR.pin s b h; obtain ⟨h3, h4⟩ := hk.box s cs h1; exact ⟨h3, h4.trans h2⟩), hbd.trans hR.same⟩
  · cases dst <;> simp [Act.put, hR.size]
  · cases dst <;> simp [Act.put, hR.defers]
  · intro t
    cases dst with
    | none => exact (hR.tmps t).keep hk
    | some d =>
      have hlt : d < a.tmps.size := by rw [hR.size]; exact hd d rfl
      by_cases ht : t = d
      · subst ht
        have e1 : (E.app (some t) st).tmps t = E.val := by simp [Eff.app, upd]
        have e2 : (a.put (some t) v).tmps.getD t undef = v := by simp [Act.put, Array.getD_eq_getD_getElem?, hlt]
        rw [e1, e2]; exact hv (by simp)
      · have e1 : (E.app (some d) st).tmps t = st.tmps t := by (have hb : (t == d) = false := by simpa using ht); simp [Eff.app, upd, hb]
        have e2 : (a.put (some d) v).tmps.getD t undef = a.tmps.getD t undef := by simp [Act.put, Array.getD_eq_getD_getElem?, Array.getElem?_setIfInBounds_ne (Ne.symm ht)]
        rw [e1, e2]; exact (hR.tmps t).keep hk

theorem Kp.tmps (f : Nat → AV) : Kp P st G w { tmps := f, boxes := st.boxes, rows := st.rows } G w :=
  ⟨fun _ _ _ h1 h2 => ⟨h1, h2⟩, fun s cs h => ⟨⟨cs, h⟩, rfl⟩, fun a b h => ⟨h, fun tip h' => ⟨tip, h', rfl, Nat.le_refl _, fun _ => rfl⟩⟩⟩
theorem Mem.tmps (hm : Mem P st G w) (f : Nat → AV) : Mem P { tmps := f, boxes := st.boxes, rows := st.rows } G w :=
  ⟨fun s cs h => by
    obtain ⟨us, t, h1, h2, h3⟩ := hm.box s cs h
    exact ⟨us, t, h1, h2, fun i c hc => by obtain ⟨h4, u, h5, h6⟩ := h3 i c hc; exact ⟨h4, u, h5, h6.keep (Kp.tmps f)⟩⟩, hm.inj, hm.row, hm.rinj, hm.brow⟩

/-- an operation that only makes a value -/
theorem Rel.pure (hR : Rel P n w0 own st G a w) {dst : Option Tmp} (hd : ∀ d, dst = some d → d < n) {p : Prop} {x : AV} {v : Value} (hv : Rep P st G w x v) :
    Rel P n w0 own ((⟨p, x, [], []⟩ : Eff).app dst st) G (a.put dst v) w :=
  hR.step hd (Kp.tmps _) (fun _ => hv.keep (Kp.tmps _)) (hR.mem.tmps _) hR.pres hR.obox hR.orow rfl hR.rbad

end
end Go.Proofs.Ytnhfjdbnkpbbkab
