/- Reading a program by content: the framework, part Lm2. -/
import Derived.Test.YtddilmocngedjaaLm1
import Derived.Deep.Upon
import Derived.Laws.IdiomStrings
import Derived.Great.BuildSlice
/- Structs built, boxes made and written: a real world does what the reading by content says. -/
namespace Go.Proofs.Ytddilmocngedjaa
set_option linter.unusedVariables false
set_option linter.unusedSimpArgs false
open Go.RowKit

def RL (P : Program) (st : St) (G : Gh) (w : World) (cs : List AV) (us : List Value) : Prop :=
  us.length = cs.length ∧ ∀ (i : Nat) c, cs[i]? = some c → c.one = true ∧ ∃ u, us[i]? = some u ∧ Rep1 P st G w c u

section
variable {P : Program} {n : Nat} {w0 : World} {own : OwnP} {st st' : St} {G G' : Gh} {a : Act} {w w' : World} {o : Oper}

theorem RL.get {cs : List AV} {us : List Value} (h : RL P st G w cs us) {i : Nat} {c : AV} {u : Value} (hc : cs[i]? = some c) (hu : us[i]? = some u) : c.one = true ∧ Rep1 P st G w c u := by
  obtain ⟨h1, u', h2, h3⟩ := h.2 i c hc
  rw [hu] at h2; cases h2
  exact ⟨h1, h3⟩
theorem Rep.rl {v : AV} {r : Value} (h : Rep P st G w v r) (h1 : allOne v.cells = true) : RL P st G w v.cells r.cells.toList ∧ ∀ u ∈ r.cells.toList, u.oneCell' = true := by
  obtain ⟨us, h2, h3, h4, h5⟩ := h.cells h1
  rw [h2]
  exact ⟨⟨h3, h5⟩, h4⟩

theorem splice_get {α : Type} {l vs : List α} {off i : Nat} (h : off + vs.length ≤ l.length) : (l.take off ++ vs ++ l.drop (off + vs.length))[i]? = if off ≤ i ∧ i < off + vs.length then vs[i - off]? else l[i]? := by
  have t1 : (l.take off).length = off := by simp; omega
  rw [List.append_assoc]
  by_cases hi : i < off
  · rw [List.getElem?_append_left (by omega), List.getElem?_take, if_pos hi, if_neg (by omega)]
  · rw [List.getElem?_append_right (by omega), t1]
    by_cases hj : i - off < vs.length
    · rw [List.getElem?_append_left hj, if_pos (by omega)]
    · rw [List.getElem?_append_right (by omega), List.getElem?_drop, if_neg (by omega)]
      congr 1
      omega
theorem set_foldl_get : ∀ (vs : List Value) (off k i : Nat) (cs : Array Value), off + k + vs.length ≤ cs.size →
    ((vs.zipIdx k).foldl (fun (cs : Array Value) (x : Value × Nat) => cs.setIfInBounds (off + x.2) x.1) cs)[i]? = if off + k ≤ i ∧ i < off + k + vs.length then vs[i - (off + k)]? else cs[i]?
  | [], off, k, i, cs, h => by simp; intro _ _; omega
  | v :: vs, off, k, i, cs, h => by
    simp only [List.length_cons] at h ⊢
    rw [List.zipIdx_cons, List.foldl_cons, set_foldl_get vs off (k + 1) i _ (by simp; omega)]
    by_cases h1 : i = off + k
    · subst h1
      rw [if_neg (by omega), if_pos (by omega), Nat.sub_self, List.getElem?_cons_zero, Array.getElem?_setIfInBounds_self_of_lt (by omega)]
    · by_cases h2 : off + k + 1 ≤ i ∧ i < off + k + 1 + vs.length
      · rw [if_pos (by omega), if_pos (by omega)]
        have : i - (off + k) = (i - (off + (k + 1))) + 1 := by omega
        rw [this]
        simp
      · rw [if_neg (by omega), if_neg (by omega)]
        rw [Array.getElem?_setIfInBounds_ne (by omega)]
theorem set_foldl (vs : List Value) (off : Nat) (cs : Array Value) (h : off + vs.length ≤ cs.size) :
    ((vs.zipIdx 0).foldl (fun (cs : Array Value) (x : Value × Nat) => cs.setIfInBounds (off + x.2) x.1) cs).toList = cs.toList.take off ++ vs ++ cs.toList.drop (off + vs.length) := by
  apply List.ext_getElem?
  intro i
  rw [splice_get (by simpa using h), Array.getElem?_toList, set_foldl_get vs off 0 i cs (by omega)]
  simp

theorem RL.splice {cs vs : List AV} {us ws : List Value} (h : RL P st G w cs us) (h' : RL P st G w vs ws) {off : Nat} (hl : off + vs.length ≤ cs.length) : RL P st G w (spliceL cs off vs) (us.take off ++ ws ++ us.drop (off + ws.length)) := by
  have e1 := h.1
  have e2 := h'.1
  refine ⟨by simp [spliceL, e1, e2], fun i c hc => ?_⟩
  unfold spliceL at hc
  rw [splice_get hl] at hc
  rw [splice_get (by omega), e2]
  by_cases hi : off ≤ i ∧ i < off + vs.length
  · rw [if_pos hi] at hc ⊢
    exact h'.2 _ c hc
  · rw [if_neg hi] at hc ⊢
    exact h.2 _ c hc

def RLe (P : Program) (st : St) (G : Gh) (w : World) (cs : List AV) (us : List Value) : Prop :=
  cs.length ≤ us.length ∧ ∀ (i : Nat) c, cs[i]? = some c → c.one = true ∧ ∃ u, us[i]? = some u ∧ Rep1 P st G w c u
theorem RLe.splice {cs vs : List AV} {us ws : List Value} (h : RLe P st G w cs us) (h' : RL P st G w vs ws) {off : Nat} (hl : off + vs.length ≤ cs.length) : RLe P st G w (spliceL cs off vs) (us.take off ++ ws ++ us.drop (off + ws.length)) := by
  have e1 := h.1
  have e2 := h'.1
  refine ⟨by simp [spliceL, e2]; omega, fun i c hc => ?_⟩
  unfold spliceL at hc
  rw [splice_get hl] at hc
  rw [splice_get (by omega), e2]
  by_cases hi : off ≤ i ∧ i < off + vs.length
  · rw [if_pos hi] at hc ⊢
    exact h'.2 _ c hc
  · rw [if_neg hi] at hc ⊢
    exact h.2 _ c hc

theorem fill_run {place place' : Nat → Option (Nat × Nat)} (hpl : ∀ i, place i = place' i) : ∀ (parts : List (Nat × AV)) (rparts : List (Nat × Value)) (cs cs' : List AV) (us : Array Value), fillAV place cs parts = some cs' → RL P st G w cs us.toList →
    parts.length = rparts.length → (∀ (i : Nat) q r, parts[i]? = some q → rparts[i]? = some r → q.1 = r.1 ∧ Rep P st G w q.2 r.2 ∧ allOne q.2.cells = true) →
    ∃ vs : Array Value, Instr.fill place' us rparts = some vs ∧ RL P st G w cs' vs.toList
  | [], [], cs, cs', us, h, hr, _, _ => by simp [fillAV] at h; subst h; exact ⟨us, rfl, hr⟩
  | (i, v) :: parts, (i', r) :: rparts, cs, cs', us, h, hr, hl, hp => by
    obtain ⟨rfl, h2, h3⟩ := hp 0 _ _ rfl rfl
    simp only at h2 h3
    simp only [fillAV] at h
    split at h
    · cases h
    · rename_i off size hpi
      split at h
      · rename_i hc
        obtain ⟨rl, hone⟩ := h2.rl h3
        have hrs : r.cells.size = v.cells.length := by rw [← Array.length_toList]; exact rl.1
        have hus : us.size = cs.length := by rw [← Array.length_toList]; exact hr.1
        have hfold := set_foldl r.cells.toList off us (by simp; omega)
        have hs := hr.splice rl hc.2
        obtain ⟨vs, h4, h5⟩ := fill_run hpl parts rparts _ cs' (r.cells.zipIdx.foldl (fun (cs : Array Value) (x : Value × Nat) => cs.setIfInBounds (off + x.2) x.1) us) h
          (by
            have : (r.cells.zipIdx.foldl (fun (cs : Array Value) (x : Value × Nat) => cs.setIfInBounds (off + x.2) x.1) us).toList = us.toList.take off ++ r.cells.toList ++ us.toList.drop (off + r.cells.toList.length) := by
              rw [← Array.foldl_toList, Array.toList_zipIdx]
              simpa using hfold
            rw [this]
            exact hs) (by simpa using hl) (fun i q r h6 h7 => hp (i + 1) q r (by simpa using h6) (by simpa using h7))
        refine ⟨vs, ?_, h5⟩
        unfold Instr.fill
        rw [← hpl, hpi]
        simp only
        have : ¬ ((decide (r.cells.size ≠ size) || decide (off + r.cells.size > us.size)) = true) := by
          simp only [Bool.or_eq_true, decide_eq_true_eq, not_or]
          omega
        rw [if_neg this]
        exact h4
      · cases h
  | [], _ :: _, _, _, _, _, _, hl, _ => by simp at hl
  | _ :: _, [], _, _, _, _, _, hl, _ => by simp at hl
end
end Go.Proofs.Ytddilmocngedjaa
/- Boxes made and written: the frame's state follows. -/
namespace Go.Proofs.Ytddilmocngedjaa
set_option linter.unusedVariables false
set_option linter.unusedSimpArgs false
open Go.RowKit

section
variable {P : Program} {n : Nat} {w0 : World} {own : OwnP} {st st' : St} {G G' : Gh} {a : Act} {w w' : World} {o : Oper}

theorem Rel.setBox (hR : Rel P n w0 own st G a w) {dst : Option Tmp} (hd : ∀ d, dst = some d → d < n) {s : Nat} {cs cs' : List AV} {us : List Value} (hb : st.boxes s = some cs) (hr : RLe P st G w cs' us) (hl : cs'.length = cs.length) (hcs : cs ≠ []) {p : Prop} :
    Rel P n w0 own ((⟨p, .skip, [(s, cs')], []⟩ : Eff).app dst st) G (a.put dst undef) (w.setRow (G.bx s) us.toArray) := by
  obtain ⟨vs, t, h1, h2, h3⟩ := hR.mem.box s cs hb
  have hlt : G.bx s < w.heap.size := (Array.getElem?_eq_some_iff.1 h1).1
  have hnew : ∀ s', ((⟨p, .skip, [(s, cs')], []⟩ : Eff).app dst st).boxes s' = if s' = s then some cs' else st.boxes s' := by
    intro s'
    simp only [Eff.app, updAll, upd]
    by_cases h : s' = s
    · simp [h]
    · have hb : (s' == s) = false := by simpa using h
      simp [h, hb]
  have hlive : ∀ s' c, ((⟨p, .skip, [(s, cs')], []⟩ : Eff).app dst st).boxes s' = some c → ∃ c', st.boxes s' = some c' ∧ (c ≠ [] → c' ≠ []) := by
    intro s' c h
    rw [hnew] at h
    split at h
    · rename_i e; subst e; cases h
      exact ⟨cs, hb, fun h => by rintro rfl; exact h (List.length_eq_zero_iff.1 hl)⟩
    · exact ⟨c, h, id⟩
  have hg : w.grownBy (w.setRow (G.bx s) us.toArray) (some (G.bx s)) := ⟨rfl, rfl, rfl, by simp, fun k hk hne => setRow_other w _ k _ (fun e => hne (by rw [e]))⟩
  have hk : Kp P st G w ((⟨p, .skip, [(s, cs')], []⟩ : Eff).app dst st) G (w.setRow (G.bx s) us.toArray) := by
    refine ⟨?_, ?_, ?_, fun _ _ h => h⟩
    · intro b o u ⟨s0, s1, s2⟩ hc
      refine ⟨⟨s0, ?_, s2⟩, ?_⟩
      · intro s' c hs
        obtain ⟨c', hc', hne⟩ := hlive s' c hs
        exact fun h => s1 s' c' hc' (hne h)
      · rw [cell_setRow_other w _ _ _ (fun e => s1 s cs hb hcs e.symm)]; exact hc
    · intro s' c hs
      refine ⟨?_, rfl⟩
      rw [hnew]
      split
      · exact ⟨_, rfl⟩
      · exact ⟨c, hs⟩
    · intro x y h
      exact ⟨h, fun tip h' => ⟨tip, h', rfl, Nat.le_refl _, fun _ => rfl⟩⟩
  refine hR.step hd hk (fun _ => rep_skip) ?_ ?_ ?_ ?_ rfl hR.rbad
  · refine ⟨?_, ?_, ?_, hR.mem.rinj, ?_⟩
    · intro s' c hs
      rw [hnew] at hs
      split at hs
      · rename_i e; subst e; cases hs
        refine ⟨us.toArray, t, setRow_heap w _ vs _ t (0, 0) h1, by simpa using hr.1, fun i c hc => ?_⟩
        obtain ⟨h4, u, h5, h6⟩ := hr.2 i c hc
        exact ⟨h4, u, by simpa using h5, h6.keep hk⟩
      · rename_i hne
        obtain ⟨vs', t', h4, h5, h6⟩ := hR.mem.box s' c hs
        have hbne : G.bx s' ≠ G.bx s := fun e => hne (hR.mem.inj s' c s cs hs hb e)
        refine ⟨vs', t', by rw [setRow_other w _ _ _ hbne]; exact h4, h5, fun i q hq => ?_⟩
        obtain ⟨h7, u, h8, h9⟩ := h6 i q hq
        exact ⟨h7, u, h8, h9.keep hk⟩
    · intro s1 c1 s2 c2 q1 q2 he
      obtain ⟨c1', q1', _⟩ := hlive s1 c1 q1
      obtain ⟨c2', q2', _⟩ := hlive s2 c2 q2
      exact hR.mem.inj s1 c1' s2 c2' q1' q2' he
    · intro x y tip h
      obtain ⟨h4, vs', h5⟩ := hR.mem.row x y tip h
      refine ⟨h4, vs', h5.kept hg (.inr ?_)⟩
      exact hR.mem.brow s cs x y tip hb h
    · intro s1 c1 x y tip q1 h
      obtain ⟨c1', q1', _⟩ := hlive s1 c1 q1
      exact hR.mem.brow s1 c1' x y tip q1' h
  · have hp := hR.pres
    refine ⟨hp.os, hp.tape, hp.output, by simpa using hp.size, fun b hb' ho => ?_, fun b t hb' ho q u hq hc => ?_⟩
    · have hne : b ≠ G.bx s := by
        rintro rfl
        rcases hR.obox s cs hb with h | h
        · omega
        · rw [ho] at h; cases h
      rw [setRow_other w _ _ _ hne]
      exact hp.block b hb' ho
    · have hne : b ≠ G.bx s := by
        rintro rfl
        rcases hR.obox s cs hb with h | h
        · omega
        · rw [ho] at h; cases h; omega
      rw [cell_setRow_other w _ _ _ hne]
      exact hp.cell b t hb' ho q u hq hc
  · intro s' c hs
    obtain ⟨c', hc', _⟩ := hlive s' c hs
    exact hR.obox s' c' hc'
  · exact hR.orow

theorem zero_real {e : TypeId} {z : AV} (h : zeroAV P e = some z) : ∃ zv, (zeroValue e).run P w = .ok zv w ∧ z = ofVal zv ∧ (P.info? e).bind (·.zero) = some zv := by
  unfold zeroAV at h
  cases hi : P.info? e with
  | none => rw [hi] at h; cases h
  | some i =>
    rw [hi] at h
    simp only [Option.map_eq_some_iff] at h
    obtain ⟨zv, h1, rfl⟩ := h
    exact ⟨zv, by simp [zeroValue, typeInfo, hi, h1], rfl, by simp [h1]⟩

variable {K : Act → World → Prop} {Q : Exit → Act → World → Prop}

theorem wp_alloc_av {e : TypeId} {d : Tmp} {z : AV} (hR : Rel P n w0 own st G a w) (ho : o.op = .alloc e) (hdst : o.dst = some d) (hd : d < n) (hz : zeroAV P e = some z) (h1 : allOne z.cells = true) (hf : (st.boxes d).isNone = true) (hfr : freeAll st.rows d 0 z.cells = true) (ts : List TypeId) {p : Prop}
    (hK : ∀ G' v w', Rel P n w0 own ((⟨p, .ptr d 0, [(d, nilCells P d 0 ts z.cells)], nilRows P d 0 ts z.cells⟩ : Eff).app (some d) st) G' (a.put (some d) v) w' → K (a.put (some d) v) w') : o.wp P a w K Q := by
  obtain ⟨zv, h2, rfl, _⟩ := zero_real (P := P) (w := w) hz
  obtain ⟨rl, _⟩ := (rep_ofVal (P := P) (st := st) (G := G) (w := w) zv).rl h1
  obtain ⟨G', hR'⟩ := hR.newBox' hd e ts rl.1 (by simpa using hf) hfr rl.2 (p := p)
  have run : (execOp a.eval o).run P w = .ok (.value (.pointer (some ⟨w.heap.size, 0, none⟩))) (w.alloc (.cells zv.cells e)) := by
    simp [execOp, ho, Instr.alloc, h2, newVar, newRow]
  refine wp_value run ?_
  rw [hdst]
  have := hK G' _ _ hR'
  simpa using this

theorem wp_box_av {e : TypeId} {d : Tmp} {x : Operand} (hR : Rel P n w0 own st G a w) (ho : o.op = .box e x) (hdst : o.dst = some d) (hd : d < n) (h1 : allOne (st.ev x).cells = true) (hf : (st.boxes d).isNone = true) (hfr : freeAll st.rows d 0 (st.ev x).cells = true) (ts : List TypeId) {p : Prop}
    (hK : ∀ G' v w', Rel P n w0 own ((⟨p, .ptr d 0, [(d, nilCells P d 0 ts (st.ev x).cells)], nilRows P d 0 ts (st.ev x).cells⟩ : Eff).app (some d) st) G' (a.put (some d) v) w' → K (a.put (some d) v) w') : o.wp P a w K Q := by
  obtain ⟨rl, _⟩ := (hR.ev x).rl h1
  obtain ⟨G', hR'⟩ := hR.newBox' hd e ts rl.1 (by simpa using hf) hfr rl.2 (p := p)
  have run : (execOp a.eval o).run P w = .ok (.value (.pointer (some ⟨w.heap.size, 0, none⟩))) (w.alloc (.cells (a.eval x).cells e)) := by
    simp [execOp, ho, Instr.box, newVar, newRow]
  refine wp_value run ?_
  rw [hdst]
  have := hK G' _ _ hR'
  simpa using this

theorem wp_store_av {t : TypeId} {x y : Operand} {s off : Nat} {cs : List AV} (hR : Rel P n w0 own st G a w) (ho : o.op = .store t x y) (hd : ∀ d, o.dst = some d → d < n) (e2 : a.eval x = .pointer (some ⟨G.bx s, off, none⟩)) (hb : st.boxes s = some cs)
    (hl : (st.ev y).cells.length = tsize P t) (h1 : allOne (st.ev y).cells = true) (hfit : off + tsize P t ≤ cs.length) (h0 : tsize P t ≠ 0) {p : Prop}
    (hK : ∀ G' w', Rel P n w0 own ((⟨p, .skip, [(s, spliceL cs off (st.ev y).cells)], []⟩ : Eff).app o.dst st) G' (a.put o.dst undef) w' → K (a.put o.dst undef) w') : o.wp P a w K Q := by
  obtain ⟨rl, hone⟩ := (hR.ev y).rl h1
  obtain ⟨us, tt, h2, h3, h4⟩ := hR.mem.box s cs hb
  have hlen : (a.eval y).cells.toList.length = (st.ev y).cells.length := rl.1
  have hsz : (a.eval y).cells.size = tsize P t := by rw [← Array.length_toList, hlen, hl]
  have hst := run_storeCells_at P (G.bx s) off tt (a.eval y).cells.toList 0 us w h2 (by simp; omega) hone
  have rlu : RLe P st G w cs us.toList := ⟨by simpa using h3, fun i c hc => by obtain ⟨q1, u, q2, q3⟩ := h4 i c hc; exact ⟨q1, u, by simpa using q2, q3⟩⟩
  have hR' := hR.setBox hd hb (rlu.splice rl (off := off) (by omega)) (by simp [spliceL]; omega) (by rintro rfl; simp at hfit; omega) (p := p)
  have run : (execOp a.eval o).run P w = .ok .skip (w.setRow (G.bx s) (us.toList.take off ++ (a.eval y).cells.toList ++ us.toList.drop (off + (a.eval y).cells.toList.length)).toArray) := by
    have hs := run_size_pos (P := P) h0 w
    simp only [Nat.add_zero] at hst
    simp only [execOp, ho, e2, Instr.storeAt, Instr.sureAddr, storeVar, Sem.run_bind, Sem.run_pure, Result.andThen_ok, hs, hsz, ne_eq, not_true_eq_false, if_false, hst]
  unfold Oper.wp
  rw [run]
  exact hK G _ hR'

theorem pure_build {t : TypeId} {parts : Array (Nat × Operand)} {fs : Array Field} {z : AV} {cs : List AV} (hR : Rel P n w0 own st G a w) (ho : o.op = .build t parts) (ht : P.underlying t = some (.struct fs)) (hz : zeroAV P t = some z)
    (hf : fillAV (fun i => (fs[i]?).map fun f => (f.offset, tsize P f.type)) z.cells (parts.toList.map fun q => (q.1, st.ev q.2)) = some cs) (h1 : allOne cs = true) (hi : fs.toList.all (fun f => (P.info? f.type).isSome) = true)
    (hp : parts.toList.all (fun q => allOne (st.ev q.2).cells) = true) (hz1 : allOne z.cells = true) : PureOK P st G w o a (.agg cs) := by
  obtain ⟨zv, h2, rfl, h3⟩ := zero_real (P := P) (w := w) hz
  obtain ⟨rl, _⟩ := (rep_ofVal (P := P) (st := st) (G := G) (w := w) zv).rl hz1
  obtain ⟨it, hit⟩ := info_of_underlying ht
  have hpl : ∃ places, fs.toList.mapM (fun f => (P.info? f.type).map fun i => (f.offset, i.size)) = some places ∧ ∀ i : Nat, ((fs[i]?).map fun (f : Field) => (f.offset, tsize P f.type)) = places.toArray[i]? := by
    have : ∀ (l : List Field), l.all (fun f => (P.info? f.type).isSome) = true → l.mapM (fun f => (P.info? f.type).map fun i => (f.offset, i.size)) = some (l.map fun (f : Field) => (f.offset, tsize P f.type)) := by
      intro l
      induction l with
      | nil => intro _; rfl
      | cons f l ih =>
        intro h
        simp only [List.all_cons, Bool.and_eq_true] at h
        obtain ⟨i, hi⟩ := Option.isSome_iff_exists.1 h.1
        rw [List.mapM_cons, hi, ih h.2]
        simp [tsize, Program.cellsOf, hi]
    exact ⟨_, this _ hi, fun i => by simp⟩
  obtain ⟨places, hpl1, hpl2⟩ := hpl
  obtain ⟨vs, h4, h5⟩ := fill_run (P := P) (st := st) (G := G) (w := w) hpl2 _ (parts.toList.map fun q => (q.1, a.eval q.2)) _ cs zv.cells hf rl (by simp) (fun i q r hq hr => by
    simp only [List.getElem?_map, Option.map_eq_some_iff] at hq hr
    obtain ⟨y, hy, rfl⟩ := hq
    obtain ⟨y', hy', rfl⟩ := hr
    rw [hy] at hy'; cases hy'
    rw [List.all_eq_true] at hp
    exact ⟨rfl, hR.ev y.2, hp y (List.mem_of_getElem? hy)⟩)
  have hzz : it.zero = some zv := by rw [hit] at h3; exact h3
  have hb : P.built t (parts.map fun (i, x) => (i, a.eval x)).toList = some vs := by
    have e : (parts.map fun (i, x) => (i, a.eval x)).toList = parts.toList.map fun q => (q.1, a.eval q.2) := by simp
    simp only [Program.built, hit, ht, hzz, hpl1, e]
    exact h4
  refine ⟨.agg vs, ?_, ?_⟩
  · simp only [execOp, ho, Sem.run_bind, run_build w t _ vs hb, Result.andThen_ok, Sem.run_pure]
  · exact ⟨vs, rfl, by simpa using h5.1, fun i c hc => by obtain ⟨q1, u, q2, q3⟩ := h5.2 i c hc; exact ⟨q1, u, by simpa using q2, q3⟩⟩

theorem pure_buildArr {t e : TypeId} {m : Nat} {parts : Array (Nat × Operand)} {z : AV} {cs : List AV} (hR : Rel P n w0 own st G a w) (ho : o.op = .build t parts) (ht : P.underlying t = some (.array m e)) (hz : zeroAV P t = some z)
    (hf : fillAV (fun i => some (i * tsize P e, tsize P e)) z.cells (parts.toList.map fun q => (q.1, st.ev q.2)) = some cs) (hi : (P.info? e).isSome = true)
    (hp : parts.toList.all (fun q => allOne (st.ev q.2).cells) = true) (hz1 : allOne z.cells = true) : PureOK P st G w o a (.agg cs) := by
  obtain ⟨zv, h2, rfl, h3⟩ := zero_real (P := P) (w := w) hz
  obtain ⟨rl, _⟩ := (rep_ofVal (P := P) (st := st) (G := G) (w := w) zv).rl hz1
  obtain ⟨it, hit⟩ := info_of_underlying ht
  obtain ⟨ie, hie⟩ := Option.isSome_iff_exists.1 hi
  have hse : tsize P e = ie.size := by simp [tsize, Program.cellsOf, hie]
  obtain ⟨vs, h4, h5⟩ := fill_run (P := P) (st := st) (G := G) (w := w) (place' := fun i => some (i * ie.size, ie.size)) (fun i => by rw [hse]) _ (parts.toList.map fun q => (q.1, a.eval q.2)) _ cs zv.cells hf rl (by simp) (fun i q r hq hr => by
    simp only [List.getElem?_map, Option.map_eq_some_iff] at hq hr
    obtain ⟨y, hy, rfl⟩ := hq
    obtain ⟨y', hy', rfl⟩ := hr
    rw [hy] at hy'; cases hy'
    rw [List.all_eq_true] at hp
    exact ⟨rfl, hR.ev y.2, hp y (List.mem_of_getElem? hy)⟩)
  have hzz : it.zero = some zv := by rw [hit] at h3; exact h3
  have hb : P.built t (parts.map fun (i, x) => (i, a.eval x)).toList = some vs := by
    have e : (parts.map fun (i, x) => (i, a.eval x)).toList = parts.toList.map fun q => (q.1, a.eval q.2) := by simp
    simp only [Program.built, hit, ht, hzz, hie, e]
    exact h4
  refine ⟨.agg vs, ?_, ?_⟩
  · simp only [execOp, ho, Sem.run_bind, run_build w t _ vs hb, Result.andThen_ok, Sem.run_pure]
  · exact ⟨vs, rfl, by simpa using h5.1, fun i c hc => by obtain ⟨q1, u, q2, q3⟩ := h5.2 i c hc; exact ⟨q1, u, by simpa using q2, q3⟩⟩
end
end Go.Proofs.Ytddilmocngedjaa
/- A row of the frame's own, made or grown: the frame's state follows. -/
namespace Go.Proofs.Ytddilmocngedjaa
set_option linter.unusedVariables false
set_option linter.unusedSimpArgs false
open Go.RowKit

section
variable {P : Program} {n : Nat} {w0 : World} {own : OwnP} {st st' : St} {G G' : Gh} {a : Act} {w w' : World} {o : Oper}

theorem upd2_same {α : Type} (f : Nat → Nat → α) (x y : Nat) (v : α) : upd2 f (x, y) v x y = v := by simp [upd2]
theorem upd2_other {α : Type} (f : Nat → Nat → α) {x y x' y' : Nat} (v : α) (h : ¬ (x' = x ∧ y' = y)) : upd2 f (x, y) v x' y' = f x' y' := by
  unfold upd2
  have : (x' == x && y' == y) = false := by
    rw [Bool.and_eq_false_iff]
    by_cases h1 : x' = x
    · right; simp; intro h2; exact h ⟨h1, h2⟩
    · left; simpa using h1
  rw [this]; rfl

def RowWas (st : St) (G : Gh) (P : Program) (x y e tip' : Nat) (v' : Value) (old : Option Nat) (tip : Nat) : Prop :=
  (st.rows x y = .free ∧ old = none ∧ tip = 0) ∨ (st.rows x y = .live tip ∧ G.et x y = e ∧ tip ≤ tip' ∧ (tip = tip' → v' = G.cv x y) ∧ old = (G.cv x y).ownBlock)

theorem Rel.setRowName (hR : Rel P n w0 own st G a w) {d : Tmp} (hd : d < n) {x y e tip tip' : Nat} {v' : Value} {old : Option Nat} {zs : List AV} {us : List Value} (hwas : RowWas st G P x y e tip' v' old tip) (hpos : 0 < tsize P e)
    (hown : w'.ownsRow 0 e (tsize P e) v' tip' us) (hg : w.grownBy w' old) (hb : v'.ownBlock = old ∨ v'.ownBlock = some w.heap.size)
    (hold : ∀ g o u, old = some g → o < tip * tsize P e → w.cell? ⟨g, o, none⟩ = some u → w'.cell? ⟨g, o, none⟩ = some u) (hz : zs.length = tip') {p : Prop}
    (hrep : ∀ st'' G', st'' = (⟨p, .sl zs (.row x y e), [], [((x, y), .live tip')]⟩ : Eff).app (some d) st → G'.bx = G.bx → Kp P st G w st'' G' w' → (∀ g o, v'.ownBlock = some g → o < tip' * tsize P e → stable P st'' G' g o) → RepP w' (stable P st'' G') (.sl zs .no) v') :
    ∃ G', Rel P n w0 own ((⟨p, .sl zs (.row x y e), [], [((x, y), .live tip')]⟩ : Eff).app (some d) st) G' (a.put (some d) v') w' := by
  obtain ⟨st'', hst''⟩ : ∃ s, s = (⟨p, .sl zs (.row x y e), [], [((x, y), .live tip')]⟩ : Eff).app (some d) st := ⟨_, rfl⟩
  obtain ⟨G', hG'⟩ : ∃ G' : Gh, G' = { bx := G.bx, cv := upd2 G.cv (x, y) v', et := upd2 G.et (x, y) e, bad := G.bad } := ⟨_, rfl⟩
  have hbx : G'.bx = G.bx := by rw [hG']
  have hcv1 : G'.cv x y = v' := by rw [hG']; exact upd2_same _ _ _ _
  have het1 : G'.et x y = e := by rw [hG']; exact upd2_same _ _ _ _
  have hcv2 : ∀ x' y', ¬ (x' = x ∧ y' = y) → G'.cv x' y' = G.cv x' y' := fun x' y' h => by rw [hG']; exact upd2_other _ _ h
  have het2 : ∀ x' y', ¬ (x' = x ∧ y' = y) → G'.et x' y' = G.et x' y' := fun x' y' h => by rw [hG']; exact upd2_other _ _ h
  have hboxes : st''.boxes = st.boxes := by rw [hst'']; rfl
  have hr1 : st''.rows x y = .live tip' := by rw [hst'']; exact upd2_same _ _ _ _
  have hr2 : ∀ x' y', ¬ (x' = x ∧ y' = y) → st''.rows x' y' = st.rows x' y' := fun x' y' h => by rw [hst'']; exact upd2_other _ _ h
  have hrl : ∀ x y tip g, st.rows x y = .live tip → (G.cv x y).ownBlock = some g → g < w.heap.size := by
    intro x y tip g h1 h2
    obtain ⟨_, us, h3⟩ := hR.mem.row x y tip h1
    exact (h3.lt g h2).2
  have hbl : ∀ s cs, st.boxes s = some cs → G.bx s < w.heap.size := by
    intro s cs h
    obtain ⟨_, _, h1, _⟩ := hR.mem.box s cs h
    exact (Array.getElem?_eq_some_iff.1 h1).1
  have holdlt : ∀ g, old = some g → g < w.heap.size := by
    intro g h
    rcases hwas with ⟨_, h1, _⟩ | ⟨h1, _, _, _, h2⟩
    · rw [h1] at h; cases h
    · exact hrl x y tip g h1 (by rw [← h2]; exact h)
  -- boxes are not in the row
  have hbo : ∀ s cs, st.boxes s = some cs → some (G.bx s) ≠ old := by
    intro s cs h e'
    rcases hwas with ⟨_, h1, _⟩ | ⟨h1, _, _, _, h2⟩
    · rw [h1] at e'; cases e'
    · exact hR.mem.brow s cs x y tip h h1 (by rw [← h2, ← e'])
  have hro : ∀ x' y' t g, ¬ (x' = x ∧ y' = y) → st.rows x' y' = .live t → (G.cv x' y').ownBlock = some g → some g ≠ old := by
    intro x' y' t g hne h1 h2 e'
    rcases hwas with ⟨_, h3, _⟩ | ⟨h3, _, _, _, h4⟩
    · rw [h3] at e'; cases e'
    · exact hne (hR.mem.rinj x' y' t x y tip g h1 h3 h2 (by rw [← h4, ← e']))
  have hk : Kp P st G w st'' G' w' := by
    refine ⟨?_, ?_, ?_, fun _ _ h => by rw [hG'] at h; exact h⟩
    · intro b o u ⟨s0, s1, s2⟩ hc
      have hlt : b < w.heap.size := World.block_lt_of_cell? w _ hc
      have htip : old = some b → o < tip * tsize P e := by
        intro h
        rcases hwas with ⟨_, h1, _⟩ | ⟨h1, h2, _, _, h3⟩
        · rw [h1] at h; cases h
        · rw [← h2]; exact s2 x y tip h1 (by rw [← h3]; exact h)
      refine ⟨⟨by rw [hG']; exact s0, ?_, ?_⟩, ?_⟩
      · intro s cs hs; rw [hboxes] at hs; rw [hbx]; exact s1 s cs hs
      · intro x' y' t h1 h2
        by_cases he : x' = x ∧ y' = y
        · obtain ⟨rfl, rfl⟩ := he
          rw [hr1] at h1; cases h1
          rw [hcv1] at h2
          rw [het1]
          rcases hb with hb | hb
          · have := htip (by rw [← hb]; exact h2)
            have hle : tip ≤ tip' := by
              rcases hwas with ⟨_, _, h⟩ | ⟨_, _, h, _⟩ <;> omega
            exact Nat.lt_of_lt_of_le this (Nat.mul_le_mul_right _ hle)
          · rw [hb] at h2; cases h2; omega
        · rw [hr2 _ _ he] at h1
          rw [hcv2 _ _ he] at h2
          rw [het2 _ _ he]
          exact s2 x' y' t h1 h2
      · by_cases he : some b = old
        · exact hold b o u he.symm (htip he.symm) hc
        · rw [World.cell?_of_block (w := w) (hg.block b hlt he)]; exact hc
    · intro s cs hs
      exact ⟨⟨cs, by rw [hboxes]; exact hs⟩, by rw [hbx]⟩
    · intro x' y' h
      by_cases he : x' = x ∧ y' = y
      · obtain ⟨rfl, rfl⟩ := he
        refine ⟨by rw [hr1]; simp, fun t ht => ?_⟩
        rw [hr1] at ht; cases ht
        rcases hwas with ⟨h1, _, _⟩ | ⟨h1, h2, h3, h4, _⟩
        · exact absurd h1 h
        · exact ⟨tip, h1, by rw [het1, h2], h3, fun hh => by rw [hcv1]; exact h4 hh⟩
      · rw [hr2 _ _ he, hcv2 _ _ he, het2 _ _ he]
        exact ⟨h, fun t ht => ⟨t, ht, rfl, Nat.le_refl _, fun _ => rfl⟩⟩
  have hblk : ∀ g, v'.ownBlock = some g → (∀ s cs, st.boxes s = some cs → G.bx s ≠ g) ∧ ∀ x' y' t, ¬ (x' = x ∧ y' = y) → st.rows x' y' = .live t → (G.cv x' y').ownBlock ≠ some g := by
    intro g hg'
    rcases hb with hb | hb
    · refine ⟨fun s cs hs e' => hbo s cs hs (by rw [e', ← hb, hg']), fun x' y' t hne h1 h2 => hro x' y' t g hne h1 h2 (by rw [← hb, hg'])⟩
    · rw [hb] at hg'; cases hg'
      exact ⟨fun s cs hs e' => by have := hbl s cs hs; omega, fun x' y' t hne h1 h2 => by have := hrl x' y' t _ h1 h2; omega⟩
  have hnbad : ∀ g o, v'.ownBlock = some g → ¬ G.bad g o := by
    intro g o hg' hbad
    rcases hb with hb | hb
    · rcases hwas with ⟨_, h3, _⟩ | ⟨h3, _, _, _, h4⟩
      · rw [hb, h3] at hg'; cases hg'
      · exact hR.rbad x y tip g o h3 (by rw [← h4, ← hb]; exact hg') hbad
    · rw [hb] at hg'; cases hg'
      have := hR.bad _ _ hbad
      have := hR.pres.size
      omega
  have hstab : ∀ g o, v'.ownBlock = some g → o < tip' * tsize P e → stable P st'' G' g o := by
    intro g o hg' ho
    refine ⟨by rw [hG']; exact hnbad g o hg', fun s cs hs => by rw [hboxes] at hs; rw [hbx]; exact fun _ => (hblk g hg').1 s cs hs, fun x' y' t h1 h2 => ?_⟩
    by_cases he : x' = x ∧ y' = y
    · obtain ⟨rfl, rfl⟩ := he
      rw [hr1] at h1; cases h1
      rw [het1]; exact ho
    · rw [hr2 _ _ he] at h1
      rw [hcv2 _ _ he] at h2
      exact absurd h2 ((hblk g hg').2 x' y' t he h1)
  have hrp := hrep st'' G' hst'' hbx hk hstab
  refine ⟨G', ?_⟩
  rw [← hst'']
  have hval : ((⟨p, .sl zs (.row x y e), [], [((x, y), .live tip')]⟩ : Eff)).val = .sl zs (.row x y e) := rfl
  rw [hst''] at hk hrp hstab hr1 hr2 hboxes
  rw [hst'']
  refine hR.step (by rintro _ ⟨⟩; exact hd) hk (fun _ => ?_) ?_ ?_ ?_ ?_ (by rw [hG']) (fun x' y' t g o h1 h2 => ?_)
  · refine (⟨hrp, ?_⟩ : Rep1 P _ G' w' (.sl zs (.row x y e)) v')
    rw [hr1]
    exact ⟨het1.symm, by omega, fun _ => hcv1.symm⟩
  · refine ⟨?_, ?_, ?_, ?_, ?_⟩
    · intro s cs hs
      rw [hboxes] at hs
      rw [hbx]
      obtain ⟨vs, t, h1, h2, h3⟩ := hR.mem.box s cs hs
      refine ⟨vs, t, by rw [hg.block _ (hbl s cs hs) (hbo s cs hs)]; exact h1, h2, fun i c hc => ?_⟩
      obtain ⟨h4, u, h5, h6⟩ := h3 i c hc
      exact ⟨h4, u, h5, h6.keep hk⟩
    · intro s c s' c' h1 h2 he
      rw [hboxes] at h1 h2
      rw [hbx] at he
      exact hR.mem.inj s c s' c' h1 h2 he
    · intro x' y' t h1
      by_cases he : x' = x ∧ y' = y
      · obtain ⟨rfl, rfl⟩ := he
        rw [hr1] at h1; cases h1
        rw [hcv1, het1]
        exact ⟨hpos, us, hown⟩
      · rw [hr2 _ _ he] at h1
        rw [hcv2 _ _ he, het2 _ _ he]
        obtain ⟨h2, vs, h3⟩ := hR.mem.row x' y' t h1
        refine ⟨h2, vs, h3.kept hg ?_⟩
        cases hq : (G.cv x' y').ownBlock with
        | none => exact .inl rfl
        | some g => exact .inr (hro x' y' t g he h1 hq)
    · intro x1 y1 t1 x2 y2 t2 g h1 h2 h3 h4
      by_cases e1 : x1 = x ∧ y1 = y <;> by_cases e2 : x2 = x ∧ y2 = y
      · exact ⟨by rw [e1.1, e2.1], by rw [e1.2, e2.2]⟩
      · obtain ⟨rfl, rfl⟩ := e1
        rw [hcv1] at h3
        rw [hr2 _ _ e2] at h2
        rw [hcv2 _ _ e2] at h4
        exact absurd h4 ((hblk g h3).2 x2 y2 t2 e2 h2)
      · obtain ⟨rfl, rfl⟩ := e2
        rw [hcv1] at h4
        rw [hr2 _ _ e1] at h1
        rw [hcv2 _ _ e1] at h3
        exact absurd h3 ((hblk g h4).2 x1 y1 t1 e1 h1)
      · rw [hr2 _ _ e1] at h1
        rw [hr2 _ _ e2] at h2
        rw [hcv2 _ _ e1] at h3
        rw [hcv2 _ _ e2] at h4
        exact hR.mem.rinj x1 y1 t1 x2 y2 t2 g h1 h2 h3 h4
    · intro s cs x' y' t h1 h2
      rw [hboxes] at h1
      rw [hbx]
      by_cases he : x' = x ∧ y' = y
      · obtain ⟨rfl, rfl⟩ := he
        rw [hcv1]
        intro hq
        exact (hblk _ hq).1 s cs h1 rfl
      · rw [hr2 _ _ he] at h2
        rw [hcv2 _ _ he]
        exact hR.mem.brow s cs x' y' t h1 h2
  · have hp := hR.pres
    refine ⟨hg.os.trans hp.os, hg.tape.trans hp.tape, hg.output.trans hp.output, Nat.le_trans hp.size hg.size, fun b hlt hn => ?_, fun b t hlt ht q u hq hc => ?_⟩
    · have hne : some b ≠ old := by
        intro e'
        rcases hwas with ⟨_, h1, _⟩ | ⟨h1, _, _, _, h2⟩
        · rw [h1] at e'; cases e'
        · rcases hR.orow x y tip b h1 (by rw [← h2, ← e']) with h | ⟨t, h, _⟩
          · omega
          · rw [hn] at h; cases h
      rw [hg.block b (by have := hp.size; omega) hne]
      exact hp.block b hlt hn
    · have hcw := hp.cell b t hlt ht q u hq hc
      by_cases he : some b = old
      · rcases hwas with ⟨_, h1, _⟩ | ⟨h1, h5, _, _, h2⟩
        · rw [h1] at he; cases he
        · rcases hR.orow x y tip b h1 (by rw [← h2, ← he]) with h | ⟨t', h, h'⟩
          · omega
          · rw [ht] at h; cases h
            rw [h5] at h'
            exact hold b q u he.symm (by omega) hcw
      · rw [World.cell?_of_block (w := w) (hg.block b (by have := hp.size; omega) he)]; exact hcw
  · intro s cs hs
    rw [hboxes] at hs
    rw [hbx]
    exact hR.obox s cs hs
  · intro x' y' t g h1 h2
    by_cases he : x' = x ∧ y' = y
    · obtain ⟨rfl, rfl⟩ := he
      rw [hr1] at h1; cases h1
      rw [hcv1] at h2
      rw [het1]
      rcases hb with hb | hb
      · rcases hwas with ⟨_, h3, _⟩ | ⟨h3, h5, h6, _, h4⟩
        · rw [hb, h3] at h2; cases h2
        · rcases hR.orow x' y' tip g h3 (by rw [← h4, ← hb]; exact h2) with h | ⟨t', h, h'⟩
          · exact .inl h
          · refine .inr ⟨t', h, Nat.le_trans h' ?_⟩
            rw [h5]
            exact Nat.mul_le_mul_right _ h6
      · rw [hb] at h2; cases h2
        exact .inl hR.pres.size
    · rw [hr2 _ _ he] at h1
      rw [hcv2 _ _ he] at h2
      rw [het2 _ _ he]
      exact hR.orow x' y' t g h1 h2
  · by_cases he : x' = x ∧ y' = y
    · obtain ⟨rfl, rfl⟩ := he
      rw [hcv1] at h2
      exact hnbad g o h2
    · rw [hr2 _ _ he] at h1
      rw [hcv2 _ _ he] at h2
      exact hR.rbad x' y' t g o h1 h2
end
end Go.Proofs.Ytddilmocngedjaa
/- append: the frame's state follows. -/
namespace Go.Proofs.Ytddilmocngedjaa
set_option linter.unusedVariables false
set_option linter.unusedSimpArgs false
open Go.RowKit

def FL (w : World) (S : Nat → Nat → Prop) (size : Nat) (xs : List AV) (us : List Value) : Prop :=
  us.length = xs.length * size ∧ ∀ (i : Nat) x, xs[i]? = some x → x.cells.length = size ∧ ∀ (j : Nat) c, x.cells[j]? = some c → c.one = true ∧ ∃ u, us[i * size + j]? = some u ∧ RepP w S c u

section
variable {P : Program} {n : Nat} {w0 : World} {own : OwnP} {st st' : St} {G G' : Gh} {a : Act} {w w' : World} {o : Oper} {S S' : Nat → Nat → Prop} {size : Nat}

theorem idx_lt {i j m size : Nat} (hi : i < m) (hj : j < size) : i * size + j < m * size := by
  calc i * size + j < i * size + size := by omega
    _ = (i + 1) * size := by rw [Nat.add_mul, Nat.one_mul]
    _ ≤ m * size := Nat.mul_le_mul_right _ hi

theorem FL.mono {xs : List AV} {us : List Value} (h : FL w S size xs us) (hk : ∀ b o u, S b o → w.cell? ⟨b, o, none⟩ = some u → S' b o ∧ w'.cell? ⟨b, o, none⟩ = some u) : FL w' S' size xs us :=
  ⟨h.1, fun i x hx => ⟨(h.2 i x hx).1, fun j c hc => by
    obtain ⟨h1, u, h2, h3⟩ := (h.2 i x hx).2 j c hc
    exact ⟨h1, u, h2, h3.mono hk⟩⟩⟩
theorem FL.nil : FL w S size [] [] := ⟨by simp, fun i x h => by simp at h⟩
theorem FL.append {xs ys : List AV} {us vs : List Value} (h : FL w S size xs us) (h' : FL w S size ys vs) : FL w S size (xs ++ ys) (us ++ vs) := by
  refine ⟨by simp [h.1, h'.1, Nat.add_mul], fun i x hx => ?_⟩
  by_cases hi : i < xs.length
  · rw [List.getElem?_append_left hi] at hx
    refine ⟨(h.2 i x hx).1, fun j c hc => ?_⟩
    obtain ⟨h1, u, h2, h3⟩ := (h.2 i x hx).2 j c hc
    exact ⟨h1, u, by rw [List.getElem?_append_left (List.getElem?_eq_some_iff.1 h2).1]; exact h2, h3⟩
  · rw [List.getElem?_append_right (by omega)] at hx
    refine ⟨(h'.2 _ x hx).1, fun j c hc => ?_⟩
    obtain ⟨h1, u, h2, h3⟩ := (h'.2 _ x hx).2 j c hc
    refine ⟨h1, u, ?_, h3⟩
    have e : i * size + j = us.length + ((i - xs.length) * size + j) := by
      rw [h.1, Nat.sub_mul]
      have := Nat.mul_le_mul_right size (Nat.le_of_not_lt hi)
      omega
    rw [e, List.getElem?_append_right (by omega), Nat.add_sub_cancel_left]
    exact h2

theorem FL.of {xs : List AV} {ow : Own} {r : Value} (h : RepP w S (.sl xs ow) r) (hz : ∀ z ∈ xs, z.cells.length = size) : ∃ us ad cap, r = .slice ad xs.length cap ∧ FL w S size xs us ∧
    (xs = [] ∨ ∃ b off, ad = some ⟨b, off, none⟩ ∧ ∀ k u, us[k]? = some u → w.cell? ⟨b, off + k, none⟩ = some u) := by
  cases h with
  | slnil _ ad cap h => exact ⟨[], ad, cap, rfl, FL.nil, .inl rfl⟩
  | sl _ _ b off cap size' us hc hm hsz hS hr =>
    by_cases hx : xs = []
    · subst hx; exact ⟨[], _, cap, rfl, FL.nil, .inl rfl⟩
    · have h0 : 0 < xs.length := List.length_pos_iff.2 hx
      have hs : size' = size := by
        rw [← hsz 0 xs[0] (List.getElem?_eq_getElem h0)]
        exact hz _ (List.getElem_mem h0)
      subst hs
      have get : ∀ i j, i < xs.length → j < size' → ((List.range (xs.length * size')).map fun q => us (q / size') (q % size'))[i * size' + j]? = some (us i j) := by
        intro i j hi hj
        have h1 := idx_lt hi hj
        have e1 : (i * size' + j) / size' = i := by
          rw [Nat.mul_comm, Nat.mul_add_div (by omega)]
          rw [Nat.div_eq_of_lt hj, Nat.add_zero]
        have e2 : (i * size' + j) % size' = j := by
          rw [Nat.mul_comm, Nat.mul_add_mod]
          exact Nat.mod_eq_of_lt hj
        simp [h1, e1, e2]
      refine ⟨(List.range (xs.length * size')).map fun q => us (q / size') (q % size'), _, cap, rfl, ⟨by simp, fun i x hx' => ⟨hsz i x hx', fun j c hc' => ?_⟩⟩, .inr ⟨b, off, rfl, fun k u hk => ?_⟩⟩
      · have hi := (List.getElem?_eq_some_iff.1 hx').1
        have hj : j < size' := by rw [← hsz i x hx']; exact (List.getElem?_eq_some_iff.1 hc').1
        exact ⟨(hS i x j c hx' hc').2.2, us i j, get i j hi hj, hr i x j c hx' hc'⟩
      · have hk1 : k < xs.length * size' := by simpa using (List.getElem?_eq_some_iff.1 hk).1
        have hsp : 0 < size' := by
          rcases Nat.eq_zero_or_pos size' with h | h
          · subst h; omega
          · exact h
        have hi : k / size' < xs.length := by rw [Nat.div_lt_iff_lt_mul hsp]; exact hk1
        have hj : k % size' < size' := Nat.mod_lt _ hsp
        have hxi := List.getElem?_eq_getElem hi
        have hcl := hsz _ _ hxi
        have hcj := List.getElem?_eq_getElem (l := xs[k / size'].cells) (i := k % size') (by rw [hcl]; exact hj)
        have h2 := (hS _ _ _ _ hxi hcj).2.1
        have e : k / size' * size' + k % size' = k := by rw [Nat.mul_comm]; exact Nat.div_add_mod k size'
        rw [Nat.add_assoc, e] at h2
        have h3 := get _ _ hi hj
        rw [e, hk] at h3
        cases h3
        exact h2

theorem FL.row {e : Nat} {v : Value} {zs : List AV} {us : List Value} {m : Nat} (hown : w.ownsRow 0 e size v m us) (hm : zs.length = m) (h : FL w S size zs us) (hS : ∀ g o, v.ownBlock = some g → o < m * size → S g o) : RepP w S (.sl zs .no) v := by
  subst hm
  rcases hown.2 with ⟨rfl, h0⟩ | ⟨g, cap, cur, rfl, _, h1, h2, h3, h4, h5⟩
  · have : zs = [] := List.eq_nil_of_length_eq_zero h0
    subst this
    exact .slnil _ _ _ (by unfold maxLen; omega)
  · refine .sl zs .no g 0 cap size (fun i j => us.getD (i * size + j) undef) h2 h3 (fun i x hx => (h.2 i x hx).1) (fun i x j c hx hc => ?_) (fun i x j c hx hc => ?_)
    · obtain ⟨q1, u, q2, q3⟩ := (h.2 i x hx).2 j c hc
      have hi := (List.getElem?_eq_some_iff.1 hx).1
      have hj : j < size := by rw [← (h.2 i x hx).1]; exact (List.getElem?_eq_some_iff.1 hc).1
      have hlt := idx_lt hi hj
      rw [Nat.zero_add]
      refine ⟨hS g _ rfl hlt, ?_, q1⟩
      have := hown.cells (g := g) rfl _ _ q2
      rw [Addr.add_mid, Nat.zero_add] at this
      rw [this]
      simp [List.getD, q2]
    · obtain ⟨q1, u, q2, q3⟩ := (h.2 i x hx).2 j c hc
      simpa [List.getD, q2] using q3

theorem run_append_av (w : World) (t tx ty e : TypeId) (i : TypeInfo) (z : Value) (ht : P.underlying t = some (.slice e)) (hi : P.info? e = some i) (hz : i.zero = some z) (hzs : z.cells.size = i.size)
    (v : Value) (m : Nat) (olds : List Value) (hown : w.ownsRow 0 e i.size v m olds) (x : Value) (k : Nat) (news : List Value) (hs : Src P i.size tx x k news w)
    (h63 : m + k ≤ maxLen) (hbytes : (m + k) * i.bytes ≤ 140737488355328) :
    ∃ v' w', (Builtin.append_ #[t, tx] ty #[v, x]).run P w = .ok v' w' ∧ w'.ownsRow 0 e i.size v' (m + k) (olds ++ news) ∧ w.grownBy w' v.ownBlock ∧ (v'.ownBlock = v.ownBlock ∨ v'.ownBlock = some w.heap.size ∧ w.grownBy w' none) ∧ (k = 0 → v' = v) := by
  have hsmall : m + k ≤ 9223372036854775807 := by simp only [maxLen] at h63; omega
  have hlen : (olds ++ news).length = (m + k) * i.size := by rw [List.length_append, hown.1, hs.newsLen, Nat.add_mul]
  have grown : ∀ (old : Nat), old < m + k → ∀ (row : Option Nat),
      (w.drew.alloc (.cells ((olds ++ news).toArray ++ Builtin.zeroCells z.cells (grownCap w (m + k) old e - (m + k))) e)).ownsRow 0 e i.size
        (.slice (some ⟨w.heap.size, 0, none⟩) (m + k) (grownCap w (m + k) old e)) (m + k) (olds ++ news) ∧
      w.grownBy (w.drew.alloc (.cells ((olds ++ news).toArray ++ Builtin.zeroCells z.cells (grownCap w (m + k) old e - (m + k))) e)) row := by
    intro old ho row
    have hge := grownCap_ge w (m + k) old e
    have hcm : grownCap w (m + k) old e ≤ maxLen := grownCap_le_maxLen w (m + k) old e h63
    refine ⟨⟨hlen, .inr ⟨w.heap.size, _, _, rfl, Nat.zero_le _, heap_alloc_new w.drew _, hge, hcm, ?_, ?_⟩⟩, ⟨rfl, rfl, rfl, by simp, fun k hk _ => heap_alloc_old w.drew _ hk⟩⟩
    · simp only [Array.size_append, List.size_toArray, size_zeroCells, hzs, hlen, ← Nat.add_mul]
      congr 1
      omega
    · simp only [Array.toList_append]
      rw [← hlen]
      exact List.take_left
  by_cases hk0 : k = 0
  · subst hk0
    have hn : news = [] := List.eq_nil_of_length_eq_zero (by simpa using hs.newsLen)
    subst hn
    refine ⟨v, w, ?_, by simpa using hown, ⟨rfl, rfl, rfl, Nat.le_refl _, fun _ _ _ => rfl⟩, .inl rfl, fun _ => rfl⟩
    rcases hown.2 with ⟨rfl, _⟩ | ⟨g, cap, cur, rfl, _, _, h2, _⟩
    · exact run_append_nothing w t tx ty e i ht hi none 0 0 (Nat.le_refl _) x hs
    · exact run_append_nothing w t tx ty e i ht hi _ m cap h2 x hs
  · rcases hown.2 with ⟨rfl, h0⟩ | ⟨g, cap, cur, rfl, hbg, hg, hnc, hcm, hcs, htake⟩
    · subst h0
      have hx : olds = [] := List.eq_nil_of_length_eq_zero (by simpa using hown.1)
      subst hx
      have hr := run_append_grow_src (P := P) w t tx ty e i z ht hi hz none 0 0 [] (run_firstCells_none w.drew i.size 0 0 0) x k news hs (by omega) (by omega) (growslice_fits (by omega) hbytes)
      have hgr := grown 0 (by omega) (Value.ownBlock (.slice none 0 0))
      exact ⟨_, _, hr, hgr.1, hgr.2, .inr ⟨rfl, (grown _ (by omega) none).2⟩, fun h => absurd h hk0⟩
    · by_cases hroom : m + k ≤ cap
      · have hfit : m * i.size + news.length ≤ cur.size := by rw [hs.newsLen, hcs, ← Nat.add_mul]; exact Nat.mul_le_mul_right _ hroom
        have hst := run_storeCells_at P g (m * i.size) e news 0 cur w hg (by simpa using hfit) hs.one
        simp only [Nat.add_zero] at hst
        have hr : (Builtin.append_ #[t, tx] ty #[.slice (some ⟨g, 0, none⟩) m cap, x]).run P w = .ok (.slice (some ⟨g, 0, none⟩) (m + k) cap) (w.setRow g (cur.toList.take (m * i.size) ++ news ++ cur.toList.drop (m * i.size + news.length)).toArray) := by
          rcases hs.kind with ⟨e', hk⟩ | hk <;> simp [Builtin.append_, run_underlying ht, run_underlying hk, sizeOf, typeInfo, hi, hs.len, hroom, hs.cells, Addr.add_lit, hst]
        refine ⟨_, _, hr, ⟨hlen, .inr ⟨g, cap, _, rfl, hbg, setRow_heap w g cur _ e _ hg, hroom, hcm, ?_, ?_⟩⟩, ⟨rfl, rfl, rfl, by simp, fun k _ hk => setRow_other w g k _ (fun e => hk (by simp [Value.ownBlock, e]))⟩, .inl rfl, fun h => absurd h hk0⟩
        · simp only [List.size_toArray, List.length_append, List.length_take, List.length_drop, Array.length_toList]
          omega
        · rw [htake, ← hlen]
          exact List.take_left
      · have holds : ∀ j u, olds[j]? = some u → w.drew.cell? ((⟨g, 0, none⟩ : Addr).add j) = some u := fun j u h => hown.cells (g := g) rfl j u h
        have hr := run_append_grow_src (P := P) w t tx ty e i z ht hi hz (some ⟨g, 0, none⟩) m cap olds (run_firstCells_some w.drew i.size m ⟨g, 0, none⟩ m cap olds hown.1 holds) x k news hs (by omega) (by omega) (growslice_fits (by omega) hbytes)
        have hgr := grown cap (by omega) (Value.ownBlock (.slice (some ⟨g, 0, none⟩) m cap))
        exact ⟨_, _, hr, hgr.1, hgr.2, .inr ⟨rfl, (grown _ (by omega) none).2⟩, fun h => absurd h hk0⟩
end
end Go.Proofs.Ytddilmocngedjaa
/- append, at the operation; a slice made of its elements. -/
namespace Go.Proofs.Ytddilmocngedjaa
set_option linter.unusedVariables false
set_option linter.unusedSimpArgs false
open Go.RowKit

section
variable {P : Program} {n : Nat} {w0 : World} {own : OwnP} {st st' : St} {G G' : Gh} {a : Act} {w w' : World} {o : Oper}

theorem byte_one (b : UInt8) : (byteAV b).one = true ∧ (byteAV b).cells = [byteAV b] := ⟨rfl, rfl⟩
theorem repP_byte {S : Nat → Nat → Prop} (b : UInt8) : RepP w S (byteAV b) (.int .u8 (b.toNat : Int)) := by
  have hb : b.toNat < 256 := b.toNat_lt
  have h1 : IntKind.u8.min = 0 := by decide
  have h2 : IntKind.u8.max = 255 := by decide
  exact RepP.int _ _ (by omega) (by omega)
theorem FL.bytes {S : Nat → Nat → Prop} (l : List UInt8) : FL w S 1 (l.map byteAV) (byteCells ⟨l.toArray⟩) := by
  refine ⟨by simp [byteCells], fun i x hx => ?_⟩
  simp only [List.getElem?_map, Option.map_eq_some_iff] at hx
  obtain ⟨b, hb, rfl⟩ := hx
  refine ⟨rfl, fun j c hc => ?_⟩
  match j, hc with
  | 0, hc =>
    simp [byteAV, AV.cells] at hc
    subst hc
    exact ⟨rfl, .int .u8 (b.toNat : Int), by simp [byteCells, hb], repP_byte b⟩

theorem pure_convBytes {x : Operand} {s t e : TypeId} {xs : List AV} {ow : Own} (hR : Rel P n w0 own st G a w) (ho : o.op = .convert s t x) (hs : P.underlying s = some (.slice e)) (ht : P.underlying t = some .string) (he : P.underlying e = some (.int .u8))
    (hx : st.ev x = .sl xs ow) (hp : isBytes xs) : PureOK P st G w o a (.str (bytesL xs)) := by
  have e1 := hR.ev x
  rw [hx] at e1
  have e2 := e1.inv_sl
  obtain ⟨l, hl⟩ : ∃ l, l = bytesL xs := ⟨_, rfl⟩
  have hxs : xs = l.map byteAV := by rw [hl]; exact hp
  rw [← hl]
  clear hl hp
  subst hxs
  obtain ⟨us, ad, cap, e3, e4, e5⟩ := FL.of (size := 1) e2 (fun z hz => by obtain ⟨b, _, rfl⟩ := List.mem_map.1 hz; rfl)
  obtain ⟨ad', cap', e6, e7, e8⟩ := e2.form
  rw [e3] at e6
  have hlen : l.length ≤ 9223372036854775807 := by unfold maxLen at e8; simp at e7; omega
  have key : (convert s t (.slice ad (l.map byteAV).length cap)).run P w = .ok (.string ⟨l.toArray⟩) w := by
    rw [List.length_map]
    have hget : ∀ j (hj : j < l.length), us[j]? = some (.int .u8 (l[j].toNat : Int)) := by
      intro j hj
      obtain ⟨_, f2⟩ := e4.2 j (byteAV l[j]) (by simp [hj])
      obtain ⟨_, u, f3, f4⟩ := f2 0 (byteAV l[j]) rfl
      rw [Nat.mul_one, Nat.add_zero] at f3
      rw [f3]
      cases f4; rfl
    rcases e5 with h0 | ⟨b, off, rfl, hc⟩
    · have : l = [] := by simpa using h0
      subst this
      cases ad with
      | none => rw [List.length_nil, run_convert_bytes_string w s t e none 0 cap hs he ht]; simp [Conv.bytesToString, Sem.run_pure]; rfl
      | some ad => exact run_convert_bytes_back w s t e ad cap [] hs he ht (fun j hj => by simp at hj)
    · refine run_convert_bytes_back w s t e _ cap l hs he ht (fun j hj => ?_)
      have h3 := hc j _ (hget j hj)
      rw [Addr.add_mid]
      exact h3
  rw [List.length_map] at key e3
  exact ⟨_, by simp [execOp, ho, e3, key, Result.andThen], rep_str hlen⟩

theorem src_of {y : AV} {r : Value} {t : TypeId} {ys : List AV} {size e : Nat} (hy : Rep P st G w y r) (hs : srcOf P t y = some ys) (hz : ∀ z ∈ ys, z.cells.length = size) (hf : strFits P e y = true) (he : tsize P e = size) :
    ∃ news, Src P size t r ys.length news w ∧ FL w (stable P st G) size ys news := by
  unfold srcOf at hs
  split at hs
  · rename_i xs ow
    split at hs
    · rename_i e' hu
      cases hs
      obtain ⟨us, ad, cap, rfl, h2, h3⟩ := FL.of (hy.inv_sl) hz
      refine ⟨us, ?_, h2⟩
      have hone : ∀ u ∈ us, u.oneCell' = true := by
        intro u hu
        obtain ⟨k, hk, rfl⟩ := List.getElem_of_mem hu
        rw [h2.1] at hk
        have hsp : 0 < size := by
          rcases Nat.eq_zero_or_pos size with h | h
          · subst h; omega
          · exact h
        have hi : k / size < ys.length := by rw [Nat.div_lt_iff_lt_mul hsp]; exact hk
        have hj : k % size < size := Nat.mod_lt _ hsp
        obtain ⟨h4, h5⟩ := h2.2 _ _ (List.getElem?_eq_getElem hi)
        obtain ⟨h6, u', h7, h8⟩ := h5 (k % size) _ (List.getElem?_eq_getElem (by rw [h4]; exact hj))
        have e : k / size * size + k % size = k := by rw [Nat.mul_comm]; exact Nat.div_add_mod k size
        rw [e] at h7
        have h9 : us[k] = u' := by
          have := List.getElem?_eq_getElem (l := us) (i := k) (by rw [h2.1]; exact hk)
          rw [h7] at this; exact (Option.some.inj this).symm
        rw [h9]
        generalize hq : ys[k / size].cells[k % size]'(by rw [h4]; exact hj) = q at h6 h8
        cases h8 <;> first | rfl | simp [AV.one] at h6
      cases ad with
      | none =>
        have : ys = [] := by
          rcases h3 with h | ⟨_, _, h, _⟩
          · exact h
          · cases h
        subst this
        have hu0 : us = [] := List.eq_nil_of_length_eq_zero (by simpa using h2.1)
        subst hu0
        exact Src.ofNil w hu cap
      | some ad =>
        refine Src.ofSlice w hu ad ys.length cap us h2.1 (fun j u hj => ?_) hone
        rcases h3 with h | ⟨b, off, h, h4⟩
        · subst h
          have hu0 : us = [] := List.eq_nil_of_length_eq_zero (by simpa using h2.1)
          subst hu0; simp at hj
        · cases h
          rw [Addr.add_mid]
          exact h4 j u hj
    · cases hs
  · rename_i l
    split at hs
    · rename_i hst
      cases hs
      obtain ⟨rfl, _⟩ := hy.inv_str
      have h1 : size = 1 := by rw [← he]; simpa [strFits] using hf
      subst h1
      have hu : P.underlying t = some .string := by
        unfold isStrT at hst
        split at hst
        · assumption
        · cases hst
      have := Src.ofString (P := P) w hu ⟨l.toArray⟩
      rw [size_mk] at this
      exact ⟨_, by simpa [bytesAV] using this, FL.bytes l⟩
    · cases hs
  · cases hs

variable {K : Act → World → Prop} {Q : Exit → Act → World → Prop}

theorem run_append_op {c : Call} {x y : Operand} {t u : TypeId} {v : Value} (ho : o.op = .call c) (hc : c.callee = .builtin .append) (hargs : c.args.toList = [x, y]) (hts : c.argTypes.toList = [t, u])
    (h : (Builtin.append_ #[t, u] o.type #[a.eval x, a.eval y]).run P w = .ok v w') : (execOp a.eval o).run P w = .ok (.value v) w' := by
  have ha : c.args = #[x, y] := by apply Array.ext'; simpa using hargs
  have hb : c.argTypes = #[t, u] := by apply Array.ext'; simpa using hts
  rw [run_builtin ho hc, ha, hb]
  simp [builtin, h]

theorem zero_cells {e : TypeId} {i : TypeInfo} {z : Value} (hi : P.info? e = some i) (hz : i.zero = some z) (h : (zeroAV P e).map (·.cells.length) = some (tsize P e)) (h1 : (zeroAV P e).map (fun z => allOne z.cells) = some true) : z.cells.size = i.size := by
  have e1 : zeroAV P e = some (ofVal z) := by simp [zeroAV, hi, hz]
  rw [e1] at h h1
  simp only [Option.map_some, Option.some.injEq] at h h1
  have := ((rep_ofVal (P := P) (st := ⟨fun _ => .any, fun _ => none, fun _ _ => .free⟩) (G := ⟨fun _ => 0, fun _ _ => undef, fun _ _ => 0, fun _ _ => False⟩) (w := default) z).rl h1).1.1
  rw [← Array.length_toList, this, h]
  simp [tsize, Program.cellsOf, hi]

theorem wp_append_av {c : Call} {x y : Operand} {t u e : TypeId} {d : Tmp} {xs ys : List AV} {ow : Own} (hR : Rel P n w0 own st G a w) (ho : o.op = .call c) (hc : c.callee = .builtin .append) (hargs : c.args.toList = [x, y]) (hts : c.argTypes.toList = [t, u])
    (hdst : o.dst = some d) (hd : d < n) (ht : P.underlying t = some (.slice e)) {yv : AV} (e1 : Rep P st G w (.sl xs ow) (a.eval x)) (eyv : Rep P st G w yv (a.eval y)) (hsrc : srcOf P u yv = some ys) (hsf : strFits P e yv = true) (hpos : 0 < tsize P e)
    (hz : ((P.info? e).bind (·.zero)).isSome = true) (hzc : (zeroAV P e).map (·.cells.length) = some (tsize P e)) (hz1 : (zeroAV P e).map (fun z => allOne z.cells) = some true) (hys : ∀ z ∈ ys, z.cells.length = tsize P e) (hxs : ∀ z ∈ xs, z.cells.length = tsize P e)
    (hlen : (xs.length + ys.length) * P.bytesOf e ≤ 140737488355328) (hlen2 : xs.length + ys.length ≤ 9223372036854775807) {nm : Nat × Nat} (hcase : (ow = .nil ∧ nm = (d, 0) ∧ st.rows d 0 = .free) ∨ (ow = .row nm.1 nm.2 e ∧ st.rows nm.1 nm.2 = .live xs.length)) {p : Prop}
    (hK : ∀ G' v w', Rel P n w0 own ((⟨p, .sl (xs ++ ys) (.row nm.1 nm.2 e), [], [((nm.1, nm.2), .live (xs.length + ys.length))]⟩ : Eff).app (some d) st) G' (a.put (some d) v) w' → K (a.put (some d) v) w') : o.wp P a w K Q := by
  cases hi : P.info? e with
  | none => simp [hi] at hz
  | some i =>
  cases hzz : i.zero with
  | none => simp [hi, hzz] at hz
  | some z =>
  have hsz : tsize P e = i.size := by simp [tsize, Program.cellsOf, hi]
  have hbe : P.bytesOf e = i.bytes := by simp [Program.bytesOf, hi]
  have hzs := zero_cells hi hzz hzc hz1
  obtain ⟨news, hs, hfl⟩ := src_of (e := e) eyv hsrc hys hsf rfl
  rw [hsz] at hs hfl
  -- the row before
  have hrow : ∃ olds, w.ownsRow 0 e i.size (a.eval x) xs.length olds ∧ FL w (stable P st G) i.size xs olds ∧ (∀ tip' v', (ys.length = 0 → v' = a.eval x) → xs.length + ys.length = tip' → RowWas st G P nm.1 nm.2 e tip' v' (a.eval x).ownBlock (if ow = .nil then 0 else xs.length)) := by
    rcases hcase with ⟨rfl, rfl, h3⟩ | ⟨rfl, h3⟩
    · obtain ⟨rfl, h4⟩ := (e1 : Rep1 P st G w (.sl xs .nil) _)
      rw [h4]
      exact ⟨[], World.ownsRow_nil _ _ _ _, FL.nil, fun tip' v' _ _ => .inl ⟨h3, rfl, by simp⟩⟩
    · obtain ⟨h4, h5⟩ := (e1 : Rep1 P st G w (.sl xs (.row nm.1 nm.2 e)) _)
      rw [h3] at h5
      obtain ⟨h6, h7, h8⟩ := h5
      have hcv := h8 rfl
      obtain ⟨h9, olds, h10⟩ := hR.mem.row _ _ _ h3
      rw [← h6, hsz] at h10
      obtain ⟨us, ad, cap, q1, q2, q3⟩ := FL.of (size := i.size) h4 (by rw [← hsz]; exact hxs)
      have holds : us = olds := by
        apply List.ext_getElem?
        intro k
        by_cases hk : k < us.length
        · have hk2 : k < olds.length := by rw [h10.1, ← q2.1]; exact hk
          rw [List.getElem?_eq_getElem hk, List.getElem?_eq_getElem hk2]
          have hne : xs ≠ [] := by rintro rfl; simp [q2.1] at hk
          rcases q3 with q | ⟨b, off, q, q4⟩
          · exact absurd q hne
          · subst q
            have c1 := q4 k _ (List.getElem?_eq_getElem hk)
            rcases h10.2 with ⟨r1, r2⟩ | ⟨g, cap', cur, r1, _⟩
            · exact absurd (List.eq_nil_of_length_eq_zero r2) hne
            · rw [hcv, r1] at q1
              injection q1 with q5 _ _
              cases q5
              have c2 := h10.cells (g := b) (by rw [r1]; rfl) k _ (List.getElem?_eq_getElem hk2)
              rw [Addr.add_mid] at c2
              rw [c1] at c2
              exact c2
        · have hk2 : ¬ k < olds.length := by rw [h10.1, ← q2.1]; exact hk
          rw [List.getElem?_eq_none (by omega), List.getElem?_eq_none (by omega)]
      subst holds
      refine ⟨us, by rw [hcv]; exact h10, q2, fun tip' v' hv' htip => .inr ⟨by simpa using h3, h6.symm, by simp; omega, ?_, by rw [hcv]⟩⟩
      intro hh
      simp at hh
      rw [← hcv]
      exact hv' (by omega)
  obtain ⟨olds, hown, hflx, hwas⟩ := hrow
  have hb2 : (xs.length + ys.length) * i.bytes ≤ 140737488355328 := by
    rw [← hbe]
    exact hlen
  have h63 : xs.length + ys.length ≤ maxLen := by unfold maxLen; omega
  obtain ⟨v', w', hr, hown', hg, hb, hv0⟩ := run_append_av w t u o.type e i z ht hi hzz hzs (a.eval x) xs.length olds hown (a.eval y) ys.length news hs h63 hb2
  have hfl2 := hflx.append hfl
  rw [← hsz] at hown' hfl2 hown
  obtain ⟨G', hR'⟩ := hR.setRowName (p := p) hd (zs := xs ++ ys) (hwas _ v' hv0 rfl) hpos hown' hg (hb.imp id And.left) (fun g q v hgo hq hcell => by
    rcases hb with hb | ⟨_, hb⟩
    · have hle : q < xs.length * tsize P e := by
        refine Nat.lt_of_lt_of_le hq (Nat.mul_le_mul_right _ ?_)
        split <;> omega
      have hlt : q < olds.length := by rw [hown.1]; exact hle
      have c1 := hown.cells hgo q _ (List.getElem?_eq_getElem hlt)
      have c2 := hown'.cells (by rw [hb]; exact hgo) q olds[q] (by rw [List.getElem?_append_left hlt, List.getElem?_eq_getElem hlt])
      rw [Addr.add_mid, Nat.zero_add] at c1 c2
      rw [c2, ← hcell, c1]
    · rw [World.cell?_of_block (w := w) (hb.block g (World.block_lt_of_cell? w _ hcell) (by simp))]; exact hcell)
    (by simp) (fun st'' G' hst'' hbx hk hstab => FL.row hown' (by simp) (hfl2.mono hk.cell) hstab)
  refine wp_value (run_append_op ho hc hargs hts hr) ?_
  rw [hdst]
  exact hK G' v' w' hR'
end
end Go.Proofs.Ytddilmocngedjaa
/- A slice made of its elements: the frame's state follows. -/
namespace Go.Proofs.Ytddilmocngedjaa
set_option linter.unusedVariables false
set_option linter.unusedSimpArgs false
open Go.RowKit

section
variable {P : Program} {n : Nat} {w0 : World} {own : OwnP} {st st' : St} {G G' : Gh} {a : Act} {w w' : World} {o : Oper}

theorem drop_cells (v : AV) : v.drop.cells = v.cells.map AV.dropCell := by
  cases v with
  | agg cs => rfl
  | sl xs ow => cases ow <;> rfl
  | _ => rfl
theorem plain_repP {c : AV} {u : Value} (h : Rep1 P st G w c u) (hp : c.plainCell = true) : RepP w (stable P st G) c.dropCell u := by
  cases c with
  | sl xs ow =>
    cases ow with
    | no => exact h
    | nil => obtain ⟨rfl, rfl⟩ := h; exact .slnil _ _ _ (by unfold maxLen; omega)
    | row x y e => exact h.1
  | ptr _ _ => cases hp
  | vec _ _ _ _ => cases hp
  | eptr _ _ => cases hp
  | agg _ => cases hp
  | tup _ => cases hp
  | any => cases hp
  | skip => cases hp
  | _ => exact h
theorem dropCell_one {c : AV} (h : c.one = true) : c.dropCell.one = true := by
  cases c with
  | sl xs ow => cases ow <;> rfl
  | _ => exact h

theorem fill_dense {size : Nat} : ∀ (vs : List AV) (k : Nat) (cs : List AV), (∀ v ∈ vs, v.cells.length = size) → (k + vs.length) * size ≤ cs.length →
    fillAV (fun i => some (i * size, size)) cs ((vs.zipIdx k).map fun x => (x.2, x.1)) = some (cs.take (k * size) ++ vs.flatMap AV.cells ++ cs.drop ((k + vs.length) * size))
  | [], k, cs, _, h => by simp [fillAV]
  | v :: vs, k, cs, hv, h => by
    have h1 : v.cells.length = size := hv v (by simp)
    simp only [List.length_cons] at h
    have hmul : (k + (vs.length + 1)) * size = k * size + size + vs.length * size := by
      rw [Nat.add_mul, Nat.add_mul, Nat.one_mul]; omega
    rw [hmul] at h
    simp only [List.zipIdx_cons, List.map_cons, fillAV]
    rw [if_pos ⟨h1, by omega⟩]
    have hm2 : (k + 1 + vs.length) * size = k * size + size + vs.length * size := by
      rw [Nat.add_mul, Nat.add_mul, Nat.one_mul]
    rw [fill_dense vs (k + 1) _ (fun x hx => hv x (by simp [hx])) (by rw [hm2]; simp [spliceL]; omega)]
    congr 1
    have hk1 : (k + 1) * size = k * size + size := by rw [Nat.add_mul, Nat.one_mul]
    rw [hk1, hm2]
    simp only [List.length_cons]
    rw [hmul]
    unfold spliceL
    have t1 : (cs.take (k * size)).length = k * size := by simp; omega
    have t2 : (cs.take (k * size) ++ v.cells).length = k * size + size := by simp [h1]; omega
    rw [List.take_append_of_le_length (by omega), List.take_of_length_le (by omega)]
    rw [List.drop_append, t2, List.drop_eq_nil_of_le (by omega)]
    simp only [List.nil_append, List.drop_drop, List.flatMap_cons, List.append_assoc, h1]
    congr 4
    omega

theorem flat_get {size : Nat} : ∀ (vs : List AV), (∀ v ∈ vs, v.cells.length = size) → ∀ (i j : Nat) x, vs[i]? = some x → j < size → (vs.flatMap AV.cells)[i * size + j]? = x.cells[j]?
  | [], _, i, j, x, h, _ => by simp at h
  | v :: vs, hv, 0, j, x, h, hj => by
    simp at h; subst h
    have := hv v (by simp)
    rw [Nat.zero_mul, Nat.zero_add, List.flatMap_cons, List.getElem?_append_left (by omega)]
  | v :: vs, hv, i + 1, j, x, h, hj => by
    have h1 := hv v (by simp)
    have e : (i + 1) * size + j = v.cells.length + (i * size + j) := by rw [h1, Nat.add_mul, Nat.one_mul]; omega
    rw [e, List.flatMap_cons, List.getElem?_append_right (by omega), Nat.add_sub_cancel_left]
    exact flat_get vs (fun x hx => hv x (by simp [hx])) i j x (by simpa using h) hj
theorem flat_len {size : Nat} : ∀ (vs : List AV), (∀ v ∈ vs, v.cells.length = size) → (vs.flatMap AV.cells).length = vs.length * size
  | [], _ => by simp
  | v :: vs, hv => by
    rw [List.flatMap_cons, List.length_append, hv v (by simp), flat_len vs (fun x hx => hv x (by simp [hx])), List.length_cons, Nat.add_mul, Nat.one_mul]
    omega

variable {K : Act → World → Prop} {Q : Exit → Act → World → Prop}

theorem run_buildSlice_any (w : World) (t e : TypeId) (len : Nat) (parts : Array (Nat × Value)) (cells : Array Value) (ie : TypeInfo) (z : Value)
    (hu : P.underlying t = some (.slice e)) (hie : P.info? e = some ie) (hz : ie.zero = some z) (hsmall : ¬ len * ie.size > 2 ^ 24) (hip : 0 < ie.size) (hpl : parts.toList.length = len)
    (h : Instr.fill (fun i => some (i * ie.size, ie.size)) ((Array.range (len * ie.size)).map (z.cells[· % z.cells.size]!)) parts.toList = some cells) :
    (Instr.buildSlice t len parts).run P w = .ok (.slice (some ⟨w.heap.size, 0, none⟩) len len) (w.alloc (.cells cells e)) := by
  by_cases hl : len = 0
  · subst hl
    have hp1 : parts = #[] := by have := List.length_eq_zero_iff.1 hpl; simpa using this
    subst hp1
    have hr : Array.range (0 * ie.size) = #[] := by rw [Nat.zero_mul]; rfl
    rw [hr] at h
    simp [Instr.fill] at h
    subst h
    have hr' : Array.range 0 = #[] := rfl
    simp [Instr.buildSlice, run_underlying hu, sizeOf, typeInfo, hie, Instr.fill, newRow, hr']
  · exact run_buildSlice w t e len parts cells ie z hu hie hz hsmall (by have := Nat.mul_pos (Nat.pos_of_ne_zero hl) hip; omega) h
theorem wp_buildSlice_av {t e : TypeId} {len : Nat} {parts : Array (Nat × Operand)} {d : Tmp} {z : AV} (hR : Rel P n w0 own st G a w) (ho : o.op = .buildSlice t len parts) (hdst : o.dst = some d) (hd : d < n) (ht : P.underlying t = some (.slice e))
    (hz : zeroAV P e = some z) (hfree : st.rows d 0 = .free) (hp : parts.toList.all (fun q => (st.ev q.2).plain && allOne (st.ev q.2).cells && decide ((st.ev q.2).cells.length = tsize P e)) = true) (hz1 : allOne z.cells = true) (hzl : z.cells.length = tsize P e)
    (h0 : tsize P e ≠ 0) (hl0 : 0 ≤ len) (hsm : len * tsize P e ≤ 16777216) (hr : parts.toList.map (·.1) = List.range len) {p : Prop}
    (hK : ∀ G' v w', Rel P n w0 own ((⟨p, .sl (parts.toList.map fun q => (st.ev q.2).drop) (.row d 0 e), [], [((d, 0), .live len)]⟩ : Eff).app (some d) st) G' (a.put (some d) v) w' → K (a.put (some d) v) w') : o.wp P a w K Q := by
  obtain ⟨zv, _, rfl, hzv⟩ := zero_real (P := P) (w := w) hz
  cases hi : P.info? e with
  | none => simp [hi] at hzv
  | some i =>
  have hzz : i.zero = some zv := by rw [hi] at hzv; exact hzv
  have hsz : tsize P e = i.size := by simp [tsize, Program.cellsOf, hi]
  have hplen : parts.toList.length = len := by have := congrArg List.length hr; simpa using this
  rw [List.all_eq_true] at hp
  have hp' : ∀ q ∈ parts.toList, (st.ev q.2).plain = true ∧ allOne (st.ev q.2).cells = true ∧ (st.ev q.2).cells.length = i.size := by
    intro q hq
    have := hp q hq
    simp only [Bool.and_eq_true, decide_eq_true_eq] at this
    exact ⟨this.1.1, this.1.2, by rw [← hsz]; exact this.2⟩
  obtain ⟨vs, hvs⟩ : ∃ vs, vs = parts.toList.map fun q => st.ev q.2 := ⟨_, rfl⟩
  have hvsz : ∀ v ∈ vs, v.cells.length = i.size := by
    intro v hv; rw [hvs] at hv
    obtain ⟨q, hq, rfl⟩ := List.mem_map.1 hv
    exact (hp' q hq).2.2
  have hvl : vs.length = len := by rw [hvs]; simpa using hplen
  have hparts : (parts.toList.map fun q => (q.1, st.ev q.2)) = (vs.zipIdx 0).map fun x => (x.2, x.1) := by
    apply List.ext_getElem?
    intro k
    have hk := congrArg (·[k]?) hr
    simp only [List.getElem?_map] at hk ⊢
    rw [List.getElem?_zipIdx, hvs]
    simp only [List.getElem?_map]
    cases hq : parts.toList[k]? with
    | none => simp
    | some q =>
      rw [hq] at hk
      simp only [Option.map_some] at hk
      have : k < len := by rw [← hplen]; exact (List.getElem?_eq_some_iff.1 hq).1
      rw [List.getElem?_range this] at hk
      simp at hk
      simp [hk]
  obtain ⟨rlz, _⟩ := (rep_ofVal (P := P) (st := st) (G := G) (w := w) zv).rl hz1
  have hzs : zv.cells.size = i.size := by rw [← Array.length_toList, rlz.1, hzl, hsz]
  have hip : 0 < i.size := by omega
  have rl0 : RL P st G w ((List.range (len * i.size)).map fun k => cellAt (ofVal zv).cells (k % i.size)) ((Array.range (len * i.size)).map (zv.cells[· % zv.cells.size]!)).toList := by
    refine ⟨by simp, fun k c hc => ?_⟩
    simp only [List.getElem?_map, Option.map_eq_some_iff] at hc
    obtain ⟨k', hk', rfl⟩ := hc
    obtain ⟨hlt, rfl⟩ := List.getElem?_eq_some_iff.1 hk'
    simp only [List.getElem_range] at *
    simp at hlt
    have hm : k % i.size < (ofVal zv).cells.length := by rw [hzl, hsz]; exact Nat.mod_lt _ hip
    obtain ⟨q1, u, q2, q3⟩ := rlz.2 (k % i.size) _ (cellAt_some hm)
    refine ⟨q1, u, ?_, q3⟩
    have hm' : k % i.size < zv.cells.size := by rw [hzs]; exact Nat.mod_lt _ hip
    simp only [Array.getElem?_toList] at q2
    simp [hlt, hzs]
    rw [getElem!_pos zv.cells _ hm']
    rw [Array.getElem?_eq_getElem hm'] at q2
    exact Option.some.inj q2
  have hfill := fill_dense (size := i.size) vs 0 ((List.range (len * i.size)).map fun k => cellAt (ofVal zv).cells (k % i.size)) hvsz (by simp [hvl])
  simp only [Nat.zero_add, Nat.zero_mul, List.take_zero, List.nil_append] at hfill
  rw [List.drop_eq_nil_of_le (by simp [hvl]), List.append_nil, ← hparts] at hfill
  obtain ⟨us, hus, rlu⟩ := fill_run (P := P) (st := st) (G := G) (w := w) (place := fun k => some (k * i.size, i.size)) (place' := fun k => some (k * i.size, i.size)) (fun _ => rfl) _ (parts.toList.map fun q => (q.1, a.eval q.2)) _ _ _ hfill rl0 (by simp) (fun k q r hq hr => by
    simp only [List.getElem?_map, Option.map_eq_some_iff] at hq hr
    obtain ⟨y, hy, rfl⟩ := hq
    obtain ⟨y', hy', rfl⟩ := hr
    rw [hy] at hy'; cases hy'
    exact ⟨rfl, hR.ev y.2, (hp' y (List.mem_of_getElem? hy)).2.1⟩)
  have e0 : (parts.map fun (i, x) => (i, a.eval x)).toList = parts.toList.map fun q => (q.1, a.eval q.2) := by simp
  have run1 := run_buildSlice_any w t e len (parts.map fun (i, x) => (i, a.eval x)) us i zv ht hi hzz (by rw [← hsz]; simpa using hsm) hip (by rw [e0, List.length_map]; exact hplen) (by rw [e0]; exact hus)
  have run : (execOp a.eval o).run P w = .ok (.value (.slice (some ⟨w.heap.size, 0, none⟩) len len)) (w.alloc (.cells us e)) := by
    simp only [execOp, ho, Sem.run_bind, run1, Result.andThen_ok, Sem.run_pure]
  have hul : us.toList.length = len * i.size := by rw [rlu.1, flat_len vs hvsz, hvl]
  have hlenm : len ≤ maxLen := by
    have : len ≤ len * tsize P e := Nat.le_mul_of_pos_right _ (by omega)
    unfold maxLen; omega
  have hown : (w.alloc (.cells us e)).ownsRow 0 e (tsize P e) (.slice (some ⟨w.heap.size, 0, none⟩) len len) len us.toList := by
    rw [hsz]
    refine ⟨hul, .inr ⟨w.heap.size, len, us, rfl, Nat.zero_le _, heap_alloc_new w _, Nat.le_refl _, hlenm, by simpa using hul, ?_⟩⟩
    rw [List.take_of_length_le (by omega)]
  have hzsl : (parts.toList.map fun q => (st.ev q.2).drop) = vs.map AV.drop := by rw [hvs]; simp
  have hfl : FL w (stable P st G) (tsize P e) (vs.map AV.drop) us.toList := by
    rw [hsz]
    refine ⟨by rw [hul]; simp [hvl], fun k x hx => ?_⟩
    simp only [List.getElem?_map, Option.map_eq_some_iff] at hx
    obtain ⟨y, hy, rfl⟩ := hx
    have hym := List.mem_of_getElem? hy
    refine ⟨by rw [drop_cells, List.length_map]; exact hvsz y hym, fun j c hc => ?_⟩
    rw [drop_cells, List.getElem?_map] at hc
    simp only [Option.map_eq_some_iff] at hc
    obtain ⟨c', hc', rfl⟩ := hc
    have hj : j < i.size := by rw [← hvsz y hym]; exact (List.getElem?_eq_some_iff.1 hc').1
    have hfg := flat_get vs hvsz k j y hy hj
    rw [hc'] at hfg
    obtain ⟨q1, u, q2, q3⟩ := rlu.2 _ _ hfg
    refine ⟨dropCell_one q1, u, q2, plain_repP q3 ?_⟩
    have hpl : y.plain = true := by
      rw [hvs] at hym
      obtain ⟨q, hq, rfl⟩ := List.mem_map.1 hym
      exact (hp' q hq).1
    unfold AV.plain at hpl
    rw [List.all_eq_true] at hpl
    exact hpl _ (List.mem_of_getElem? hc')
  rw [hzsl] at hK
  obtain ⟨G', hR'⟩ := hR.setRowName (p := p) (tip := 0) hd (zs := vs.map AV.drop) (.inl ⟨hfree, rfl, rfl⟩) (by omega) hown (World.grownBy_alloc w _ none) (.inr rfl) (fun _ _ _ h => by cases h) (by simp [hvl])
    (fun st'' G' hst'' hbx hk hstab => FL.row hown (by simp [hvl]) (hfl.mono hk.cell) hstab)
  refine wp_value run ?_
  rw [hdst]
  exact hK G' _ _ hR'
end
end Go.Proofs.Ytddilmocngedjaa
/- What is handed over at a call, and what comes back: names change, content stays. -/
namespace Go.Proofs.Ytddilmocngedjaa
set_option linter.unusedVariables false
set_option linter.unusedSimpArgs false
open Go.RowKit

def OutFit (st : St) (c c' : AV) : Prop :=
  match c' with
  | .sl ys (.row _ _ e') => (match c with
    | .sl xs (.row a b e) => ys = xs ∧ e' = e ∧ (match st.rows a b with | .live tip => tip = xs.length | _ => False)
    | .sl _ .nil => ys = []
    | _ => False)
  | .sl ys .no => (match c with | .sl xs _ => ys = xs | _ => False)
  | .sl ys .nil => (match c with | .sl xs .nil => ys = xs | _ => False)
  | v => v = c ∧ c.plainCell = true

def outNames : List AV → List AV → List (Nat × Nat)
  | c :: A, c' :: L => (match rowName c, rowName c' with | some q, some _ => [q] | _, _ => []) ++ outNames A L
  | _, _ => []

def tells (L : List AV) (y : Nat) : Option (Nat × Nat) := (L[y]?).bind rowOf

section
variable {P : Program} {n : Nat} {w0 : World} {own : OwnP} {st st' stX : St} {G G' GX : Gh} {a : Act} {w w' : World} {o : Oper} {A L : List AV} {d : Nat}

theorem rowOf_some {c : AV} {t : Nat × Nat} (h : rowOf c = some t) : ∃ xs a b, c = .sl xs (.row a b t.2) ∧ t.1 = xs.length := by
  unfold rowOf at h
  split at h
  · cases h; exact ⟨_, _, _, rfl, rfl⟩
  · cases h
theorem rowName_some {c : AV} {q : Nat × Nat} (h : rowName c = some q) : ∃ xs e, c = .sl xs (.row q.1 q.2 e) := by
  unfold rowName at h
  split at h
  · cases h; exact ⟨_, _, rfl⟩
  · cases h
theorem rowName_of {c : AV} {t : Nat × Nat} (h : rowOf c = some t) : ∃ q, rowName c = some q := by
  obtain ⟨xs, a, b, rfl, _⟩ := rowOf_some h
  exact ⟨_, rfl⟩

theorem retCells_get (d : Nat) : ∀ (L : List AV) (k p : Nat), (retCells d k L)[p]? = (L[p]?).map (retCell d (k + p))
  | [], k, p => by simp [retCells]
  | c :: L, k, 0 => by simp [retCells]
  | c :: L, k, p + 1 => by
    simp only [retCells, List.getElem?_cons_succ]
    rw [retCells_get d L (k + 1) p]
    congr 2
    omega
theorem retCells_length (d : Nat) (L : List AV) (k : Nat) : (retCells d k L).length = L.length := by
  induction L generalizing k with
  | nil => rfl
  | cons c L ih => simp [retCells, ih]

theorem updRows_at : ∀ (l : List ((Nat × Nat) × RowSt)) (f : Nat → Nat → RowSt) (x y : Nat), (∀ q ∈ l, q.1 ≠ (x, y)) → updRows f l x y = f x y
  | [], f, x, y, _ => rfl
  | (k, c) :: l, f, x, y, h => by
    simp only [updRows]
    rw [updRows_at l _ x y (fun q hq => h q (by simp [hq]))]
    have := h (k, c) (by simp)
    exact upd2_other f c (fun e => this (by rw [e.1, e.2]))

theorem retRows_at (d : Nat) : ∀ (L : List AV) (k : Nat) (f : Nat → Nat → RowSt) (x y : Nat),
    updRows f (retRows d k L) x y = if x = d ∧ k ≤ y then (match tells L (y - k) with | some t => .live t.1 | none => f x y) else f x y
  | [], k, f, x, y => by
    simp only [retRows, updRows, tells]
    split <;> simp
  | c :: L, k, f, x, y => by
    have key : ∀ f', updRows f' (retRows d (k + 1) L) x y = if x = d ∧ k + 1 ≤ y then (match tells L (y - (k + 1)) with | some t => .live t.1 | none => f' x y) else f' x y := fun f' => retRows_at d L (k + 1) f' x y
    have hs : k + 1 ≤ y → tells (c :: L) (y - k) = tells L (y - (k + 1)) := by
      intro h
      unfold tells
      rw [show y - k = (y - (k + 1)) + 1 from by omega, List.getElem?_cons_succ]
    have h0 : tells (c :: L) 0 = rowOf c := rfl
    simp only [retRows]
    by_cases h1 : x = d ∧ k + 1 ≤ y
    · rw [if_pos ⟨h1.1, by omega⟩, hs h1.2]
      cases hr : rowOf c with
      | none =>
        simp only [List.nil_append]
        rw [key, if_pos h1]
      | some t =>
        simp only [List.cons_append, List.nil_append, updRows]
        rw [key, if_pos h1]
        split
        · rfl
        · exact upd2_other f _ (by rintro ⟨_, h⟩; omega)
    · by_cases h2 : x = d ∧ k ≤ y
      · have : y = k := by
          rcases Nat.lt_or_ge y (k + 1) with h | h
          · omega
          · exact absurd ⟨h2.1, h⟩ h1
        subst this
        rw [if_pos h2, Nat.sub_self, h0]
        cases hr : rowOf c with
        | none =>
          simp only [List.nil_append]
          rw [key, if_neg h1]
        | some t =>
          simp only [List.cons_append, List.nil_append, updRows]
          rw [key, if_neg h1, h2.1]
          exact upd2_same _ _ _ _
      · rw [if_neg h2]
        cases hr : rowOf c with
        | none =>
          simp only [List.nil_append]
          rw [key, if_neg h1]
        | some t =>
          simp only [List.cons_append, List.nil_append, updRows]
          rw [key, if_neg h1]
          exact upd2_other f _ (by rintro ⟨h3, h4⟩; exact h2 ⟨h3, by omega⟩)

theorem outNames_get : ∀ (A L : List AV) (p : Nat) c c' q t, A[p]? = some c → L[p]? = some c' → rowName c = some q → rowOf c' = some t → q ∈ outNames A L := by
  intro A
  induction A with
  | nil => intro L p c c' q t h; simp at h
  | cons c A ih =>
    intro L p c1 c1' q t h1 h2 h3 h4
    cases L with
    | nil => simp at h2
    | cons c' L =>
      cases p with
      | zero =>
        simp at h1 h2
        subst h1 h2
        obtain ⟨q', h5⟩ := rowName_of h4
        simp [outNames, h3, h5]
      | succ p =>
        simp only [List.getElem?_cons_succ] at h1 h2
        have := ih L p c1 c1' q t h1 h2 h3 h4
        simp only [outNames, List.mem_append]
        exact .inr this
theorem outNames_inj : ∀ (A L : List AV), (outNames A L).Nodup → ∀ (p1 p2 : Nat) c1 c2 c1' c2' q t1 t2, A[p1]? = some c1 → L[p1]? = some c1' → A[p2]? = some c2 → L[p2]? = some c2' →
    rowName c1 = some q → rowName c2 = some q → rowOf c1' = some t1 → rowOf c2' = some t2 → p1 = p2 := by
  intro A
  induction A with
  | nil => intro L _ p1 p2 c1 c2 c1' c2' q t1 t2 h; simp at h
  | cons c A ih =>
    intro L hn p1 p2 c1 c2 c1' c2' q t1 t2 h1 h2 h3 h4 h5 h6 h7 h8
    cases L with
    | nil => simp at h2
    | cons c' L =>
      simp only [outNames] at hn
      have hn' := (List.nodup_append.1 hn).2.1
      cases p1 with
      | zero =>
        cases p2 with
        | zero => rfl
        | succ p2 =>
          simp only [List.getElem?_cons_zero, Option.some.injEq, List.getElem?_cons_succ] at h1 h2 h3 h4
          subst h1 h2
          have h9 := outNames_get A L p2 _ _ _ _ h3 h4 h6 h8
          obtain ⟨q', h10⟩ := rowName_of h7
          rw [h5, h10] at hn
          exact absurd rfl ((List.nodup_append.1 hn).2.2 q (by simp) q h9)
      | succ p1 =>
        cases p2 with
        | zero =>
          simp only [List.getElem?_cons_zero, Option.some.injEq, List.getElem?_cons_succ] at h1 h2 h3 h4
          subst h3 h4
          have h9 := outNames_get A L p1 _ _ _ _ h1 h2 h5 h7
          obtain ⟨q', h10⟩ := rowName_of h8
          rw [h6, h10] at hn
          exact absurd rfl ((List.nodup_append.1 hn).2.2 q (by simp) q h9)
        | succ p2 =>
          simp only [List.getElem?_cons_succ] at h1 h2 h3 h4
          have := ih L hn' p1 p2 _ _ _ _ _ _ _ h1 h2 h3 h4 h5 h6 h7 h8
          omega

def toldCv (G : Gh) (A : List AV) (y : Nat) : Value :=
  match (A[y]?).bind rowName with
  | some q => G.cv q.1 q.2
  | none => .slice none 0 0
def toldEt (L : List AV) (y : Nat) : Nat :=
  match tells L y with
  | some t => t.2
  | none => 0

structure Hand (P : Program) (st : St) (G : Gh) (w : World) (A L : List AV) (d : Nat) (stX : St) (GX : Gh) : Prop where
  mem : Mem P st G w
  len : A.length = L.length
  fit : ∀ (p : Nat) c c', A[p]? = some c → L[p]? = some c' → OutFit st c c'
  nodup : (outNames A L).Nodup
  pos : ∀ p t, tells L p = some t → 0 < tsize P t.2
  rows : ∀ x y, stX.rows x y = if x = d then (match tells L y with | some t => .live t.1 | none => .free) else .free
  box : ∀ s cs, stX.boxes s = some cs → ∃ s' cs', st.boxes s' = some cs' ∧ GX.bx s = G.bx s' ∧ (cs ≠ [] → cs' ≠ [])
  cv : ∀ y, GX.cv d y = toldCv G A y
  et : ∀ y, GX.et d y = toldEt L y
  bad : ∀ b o u, stable P st G b o → w.cell? ⟨b, o, none⟩ = some u → ¬ GX.bad b o
  rep : ∀ (p : Nat) c, A[p]? = some c → ∃ u, Rep1 P st G w c u

theorem Hand.told (h : Hand P st G w A L d stX GX) {x y tip : Nat} (hl : stX.rows x y = .live tip) : x = d ∧ ∃ c c' t, A[y]? = some c ∧ L[y]? = some c' ∧ rowOf c' = some t ∧ tip = t.1 ∧ GX.et x y = t.2 ∧
    ((∃ (xs : List AV) (q : Nat × Nat), c = .sl xs (.row q.1 q.2 t.2) ∧ st.rows q.1 q.2 = .live tip ∧ GX.cv x y = G.cv q.1 q.2 ∧ tip = xs.length ∧ G.et q.1 q.2 = t.2) ∨ (GX.cv x y = .slice none 0 0 ∧ tip = 0)) := by
  rw [h.rows] at hl
  split at hl
  · rename_i hx
    subst hx
    refine ⟨rfl, ?_⟩
    cases ht : tells L y with
    | none => rw [ht] at hl; cases hl
    | some t =>
      rw [ht] at hl
      cases hl
      have ht' := ht
      unfold tells at ht'
      simp only [Option.bind_eq_some_iff] at ht'
      obtain ⟨c', hL, hr⟩ := ht'
      have hy : y < A.length := by rw [h.len]; exact (List.getElem?_eq_some_iff.1 hL).1
      have hA := List.getElem?_eq_getElem hy
      have hf := h.fit y _ _ hA hL
      obtain ⟨ys, a', b', rfl, hlen⟩ := rowOf_some hr
      refine ⟨A[y], _, t, hA, hL, hr, rfl, by rw [h.et]; simp [toldEt, ht], ?_⟩
      have hcv : GX.cv x y = toldCv G A y := h.cv y
      rw [hcv]
      unfold toldCv
      rw [hA]
      generalize A[y] = c at hA hf
      unfold OutFit at hf
      simp only at hf
      split at hf
      · rename_i xs p q e1
        obtain ⟨rfl, rfl, h3⟩ := hf
        left
        obtain ⟨u, hu⟩ := h.rep y _ hA
        obtain ⟨_, hu2⟩ := (hu : Rep1 P st G w (.sl ys (.row p q t.2)) u)
        split at h3
        · rename_i hh
          rw [hh] at hu2
          exact ⟨ys, (p, q), rfl, by simp only; rw [hh, h3, hlen], rfl, hlen, hu2.1.symm⟩
        · exact h3.elim
      · right
        exact ⟨rfl, by rw [hlen, hf]; rfl⟩
      · exact hf.elim
  · cases hl

theorem Hand.stable (h : Hand P st G w A L d stX GX) {b o : Nat} {u : Value} (hs : stable P st G b o) (hc : w.cell? ⟨b, o, none⟩ = some u) : stable P stX GX b o := by
  refine ⟨h.bad b o u hs hc, fun s cs hb => ?_, fun x y tip hl hblk => ?_⟩
  · obtain ⟨s', cs', h1, h2, h3⟩ := h.box s cs hb
    rw [h2]; exact fun hne => hs.2.1 s' cs' h1 (h3 hne)
  · obtain ⟨rfl, c, c', t, h1, h2, h3, h4, h5, h6⟩ := h.told hl
    rcases h6 with ⟨xs, q, rfl, h7, h8, h9, h10⟩ | ⟨h7, _⟩
    · rw [h8] at hblk
      have := hs.2.2 _ _ _ h7 hblk
      rw [h5, ← h10]; exact this
    · rw [h7] at hblk; cases hblk

theorem Hand.rep1 (h : Hand P st G w A L d stX GX) {p : Nat} {c c' : AV} {u : Value} (h1 : A[p]? = some c) (h2 : L[p]? = some c') (hu : Rep1 P st G w c u) : Rep1 P stX GX w (retCell d p c') u := by
  have hf := h.fit p c c' h1 h2
  have hk : ∀ b o v, Go.Proofs.Ytddilmocngedjaa.stable P st G b o → w.cell? ⟨b, o, none⟩ = some v → Go.Proofs.Ytddilmocngedjaa.stable P stX GX b o ∧ w.cell? ⟨b, o, none⟩ = some v := fun b o v hs hc => ⟨h.stable hs hc, hc⟩
  unfold OutFit at hf
  split at hf
  · rename_i ys a' b' e'
    have hrow : tells L p = some (ys.length, e') := by simp [tells, h2, rowOf]
    have hlive : stX.rows d p = .live ys.length := by rw [h.rows, if_pos rfl, hrow]
    have het : GX.et d p = e' := by rw [h.et]; simp [toldEt, hrow]
    split at hf
    · rename_i xs a b e
      obtain ⟨rfl, rfl, h3⟩ := hf
      obtain ⟨q1, q2⟩ := (hu : Rep1 P st G w (.sl ys (.row a b e')) u)
      refine (⟨q1.mono hk, ?_⟩ : Rep1 P stX GX w (.sl ys (.row d p e')) u)
      rw [hlive]
      refine ⟨het.symm, Nat.le_refl _, fun _ => ?_⟩
      have hcv : GX.cv d p = G.cv a b := by rw [h.cv]; simp [toldCv, h1, rowName]
      rw [hcv]
      split at h3
      · rename_i hh
        rw [hh] at q2
        exact q2.2.2 h3.symm
      · exact h3.elim
    · subst hf
      obtain ⟨rfl, q2⟩ := (hu : Rep1 P st G w (.sl _ .nil) u)
      refine (⟨by rw [q2]; exact .slnil _ _ _ (by unfold maxLen; omega), ?_⟩ : Rep1 P stX GX w (.sl [] (.row d p e')) u)
      rw [hlive]
      refine ⟨het.symm, Nat.le_refl _, fun _ => ?_⟩
      rw [q2, h.cv]; simp [toldCv, h1, rowName]
    · exact hf.elim
  · split at hf
    · subst hf
      exact RepP.mono (Rep.inv_sl (Rep.of1 hu)) hk
    · exact hf.elim
  · split at hf
    · subst hf
      obtain ⟨rfl, q2⟩ := (hu : Rep1 P st G w (.sl _ .nil) u)
      exact ⟨rfl, q2⟩
    · exact hf.elim
  · rename_i hn1 hn2 hn3
    obtain ⟨rfl, h3⟩ := hf
    have hrp := plain_repP hu h3
    cases c' with
    | sl xs ow =>
      cases ow with
      | no => exact absurd rfl (hn2 _)
      | nil => exact absurd rfl (hn3 _)
      | row a b e => exact absurd rfl (hn1 _ _ _ _)
    | ptr _ _ => cases h3
    | vec _ _ _ _ => cases h3
    | eptr _ _ => cases h3
    | agg _ => cases h3
    | tup _ => cases h3
    | any => cases h3
    | skip => cases h3
    | _ => exact RepP.mono hrp hk

theorem Hand.memX (h : Hand P st G w A L d stX GX) (hbox : ∀ s cs, stX.boxes s = some cs → ∃ us t, w.heap[GX.bx s]? = some (.cells us t (0, 0)) ∧ cs.length ≤ us.size ∧ ∀ (i : Nat) c, cs[i]? = some c → c.one = true ∧ ∃ u, us[i]? = some u ∧ Rep1 P stX GX w c u)
    (hinj : ∀ s cs s' cs', stX.boxes s = some cs → stX.boxes s' = some cs' → GX.bx s = GX.bx s' → s = s') : Mem P stX GX w := by
  refine ⟨hbox, hinj, fun x y tip hl => ?_, fun x y tip x' y' tip' g hl hl' hg hg' => ?_, fun s cs x y tip hb hl hg => ?_⟩
  · obtain ⟨rfl, c, c', t, h1, h2, h3, h4, h5, h6⟩ := h.told hl
    have hp : 0 < tsize P t.2 := h.pos y t (by simp [tells, h2, h3])
    rw [h5]
    refine ⟨hp, ?_⟩
    rcases h6 with ⟨xs, q, rfl, h7, h8, h9, h10⟩ | ⟨h7, h8⟩
    · rw [h8]
      obtain ⟨_, us, h11⟩ := h.mem.row _ _ _ h7
      rw [h10] at h11
      exact ⟨us, h11⟩
    · rw [h7, h8]
      exact ⟨[], World.ownsRow_nil _ _ _ _⟩
  · obtain ⟨rfl, c, c', t, h1, h2, h3, h4, h5, h6⟩ := h.told hl
    obtain ⟨rfl, e, e', t', g1, g2, g3, g4, g5, g6⟩ := h.told hl'
    refine ⟨rfl, ?_⟩
    rcases h6 with ⟨xs, q, rfl, h7, h8, h9, h10⟩ | ⟨h7, h8⟩
    · rcases g6 with ⟨xs', q', rfl, g7, g8, g9, g10⟩ | ⟨g7, g8⟩
      · rw [h8] at hg
        rw [g8] at hg'
        obtain ⟨e1, e2⟩ := h.mem.rinj _ _ _ _ _ _ g h7 g7 hg hg'
        exact outNames_inj A L h.nodup y y' _ _ _ _ (q.1, q.2) _ _ h1 h2 g1 g2 rfl (by simp [rowName, e1, e2]) h3 g3
      · rw [g7] at hg'; cases hg'
    · rw [h7] at hg; cases hg
  · obtain ⟨rfl, c, c', t, h1, h2, h3, h4, h5, h6⟩ := h.told hl
    obtain ⟨s', cs', h11, h12, _⟩ := h.box s cs hb
    rcases h6 with ⟨xs, q, rfl, h7, h8, h9, h10⟩ | ⟨h7, h8⟩
    · rw [h8, h12] at hg
      exact h.mem.brow _ _ _ _ _ h11 h7 hg
    · rw [h7] at hg; cases hg
end
end Go.Proofs.Ytddilmocngedjaa
/- What a function's contract is, by content (Meets), and a call by it. -/
namespace Go.Proofs.Ytddilmocngedjaa
set_option linter.unusedVariables false
set_option linter.unusedSimpArgs false
open Go.RowKit

def boxOf : List Arg → List AV
  | [] => []
  | .box cs :: _ => cs
  | .val _ :: r => boxOf r
def entrySt (args : List Arg) : St :=
  { tmps := fun i => match args[i]? with | some (.val v) => v | some (.box _) => .ptr i 0 | none => .skip
    boxes := fun s => match args[s]? with | some (.box cs) => some (retCells 1000 0 cs) | _ => none
    rows := updRows (fun _ _ => .free) (retRows 1000 0 (boxOf args)) }
def exitSt (d : Nat) (site : Option (Nat × Nat)) (r : Res) : St :=
  { tmps := fun _ => .skip
    boxes := fun x => match site, r.box with
      | some (_, s), some cs => if x = s then some (retCells d 0 cs) else if x = d then r.new.map (newC r.val d cs.length) else none
      | _, _ => if x = d then r.new.map (newC r.val d 0) else none
    rows := updRows (fun _ _ => .free) (retRows d 0 r.outs) }

structure OwnOf (P : Program) (st : St) (G : Gh) (own : OwnP) : Prop where
  box : ∀ s cs, st.boxes s = some cs → own (G.bx s) = some 0
  row : ∀ a b tip g, st.rows a b = .live tip → (G.cv a b).ownBlock = some g → own g = some (tip * tsize P (G.et a b))
  only : ∀ b t, own b = some t → (∃ s cs, st.boxes s = some cs ∧ G.bx s = b) ∨ ∃ x y tip, st.rows x y = .live tip ∧ (G.cv x y).ownBlock = some b

structure Back (P : Program) (w : World) (own : OwnP) (GE : Gh) (d : Nat) (site : Option (Nat × Nat)) (r : Res) (GX : Gh) (v : Value) (w' : World) : Prop where
  mem : Mem P (exitSt d site r) GX w'
  val : Rep P (exitSt d site r) GX w' (retVal site d ((r.box.getD []).length + (r.new.getD []).length) r.val) v
  bx : ∀ i s, site = some (i, s) → GX.bx s = GE.bx i
  pres : Pres w own w'
  obox : ∀ s cs, (exitSt d site r).boxes s = some cs → w.heap.size ≤ GX.bx s ∨ own (GX.bx s) = some 0
  orow : ∀ a b tip g, (exitSt d site r).rows a b = .live tip → (GX.cv a b).ownBlock = some g → w.heap.size ≤ g ∨ ∃ t, own g = some t ∧ t ≤ tip * tsize P (GX.et a b)
  bad : GX.bad = GE.bad
  rbad : ∀ a b tip g o, (exitSt d site r).rows a b = .live tip → (GX.cv a b).ownBlock = some g → ¬ GX.bad g o

structure Came (P : Program) (args : List Arg) (vals : Array Value) (w : World) (GE : Gh) (own : OwnP) : Prop where
  size : vals.size = args.length
  mem : Mem P (entrySt args) GE w
  tmps : ∀ i, Rep P (entrySt args) GE w ((entrySt args).tmps i) (vals.getD i undef)
  own : OwnOf P (entrySt args) GE own
  bad : ∀ b o, GE.bad b o → b < w.heap.size
  rbad : ∀ a b tip g o, (entrySt args).rows a b = .live tip → (GE.cv a b).ownBlock = some g → ¬ GE.bad g o

structure Meets (P : Program) (f : Nat) (F : Con) : Prop where
  enters : ∀ args w, (callFunc f args).run P w = .ok (.enter f args) w
  calls : ∀ (args : List Arg) (vals : Array Value) (w : World) (GE : Gh) (own : OwnP) (d : Nat) (site : Option (Nat × Nat)) (q : Prop) (r : Res),
    F args = some (q, r) → q → Came P args vals w GE own → site.isSome = r.box.isSome → (∀ i s, site = some (i, s) → s ≠ d ∧ ∃ cs, args[i]? = some (.box cs)) →
    Calls P f vals w fun e w' => ∃ GX v, e = .returned v ∧ Back P w own GE d site r GX v w'

def Sound (P : Program) (Γ : Nat → Option Con) : Prop := ∀ f F, Γ f = some F → Meets P (f % 4096) F
theorem Sound.at {P : Program} {Γ : Nat → Option Con} (h : Sound P Γ) {d f : Nat} {F : Con} (hF : siteΓ Γ d f = some F) : Meets P f F := by
  unfold siteΓ at hF
  cases hb : Nat.blt f 4096 with
  | false => rw [hb] at hF; cases hF
  | true =>
    rw [hb] at hF
    have hlt : f < 4096 := Nat.blt_eq ▸ hb
    simp only [cond_true] at hF
    split at hF
    · rename_i F' e
      cases hF
      have := h _ _ e
      rwa [show (f + 4096 * (d + 1)) % 4096 = f by omega] at this
    · have := h _ _ hF
      rwa [Nat.mod_eq_of_lt hlt] at this

section
variable {P : Program} {n : Nat} {w0 : World} {own : OwnP} {st st' stX : St} {G G' GX : Gh} {a : Act} {w w' : World} {o : Oper} {A L : List AV} {d : Nat}

structure PassSpec (cs : List AV) (R : Nat → Nat → RowSt) (z : Prop × List AV × List ((Nat × Nat) × RowSt)) : Prop where
  len : z.2.1.length = cs.length
  fit : ∀ (p : Nat) c c', cs[p]? = some c → z.2.1[p]? = some c' → OutFit { tmps := fun _ => .skip, boxes := fun _ => none, rows := R } c c' ∧ (∀ t, rowOf c' = some t → ∃ q, rowName c = some q ∧ rowName c' = some q)
  nodup : (outNames cs z.2.1).Nodup
  live : ∀ q ∈ outNames cs z.2.1, ∃ tip, R q.1 q.2 = .live tip
  rows : ∀ x y, updRows R z.2.2 x y = if (x, y) ∈ outNames cs z.2.1 then .dead else R x y

theorem passCells_spec : ∀ (cs : List AV) (R : Nat → Nat → RowSt), cs.all AV.plainCell = true → (passCells R cs).1 → PassSpec cs R (passCells R cs)
  | [], R, _, _ => ⟨rfl, fun p c c' h => by simp at h, by simp [passCells, outNames], by simp [passCells, outNames], by simp [passCells, outNames, updRows]⟩
  | c :: cs, R, hp, ho => by
    simp only [List.all_cons, Bool.and_eq_true] at hp
    obtain ⟨hp1, hp2⟩ := hp
    -- a cell that goes as it is, or without its row
    have plain : ∀ c1, passCells R (c :: cs) = ((passCells R cs).1, c1 :: (passCells R cs).2.1, (passCells R cs).2.2) → rowName c1 = none → OutFit { tmps := fun _ => .skip, boxes := fun _ => none, rows := R } c c1 → PassSpec (c :: cs) R (passCells R (c :: cs)) := by
      intro c1 e hn hf
      rw [e] at ho ⊢
      obtain ⟨h1, h2, h3, h4, h5⟩ := passCells_spec cs R hp2 ho
      have hon : outNames (c :: cs) (c1 :: (passCells R cs).2.1) = outNames cs (passCells R cs).2.1 := by
        simp only [outNames, hn]
        split <;> simp_all
      refine ⟨by simp [h1], ?_, by rw [hon]; exact h3, by rw [hon]; exact h4, by rw [hon]; exact h5⟩
      intro p x x' hx hx'
      cases p with
      | zero =>
        simp at hx hx'
        subst hx hx'
        refine ⟨hf, fun t ht => ?_⟩
        obtain ⟨q, hq⟩ := rowName_of ht
        rw [hn] at hq; cases hq
      | succ p => exact h2 p x x' (by simpa using hx) (by simpa using hx')
    by_cases hc : ∃ xs p q e, c = .sl xs (.row p q e)
    · obtain ⟨xs, p, q, e, rfl⟩ := hc
      cases hr : R p q with
      | live tip =>
        have e1 : passCells R (.sl xs (.row p q e) :: cs) = (tip = xs.length ∧ (passCells (upd2 R (p, q) .dead) cs).1, .sl xs (.row p q e) :: (passCells (upd2 R (p, q) .dead) cs).2.1, ((p, q), .dead) :: (passCells (upd2 R (p, q) .dead) cs).2.2) := by
          simp only [passCells, hr]
        rw [e1] at ho ⊢
        obtain ⟨ho1, ho2⟩ := ho
        obtain ⟨h1, h2, h3, h4, h5⟩ := passCells_spec cs (upd2 R (p, q) .dead) hp2 ho2
        have hon : outNames (.sl xs (.row p q e) :: cs) (.sl xs (.row p q e) :: (passCells (upd2 R (p, q) .dead) cs).2.1) = (p, q) :: outNames cs (passCells (upd2 R (p, q) .dead) cs).2.1 := by
          simp [outNames, rowName]
        have hnot : ∀ x y, (x, y) ∈ outNames cs (passCells (upd2 R (p, q) .dead) cs).2.1 → ¬ (x = p ∧ y = q) := by
          rintro x y hm ⟨rfl, rfl⟩
          obtain ⟨t, ht⟩ := h4 _ hm
          rw [upd2_same] at ht; cases ht
        refine ⟨by simp [h1], ?_, ?_, ?_, ?_⟩
        · intro k x x' hx hx'
          cases k with
          | zero =>
            simp at hx hx'
            subst hx hx'
            exact ⟨⟨rfl, rfl, by simp only [hr]; exact ho1⟩, fun t _ => ⟨(p, q), rfl, rfl⟩⟩
          | succ k =>
            obtain ⟨f1, f2⟩ := h2 k x x' (by simpa using hx) (by simpa using hx')
            refine ⟨?_, f2⟩
            unfold OutFit at f1 ⊢
            split
            · rename_i ys a' b' e'
              simp only at f1
              split
              · rename_i xs' a b e0
                simp only at f1
                refine ⟨f1.1, f1.2.1, ?_⟩
                by_cases hh : a = p ∧ b = q
                · obtain ⟨rfl, rfl⟩ := hh
                  have := f1.2.2
                  rw [upd2_same] at this
                  exact this.elim
                · have := f1.2.2
                  rw [upd2_other _ _ hh] at this
                  exact this
              · exact f1
              · simp_all
            · exact f1
            · exact f1
            · simp_all
        · rw [hon, List.nodup_cons]
          exact ⟨fun hm => hnot p q hm ⟨rfl, rfl⟩, h3⟩
        · rw [hon]
          intro x hx
          rcases List.mem_cons.1 hx with rfl | hx
          · exact ⟨tip, hr⟩
          · obtain ⟨t, ht⟩ := h4 x hx
            rw [upd2_other _ _ (hnot x.1 x.2 hx)] at ht
            exact ⟨t, ht⟩
        · intro x y
          rw [hon]
          simp only [updRows]
          rw [h5]
          by_cases hm : (x, y) ∈ outNames cs (passCells (upd2 R (p, q) .dead) cs).2.1
          · rw [if_pos hm, if_pos (by simp [hm])]
          · rw [if_neg hm]
            by_cases hh : x = p ∧ y = q
            · obtain ⟨rfl, rfl⟩ := hh
              rw [upd2_same, if_pos (by simp)]
            · rw [upd2_other _ _ hh, if_neg (by simp only [List.mem_cons, hm, or_false, Prod.mk.injEq]; exact hh)]
      | free => exact plain (.sl xs .no) (by simp only [passCells, hr]) rfl rfl
      | dead => exact plain (.sl xs .no) (by simp only [passCells, hr]) rfl rfl
    · have e1 : passCells R (c :: cs) = ((passCells R cs).1, c :: (passCells R cs).2.1, (passCells R cs).2.2) := by
        cases c with
        | sl xs ow =>
          cases ow with
          | row p q e => exact absurd ⟨xs, p, q, e, rfl⟩ hc
          | _ => rfl
        | _ => rfl
      have hn : rowName c = none := by
        cases c with
        | sl xs ow =>
          cases ow with
          | row p q e => exact absurd ⟨xs, p, q, e, rfl⟩ hc
          | _ => rfl
        | _ => rfl
      refine plain c e1 hn ?_
      unfold OutFit
      cases c with
      | sl xs ow =>
        cases ow with
        | row p q e => exact absurd ⟨xs, p, q, e, rfl⟩ hc
        | no => rfl
        | nil => rfl
      | _ => exact ⟨rfl, hp1⟩
end
end Go.Proofs.Ytddilmocngedjaa
/- A call by its contract: the frame's state follows. -/
namespace Go.Proofs.Ytddilmocngedjaa
set_option linter.unusedVariables false
set_option linter.unusedSimpArgs false
open Go.RowKit

section
variable {P : Program} {n : Nat} {w0 : World} {own own' : OwnP} {st st' stX : St} {G G' GX GE : Gh} {a : Act} {w w' : World} {o : Oper} {A L : List AV} {d : Nat}

theorem exists_own (hm : Mem P st G w) : ∃ own, OwnOf P st G own := by
  classical
  refine ⟨⟨fun b => if ∃ s cs, st.boxes s = some cs ∧ G.bx s = b then some 0 else
    if h : ∃ q : Nat × Nat × Nat, st.rows q.1 q.2.1 = .live q.2.2 ∧ (G.cv q.1 q.2.1).ownBlock = some b then some ((Classical.choose h).2.2 * tsize P (G.et (Classical.choose h).1 (Classical.choose h).2.1)) else none, fun _ => none, fun _ _ => False⟩, ?_, ?_, ?_⟩
  · intro s cs h
    dsimp only
    rw [if_pos ⟨s, cs, h, rfl⟩]
  · intro x y tip g h1 h2
    have hn : ¬ ∃ s cs, st.boxes s = some cs ∧ G.bx s = g := by
      rintro ⟨s, cs, h3, h4⟩
      exact hm.brow s cs x y tip h3 h1 (by rw [h4]; exact h2)
    dsimp only
    rw [if_neg hn]
    have hex : ∃ q : Nat × Nat × Nat, st.rows q.1 q.2.1 = .live q.2.2 ∧ (G.cv q.1 q.2.1).ownBlock = some g := ⟨(x, y, tip), h1, h2⟩
    rw [dif_pos hex]
    obtain ⟨h3, h4⟩ := Classical.choose_spec hex
    obtain ⟨e1, e2⟩ := hm.rinj _ _ _ _ _ _ g h3 h1 h4 h2
    rw [e1, e2] at h3 ⊢
    rw [h1] at h3
    have e3 := (RowSt.live.inj h3).symm
    rw [e3]
  · intro b t h
    dsimp only at h
    split at h
    · rename_i h1; exact .inl h1
    · split at h
      · rename_i h2
        obtain ⟨h3, h4⟩ := Classical.choose_spec h2
        exact .inr ⟨_, _, _, h3, h4⟩
      · cases h

theorem argsOf_get (k : Nat) (cs : List AV) : ∀ (vs : List AV) (i j : Nat), (argsOf k cs i vs)[j]? = (vs[j]?).map fun v => if i + j = k then .box cs else .val v.drop
  | [], i, j => by simp [argsOf]
  | v :: vs, i, 0 => by simp [argsOf]
  | v :: vs, i, j + 1 => by
    simp only [argsOf, List.getElem?_cons_succ]
    rw [argsOf_get k cs vs (i + 1) j]
    congr 2
    funext v
    have : (i + 1 + j = k) = (i + (j + 1) = k) := by rw [eq_iff_iff]; omega
    simp only [this]
theorem argsOf_length (k : Nat) (cs : List AV) (vs : List AV) (i : Nat) : (argsOf k cs i vs).length = vs.length := by
  induction vs generalizing i with
  | nil => rfl
  | cons v vs ih => simp [argsOf, ih]
theorem boxOf_args (k : Nat) (cs : List AV) : ∀ (vs : List AV) (i : Nat), i ≤ k → boxOf (argsOf k cs i vs) = if k < i + vs.length then cs else []
  | [], i, h => by simp [argsOf, boxOf]; omega
  | v :: vs, i, h => by
    simp only [argsOf]
    by_cases hk : i = k
    · rw [if_pos hk]
      simp only [boxOf, List.length_cons]
      rw [if_pos (by omega)]
    · rw [if_neg hk]
      simp only [boxOf, List.length_cons]
      rw [boxOf_args k cs vs (i + 1) (by omega)]
      have : (k < i + 1 + vs.length) = (k < i + (vs.length + 1)) := by rw [eq_iff_iff]; omega
      simp only [this]
theorem allPlain_get (k : Nat) : ∀ (vs : List AV) (i j : Nat) v, allPlain k i vs = true → vs[j]? = some v → i + j = k ∨ v.plain = true
  | [], i, j, v, _, h => by simp at h
  | x :: vs, i, 0, v, h, hv => by
    simp at hv; subst hv
    simp only [allPlain, Bool.and_eq_true, Bool.or_eq_true, beq_iff_eq] at h
    exact h.1
  | x :: vs, i, j + 1, v, h, hv => by
    simp only [allPlain, Bool.and_eq_true] at h
    have := allPlain_get k vs (i + 1) j v h.2 (by simpa using hv)
    rcases this with h | h
    · left; omega
    · exact .inr h
theorem findPtr_one : ∀ (vs : List AV) (i k s off : Nat), findPtr i vs = [(k, s, off)] → i ≤ k ∧ vs[k - i]? = some (.ptr s off)
  | [], i, k, s, off, h => by simp [findPtr] at h
  | v :: vs, i, k, s, off, h => by
    by_cases hv : ∃ s off, v = .ptr s off
    · obtain ⟨s', off', rfl⟩ := hv
      simp only [findPtr, List.cons.injEq, Prod.mk.injEq] at h
      obtain ⟨⟨rfl, rfl, rfl⟩, _⟩ := h
      exact ⟨Nat.le_refl _, by simp⟩
    · have e : findPtr i (v :: vs) = findPtr (i + 1) vs := by
        cases v <;> first | rfl | exact absurd ⟨_, _, rfl⟩ hv
      rw [e] at h
      obtain ⟨h1, h2⟩ := findPtr_one vs (i + 1) k s off h
      refine ⟨by omega, ?_⟩
      rw [show k - i = (k - (i + 1)) + 1 from by omega, List.getElem?_cons_succ]
      exact h2

theorem outFit_one {c c' : AV} (h : OutFit st c c') (h1 : c.one = true) : c'.one = true := by
  unfold OutFit at h
  split at h
  · rfl
  · rfl
  · rfl
  · rw [h.1]; exact h1
theorem retCell_one {p : Nat} {c : AV} (h : c.one = true) : (retCell d p c).one = true := by
  unfold retCell
  split
  · rfl
  · exact h

theorem rep_dropped {v : AV} {r : Value} (h : Rep P st G w v r) (hp : v.plain = true) (hk : ∀ b o u, stable P st G b o → w.cell? ⟨b, o, none⟩ = some u → stable P stX GX b o) : Rep P stX GX w v.drop r := by
  have hk' : ∀ b o u, stable P st G b o → w.cell? ⟨b, o, none⟩ = some u → stable P stX GX b o ∧ w.cell? ⟨b, o, none⟩ = some u := fun b o u h1 h2 => ⟨hk b o u h1 h2, h2⟩
  have cell : ∀ {c : AV} {u : Value}, Rep1 P st G w c u → c.plainCell = true → Rep1 P stX GX w c.dropCell u := by
    intro c u hc hp
    cases c with
    | sl xs ow =>
      cases ow with
      | no => exact RepP.mono hc hk'
      | nil => exact hc
      | row x y e => exact RepP.mono hc.1 hk'
    | ptr _ _ => cases hp
    | vec _ _ _ _ => cases hp
    | eptr _ _ => cases hp
    | agg _ => cases hp
    | tup _ => cases hp
    | any => cases hp
    | skip => cases hp
    | _ => exact RepP.mono hc hk'
  unfold AV.plain at hp
  rw [List.all_eq_true] at hp
  by_cases hv : ∃ cs, v = .agg cs
  · obtain ⟨cs, rfl⟩ := hv
    obtain ⟨us, rfl, h2, h3⟩ := (h : RepA P st G w (.agg cs) r)
    refine (⟨us, rfl, by simpa using h2, fun i c hc => ?_⟩ : RepA P stX GX w (.agg (cs.map AV.dropCell)) (.agg us))
    simp only [List.getElem?_map, Option.map_eq_some_iff] at hc
    obtain ⟨c', hc', rfl⟩ := hc
    obtain ⟨h4, u, h5, h6⟩ := h3 i c' hc'
    exact ⟨dropCell_one h4, u, h5, cell h6 (hp c' (List.mem_of_getElem? hc'))⟩
  · have hv' : ∀ cs, v ≠ .agg cs := fun cs e => hv ⟨cs, e⟩
    have hcs := cellsOf_one hv'
    have hp1 := hp v (by rw [hcs]; simp)
    have hnt : ∀ cs, v ≠ .tup cs := by rintro cs rfl; cases hp1
    have e : v.drop = v.dropCell := by cases v <;> first | rfl | exact absurd rfl (hv' _)
    rw [e]
    exact Rep.of1 (cell (h.to1 hnt hv') hp1)

def kept (P : Program) (st : St) (G : Gh) (site : Option (Nat × Nat)) (N : List (Nat × Nat)) (b o : Nat) : Prop :=
  G.bad b o ∨ (∃ s cs, st.boxes s = some cs ∧ (∀ i, site ≠ some (i, s)) ∧ G.bx s = b ∧ cs ≠ []) ∨
    ∃ x y tip, st.rows x y = .live tip ∧ (x, y) ∉ N ∧ (G.cv x y).ownBlock = some b ∧ tip * tsize P (G.et x y) ≤ o

theorem kept_stable {site : Option (Nat × Nat)} {N : List (Nat × Nat)} {b o : Nat} (h : stable P st G b o) : ¬ kept P st G site N b o := by
  rintro (h1 | ⟨s, cs, h1, _, h2, h3⟩ | ⟨x, y, tip, h1, _, h2, h3⟩)
  · exact h.1 h1
  · exact h.2.1 s cs h1 h3 h2
  · have := h.2.2 x y tip h1 h2; omega

theorem outNames_mem : ∀ (A L : List AV) q, q ∈ outNames A L → ∃ (p : Nat) (c c' : AV) (t : Nat × Nat), A[p]? = some c ∧ L[p]? = some c' ∧ rowName c = some q ∧ rowOf c' = some t := by
  intro A
  induction A with
  | nil => intro L q h; simp [outNames] at h
  | cons c A ih =>
    intro L q h
    cases L with
    | nil => simp [outNames] at h
    | cons c' L =>
      simp only [outNames, List.mem_append] at h
      rcases h with h | h
      · split at h
        · rename_i q' q'' h1 h2
          simp at h
          subst h
          refine ⟨0, c, c', ?_⟩
          unfold rowName at h2
          split at h2
          · exact ⟨_, rfl, rfl, h1, rfl⟩
          · cases h2
        · simp at h
      · obtain ⟨p, c1, c2, t, h1, h2, h3, h4⟩ := ih L q h
        exact ⟨p + 1, c1, c2, t, by simpa using h1, by simpa using h2, h3, h4⟩

structure In (P : Program) (st : St) (G : Gh) (w : World) (vs : List AV) (us : Array Value) (p : Passed) (N : List (Nat × Nat)) (GE : Gh) (own' : OwnP) : Prop where
  came : Came P p.args us w GE own'
  bad : GE.bad = kept P st G p.site N
  site : ∀ i s, p.site = some (i, s) → GE.bx i = G.bx s ∧ (∃ cs, st.boxes s = some cs ∧ cs ≠ []) ∧ ∃ cs, p.args[i]? = some (.box cs)
  rows : ∀ x y, updRows st.rows p.rows x y = if (x, y) ∈ N then .dead else st.rows x y
  live : ∀ q ∈ N, ∃ tip, st.rows q.1 q.2 = .live tip
  only : ∀ b t, own' b = some t → (∃ i s, p.site = some (i, s) ∧ G.bx s = b ∧ t = 0) ∨ ∃ q ∈ N, ∃ tip, st.rows q.1 q.2 = .live tip ∧ (G.cv q.1 q.2).ownBlock = some b ∧ t = tip * tsize P (G.et q.1 q.2)
  box : ∀ i s, p.site = some (i, s) → own' (G.bx s) = some 0
  row : ∀ q ∈ N, ∀ tip b, st.rows q.1 q.2 = .live tip → (G.cv q.1 q.2).ownBlock = some b → own' b = some (tip * tsize P (G.et q.1 q.2))

theorem hand_in (hR : Rel P n w0 own st G a w) {vs : List AV} {us : Array Value} (hus : us.size = vs.length) (hvs : ∀ (i : Nat) v, vs[i]? = some v → Rep P st G w v (us.getD i undef)) {p : Passed} (hp : passArgs st.boxes st.rows vs = some p) (ho : p.obl) :
    ∃ N GE own', In P st G w vs us p N GE own' := by
  have hbw : ∀ s cs, st.boxes s = some cs → G.bx s < w.heap.size := by
    intro s cs h
    obtain ⟨_, _, h1, _⟩ := hR.mem.box s cs h
    exact (Array.getElem?_eq_some_iff.1 h1).1
  have hrw : ∀ x y tip g, st.rows x y = .live tip → (G.cv x y).ownBlock = some g → g < w.heap.size := by
    intro x y tip g h1 h2
    obtain ⟨_, us, h3⟩ := hR.mem.row x y tip h1
    exact (h3.lt g h2).2
  have hkb : ∀ site N b o, kept P st G site N b o → b < w.heap.size := by
    rintro site N b o (h | ⟨s, cs, h1, _, h2, _⟩ | ⟨x, y, tip, h1, _, h2, _⟩)
    · exact Nat.lt_of_lt_of_le (hR.bad b o h) hR.pres.size
    · rw [← h2]; exact hbw s cs h1
    · exact hrw x y tip b h1 h2
  unfold passArgs at hp
  split at hp
  · -- no pointer
    split at hp
    · rename_i hpl
      cases hp
      obtain ⟨GE, hGE⟩ : ∃ GE : Gh, GE = ⟨fun _ => 0, fun _ _ => .slice none 0 0, fun _ _ => 0, kept P st G none []⟩ := ⟨_, rfl⟩
      have hargs : ∀ i : Nat, (argsOf vs.length [] 0 vs)[i]? = (vs[i]?).map fun (v : AV) => Arg.val v.drop := by
        intro i
        rw [argsOf_get]
        cases hv : vs[i]? with
        | none => rfl
        | some v =>
          have : i < vs.length := (List.getElem?_eq_some_iff.1 hv).1
          simp only [Option.map_some]
          rw [if_neg (by omega)]
      have hnb : ∀ s, (entrySt (argsOf vs.length [] 0 vs)).boxes s = none := by
        intro s
        simp only [entrySt, hargs]
        cases vs[s]? <;> rfl
      have hnr : ∀ x y, (entrySt (argsOf vs.length [] 0 vs)).rows x y = .free := by
        intro x y
        simp only [entrySt, boxOf_args vs.length [] vs 0 (Nat.zero_le _)]
        simp [retRows, updRows]
      have hst : ∀ b o u, stable P st G b o → w.cell? ⟨b, o, none⟩ = some u → stable P (entrySt (argsOf vs.length [] 0 vs)) GE b o := by
        intro b o u hs _
        refine ⟨by rw [hGE]; exact kept_stable hs, fun s cs h => (by rw [hnb] at h; cases h), fun x y tip h => (by rw [hnr] at h; cases h)⟩
      have hmem : Mem P (entrySt (argsOf vs.length [] 0 vs)) GE w :=
        ⟨fun s cs h => (by rw [hnb] at h; cases h), fun s cs s' cs' h => (by rw [hnb] at h; cases h), fun x y tip h => (by rw [hnr] at h; cases h), fun x y tip x' y' tip' g h => (by rw [hnr] at h; cases h), fun s cs x y tip h => (by rw [hnb] at h; cases h)⟩
      obtain ⟨own', hown⟩ := exists_own hmem
      refine ⟨[], GE, own', ⟨⟨by rw [argsOf_length]; exact hus, hmem, fun i => ?_, hown, fun b o h => hkb none [] b o (by rw [hGE] at h; exact h), fun x y tip g o h => (by rw [hnr] at h; cases h)⟩, (by rw [hGE]), (fun i s h => (by cases h)), (fun x y => (by simp [updRows])), (fun q h => (by simp at h)), fun b t h => ?_, (fun i s h => (by cases h)), (fun q h => (by simp at h))⟩⟩
      · have htm : (entrySt (argsOf vs.length [] 0 vs)).tmps i = match vs[i]? with | some v => v.drop | none => .skip := by
          simp only [entrySt, hargs]
          cases vs[i]? <;> rfl
        rw [htm]
        cases hv : vs[i]? with
        | none =>
          have hge : vs.length ≤ i := by
            rcases Nat.lt_or_ge i vs.length with h | h
            · rw [List.getElem?_eq_getElem h] at hv; cases hv
            · exact h
          have : us.getD i undef = undef := by simp [Array.getD_eq_getD_getElem?, hus, hge]
          rw [this]
          exact rep_skip
        | some v =>
          have hi : i < vs.length := (List.getElem?_eq_some_iff.1 hv).1
          rcases allPlain_get vs.length vs 0 i v hpl hv with h | h
          · omega
          · exact rep_dropped (hvs i v hv) h hst
      · rcases hown.only b t h with ⟨s, cs, h1, _⟩ | ⟨x, y, tip, h1, _⟩
        · rw [hnb] at h1; cases h1
        · rw [hnr] at h1; cases h1
    · cases hp
  · -- one pointer
    rename_i k s off hfp
    split at hp
    · rename_i cs hcs
      split at hp
      · rename_i hcond
        obtain ⟨⟨hoff, hne⟩, hpl, hpc⟩ := hcond
        subst hoff
        have hcne : cs ≠ [] := by rintro rfl; cases hne
        cases hp
        obtain ⟨_, hk⟩ := findPtr_one vs 0 k s 0 hfp
        rw [Nat.sub_zero] at hk
        have hkl : k < vs.length := (List.getElem?_eq_some_iff.1 hk).1
        have hsp := passCells_spec cs st.rows hpc ho
        generalize passCells st.rows cs = z at *
        obtain ⟨zo, L, zr⟩ := z
        obtain ⟨N, hN⟩ : ∃ N, N = outNames cs L := ⟨_, rfl⟩
        have hspl : L.length = cs.length := hsp.len
        have hspf : ∀ (p : Nat) c c', cs[p]? = some c → L[p]? = some c' → OutFit { tmps := fun _ => .skip, boxes := fun _ => none, rows := st.rows } c c' ∧ (∀ t, rowOf c' = some t → ∃ q, rowName c = some q ∧ rowName c' = some q) := hsp.fit
        have hspn : (outNames cs L).Nodup := hsp.nodup
        have hspv : ∀ q ∈ outNames cs L, ∃ tip, st.rows q.1 q.2 = .live tip := hsp.live
        have hspr : ∀ x y, updRows st.rows zr x y = if (x, y) ∈ outNames cs L then .dead else st.rows x y := hsp.rows
        simp only
        obtain ⟨GE, hGE⟩ : ∃ GE : Gh, GE = ⟨fun _ => G.bx s, fun _ y => toldCv G cs y, fun _ y => toldEt L y, kept P st G (some (k, s)) N⟩ := ⟨_, rfl⟩
        have hargs : ∀ i : Nat, (argsOf k L 0 vs)[i]? = (vs[i]?).map fun (v : AV) => if i = k then Arg.box L else Arg.val v.drop := by
          intro i; rw [argsOf_get]; simp only [Nat.zero_add]
        have hbx : ∀ x, (entrySt (argsOf k L 0 vs)).boxes x = if x = k then some (retCells 1000 0 L) else none := by
          intro x
          simp only [entrySt, hargs]
          by_cases hx : x = k
          · subst hx; rw [hk]; simp
          · cases vs[x]? <;> simp [hx]
        have hrows : ∀ x y, (entrySt (argsOf k L 0 vs)).rows x y = if x = 1000 then (match tells L y with | some t => .live t.1 | none => .free) else .free := by
          intro x y
          simp only [entrySt, boxOf_args k L vs 0 (Nat.zero_le _)]
          rw [if_pos (by omega), retRows_at]
          simp only [Nat.zero_le, and_true, Nat.sub_zero]
          try rfl
        obtain ⟨cus, ct, hb1, hb2, hb3⟩ := hR.mem.box s cs hcs
        have hfit : ∀ (p : Nat) c c', cs[p]? = some c → L[p]? = some c' → OutFit st c c' := by
          intro p c c' h1 h2
          exact (hspf p c c' h1 h2).1
        have hand : Hand P st G w cs L 1000 (entrySt (argsOf k L 0 vs)) GE := by
          refine ⟨hR.mem, ?_, hfit, ?_, ?_, hrows, ?_, fun y => by rw [hGE], fun y => by rw [hGE], fun b o u h _ => by rw [hGE]; exact kept_stable h, fun p c hc => ?_⟩
          · exact hspl.symm
          · exact hspn
          · intro p t ht
            unfold tells at ht
            simp only [Option.bind_eq_some_iff] at ht
            obtain ⟨c', h1, h2⟩ := ht
            have hpl' : p < cs.length := by
              rw [← hspl]; exact (List.getElem?_eq_some_iff.1 h1).1
            have hc := List.getElem?_eq_getElem hpl'
            obtain ⟨q, hq1, hq2⟩ := (hspf p _ _ hc h1).2 t h2
            have hf := hfit p _ _ hc h1
            obtain ⟨_, u, _, hu⟩ := hb3 p _ hc
            obtain ⟨xs, e, hxe⟩ := rowName_some hq1
            obtain ⟨ys, a', b', rfl, _⟩ := rowOf_some h2
            rw [hxe] at hf hu
            obtain ⟨rfl, rfl, h3⟩ := hf
            obtain ⟨_, hu2⟩ := hu
            split at h3
            · rename_i hh
              rw [hh] at hu2
              rw [hu2.1]
              exact (hR.mem.row _ _ _ hh).1
            · exact h3.elim
          · intro x c hx
            rw [hbx] at hx
            split at hx
            · exact ⟨s, cs, hcs, by rw [hGE], fun _ => hcne⟩
            · cases hx
          · obtain ⟨_, u, _, hu⟩ := hb3 p c hc
            exact ⟨u, hu⟩
        have hmem := hand.memX (by
          intro x c hx
          rw [hbx] at hx
          split at hx
          · cases hx
            refine ⟨cus, ct, by rw [hGE]; exact hb1, by rw [retCells_length, hspl]; exact hb2, fun i c hc => ?_⟩
            rw [retCells_get] at hc
            simp only [Option.map_eq_some_iff, Nat.zero_add] at hc
            obtain ⟨c', hc', rfl⟩ := hc
            have hil : i < cs.length := by
              rw [← hspl]; exact (List.getElem?_eq_some_iff.1 hc').1
            have hci := List.getElem?_eq_getElem hil
            obtain ⟨h0, u, h4, h5⟩ := hb3 i _ hci
            exact ⟨retCell_one (outFit_one (hfit i _ _ hci hc') h0), u, h4, hand.rep1 hci hc' h5⟩
          · cases hx) (by
          intro x c x' c' hx hx' _
          rw [hbx] at hx hx'
          split at hx
          · split at hx'
            · rename_i e1 e2; rw [e1, e2]
            · cases hx'
          · cases hx)
        obtain ⟨own', hown⟩ := exists_own hmem
        have hlN : ∀ q ∈ N, ∃ tip, st.rows q.1 q.2 = .live tip := by
          rw [hN]; exact hspv
        refine ⟨N, GE, own', ⟨⟨by rw [argsOf_length]; exact hus, hmem, fun i => ?_, hown, fun b o h => hkb (some (k, s)) N b o (by rw [hGE] at h; exact h), fun x y tip g o h hg => ?_⟩, (by rw [hGE]), fun i s' h => ?_, ?_, hlN, fun b t h => ?_, fun i s' h => ?_, fun q hq tip b h1 h2 => ?_⟩⟩
        · have htm : (entrySt (argsOf k L 0 vs)).tmps i = match vs[i]? with | some v => (if i = k then .ptr i 0 else v.drop) | none => .skip := by
            simp only [entrySt, hargs]
            cases vs[i]? with
            | none => rfl
            | some v => by_cases hi : i = k <;> simp [hi]
          rw [htm]
          cases hv : vs[i]? with
          | none =>
            have hge : vs.length ≤ i := by
              rcases Nat.lt_or_ge i vs.length with h | h
              · rw [List.getElem?_eq_getElem h] at hv; cases hv
              · exact h
            have : us.getD i undef = undef := by simp [Array.getD_eq_getD_getElem?, hus, hge]
            rw [this]
            exact rep_skip
          | some v =>
            by_cases hi : i = k
            · subst hi
              simp only [if_true]
              rw [hk] at hv; cases hv
              obtain ⟨_, h2⟩ := (hvs i _ hk).inv_ptr
              exact ⟨⟨retCells 1000 0 L, by have := hbx i; rw [if_pos rfl] at this; exact this⟩, by rw [h2, hGE]⟩
            · simp only [hi, if_false]
              rcases allPlain_get k vs 0 i v hpl hv with h | h
              · omega
              · exact rep_dropped (hvs i v hv) h (fun b o u h1 h2 => hand.stable h1 h2)
        · obtain ⟨rfl, c, c', t, h1, h2, h3, h4, h5, h6⟩ := hand.told h
          rcases h6 with ⟨xs, q, rfl, h7, h8, h9, h10⟩ | ⟨h7, _⟩
          · rw [h8] at hg
            rw [hGE]
            have hqN : (q.1, q.2) ∈ N := by rw [hN]; exact outNames_get cs L y _ _ _ _ h1 h2 rfl h3
            rintro (hb | ⟨s', cs', hs1, hs2, hs3, _⟩ | ⟨x', y', tip', hr1, hr2, hr3, _⟩)
            · exact hR.rbad _ _ _ _ _ h7 hg hb
            · exact hR.mem.brow s' cs' _ _ _ hs1 h7 (by rw [hs3]; exact hg)
            · obtain ⟨e1, e2⟩ := hR.mem.rinj _ _ _ _ _ _ g hr1 h7 hr3 hg
              exact hr2 (by rw [e1, e2]; exact hqN)
          · rw [h7] at hg; cases hg
        · cases h
          exact ⟨by rw [hGE], ⟨cs, hcs, hcne⟩, L, by rw [hargs, hk]; simp⟩
        · rw [hN]; exact hspr
        · rcases hown.only b t h with ⟨x, c, h1, h2⟩ | ⟨x, y, tip, h1, h2⟩
          · left
            have hx := h1
            rw [hbx] at hx
            split at hx
            · have := hown.box x c h1
              rw [h2] at this
              rw [this] at h
              refine ⟨k, s, rfl, ?_, (Option.some.inj h).symm⟩
              rw [← h2, hGE]
            · cases hx
          · right
            have hrow := hown.row x y tip b h1 h2
            rw [hrow] at h
            obtain ⟨rfl, c, c', t', g1, g2, g3, g4, g5, g6⟩ := hand.told h1
            rcases g6 with ⟨xs, q, rfl, h7, h8, h9, h10⟩ | ⟨h7, _⟩
            · refine ⟨(q.1, q.2), by rw [hN]; exact outNames_get cs L y _ _ _ _ g1 g2 rfl g3, tip, h7, by rw [← h8]; exact h2, ?_⟩
              rw [h10, ← g5]
              exact (Option.some.inj h).symm
            · rw [h7] at h2; cases h2
        · cases h
          have := hown.box k (retCells 1000 0 L) (by rw [hbx, if_pos rfl])
          rw [hGE] at this
          exact this
        · rw [hN] at hq
          obtain ⟨y, c, c', t, g1, g2, g3, g4⟩ := outNames_mem cs L q hq
          have hlive : (entrySt (argsOf k L 0 vs)).rows 1000 y = .live t.1 := by rw [hrows, if_pos rfl]; simp [tells, g2, g4]
          obtain ⟨_, c1, c1', t1, k1, k2, k3, k4, k5, k6⟩ := hand.told hlive
          rw [g1] at k1; cases k1
          rw [g2] at k2; cases k2
          rw [g4] at k3; cases k3
          rcases k6 with ⟨xs, q', rfl, h7, h8, h9, h10⟩ | ⟨h7, h8⟩
          · have : (q'.1, q'.2) = q := by simpa [rowName] using g3
            subst this
            have := hown.row 1000 y t.1 b hlive (by rw [h8]; exact h2)
            rw [k5, ← h10] at this
            rw [h7] at h1
            rw [← RowSt.live.inj h1]
            exact this
          · obtain ⟨xs, e, rfl⟩ := rowName_some g3
            have hf := hfit y _ _ g1 g2
            obtain ⟨ys, a', b', rfl, _⟩ := rowOf_some g4
            have hcv : GE.cv 1000 y = G.cv q.1 q.2 := by rw [hGE]; simp [toldCv, g1, rowName]
            rw [hcv] at h7
            rw [h7] at h2; cases h2
      · cases hp
    · cases hp
  · cases hp
end
end Go.Proofs.Ytddilmocngedjaa
/- Behind a call: the frame's state follows. -/
namespace Go.Proofs.Ytddilmocngedjaa
set_option linter.unusedVariables false
set_option linter.unusedSimpArgs false
open Go.RowKit

section
variable {P : Program} {n : Nat} {w0 : World} {own own' : OwnP} {st st' stX : St} {G G' GX GE : Gh} {a : Act} {w w' : World} {o : Oper} {d : Nat}

theorem updRows_append : ∀ (l1 l2 : List ((Nat × Nat) × RowSt)) (f : Nat → Nat → RowSt), updRows f (l1 ++ l2) = updRows (updRows f l1) l2
  | [], l2, f => rfl
  | (k, c) :: l1, l2, f => by simp only [List.cons_append, updRows]; exact updRows_append l1 l2 _
theorem allFree_get (R : Nat → Nat → RowSt) (d : Nat) : ∀ (L : List AV) (k y : Nat) t, allFree R d k L = true → tells L y = some t → R d (k + y) = .free
  | [], k, y, t, _, h => by simp [tells] at h
  | c :: L, k, 0, t, h, ht => by
    have : rowOf c = some t := ht
    simp only [allFree, this, Bool.and_eq_true] at h
    have h1 := h.1
    simp only [Nat.add_zero]
    split at h1
    · assumption
    · cases h1
  | c :: L, k, y + 1, t, h, ht => by
    simp only [allFree, Bool.and_eq_true] at h
    have := allFree_get R d L (k + 1) y t h.2 (by unfold tells at ht ⊢; simpa using ht)
    rw [show k + (y + 1) = k + 1 + y from by omega]
    exact this

def callBoxes (d : Nat) (site : Option (Nat × Nat)) (r : Res) : List (Nat × List AV) :=
  (match site, r.box with | some (_, s), some cs => [(s, retCells d 0 cs)] | _, _ => []) ++ (match r.new with | some cs => [(d, newC r.val d (r.box.getD []).length cs)] | none => [])
def callEff (p : Passed) (q : Prop) (d : Nat) (r : Res) : Eff :=
  ⟨p.obl ∧ q, retVal p.site d ((r.box.getD []).length + (r.new.getD []).length) r.val, callBoxes d p.site r, p.rows ++ retRows d 0 r.outs⟩

theorem call_boxes {site : Option (Nat × Nat)} {r : Res} (hs : site.isSome = r.box.isSome) (hsd : ∀ i s, site = some (i, s) → s ≠ d) (B : Nat → Option (List AV)) (x : Nat) :
    updAll B (callBoxes d site r) x = match (exitSt d site r).boxes x with | some c => some c | none => B x := by
  unfold callBoxes exitSt
  cases hsite : site with
  | none =>
    rw [hsite] at hs
    cases hb : r.box with
    | some c => rw [hb] at hs; cases hs
    | none =>
      cases hn : r.new with
      | none => simp [updAll]
      | some cn =>
        by_cases hx : x = d
        · subst hx; simp [updAll, upd]
        · have : (x == d) = false := by simpa using hx
          simp [updAll, upd, hx, this]
  | some is =>
    obtain ⟨i, s⟩ := is
    rw [hsite] at hs
    have hne := hsd i s hsite
    cases hb : r.box with
    | none => rw [hb] at hs; cases hs
    | some c =>
      cases hn : r.new with
      | none =>
        by_cases hx : x = s
        · subst hx; simp [updAll, upd]
        · have : (x == s) = false := by simpa using hx
          simp [updAll, upd, hx, this]
      | some cn =>
        by_cases hx : x = d
        · subst hx
          have h1 : ¬ x = s := fun e => hne e.symm
          simp [updAll, upd, h1]
        · have h1 : (x == d) = false := by simpa using hx
          by_cases hx2 : x = s
          · subst hx2; simp [updAll, upd, h1]
          · have h2 : (x == s) = false := by simpa using hx2
            simp [updAll, upd, hx, hx2, h1, h2]

theorem exit_box {site : Option (Nat × Nat)} {r : Res} {x : Nat} {c : List AV} (h : (exitSt d site r).boxes x = some c) : x = d ∨ ∃ i, site = some (i, x) := by
  unfold exitSt at h
  simp only at h
  split at h
  · split at h
    · rename_i e; subst e; exact .inr ⟨_, rfl⟩
    · split at h
      · rename_i e; exact .inl e
      · cases h
  · split at h
    · rename_i e; exact .inl e
    · cases h

theorem ownsRow_heap {v : Value} {e size m : Nat} {us : List Value} (h : w.ownsRow 0 e size v m us) (hh : ∀ g, v.ownBlock = some g → w'.heap[g]? = w.heap[g]?) : w'.ownsRow 0 e size v m us := by
  refine ⟨h.1, ?_⟩
  rcases h.2 with h1 | ⟨g, cap, cur, hv, h1, h2, h3⟩
  · exact .inl h1
  · refine .inr ⟨g, cap, cur, hv, h1, ?_, h3⟩
    rw [hh g (by rw [hv]; rfl)]; exact h2

theorem hand_back {vs : List AV} {us : Array Value} {p : Passed} {N : List (Nat × Nat)} {r : Res} {q : Prop} {v : Value} (hR : Rel P n w0 own st G a w) (hin : In P st G w vs us p N GE own') (hback : Back P w own' GE d p.site r GX v w')
    (hs : p.site.isSome = r.box.isSome) (hfree : allFree st.rows d 0 r.outs = true) (hdn : st.boxes d = none) (hd : d < n) :
    ∃ G', Rel P n w0 own ((callEff p q d r).app (some d) st) G' (a.put (some d) v) w' := by
  obtain ⟨stX, hX⟩ : ∃ s, s = exitSt d p.site r := ⟨_, rfl⟩
  obtain ⟨st', hst'⟩ : ∃ s, s = (callEff p q d r).app (some d) st := ⟨_, rfl⟩
  obtain ⟨bmem, bval, bbx, bpres, bobox, borow, bbad, brbad⟩ := hback
  rw [← hX] at bmem bval bobox borow brbad
  rw [← hst']
  have hsd : ∀ i s, p.site = some (i, s) → s ≠ d := by
    rintro i s h rfl
    obtain ⟨_, ⟨cs, h1, _⟩, _⟩ := hin.site i s h
    rw [hdn] at h1; cases h1
  have hbs : ∀ x, st'.boxes x = match stX.boxes x with | some c => some c | none => st.boxes x := by
    intro x; rw [hst', hX]; exact call_boxes hs hsd st.boxes x
  have hXr : ∀ x y, stX.rows x y = if x = d then (match tells r.outs y with | some t => .live t.1 | none => .free) else .free := by
    intro x y; rw [hX]
    simp only [exitSt]
    rw [retRows_at]
    simp only [Nat.zero_le, and_true, Nat.sub_zero]
    try rfl
  have hrs : ∀ x y, st'.rows x y = if x = d ∧ (tells r.outs y).isSome = true then stX.rows x y else if (x, y) ∈ N then .dead else st.rows x y := by
    intro x y
    rw [hst']
    simp only [callEff, Eff.app]
    rw [updRows_append, retRows_at, hin.rows, hXr]
    simp only [Nat.zero_le, and_true, Nat.sub_zero]
    by_cases hx : x = d
    · subst hx
      cases ht : tells r.outs y <;> simp [ht]
    · simp [hx]
  have hfr : ∀ y, (tells r.outs y).isSome = true → st.rows d y = .free := by
    intro y h
    obtain ⟨t, ht⟩ := Option.isSome_iff_exists.1 h
    have := allFree_get st.rows d r.outs 0 y t hfree ht
    rwa [Nat.zero_add] at this
  have hXl : ∀ {x y tip}, stX.rows x y = .live tip → x = d ∧ (tells r.outs y).isSome = true := by
    intro x y tip h
    rw [hXr] at h
    split at h
    · rename_i hx
      refine ⟨hx, ?_⟩
      cases ht : tells r.outs y with
      | none => rw [ht] at h; cases h
      | some t => rfl
    · cases h
  obtain ⟨G', hG'⟩ : ∃ G' : Gh, G' = { bx := fun x => if x = d then GX.bx d else G.bx x, cv := fun x y => if x = d ∧ (tells r.outs y).isSome = true then GX.cv x y else G.cv x y, et := fun x y => if x = d ∧ (tells r.outs y).isSome = true then GX.et x y else G.et x y, bad := G.bad } := ⟨_, rfl⟩
  have hbxX : ∀ x c, stX.boxes x = some c → G'.bx x = GX.bx x := by
    intro x c h
    rw [hX] at h
    rw [hG']
    simp only
    rcases exit_box h with rfl | ⟨i, hi⟩
    · rw [if_pos rfl]
    · rw [if_neg (hsd i x hi), bbx i x hi, (hin.site i x hi).1]
  have hbxO : ∀ x c, st.boxes x = some c → G'.bx x = G.bx x := by
    intro x c h
    rw [hG']
    simp only
    rw [if_neg (by rintro rfl; rw [hdn] at h; cases h)]
  have hXin : ∀ {x y}, x = d ∧ (tells r.outs y).isSome = true → G'.cv x y = GX.cv x y ∧ G'.et x y = GX.et x y := by
    intro x y h; rw [hG']; simp only; rw [if_pos h, if_pos h]; exact ⟨rfl, rfl⟩
  have hXout : ∀ {x y}, ¬ (x = d ∧ (tells r.outs y).isSome = true) → G'.cv x y = G.cv x y ∧ G'.et x y = G.et x y := by
    intro x y h; rw [hG']; simp only; rw [if_neg h, if_neg h]; exact ⟨rfl, rfl⟩
  have hGbad : G'.bad = G.bad := by rw [hG']
  -- what is not handed over stays
  have hbw : ∀ s cs, st.boxes s = some cs → G.bx s < w.heap.size := by
    intro s cs h
    obtain ⟨_, _, h1, _⟩ := hR.mem.box s cs h
    exact (Array.getElem?_eq_some_iff.1 h1).1
  have hrw : ∀ x y tip g, st.rows x y = .live tip → (G.cv x y).ownBlock = some g → g < w.heap.size := by
    intro x y tip g h1 h2
    obtain ⟨_, us, h3⟩ := hR.mem.row x y tip h1
    exact (h3.lt g h2).2
  have hsb : ∀ i s, p.site = some (i, s) → ∃ cs, st.boxes s = some cs := fun i s h => (by obtain ⟨_, ⟨cs, h1, _⟩, _⟩ := hin.site i s h; exact ⟨cs, h1⟩)
  -- a box that is not handed over is not owned by the call
  have hob : ∀ s cs, st.boxes s = some cs → (∀ i, p.site ≠ some (i, s)) → own' (G.bx s) = none := by
    intro s cs h1 h2
    cases ho : own' (G.bx s) with
    | none => rfl
    | some t =>
      rcases hin.only _ t ho with ⟨i, s', h3, h4, _⟩ | ⟨q', hq, tip, h3, h4, _⟩
      · obtain ⟨cs', h5⟩ := hsb i s' h3
        have := hR.mem.inj s' cs' s cs h5 h1 h4
        subst this
        exact absurd h3 (h2 i)
      · exact absurd h4 (hR.mem.brow s cs _ _ _ h1 h3)
  have hor : ∀ x y tip g, st.rows x y = .live tip → (x, y) ∉ N → (G.cv x y).ownBlock = some g → own' g = none := by
    intro x y tip g h1 h2 h3
    cases ho : own' g with
    | none => rfl
    | some t =>
      rcases hin.only _ t ho with ⟨i, s', h4, h5, _⟩ | ⟨q', hq, tip', h4, h5, _⟩
      · obtain ⟨cs', h6⟩ := hsb i s' h4
        exact absurd (by rw [h5]; exact h3) (hR.mem.brow s' cs' x y tip h6 h1)
      · obtain ⟨e1, e2⟩ := hR.mem.rinj _ _ _ _ _ _ g h4 h1 h5 h3
        exact absurd (by rw [← e1, ← e2]; exact hq) h2
  -- from the frame's state before
  have hkA : Kp P st G w st' G' w' := by
    refine ⟨?_, ?_, ?_, fun _ _ h => by rw [hGbad] at h; exact h⟩
    · intro b o u hs hc
      have hlt : b < w.heap.size := World.block_lt_of_cell? w _ hc
      -- an owned block that has a cell that nobody writes is a row
      have hrowown : ∀ t, own' b = some t → o < t := by
        intro t ho
        rcases hin.only b t ho with ⟨i, s', h4, h5, _⟩ | ⟨q', hq, tip', h4, h5, h6⟩
        · obtain ⟨_, ⟨cs', h6, h7⟩, _⟩ := hin.site i s' h4
          exact absurd h5 (hs.2.1 s' cs' h6 h7)
        · have := hs.2.2 _ _ _ h4 h5
          omega
      refine ⟨⟨by rw [hGbad]; exact hs.1, ?_, ?_⟩, ?_⟩
      · intro s cs h
        rw [hbs] at h
        cases hx : stX.boxes s with
        | some c =>
          rw [hbxX s c hx]
          intro _ e
          rcases bobox s c hx with h1 | h1
          · omega
          · rw [e] at h1
            have := hrowown 0 h1; omega
        | none =>
          rw [hx] at h
          rw [hbxO s cs h]
          exact hs.2.1 s cs h
      · intro x y tip h1 h2
        rw [hrs] at h1
        split at h1
        · rename_i hin'
          rw [(hXin hin').1] at h2
          rw [(hXin hin').2]
          rcases borow x y tip b h1 h2 with h3 | ⟨t, h3, h4⟩
          · omega
          · have := hrowown t h3; omega
        · rename_i hout
          split at h1
          · cases h1
          · rw [(hXout hout).1] at h2
            rw [(hXout hout).2]
            exact hs.2.2 x y tip h1 h2
      · cases ho : own' b with
        | none => rw [World.cell?_of_block (w := w) (bpres.block b hlt ho)]; exact hc
        | some t => exact bpres.cell b t hlt ho o u (hrowown t ho) hc
    · intro s cs h
      refine ⟨?_, hbxO s cs h⟩
      rw [hbs]
      cases stX.boxes s with
      | some c => exact ⟨c, rfl⟩
      | none => exact ⟨cs, h⟩
    · intro x y h
      rw [hrs]
      split
      · rename_i hin'
        obtain ⟨rfl, h2⟩ := hin'
        exact absurd (hfr y h2) h
      · rename_i hout
        split
        · exact ⟨by simp, fun tip h' => by cases h'⟩
        · exact ⟨h, fun tip h' => ⟨tip, h', (hXout hout).2, Nat.le_refl _, fun _ => (hXout hout).1⟩⟩
  have hXnone : ∀ s, stX.boxes s = none → ∀ i, p.site ≠ some (i, s) := by
    intro s hx i hi
    rw [hX] at hx
    unfold exitSt at hx
    rw [hi] at hx hs
    cases hb : r.box with
    | none => rw [hb] at hs; cases hs
    | some c => simp [hb] at hx
  -- from what came back
  have hkX : Kp P stX GX w' st' G' w' := by
    refine ⟨?_, ?_, ?_, fun _ _ h => by rw [bbad, hin.bad]; rw [hGbad] at h; exact .inl h⟩
    · intro b o u hs hc
      have hnk : ¬ kept P st G p.site N b o := by
        have := hs.1
        rw [bbad, hin.bad] at this
        exact this
      refine ⟨⟨by rw [hGbad]; exact fun h => hnk (.inl h), ?_, ?_⟩, hc⟩
      · intro s cs h
        rw [hbs] at h
        cases hx : stX.boxes s with
        | some c => rw [hx] at h; cases h; rw [hbxX s _ hx]; exact hs.2.1 s _ hx
        | none =>
          rw [hx] at h
          rw [hbxO s cs h]
          intro hne e
          exact hnk (.inr (.inl ⟨s, cs, h, hXnone s hx, e, hne⟩))
      · intro x y tip h1 h2
        rw [hrs] at h1
        split at h1
        · rename_i hin'
          rw [(hXin hin').1] at h2
          rw [(hXin hin').2]
          exact hs.2.2 x y tip h1 h2
        · rename_i hout
          split at h1
          · cases h1
          · rename_i hN
            rw [(hXout hout).1] at h2
            rw [(hXout hout).2]
            rcases Nat.lt_or_ge o (tip * tsize P (G.et x y)) with h | h
            · exact h
            · exact absurd (.inr (.inr ⟨x, y, tip, h1, hN, h2, h⟩)) hnk
    · intro s c h
      exact ⟨⟨c, by rw [hbs, h]⟩, hbxX s c h⟩
    · intro x y h
      have hin' : x = d ∧ (tells r.outs y).isSome = true := by
        cases hr : stX.rows x y with
        | free => exact absurd hr h
        | dead => rw [hXr] at hr; split at hr <;> (try split at hr) <;> cases hr
        | live tip => exact hXl hr
      rw [hrs, if_pos hin']
      exact ⟨h, fun tip h' => ⟨tip, h', (hXin hin').2, Nat.le_refl _, fun _ => (hXin hin').1⟩⟩
  have hlast : ∀ g t, own' g = some t → w0.heap.size ≤ g ∨ ∃ t0, own g = some t0 ∧ t0 ≤ t := by
    intro g t ho
    rcases hin.only g t ho with ⟨i, s', h4, h5, h6⟩ | ⟨q', hq, tip', h4, h5, h6⟩
    · obtain ⟨cs', h7⟩ := hsb i s' h4
      rcases hR.obox s' cs' h7 with h8 | h8
      · left; rw [← h5]; exact h8
      · right; exact ⟨0, by rw [← h5]; exact h8, Nat.zero_le _⟩
    · rcases hR.orow _ _ _ g h4 h5 with h8 | ⟨t0, h8, h9⟩
      · exact .inl h8
      · exact .inr ⟨t0, h8, by omega⟩
  refine ⟨G', ?_⟩
  have hval : Rep P st' G' w' (callEff p q d r).val v := bval.keep hkX
  have hmem : Mem P st' G' w' := by
    refine ⟨?_, ?_, ?_, ?_, ?_⟩
    · intro s c h
      rw [hbs] at h
      cases hx : stX.boxes s with
      | some c' =>
        rw [hx] at h; cases h
        obtain ⟨us, t, h1, h2, h3⟩ := bmem.box s c hx
        rw [hbxX s c hx]
        exact ⟨us, t, h1, h2, fun i c' hc => by
          obtain ⟨h4, u, h5, h6⟩ := h3 i c' hc
          exact ⟨h4, u, h5, h6.keep hkX⟩⟩
      | none =>
        rw [hx] at h
        obtain ⟨us, t, h1, h2, h3⟩ := hR.mem.box s c h
        rw [hbxO s c h]
        exact ⟨us, t, by rw [bpres.block _ (hbw s c h) (hob s c h (hXnone s hx))]; exact h1, h2, fun i c' hc => by
          obtain ⟨h4, u, h5, h6⟩ := h3 i c' hc
          exact ⟨h4, u, h5, h6.keep hkA⟩⟩
    · have cross : ∀ s c s' c', stX.boxes s = some c → stX.boxes s' = none → st.boxes s' = some c' → GX.bx s ≠ G.bx s' := by
        intro s c s' c' h1 h2 h3 e
        have hn := hob s' c' h3 (hXnone s' h2)
        rcases bobox s c h1 with h4 | h4
        · have := hbw s' c' h3; omega
        · rw [e, hn] at h4; cases h4
      intro s c s' c' h1 h2 he
      rw [hbs] at h1 h2
      cases hx : stX.boxes s with
      | some k =>
        cases hx' : stX.boxes s' with
        | some k' =>
          rw [hbxX s k hx, hbxX s' k' hx'] at he
          exact bmem.inj s k s' k' hx hx' he
        | none =>
          rw [hx'] at h2
          rw [hbxX s k hx, hbxO s' c' h2] at he
          exact absurd he (cross s k s' c' hx hx' h2)
      | none =>
        rw [hx] at h1
        cases hx' : stX.boxes s' with
        | some k' =>
          rw [hbxO s c h1, hbxX s' k' hx'] at he
          exact absurd he.symm (cross s' k' s c hx' hx h1)
        | none =>
          rw [hx'] at h2
          rw [hbxO s c h1, hbxO s' c' h2] at he
          exact hR.mem.inj s c s' c' h1 h2 he
    · intro x y tip h
      rw [hrs] at h
      split at h
      · rename_i hin'
        rw [(hXin hin').1, (hXin hin').2]
        exact bmem.row x y tip h
      · rename_i hout
        split at h
        · cases h
        · rename_i hN
          rw [(hXout hout).1, (hXout hout).2]
          obtain ⟨h1, us, h2⟩ := hR.mem.row x y tip h
          exact ⟨h1, us, ownsRow_heap h2 (fun g hg => bpres.block g (hrw x y tip g h hg) (hor x y tip g h hN hg))⟩
    · have cross : ∀ x y tip x' y' tip' g, stX.rows x y = .live tip → st.rows x' y' = .live tip' → (x', y') ∉ N → (GX.cv x y).ownBlock = some g → (G.cv x' y').ownBlock = some g → False := by
        intro x y tip x' y' tip' g h1 h2 h3 h4 h5
        have hn := hor x' y' tip' g h2 h3 h5
        rcases borow x y tip g h1 h4 with h6 | ⟨t, h6, _⟩
        · have := hrw x' y' tip' g h2 h5; omega
        · rw [hn] at h6; cases h6
      intro x y tip x' y' tip' g h1 h2 h3 h4
      rw [hrs] at h1 h2
      split at h1
      · rename_i i1
        rw [(hXin i1).1] at h3
        split at h2
        · rename_i i2
          rw [(hXin i2).1] at h4
          exact bmem.rinj x y tip x' y' tip' g h1 h2 h3 h4
        · rename_i o2
          split at h2
          · cases h2
          · rename_i n2
            rw [(hXout o2).1] at h4
            exact (cross x y tip x' y' tip' g h1 h2 n2 h3 h4).elim
      · rename_i o1
        split at h1
        · cases h1
        · rename_i n1
          rw [(hXout o1).1] at h3
          split at h2
          · rename_i i2
            rw [(hXin i2).1] at h4
            exact (cross x' y' tip' x y tip g h2 h1 n1 h4 h3).elim
          · rename_i o2
            split at h2
            · cases h2
            · rw [(hXout o2).1] at h4
              exact hR.mem.rinj x y tip x' y' tip' g h1 h2 h3 h4
    · intro s c x y tip h1 h2 h3
      rw [hbs] at h1
      rw [hrs] at h2
      cases hx : stX.boxes s with
      | some k =>
        rw [hbxX s k hx] at h3
        split at h2
        · rename_i i2
          rw [(hXin i2).1] at h3
          exact bmem.brow s k x y tip hx h2 h3
        · rename_i o2
          split at h2
          · cases h2
          · rename_i n2
            rw [(hXout o2).1] at h3
            have hn := hor x y tip _ h2 n2 h3
            rcases bobox s k hx with h4 | h4
            · have := hrw x y tip _ h2 h3; omega
            · rw [hn] at h4; cases h4
      | none =>
        rw [hx] at h1
        rw [hbxO s c h1] at h3
        split at h2
        · rename_i i2
          rw [(hXin i2).1] at h3
          have hn := hob s c h1 (hXnone s hx)
          rcases borow x y tip _ h2 h3 with h4 | ⟨t, h4, _⟩
          · have := hbw s c h1; omega
          · rw [hn] at h4; cases h4
        · rename_i o2
          split at h2
          · cases h2
          · rw [(hXout o2).1] at h3
            exact hR.mem.brow s c x y tip h1 h2 h3
  have hpres : Pres w0 own w' := by
    have hp := hR.pres
    refine ⟨bpres.os.trans hp.os, bpres.tape.trans hp.tape, bpres.output.trans hp.output, Nat.le_trans hp.size bpres.size, fun b hb ho => ?_, fun b t hb ho q' u hq hc => ?_⟩
    · have hn : own' b = none := by
        cases h : own' b with
        | none => rfl
        | some t =>
          rcases hlast b t h with h1 | ⟨t0, h1, _⟩
          · omega
          · rw [ho] at h1; cases h1
      rw [bpres.block b (by have := hp.size; omega) hn]
      exact hp.block b hb ho
    · have hcw := hp.cell b t hb ho q' u hq hc
      have hlt : b < w.heap.size := by have := hp.size; omega
      cases h : own' b with
      | none => rw [World.cell?_of_block (w := w) (bpres.block b hlt h)]; exact hcw
      | some t' =>
        rcases hlast b t' h with h1 | ⟨t0, h1, h2⟩
        · omega
        · rw [ho] at h1; cases h1
          exact bpres.cell b t' hlt h q' u (by omega) hcw
  have hobox : ∀ s cs, st'.boxes s = some cs → w0.heap.size ≤ G'.bx s ∨ own (G'.bx s) = some 0 := by
    intro s c h
    rw [hbs] at h
    cases hx : stX.boxes s with
    | some k =>
      rw [hbxX s k hx]
      rcases bobox s k hx with h1 | h1
      · left; have := hR.pres.size; omega
      · rcases hlast _ _ h1 with h2 | ⟨t0, h2, h3⟩
        · exact .inl h2
        · right; rw [h2]; congr 1; omega
    | none =>
      rw [hx] at h
      rw [hbxO s c h]
      exact hR.obox s c h
  have horow : ∀ x y tip g, st'.rows x y = .live tip → (G'.cv x y).ownBlock = some g → w0.heap.size ≤ g ∨ ∃ t, own g = some t ∧ t ≤ tip * tsize P (G'.et x y) := by
    intro x y tip g h1 h2
    rw [hrs] at h1
    split at h1
    · rename_i i1
      rw [(hXin i1).1] at h2
      rw [(hXin i1).2]
      rcases borow x y tip g h1 h2 with h3 | ⟨t, h3, h4⟩
      · left; have := hR.pres.size; omega
      · rcases hlast _ _ h3 with h5 | ⟨t0, h5, h6⟩
        · exact .inl h5
        · exact .inr ⟨t0, h5, by omega⟩
    · rename_i o1
      split at h1
      · cases h1
      · rw [(hXout o1).1] at h2
        rw [(hXout o1).2]
        exact hR.orow x y tip g h1 h2
  have hrbad : ∀ x y tip g o, st'.rows x y = .live tip → (G'.cv x y).ownBlock = some g → ¬ G.bad g o := by
    intro x y tip g o h1 h2
    rw [hrs] at h1
    split at h1
    · rename_i i1
      rw [(hXin i1).1] at h2
      have := brbad x y tip g o h1 h2
      rw [bbad, hin.bad] at this
      exact fun h => this (.inl h)
    · rename_i o1
      split at h1
      · cases h1
      · rw [(hXout o1).1] at h2
        exact hR.rbad x y tip g o h1 h2
  subst hst'
  exact hR.step (by rintro _ ⟨⟩; exact hd) hkA (fun _ => hval) hmem hpres hobox horow hGbad hrbad
end
end Go.Proofs.Ytddilmocngedjaa
/- One operation, whatever it is: a real world does what its reading by content says. -/
namespace Go.Proofs.Ytddilmocngedjaa
set_option linter.unusedVariables false
set_option linter.unusedSimpArgs false
open Go.RowKit

section
variable {P : Program} {n : Nat} {w0 : World} {own own' : OwnP} {st st' stX : St} {G G' GX GE : Gh} {a : Act} {w w' : World} {o : Oper} {Γ : Nat → Option Con}
  {K : Act → World → Prop} {Q : Exit → Act → World → Prop}

def ArgsRep (P : Program) (st : St) (G : Gh) (w : World) (a : Act) (c : Call) (vs : List AV) : Prop :=
  vs.length = c.args.size ∧ ∀ (i : Nat) v, vs[i]? = some v → Rep P st G w v ((c.args.map a.eval).getD i undef)
theorem argsRep (hR : Rel P n w0 own st G a w) (c : Call) : ArgsRep P st G w a c (c.args.toList.map st.ev) := by
  refine ⟨by simp, fun i v hv => ?_⟩
  simp only [List.getElem?_map, Option.map_eq_some_iff] at hv
  obtain ⟨x, hx, rfl⟩ := hv
  have : (c.args.map a.eval).getD i undef = a.eval x := by
    have h1 : c.args[i]? = some x := by simpa using hx
    simp [Array.getD_eq_getD_getElem?, h1]
  rw [this]
  exact hR.ev x
theorem wp_call_av (hS : Sound P Γ) (hR : Rel P n w0 own st G a w) {c : Call} {fo : Operand} {f : Nat} {d : Tmp} (ho : o.op = .call c) (hc : c.callee = .value fo) (hfv : a.eval fo = .func (.func f) #[] #[]) (hdst : o.dst = some d) (hd : d < n) {ft : Foot} {E : Eff} {vs : List AV} (hvs : ArgsRep P st G w a c vs)
    (he : effCall Γ d f vs st = some (ft, E)) (hobl : E.obl) (hK : ∀ G' v w', Rel P n w0 own (E.app o.dst st) G' (a.put o.dst v) w' → K (a.put o.dst v) w') : o.wp P a w K Q := by
  unfold effCall at he
  split at he
  · rename_i F p hF hp
    split at he
    · rename_i q r hr
      simp only at he
      split at he
      · rename_i hcond
        obtain ⟨hs, hfree, hdn⟩ := hcond
        have hE : E = callEff p q d r := by
          simp only [Option.some.injEq, Prod.mk.injEq] at he
          exact he.2.symm
        subst hE
        obtain ⟨ho1, ho2⟩ := hobl
        have hM := hS.at hF
        have hdn' : st.boxes d = none := by simpa using hdn
        obtain ⟨N, GE, own', hin⟩ := hand_in hR (us := c.args.map a.eval) (by rw [hvs.1]; simp) hvs.2 hp ho1
        have hcalls := hM.calls p.args (c.args.map a.eval) w GE own' d p.site q r hr ho2 hin.came hs (fun i s h => by
          obtain ⟨_, ⟨cs, h1, _⟩, h2⟩ := hin.site i s h
          exact ⟨(by rintro rfl; rw [hdn'] at h1; cases h1), h2⟩)
        have run : (execOp a.eval o).run P w = .ok (.enter f (c.args.map a.eval)) w := by
          simp [execOp, ho, resolve, hc, hfv, Deferred.ofValue, invoke, hM.enters]
        unfold Oper.wp
        rw [run, Oper.upon_enter]
        refine hcalls.mono ?_
        rintro e w' ⟨GX, v, rfl, hback⟩
        obtain ⟨G', hR'⟩ := hand_back (q := q) hR hin hback hs hfree hdn' hd
        have := hK G' v w' (by rw [hdst]; exact hR')
        exact this
      · cases he
    · cases he
  · cases he

theorem wp_callv_av (hS : Sound P Γ) (hR : Rel P n w0 own st G a w) {c : Call} {fo : Operand} {f : Nat} {d : Tmp} (ho : o.op = .call c) (hc : c.callee = .value fo) {sb off : Nat} (hfv : a.eval fo = .func (.func f) #[] #[.pointer (some ⟨G.bx sb, off, none⟩)]) (hbx : ∃ cs, st.boxes sb = some cs) (hdst : o.dst = some d) (hd : d < n) {ft : Foot} {E : Eff} {vs0 : List AV} (hvs0 : ArgsRep P st G w a c vs0)
    (he : effCall Γ d f (vs0 ++ [.ptr sb off]) st = some (ft, E)) (hobl : E.obl) (hK : ∀ G' v w', Rel P n w0 own (E.app o.dst st) G' (a.put o.dst v) w' → K (a.put o.dst v) w') : o.wp P a w K Q := by
  obtain ⟨vs, hvse⟩ : ∃ vs, vs = vs0 ++ [AV.ptr sb off] := ⟨_, rfl⟩
  obtain ⟨us, hus⟩ : ∃ us, us = c.args.map a.eval ++ #[Value.pointer (some ⟨G.bx sb, off, none⟩)] := ⟨_, rfl⟩
  have hlen : vs.length = us.size := by rw [hvse, hus]; simp [hvs0.1]
  have hvs : ∀ (i : Nat) v, vs[i]? = some v → Rep P st G w v (us.getD i undef) := by
    intro i v hv
    rw [hvse] at hv
    rw [hus]
    by_cases hi : i < vs0.length
    · rw [List.getElem?_append_left hi] at hv
      have h1 := hvs0.2 i v hv
      have hi' : i < (c.args.map a.eval).size := by simp [← hvs0.1]; exact hi
      have e : (c.args.map a.eval ++ #[Value.pointer (some ⟨G.bx sb, off, none⟩)]).getD i undef = (c.args.map a.eval).getD i undef := by
        simp only [Array.getD_eq_getD_getElem?]
        rw [Array.getElem?_append_left hi']
      rw [e]; exact h1
    · rw [List.getElem?_append_right (by omega)] at hv
      have hi0 : i - vs0.length = 0 := by
        have := (List.getElem?_eq_some_iff.1 hv).1
        simp at this; exact this
      rw [hi0] at hv
      have hi' : i = (c.args.map a.eval).size := by simp [← hvs0.1]; omega
      have e : (c.args.map a.eval ++ #[Value.pointer (some ⟨G.bx sb, off, none⟩)]).getD i undef = Value.pointer (some ⟨G.bx sb, off, none⟩) := by
        simp only [Array.getD_eq_getD_getElem?]
        rw [Array.getElem?_append_right (by omega), hi']
        simp
      rw [e]
      have : v = AV.ptr sb off := by simpa using hv.symm
      subst this
      exact ⟨hbx, rfl⟩
  rw [← hvse] at he
  unfold effCall at he
  split at he
  · rename_i F p hF hp
    split at he
    · rename_i q r hr
      simp only at he
      split at he
      · rename_i hcond
        obtain ⟨hs, hfree, hdn⟩ := hcond
        have hE : E = callEff p q d r := by
          simp only [Option.some.injEq, Prod.mk.injEq] at he
          exact he.2.symm
        subst hE
        obtain ⟨ho1, ho2⟩ := hobl
        have hM := hS.at hF
        have hdn' : st.boxes d = none := by simpa using hdn
        obtain ⟨N, GE, own', hin⟩ := hand_in hR (us := us) hlen.symm hvs hp ho1
        have hcalls := hM.calls p.args us w GE own' d p.site q r hr ho2 hin.came hs (fun i s h => by
          obtain ⟨_, ⟨cs, h1, _⟩, h2⟩ := hin.site i s h
          exact ⟨(by rintro rfl; rw [hdn'] at h1; cases h1), h2⟩)
        have run : (execOp a.eval o).run P w = .ok (.enter f us) w := by
          rw [hus]
          simp [execOp, ho, resolve, hc, hfv, Deferred.ofValue, invoke, hM.enters]
        unfold Oper.wp
        rw [run, Oper.upon_enter]
        refine hcalls.mono ?_
        rintro e w' ⟨GX, v, rfl, hback⟩
        obtain ⟨G', hR'⟩ := hand_back (q := q) hR hin hback hs hfree hdn' hd
        have := hK G' v w' (by rw [hdst]; exact hR')
        exact this
      · cases he
    · cases he
  · cases he

theorem wp_pure (hR : Rel P n w0 own st G a w) (hd : ∀ d, o.dst = some d → d < n) {p : Prop} {x : AV} (h : PureOK P st G w o a x) (hK : ∀ G' v w', Rel P n w0 own ((⟨p, x, [], []⟩ : Eff).app o.dst st) G' (a.put o.dst v) w' → K (a.put o.dst v) w') : o.wp P a w K Q := by
  obtain ⟨v, h1, h2⟩ := h
  exact wp_value h1 (hK G v w (hR.pure hd h2))

theorem pureE_some {x : AV} {r : Foot × Eff} (h : pureE x = some r) : r.2 = ⟨True, x, [], []⟩ := by cases h; rfl
theorem oblE_some {p : Prop} {x : AV} {r : Foot × Eff} (h : oblE p x = some r) : r.2 = ⟨p, x, [], []⟩ := by cases h; rfl

theorem append_sound (hR : Rel P n w0 own st G a w) (hd : ∀ d, o.dst = some d → d < n) {c : Call} {d : Tmp} (ho : o.op = .call c) (hc : c.callee = .builtin .append) (hdst : o.dst = some d) {ft : Foot} {E : Eff} {vs : List AV} (hvs : ArgsRep P st G w a c vs) (he : effBuiltin P d .append c.argTypes vs st = some (ft, E)) (hobl : E.obl)
    (hK : ∀ G' v w', Rel P n w0 own (E.app o.dst st) G' (a.put o.dst v) w' → K (a.put o.dst v) w') : o.wp P a w K Q := by
  unfold effBuiltin at he
  split at he
  · contradiction
  · contradiction
  · contradiction
  · -- append
    rename_i xs ow y _
    split at he
    · rename_i t u hts
      obtain ⟨x1, x2, hargs, hx1, hx2⟩ : ∃ x1 x2, c.args.toList = [x1, x2] ∧ Rep P st G w (.sl xs ow) (a.eval x1) ∧ Rep P st G w y (a.eval x2) := by
        have hl := hvs.1
        have h0 := hvs.2 0 (.sl xs ow) rfl
        have h1 := hvs.2 1 y rfl
        rw [← Array.length_toList] at hl
        have ha : c.args = c.args.toList.toArray := by simp
        cases hq : c.args.toList with
        | nil => rw [hq] at hl; cases hl
        | cons y1 ys =>
          cases ys with
          | nil => rw [hq] at hl; cases hl
          | cons y2 zs =>
            rw [hq] at hl ha
            have hz : zs = [] := List.eq_nil_of_length_eq_zero (by simp only [List.length_cons, List.length_nil] at hl; omega)
            subst hz
            rw [ha] at h0 h1
            exact ⟨y1, y2, rfl, by simpa using h0, by simpa using h1⟩
      unfold effAppend at he
      split at he
      · rename_i e ht
        split at he
        · rename_i ys hsrc
          split at he
          · rename_i hcond
            obtain ⟨c1, c2, c3, c4, c5⟩ := hcond
            split at he
            · split at he
              · rename_i hfr
                simp only [Option.some.injEq, Prod.mk.injEq] at he
                obtain ⟨_, rfl⟩ := he
                obtain ⟨o1, o2, o3⟩ := hobl
                have hx0 : xs = [] := (hx1 : Rep1 P st G w (.sl xs .nil) _).1
                subst hx0
                refine wp_append_av (nm := (d, 0)) hR ho hc hargs hts hdst (hd d hdst) ht hx1 hx2 hsrc c1 c2 c3 c4 c5 o3 (by simp) (by simpa using o1) (by simpa using o2) (.inl ⟨rfl, rfl, hfr⟩) (p := True) ?_
                intro G' v w' hR'
                have e0 : ([] : List AV).length + ys.length = ys.length := by simp
                rw [e0] at hR'
                have := hK G' v w' (by rw [hdst]; exact hR')
                rw [hdst] at this
                exact this
              · cases he
            · rename_i p1 p2 e'
              split at he
              · rename_i tip hlv
                split at he
                · rename_i hee
                  subst hee
                  simp only [Option.some.injEq, Prod.mk.injEq] at he
                  obtain ⟨_, rfl⟩ := he
                  obtain ⟨o1, o2, o3, o4, o5⟩ := hobl
                  subst o1
                  refine wp_append_av (nm := (p1, p2)) hR ho hc hargs hts hdst (hd d hdst) ht hx1 hx2 hsrc c1 c2 c3 c4 c5 o5 o4 o2 o3 (.inr ⟨rfl, hlv⟩) (p := True) ?_
                  intro G' v w' hR'
                  have := hK G' v w' (by rw [hdst]; exact hR')
                  rw [hdst] at this
                  exact this
                · cases he
              · cases he
            · cases he
          · cases he
        · cases he
      · cases he
    · cases he
  · cases he

theorem builtin_sound (hR : Rel P n w0 own st G a w) (hd : ∀ d, o.dst = some d → d < n) {c : Call} {b : Builtin} {d : Tmp} (ho : o.op = .call c) (hc : c.callee = .builtin b) (hdst : o.dst = some d) {ft : Foot} {E : Eff} (he : effBuiltin P d b c.argTypes (c.args.toList.map st.ev) st = some (ft, E)) (hobl : E.obl)
    (hK : ∀ G' v w', Rel P n w0 own (E.app o.dst st) G' (a.put o.dst v) w' → K (a.put o.dst v) w') : o.wp P a w K Q := by
  unfold effBuiltin at he
  split at he
  · -- len
    rename_i v hv
    split at he
    · rename_i t ht
      simp only [Option.bind_eq_some_iff] at he
      obtain ⟨x, h1, h2⟩ := he
      have hE := pureE_some h2
      simp only at hE
      subst hE
      obtain ⟨y, hy, rfl⟩ : ∃ y, c.args.toList = [y] ∧ st.ev y = v := by
        cases hq : c.args.toList with
        | nil => rw [hq] at hv; simp at hv
        | cons y ys => rw [hq] at hv; simp at hv; exact ⟨y, by rw [hv.2], hv.1⟩
      exact wp_pure hR hd (pure_len hR ho hc hy ht h1) hK
    · cases he
  · rename_i v r hv
    simp only [Option.bind_eq_some_iff] at he
    obtain ⟨x, h1, h2⟩ := he
    have hE := pureE_some h2
    simp only at hE
    subst hE
    exact wp_pure hR hd (pure_max hR ho hc hv h1) hK
  · rename_i v r hv
    simp only [Option.bind_eq_some_iff] at he
    obtain ⟨x, h1, h2⟩ := he
    have hE := pureE_some h2
    simp only at hE
    subst hE
    exact wp_pure hR hd (pure_min hR ho hc hv h1) hK
  · -- append
    rename_i xs ow y hv
    exact append_sound hR hd ho hc hdst (argsRep hR c) (by rw [hv]; exact he) hobl hK
  · cases he

theorem vec_ptr {s off m : Nat} {r : Value} (h : Rep P st G w (.vec s off m true) r) (hm : m = 1) : r = .pointer (some ⟨G.bx s, off, none⟩) := by
  obtain ⟨_, _, h⟩ := (h : Rep1 P st G w (.vec s off m true) r)
  rcases h with ⟨_, h⟩ | ⟨f, h1, _⟩
  · exact h
  · omega
theorem vec_fun {s off f : Nat} {r : Value} (h : Rep P st G w (.vec s off (f + 2) true) r) : (∃ cs, st.boxes s = some cs) ∧ r = .func (.func f) #[] #[.pointer (some ⟨G.bx s, off, none⟩)] := by
  obtain ⟨h0, _, h⟩ := (h : Rep1 P st G w (.vec s off (f + 2) true) r)
  rcases h with ⟨h1, _⟩ | ⟨g, h1, h2⟩
  · omega
  · obtain rfl : f = g := by omega
    exact ⟨h0, h2⟩
theorem pure_loadVec {x : Operand} {t : TypeId} {s off m : Nat} {cs : List AV} (hR : Rel P n w0 own st G a w) (ho : o.op = .load t x) (hx : st.ev x = .vec s off m true) (hb : st.boxes s = some cs) (hl : off < cs.length) (hB : isBytes cs) (hu : isU8 P t = true) (hz : tsize P t = 1) (hm : m = 1) :
    PureOK P st G w o a (.int .u8 (rdInt (elemAt cs off) 0)) := by
  have hk : P.underlying t = some (.int .u8) := by
    unfold isU8 at hu
    split at hu
    · assumption
    · cases hu
  have hg : tagg P t = false := by unfold tagg; rw [hk]
  have e2 := hR.ev x
  rw [hx] at e2
  have h := pure_loadPtr hR ho (s := s) (off := off) (vec_ptr e2 hm) hb (by omega) (by rw [hk]; rfl) (.inr hz)
  rw [hg] at h
  have e : cellAt cs off = .int .u8 (rdInt (elemAt cs off) 0) := by
    unfold rdInt elemAt
    have hB' : cs = bytesAV (bytesL cs) := hB
    generalize bytesL cs = l at hB'
    subst hB'
    have hl' : off < l.length := by simpa [bytesAV] using hl
    unfold cellAt
    simp [bytesAV, byteAV, hl', AV.cells, AV.theInt]
  rw [← e]
  simpa using h
theorem pure_indexVec {x i : Operand} {t e : TypeId} {s off m : Nat} {k : IntKind} {j : Int} (hR : Rel P n w0 own st G a w) (ho : o.op = .indexAddr t x i) (ht : P.underlying t = some (.slice e)) (hx : st.ev x = .vec s off m false) (hi : st.ev i = .int k j)
    (h0 : 0 ≤ j) (h1 : j < m) (he : (P.underlying e).isSome = true) (hz : tsize P e = 1) : PureOK P st G w o a (.vec s (off + j.toNat) 1 true) := by
  have e1 := hR.ev x
  have e2 := hR.ev i
  rw [hx] at e1
  rw [hi] at e2
  obtain ⟨e3, e4, cap, e6, e7, e8⟩ := (e1 : Rep1 P st G w (.vec s off m false) _)
  obtain ⟨e5, _, _⟩ := e2.inv_int
  obtain ⟨d, hd⟩ := Option.isSome_iff_exists.1 he
  have hs := run_size (P := P) hd w
  rw [hz] at hs
  exact ⟨.pointer (some ⟨G.bx s, off + j.toNat, none⟩), by simp [execOp, ho, e8, e5, Instr.indexAt, asIntOf, run_underlying ht, h0, h1, hs, Addr.add_mid], ⟨e3, fun _ => e4 (fun h => by cases h), .inl ⟨rfl, rfl⟩⟩⟩

def frz (st : St) (s : Nat) : St := { tmps := st.tmps, boxes := upd st.boxes s (some []), rows := st.rows }
theorem frz_box {s x : Nat} {c : List AV} (h : (frz st s).boxes x = some c) (hs : ∃ cs, st.boxes s = some cs) : (∃ c', st.boxes x = some c') ∧ (c ≠ [] → x ≠ s) ∧ (x ≠ s → st.boxes x = some c) ∧ (x = s → c = []) := by
  simp only [frz, upd] at h
  by_cases hx : x = s
  · subst hx
    simp at h
    subst h
    exact ⟨hs, fun h => absurd rfl h, fun h => absurd rfl h, fun _ => rfl⟩
  · have hh : (x == s) = false := by simpa using hx
    rw [hh] at h
    exact ⟨⟨c, h⟩, fun _ => hx, fun _ => h, fun e => absurd e hx⟩
theorem Kp.frz {s : Nat} (hs : ∃ cs, st.boxes s = some cs) : Kp P st G w (frz st s) G w := by
  refine ⟨fun b o u h hc => ⟨⟨h.1, fun x c hx hne => ?_, h.2.2⟩, hc⟩, fun x c hx => ⟨?_, rfl⟩, fun x y h => ⟨h, fun tip h' => ⟨tip, h', rfl, Nat.le_refl _, fun _ => rfl⟩⟩, fun _ _ h => h⟩
  · obtain ⟨_, h2, h3, _⟩ := frz_box hx hs
    exact h.2.1 x c (h3 (h2 hne)) hne
  · simp only [Go.Proofs.Ytddilmocngedjaa.frz, upd]
    by_cases he : x = s
    · subst he; exact ⟨[], by simp⟩
    · have hh : (x == s) = false := by simpa using he
      exact ⟨c, by rw [hh]; exact hx⟩
theorem Rel.freeze (hR : Rel P n w0 own st G a w) {s : Nat} {cs : List AV} (hb : st.boxes s = some cs) : Rel P n w0 own (frz st s) G a w := by
  have hs : ∃ cs, st.boxes s = some cs := ⟨cs, hb⟩
  have hk : Kp P st G w (frz st s) G w := Kp.frz hs
  refine ⟨hR.size, hR.defers, fun t => (hR.tmps t).keep hk, ⟨fun x c hx => ?_, fun x c y c' hx hy => ?_, hR.mem.row, hR.mem.rinj, fun x c a b tip hx => ?_⟩, hR.pres, fun x c hx => ?_, hR.orow, hR.bad, hR.rbad, fun x b h => ?_, hR.same⟩
  · obtain ⟨⟨c', h1⟩, h2, h3, h4⟩ := frz_box hx hs
    obtain ⟨us, t, q1, q2, q3⟩ := hR.mem.box x c' h1
    by_cases he : x = s
    · rw [h4 he]
      exact ⟨us, t, q1, Nat.zero_le _, fun i c hc => by simp at hc⟩
    · rw [h3 he] at h1
      cases h1
      exact ⟨us, t, q1, q2, fun i c hc => by obtain ⟨q4, u, q5, q6⟩ := q3 i c hc; exact ⟨q4, u, q5, q6.keep hk⟩⟩
  · obtain ⟨⟨c1, h1⟩, _⟩ := frz_box hx hs
    obtain ⟨⟨c2, h2⟩, _⟩ := frz_box hy hs
    exact hR.mem.inj x c1 y c2 h1 h2
  · obtain ⟨⟨c1, h1⟩, _⟩ := frz_box hx hs
    exact hR.mem.brow x c1 a b tip h1
  · obtain ⟨⟨c1, h1⟩, _⟩ := frz_box hx hs
    exact hR.obox x c1 h1
  · obtain ⟨⟨c, h1⟩, h2⟩ := hR.pin x b h
    obtain ⟨h3, h4⟩ := hk.box x c h1
    exact ⟨h3, h2⟩
theorem rep_thaw (hR : Rel P n w0 own st G a w) {s : Nat} {cs : List AV} {v : AV} {r : Value} (hb : st.boxes s = some cs) (hB : isBytes cs) (hl : ∀ m, v = .vec s 0 m false → m ≤ cs.length) (h : Rep P st G w v r) : Rep P (frz st s) G w (thaw s cs v) r := by
  have hk : Kp P st G w (frz st s) G w := Kp.frz ⟨cs, hb⟩
  by_cases hv : ∃ s' off m, v = .vec s' off m false
  · obtain ⟨s', off, m, rfl⟩ := hv
    simp only [thaw]
    by_cases hs : s' = s ∧ off = 0
    · obtain ⟨rfl, rfl⟩ := hs
      have hbe : (Nat.beq s' s' && Nat.beq 0 0) = true := by rw [Nat.beq_refl]; rfl
      rw [hbe, cond_true]
      have hm := hl m rfl
      obtain ⟨_, e4', cap, e6, e7, e8⟩ := (h : Rep1 P st G w (.vec s' 0 m false) _)
      have e4 := e4' (fun h => by cases h)
      refine Rep.of1 (?_ : RepP w (stable P (frz st s') G) (.sl (cutL cs 0 m) .no) r)
      have hcl : (cutL cs 0 m).length = m := by unfold cutL; simp; omega
      rcases Nat.eq_zero_or_pos m with h0 | h0
      · subst h0
        have : cutL cs 0 0 = [] := by unfold cutL; simp
        rw [this, e8]
        exact .slnil _ _ _ e7
      · have hB' : cs = bytesAV (bytesL cs) := hB
        obtain ⟨us, tt, h2, h3, h4⟩ := hR.mem.box s' cs hb
        have hgc : ∀ (i : Nat) c, (cutL cs 0 m)[i]? = some c → cs[i]? = some c ∧ ∃ b : UInt8, c = byteAV b := by
          intro i c hc
          have h5 : cs[i]? = some c := by
            unfold cutL at hc
            rw [List.drop_zero, List.getElem?_take] at hc
            split at hc
            · exact hc
            · cases hc
          refine ⟨h5, ?_⟩
          rw [hB'] at h5
          simp only [bytesAV, List.getElem?_map, Option.map_eq_some_iff] at h5
          obtain ⟨b, _, rfl⟩ := h5
          exact ⟨b, rfl⟩
        have key := RepP.sl (w := w) (S := stable P (frz st s') G) (cutL cs 0 m) .no (G.bx s') 0 cap 1 (fun i _ => us.getD i undef) (by rw [hcl]; exact e6) e7
          (fun i x hx => by obtain ⟨_, b, rfl⟩ := hgc i x hx; rfl)
          (fun i x j c hx hc => by
            obtain ⟨hx1, b, rfl⟩ := hgc i x hx
            have hj : j = 0 := by cases j with | zero => rfl | succ j => simp [byteAV, AV.cells] at hc
            subst hj
            have hc' : c = byteAV b := by simpa [byteAV, AV.cells] using hc.symm
            subst hc'
            obtain ⟨_, u, h6, _⟩ := h4 i _ hx1
            refine ⟨⟨e4 _, fun x c hx hne => ?_, fun x y tip h7 h8 => ?_⟩, ?_, rfl⟩
            · obtain ⟨_, g2, g3, _⟩ := frz_box hx ⟨cs, hb⟩
              exact fun e => g2 hne (hR.mem.inj x c s' cs (g3 (g2 hne)) hb e)
            · exact absurd h8 (hR.mem.brow s' cs x y tip hb h7)
            · have hlt : i < us.size := (Array.getElem?_eq_some_iff.1 h6).1
              simp [World.cell?, h2, hlt])
          (fun i x j c hx hc => by
            obtain ⟨hx1, b, rfl⟩ := hgc i x hx
            have hj : j = 0 := by cases j with | zero => rfl | succ j => simp [byteAV, AV.cells] at hc
            subst hj
            have hc' : c = byteAV b := by simpa [byteAV, AV.cells] using hc.symm
            subst hc'
            obtain ⟨_, u, h6, h7⟩ := h4 i _ hx1
            have : us.getD i undef = u := by simp [h6]
            simp only [this]
            exact RepP.mono (h7 : RepP w (stable P st G) (byteAV b) u) hk.cell)
        rw [hcl] at key
        rw [e8]; exact key
    · have : (Nat.beq s' s && Nat.beq off 0) = false := by
        cases hq : (Nat.beq s' s && Nat.beq off 0) with
        | false => rfl
        | true =>
          rw [Bool.and_eq_true] at hq
          exact absurd ⟨Nat.eq_of_beq_eq_true hq.1, Nat.eq_of_beq_eq_true hq.2⟩ hs
      rw [this, cond_false]
      exact h.keep hk
  · have : thaw s cs v = v := by
      unfold thaw
      split
      · exact absurd ⟨_, _, _, rfl⟩ hv
      · rfl
    rw [this]; exact h.keep hk
theorem vecFits_spec {s n : Nat} : ∀ {vs : List AV}, vecFits s n vs → ∀ v ∈ vs, ∀ m, v = .vec s 0 m false → m ≤ n
  | [], _, v, hv => by simp at hv
  | x :: vs, h, v, hv => by
    intro m e
    subst e
    rcases List.mem_cons.1 hv with rfl | hv
    · simp only [vecFits] at h
      have hbe : Nat.beq s s = true := Nat.beq_refl s
      rw [hbe, cond_true] at h
      exact h.1
    · refine vecFits_spec (vs := vs) ?_ _ hv m rfl
      unfold vecFits at h
      split at h
      · rename_i e; cases e
      · rename_i e; cases e; exact h.2
      · rename_i e; cases e; exact h
theorem argsRep_thaw (hR : Rel P n w0 own st G a w) {c : Call} {vs : List AV} {q : Nat} {cs : List AV} (h : ArgsRep P st G w a c vs) (hb : st.boxes q = some cs) (hB : isBytes cs) (hl : ∀ v ∈ vs, ∀ m, v = .vec q 0 m false → m ≤ cs.length) :
    ArgsRep P (frz st q) G w a c (vs.map (thaw q cs)) := by
  refine ⟨by rw [List.length_map]; exact h.1, fun i v hv => ?_⟩
  simp only [List.getElem?_map, Option.map_eq_some_iff] at hv
  obtain ⟨x, hx, rfl⟩ := hv
  exact rep_thaw hR hb hB (hl x (List.mem_of_getElem? hx)) (h.2 i x hx)
theorem effFrz_eq {q : Nat} {k : St → List AV → Option (Foot × Eff)} {vs : List AV} {ft : Foot} {E : Eff} (he : effFrz q k vs st = some (ft, E)) : ∃ cs ft1 E1, st.boxes q = some cs ∧ k (frz st q) (vs.map (thaw q cs)) = some (ft1, E1) ∧
    E = ⟨E1.obl ∧ isBytes cs ∧ vecFits q cs.length vs, E1.val, (q, []) :: E1.boxes, E1.rows⟩ ∧ ft = ⟨ft1.rd, q :: ft1.wr, ft1.nm⟩ := by
  unfold effFrz at he
  split at he
  · rename_i cs hb
    split at he
    · rename_i ft1 E1 hk
      cases he
      exact ⟨cs, ft1, E1, hb, hk, rfl, rfl⟩
    · cases he
  · cases he

theorem eff_sound (hS : Sound P Γ) (hR : Rel P n w0 own st G a w) (hd : ∀ d, o.dst = some d → d < n) {ft : Foot} {E : Eff} (he : eff Γ P o st = some (ft, E)) (hobl : E.obl)
    (hK : ∀ G' v w', Rel P n w0 own (E.app o.dst st) G' (a.put o.dst v) w' → K (a.put o.dst v) w') : o.wp P a w K Q := by
  have pureC : ∀ {x : AV} {r : Foot × Eff}, pureE x = some r → r = (ft, E) → PureOK P st G w o a x → o.wp P a w K Q := by
    intro x r h1 h2 h3
    have := pureE_some h1
    rw [h2] at this
    simp only at this
    subst this
    exact wp_pure hR hd h3 hK
  have oblC : ∀ {p : Prop} {x : AV}, oblE p x = some (ft, E) → (p → PureOK P st G w o a x) → o.wp P a w K Q := by
    intro p x h1 h3
    have := oblE_some h1
    simp only at this
    subst this
    exact wp_pure hR hd (h3 hobl) hK
  unfold eff at he
  simp only at he
  split at he
  · rename_i x hop
    exact pureC he rfl (pure_move hR hop)
  · rename_i x hop
    exact pureC he rfl (pure_assign hR hop)
  · -- pick
    rename_i c x y hop
    split at he
    · rename_i b hb
      have hp := pure_pick hR hop hb
      rw [pickAV_eq] at hp
      split at he
      · exact oblC he (fun h => by rw [h] at hp; exact hp)
      · exact oblC he (fun h => by rw [h] at hp; exact hp)
      · exact pureC he rfl (pure_pick hR hop hb)
    · cases he
  · -- alloc
    rename_i e hop
    split at he
    · rename_i d z hdst hz
      split at he
      · rename_i hc
        simp only [Option.some.injEq, Prod.mk.injEq] at he
        obtain ⟨_, rfl⟩ := he
        refine wp_alloc_av hR hop hdst (hd d hdst) hz hc.2.1 hc.2.2.1 hc.2.2.2 (leaves P 8 e) (p := True) ?_
        intro G' v w' hR'
        have := hK G' v w' (by rw [hdst]; exact hR')
        rw [hdst] at this
        exact this
      · cases he
    · cases he
  · -- box
    rename_i e x hop
    split at he
    · rename_i d hdst
      split at he
      · rename_i hc
        simp only [Option.some.injEq, Prod.mk.injEq] at he
        obtain ⟨_, rfl⟩ := he
        refine wp_box_av hR hop hdst (hd d hdst) hc.1 hc.2.1 hc.2.2 (leaves P 8 e) (p := True) ?_
        intro G' v w' hR'
        have := hK G' v w' (by rw [hdst]; exact hR')
        rw [hdst] at this
        exact this
      · cases he
    · cases he
  · -- build
    rename_i t parts hop
    split at he
    · rename_i fs z ht hz
      split at he
      · rename_i cs hf
        split at he
        · rename_i hc
          exact pureC he rfl (pure_build hR hop ht hz hf hc.2.1 hc.2.2.1 hc.2.2.2 hc.1)
        · cases he
      · cases he
    · rename_i m e z ht hz
      split at he
      · rename_i cs hf
        split at he
        · rename_i hc
          exact pureC he rfl (pure_buildArr hR hop ht hz hf hc.2.2.1 hc.2.2.2 hc.1)
        · cases he
      · cases he
    · cases he
  · -- load
    rename_i t x hop
    split at he
    · rename_i s off hx
      split at he
      · rename_i cs hb
        split at he
        · rename_i hc
          simp only [Option.some.injEq, Prod.mk.injEq] at he
          obtain ⟨_, rfl⟩ := he
          have hle := of_decide_eq_true hobl
          have e1 := subAV_eq cs off (tsize P t) hle
          have e2 : tagg P t = true ∨ pickFrom 0 cs off = cellAt cs off := by
            rcases hc.2 with h | h
            · exact .inl h
            · exact .inr (by rw [pickFrom_eq cs 0 off (Nat.zero_le _) (by omega), Nat.sub_zero])
          have e3 : (if tagg P t = true then AV.agg (subAV cs off (tsize P t)) else pickFrom 0 cs off) = (if tagg P t = true then .agg ((cs.drop off).take (tsize P t)) else cellAt cs off) := by
            by_cases hg : tagg P t = true
            · rw [if_pos hg, if_pos hg, e1]
            · rw [if_neg hg, if_neg hg, e2.resolve_left hg]
          refine wp_pure hR hd (p := decide (off + tsize P t ≤ cs.length) = true) (pure_loadPtr hR hop (by have := hR.ev x; rw [hx] at this; exact this.inv_ptr.2) hb hle hc.1 hc.2) ?_
          rw [← e3]; exact hK
        · cases he
      · cases he
    · rename_i s off m hx
      split at he
      · rename_i cs hb
        split at he
        · rename_i hc
          simp only [Option.some.injEq, Prod.mk.injEq] at he
          obtain ⟨_, rfl⟩ := he
          exact wp_pure hR hd (p := off < cs.length ∧ isBytes cs) (pure_loadVec hR hop hx hb hobl.1 hobl.2 hc.1 hc.2.1 hc.2.2) hK
        · cases he
      · cases he
    · rename_i y j hx
      split at he
      · rename_i hc
        exact oblC he (fun hp => pure_loadEptr hR hop hx hc.1 hc.2.1 hc.2.2 hp)
      · cases he
    · cases he
  · -- store
    rename_i t x y hop
    split at he
    · rename_i s off hx
      split at he
      · rename_i cs hb
        split at he
        · rename_i hc
          simp only [Option.some.injEq, Prod.mk.injEq] at he
          obtain ⟨_, rfl⟩ := he
          have hle := of_decide_eq_true hobl
          have e1 := splice_eq cs off (st.ev y).cells (by rw [hc.1]; exact hle)
          rw [e1] at hK
          exact wp_store_av hR hop hd (by have := hR.ev x; rw [hx] at this; exact this.inv_ptr.2) hb hc.1 hc.2.1 hle hc.2.2 (p := decide (off + tsize P t ≤ cs.length) = true) (fun G' w' hR' => hK G' undef w' hR')
        · cases he
      · cases he
    · rename_i s off m hx
      split at he
      · rename_i cs k hb hy
        split at he
        · rename_i hc
          simp only [Option.some.injEq, Prod.mk.injEq] at he
          obtain ⟨_, rfl⟩ := he
          have hobl' : off < cs.length := hobl
          refine wp_store_av (s := s) (off := off) hR hop hd (by have := hR.ev x; rw [hx] at this; exact vec_ptr this hc.2) hb (by rw [hy, hc.1]; rfl) (by rw [hy]; rfl) (by rw [hc.1]; omega) (by rw [hc.1]; omega) (p := off < cs.length) (fun G' w' hR' => hK G' undef w' ?_)
          rw [hy] at hR'
          exact hR'
        · cases he
      · cases he
    · cases he
  · -- nilCheck
    rename_i x hop
    split at he
    · rename_i s off hx
      exact pureC he rfl (pure_nilCheck hR hop hx (.inl ⟨_, _, rfl⟩))
    · rename_i y j hx
      exact pureC he rfl (pure_nilCheck hR hop hx (.inr ⟨_, _, rfl⟩))
    · rename_i s off m hx
      split at he
      · rename_i hm
        refine pureC he rfl ⟨a.eval x, ?_, by have := hR.ev x; rw [hx] at this; exact this⟩
        have := hR.ev x
        rw [hx] at this
        have e := vec_ptr this hm
        simp [execOp, hop, e]
      · cases he
    · cases he
  · -- binOp
    rename_i op xT x y yT hop
    split at he
    · rename_i p v hb
      exact oblC he (fun hp => pure_bin hR hop hb hp)
    · cases he
  · -- unOp
    rename_i op xT x hop
    split at he
    · rename_i p v hb
      exact oblC he (fun _ => pure_un hR hop hb)
    · cases he
  · -- convert
    rename_i s t x hop
    split at he
    · rename_i d k k' i hs ht hx
      exact pureC he rfl (pure_convInt hR hop hs ht hx)
    · rename_i l hs ht hx
      exact pureC he rfl (pure_convStr hR hop hs ht hx)
    · rename_i e xs ow hs ht hx
      split at he
      · rename_i hu
        exact oblC he (fun hp => pure_convBytes hR hop hs ht hu hx hp)
      · cases he
    · cases he
  · -- slice
    rename_i t x lo hi mx hop
    split at he
    · rename_i l ht hx
      split at he
      · split at he
        · rename_i p i j hb
          exact oblC he (fun hp => pure_sliceStr hR hop ht hx hb hp)
        · cases he
      · cases he
    · rename_i e xs ow ht hx
      split at he
      · cases he
      · rename_i hn
        split at he
        · rename_i p i j hb
          exact oblC he (fun hp => pure_slice hR hop ht hx hb hp.1 hp.2 (by cases h : P.underlying e <;> simp_all))
        · cases he
    · cases he
  · -- fieldAddr
    rename_i t x f hop
    split at he
    · rename_i fs ht
      split at he
      · rename_i fd hf
        split at he
        · cases he
        · rename_i h0
          split at he
          · rename_i s off hx
            exact pureC he rfl (pure_fieldAddr hR hop ht hf h0 hx (.inl ⟨_, _, rfl, rfl⟩))
          · rename_i y j hx
            exact pureC he rfl (pure_fieldAddr hR hop ht hf h0 hx (.inr ⟨_, _, rfl, rfl⟩))
          · cases he
      · cases he
    · cases he
  · -- field
    rename_i t x f hop
    split at he
    · rename_i fs ht
      split at he
      · rename_i fd cs hf hx
        split at he
        · rename_i hc
          exact pureC he rfl (pure_field hR hop ht hf hx hc.1 hc.2.1 hc.2.2)
        · cases he
      · cases he
    · cases he
  · -- indexAddr
    rename_i t x i hop
    split at he
    · rename_i m e s off k j ht hx hi
      split at he
      · cases he
      · exact oblC he (fun hp => pure_indexPtr hR hop ht hx hi hp.1 hp.2 (by cases h : P.underlying e <;> simp_all))
    · rename_i m e y q k j ht hx hi
      split at he
      · cases he
      · exact oblC he (fun hp => pure_indexEptr hR hop ht hx hi hp.1 hp.2 (by cases h : P.underlying e <;> simp_all))
    · rename_i e s off m k j ht hx hi
      split at he
      · cases he
      · rename_i hn
        refine oblC he (fun hp => pure_indexVec hR hop ht hx hi hp.1 hp.2 ?_ ?_)
        · cases h : P.underlying e <;> simp_all
        · exact Classical.byContradiction fun h => hn (.inr h)
    · rename_i e xs ow k j ht hx hi
      split at he
      · cases he
      · exact oblC he (fun hp => pure_indexSl hR hop ht hx hi hp.1 hp.2.1 hp.2.2 (by cases h : P.underlying e <;> simp_all))
    · cases he
  · -- index
    rename_i t x i hop
    split at he
    · rename_i l k j ht hx hi
      exact oblC he (fun hp => pure_index hR hop ht hx hi hp.1 hp.2)
    · rename_i m e cs k j ht hx hi
      split at he
      · rename_i hc
        refine oblC he (fun hp => ?_)
        have h9 := pure_indexArr hR hop ht hx hi hp.1 hp.2.1 hp.2.2.1 hc.2.2.1 (.inl hc.2.1)
        rw [if_pos hc.2.1, subAV_eq _ _ _ hp.2.2.1, ← etaKs_agg hp.2.2.2 hc.2.2.2] at h9
        exact h9
      split at he
      · rename_i hc
        exact oblC he (fun hp => pure_indexArr hR hop ht hx hi hp.1 hp.2.1 hp.2.2 hc.1 hc.2)
      · cases he
    · cases he
  · -- extract
    rename_i x i hop
    split at he
    · rename_i vs hx
      split at he
      · rename_i v hv
        exact pureC he rfl (pure_extract hR hop hx hv)
      · cases he
    · cases he
  · -- buildSlice
    rename_i t len parts hop
    split at he
    · rename_i d e hdst ht
      split at he
      · rename_i z hz hfr
        split at he
        · rename_i hc
          simp only [Option.some.injEq, Prod.mk.injEq] at he
          obtain ⟨_, rfl⟩ := he
          obtain ⟨c1, c2, c3, c4, c5, c6, c7⟩ := hc
          refine wp_buildSlice_av hR hop hdst (hd d hdst) ht hz hfr c1 c2 c3 c4 c5 c6 c7 (p := True) ?_
          intro G' v w' hR'
          have := hK G' v w' (by rw [hdst]; exact hR')
          rw [hdst] at this
          exact this
        · cases he
      · cases he
    · cases he
  · -- call
    rename_i c hop
    split at he
    · rename_i d hdst hc
      split at he
      · exact builtin_sound hR hd hop hc hdst he hobl hK
      · rename_i q hq
        obtain ⟨cs, ft1, E1, h1, h2, rfl, _⟩ := effFrz_eq he
        obtain ⟨h4, h5, h6⟩ := hobl
        exact append_sound (hR.freeze h1) hd hop hc hdst (argsRep_thaw hR (argsRep hR c) h1 h5 (vecFits_spec h6)) h2 h4 hK
    · rename_i d b _ hdst hc
      exact builtin_sound hR hd hop hc hdst he hobl hK
    · rename_i d f hdst hc
      split at he
      · rename_i f' hf
        have hfv : a.eval f = .func (.func f') #[] #[] := by
          have := hR.ev f
          rw [hf] at this
          exact this.inv_fn
        split at he
        · exact wp_call_av hS hR hop hc hfv hdst (hd d hdst) (argsRep hR c) he hobl hK
        · rename_i q hq
          obtain ⟨cs, ft1, E1, h1, h2, rfl, _⟩ := effFrz_eq he
          obtain ⟨h4, h5, h6⟩ := hobl
          exact wp_call_av hS (hR.freeze h1) hop hc hfv hdst (hd d hdst) (argsRep_thaw hR (argsRep hR c) h1 h5 (vecFits_spec h6)) h2 h4 hK
      · rename_i s off m hf
        split at he
        · rename_i g hq
          have := hR.ev f
          rw [hf] at this
          obtain ⟨hbx, hfv⟩ := vec_fun this
          exact wp_callv_av hS hR hop hc hfv hbx hdst (hd d hdst) (argsRep hR c) he hobl hK
        · cases he
      · cases he
    · cases he
  · -- makeFunc
    rename_i g first captured hop
    split at he
    · rename_i x h1 h2
      split at he
      · rename_i s off hx
        have e1 : first = #[] := by simpa using h1
        have e2 : captured = #[x] := by
          apply Array.ext'
          simpa using h2
        have := hR.ev x
        rw [hx] at this
        obtain ⟨hbx, e⟩ := this.inv_ptr
        exact pureC he rfl ⟨.func (.func g) #[] #[.pointer (some ⟨G.bx s, off, none⟩)], by simp [execOp, hop, e1, e2, e, Instr.makeFunc], ⟨hbx, fun h => by have := h rfl; omega, .inr ⟨g, rfl, rfl⟩⟩⟩
      · cases he
    · cases he
  · cases he
end
end Go.Proofs.Ytddilmocngedjaa
