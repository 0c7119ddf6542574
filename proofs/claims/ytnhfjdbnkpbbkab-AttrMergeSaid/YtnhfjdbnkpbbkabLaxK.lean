/- Reads of elements, structs built, boxes made: a real world does what the reading by content says. -/
import Derived.Test.YtnhfjdbnkpbbkabLaxJ
namespace Go.Proofs.Ytnhfjdbnkpbbkab
set_option linter.unusedVariables false
set_option linter.unusedSimpArgs false
open Go.RowKit

section
variable {P : Program} {n : Nat} {w0 : World} {own : OwnP} {st st' : St} {G G' : Gh} {a : Act} {w w' : World} {o : Oper}

theorem cell_past' {w : World} {x : Addr} {v : Value} {ob : Obj} (h : w.cell? x = some v) : (w.alloc ob).cell? x = some v := by
  have hlt : x.block < w.heap.size := World.block_lt_of_cell? w _ h
  rw [World.cell?_alloc_lt w ob x hlt]; exact h
theorem cellAt_some {cs : List AV} {i : Nat} (h : i < cs.length) : cs[i]? = some (cellAt cs i) := by unfold cellAt; simp [h]

/-- what a type's reading of cells gives, one by one -/
theorem etaL_get (cs : List AV) : ∀ (l : List TypeId) (off i : Nat), (etaL P cs off l)[i]? = (l[i]?).map fun t => eta1 P t (cellAt cs (off + i))
  | [], off, i => by simp [etaL]
  | t :: l, off, 0 => by simp [etaL]
  | t :: l, off, i + 1 => by
    simp only [etaL, List.getElem?_cons_succ]
    rw [etaL_get cs l (off + 1) i]
    congr 2
    funext t
    congr 2
    omega

theorem eta1_ok (q : TypeId) (z : AV) : (∀ xs, eta1 P q z ≠ .sl xs .nil) ∧ ∀ xs x y e, eta1 P q z ≠ .sl xs (.row x y e) := by
  unfold eta1
  split <;> try (simp; done)
  split <;> simp_all
theorem eta1_one (q : TypeId) (z : AV) (h : z.one = true) : (eta1 P q z).one = true := by
  unfold eta1
  split <;> try rfl
  split
  · rfl
  · exact h

theorem pure_loadEptr {x : Operand} {t : TypeId} {y : AV} {j : Nat} (hR : Rel P n w0 own st G a w) (ho : o.op = .load t x) (hx : st.ev x = .eptr y j) (hlv : (leaves P 8 t).length = tsize P t)
    (hu : (P.underlying t).isSome = true) (h1 : tagg P t = true ∨ tsize P t = 1) (hp : ∀ k, k < tsize P t → y.cells[j + k]? = some (cellAt (readAt P t y.cells j).cells k)) :
    PureOK P st G w o a (readAt P t y.cells j) := by
  have e1 := hR.ev x
  rw [hx] at e1
  obtain ⟨b, off, e2, e3⟩ := (e1 : Rep1 P st G w (.eptr y j) _)
  have hex : ∀ k, ∃ u, k < tsize P t → w.cell? ⟨b, off + j + k, none⟩ = some u ∧ RepP w (stable P st G) (cellAt (readAt P t y.cells j).cells k) u ∧ (cellAt (readAt P t y.cells j).cells k).one = true := by
    intro k
    by_cases hk : k < tsize P t
    · obtain ⟨h0, h2, u, h3, h4⟩ := e3 _ _ (hp k hk)
      exact ⟨u, fun _ => ⟨by rw [Nat.add_assoc]; exact h3, h4, h0⟩⟩
    · exact ⟨undef, fun h => absurd h hk⟩
  have ⟨us, hus⟩ : ∃ us : Nat → Value, ∀ k, k < tsize P t → w.cell? ⟨b, off + j + k, none⟩ = some (us k) ∧ RepP w (stable P st G) (cellAt (readAt P t y.cells j).cells k) (us k) ∧ (cellAt (readAt P t y.cells j).cells k).one = true :=
    ⟨fun k => Classical.choose (hex k), fun k hk => Classical.choose_spec (hex k) hk⟩
  refine ⟨_, run_read ho e2 us hu h1 (fun k hk => (hus k hk).1), ?_⟩
  by_cases hg : tagg P t = true
  · rw [if_pos hg]
    have hr : readAt P t y.cells j = .agg (etaL P y.cells j (leaves P 8 t)) := by unfold readAt; rw [if_pos hg]
    rw [hr] at hus ⊢
    have hlen : (etaL P y.cells j (leaves P 8 t)).length = tsize P t := by
      rw [← hlv]
      have : ∀ (l : List TypeId) (o : Nat), (etaL P y.cells o l).length = l.length := by
        intro l
        induction l with
        | nil => intro o; rfl
        | cons t l ih => intro o; simp [etaL, ih]
      exact this _ _
    refine (⟨((List.range (tsize P t)).map us).toArray, rfl, by simp [hlen], fun i c hc => ?_⟩ : RepA P st G w (.agg (etaL P y.cells j (leaves P 8 t))) (.agg ((List.range (tsize P t)).map us).toArray))
    have hi : i < tsize P t := by rw [← hlen]; exact (List.getElem?_eq_some_iff.1 hc).1
    obtain ⟨_, h3, h4⟩ := hus i hi
    have hcc : cellAt (AV.agg (etaL P y.cells j (leaves P 8 t))).cells i = c := by
      show ((etaL P y.cells j (leaves P 8 t))[i]?).getD .any = c
      rw [hc]; rfl
    rw [hcc] at h3 h4
    refine ⟨h4, us i, by simp [hi], ?_⟩
    rw [etaL_get] at hc
    simp only [Option.map_eq_some_iff] at hc
    obtain ⟨q, _, rfl⟩ := hc
    exact repP_to1 h3 (eta1_ok _ _).1 (eta1_ok _ _).2
  · rw [if_neg hg]
    have h5 : tsize P t = 1 := h1.resolve_left hg
    have hr : readAt P t y.cells j = eta1 P t (cellAt y.cells j) := by unfold readAt; rw [if_neg hg]
    obtain ⟨_, h3, h4⟩ := hus 0 (by omega)
    have hj : j < y.cells.length := by
      have := hp 0 (by omega)
      exact (List.getElem?_eq_some_iff.1 this).1
    have hone : (cellAt y.cells j).one = true := (e3 j _ (cellAt_some hj)).1
    have hone' := eta1_one (P := P) t _ hone
    rw [hr] at h3 ⊢
    have hcells : (eta1 P t (cellAt y.cells j)).cells = [eta1 P t (cellAt y.cells j)] := by
      apply cellsOf_one
      rintro cs e
      rw [e] at hone'
      cases hone'
    rw [hcells] at h3
    exact Rep.of1 (repP_to1 h3 (eta1_ok _ _).1 (eta1_ok _ _).2)

/-- a new box -/
theorem Rel.newBox (hR : Rel P n w0 own st G a w) {d : Tmp} (hd : d < n) {cs : List AV} {us : List Value} (t : TypeId) (hl : us.length = cs.length) (hf : st.boxes d = none)
    (hr : ∀ (i : Nat) c, cs[i]? = some c → c.one = true ∧ ∃ u, us[i]? = some u ∧ Rep1 P st G w c u) {p : Prop} :
    ∃ G', Rel P n w0 own ((⟨p, .ptr d 0, [(d, cs)], []⟩ : Eff).app (some d) st) G' (a.put (some d) (.pointer (some ⟨w.heap.size, 0, none⟩))) (w.alloc (.cells us.toArray t)) := by
  obtain ⟨G', hG'⟩ : ∃ G' : Gh, G' = { G with bx := upd G.bx d w.heap.size } := ⟨_, rfl⟩
  refine ⟨G', ?_⟩
  have hbx : ∀ s cs, st.boxes s = some cs → G'.bx s = G.bx s ∧ s ≠ d := by
    intro s cs h
    have hne : s ≠ d := by rintro rfl; rw [hf] at h; cases h
    have hb : (s == d) = false := by simpa using hne
    exact ⟨by rw [hG']; simp [upd, hb], hne⟩
  have hbd : G'.bx d = w.heap.size := by rw [hG']; simp [upd]
  have hlt : ∀ s cs, st.boxes s = some cs → G.bx s < w.heap.size := by
    intro s cs h
    obtain ⟨_, _, h1, _⟩ := hR.mem.box s cs h
    exact (Array.getElem?_eq_some_iff.1 h1).1
  have hnew : ∀ s, ((⟨p, .ptr d 0, [(d, cs)], []⟩ : Eff).app (some d) st).boxes s = if s = d then some cs else st.boxes s := by
    intro s
    simp only [Eff.app, updAll, upd]
    by_cases h : s = d
    · simp [h]
    · have hb : (s == d) = false := by simpa using h
      simp [h, hb]
  have hrl : ∀ x y tip g, st.rows x y = .live tip → (G.cv x y).ownBlock = some g → g < w.heap.size := by
    intro x y tip g h1 h2
    obtain ⟨_, us, h3⟩ := hR.mem.row x y tip h1
    exact (h3.lt g h2).2
  have hk : Kp P st G w ((⟨p, .ptr d 0, [(d, cs)], []⟩ : Eff).app (some d) st) G' (w.alloc (.cells us.toArray t)) := by
    refine ⟨?_, ?_, ?_⟩
    · intro b o u ⟨s0, s1, s2⟩ hc
      have hb : b < w.heap.size := World.block_lt_of_cell? w _ hc
      refine ⟨⟨by rw [hG']; exact s0, ?_, ?_⟩, cell_past' hc⟩
      · intro s cs' hs
        rw [hnew] at hs
        split at hs
        · rename_i e; subst e; rw [hbd]; omega
        · rw [(hbx s cs' hs).1]; exact s1 s cs' hs
      · intro x y tip h1 h2
        rw [hG'] at h2 ⊢
        exact s2 x y tip h1 h2
    · intro s cs' hs
      refine ⟨?_, (hbx s cs' hs).1⟩
      rw [hnew]
      rw [if_neg (hbx s cs' hs).2]
      exact ⟨cs', hs⟩
    · intro x y h
      rw [hG']
      exact ⟨h, fun tip h' => ⟨tip, h', rfl, Nat.le_refl _, fun _ => rfl⟩⟩
  have hcv : G'.cv = G.cv := by rw [hG']
  have het : G'.et = G.et := by rw [hG']
  refine hR.step (by rintro _ ⟨⟩; exact hd) hk (fun _ => ?_) ?_ ?_ ?_ ?_ (by rw [hG']) (by rw [hcv]; exact hR.rbad)
  · exact ⟨⟨cs, by rw [hnew, if_pos rfl]⟩, by rw [hbd]⟩
  · refine ⟨?_, ?_, ?_, ?_, ?_⟩
    · intro s cs' hs
      rw [hnew] at hs
      split at hs
      · rename_i e; subst e; cases hs
        rw [hbd]
        refine ⟨us.toArray, t, heap_alloc_new w _, by simpa using hl, fun i c hc => ?_⟩
        obtain ⟨h1, u, h2, h3⟩ := hr i c hc
        exact ⟨h1, u, by simpa using h2, h3.keep hk⟩
      · obtain ⟨vs, t', h1, h2, h3⟩ := hR.mem.box s cs' hs
        rw [(hbx s cs' hs).1]
        refine ⟨vs, t', by rw [heap_alloc_old w _ (hlt s cs' hs)]; exact h1, h2, fun i c hc => ?_⟩
        obtain ⟨h4, u, h5, h6⟩ := h3 i c hc
        exact ⟨h4, u, h5, h6.keep hk⟩
    · intro s c1 s' c2 h1 h2 he
      rw [hnew] at h1 h2
      split at h1 <;> split at h2
      · simp_all
      · rename_i e1 e2; subst e1; rw [hbd, (hbx s' c2 h2).1] at he; have := hlt s' c2 h2; omega
      · rename_i e1 e2; subst e2; rw [hbd, (hbx s c1 h1).1] at he; have := hlt s c1 h1; omega
      · rw [(hbx s c1 h1).1, (hbx s' c2 h2).1] at he; exact hR.mem.inj s c1 s' c2 h1 h2 he
    · intro x y tip h
      rw [hcv, het]
      obtain ⟨h1, vs, h2⟩ := hR.mem.row x y tip h
      exact ⟨h1, vs, h2.alloc _⟩
    · intro x y tip x' y' tip' g h1 h2
      rw [hcv]
      exact hR.mem.rinj x y tip x' y' tip' g h1 h2
    · intro s cs' x y tip h1 h2
      rw [hcv]
      rw [hnew] at h1
      split at h1
      · rename_i e; subst e
        rw [hbd]
        intro hc
        have := hrl x y tip _ h2 hc
        omega
      · rw [(hbx s cs' h1).1]; exact hR.mem.brow s cs' x y tip h1 h2
  · have hp := hR.pres
    exact ⟨hp.os, hp.tape, hp.output, by simp; have := hp.size; omega, fun b hb ho => by rw [heap_alloc_old w _ (by have := hp.size; omega)]; exact hp.block b hb ho,
      fun b t hb ho q u hq hc => cell_past' (hp.cell b t hb ho q u hq hc)⟩
  · intro s cs' hs
    rw [hnew] at hs
    split at hs
    · rename_i e; subst e; rw [hbd]; exact .inl hR.pres.size
    · rw [(hbx s cs' hs).1]; exact hR.obox s cs' hs
  · intro x y tip g h1 h2
    rw [hcv] at h2
    rw [het]
    exact hR.orow x y tip g h1 h2
end
end Go.Proofs.Ytnhfjdbnkpbbkab
