/- Behind a call: the frame's state follows. -/
import Derived.Test.YtnhfjdbnkpbbkabLaxT
namespace Go.Proofs.Ytnhfjdbnkpbbkab
set_option linter.unusedVariables false
set_option linter.unusedSimpArgs false
open Go.RowKit

section
variable {P : Program} {n : Nat} {w0 : World} {own own' : OwnP} {st st' stX : St} {G G' GX GE : Gh} {a : Act} {w w' : World} {o : Oper} {d : Nat}

theorem updRows_append : ∀ (l1 l2 : List ((Nat × Nat) × RowSt)) (f : Nat → Nat → RowSt), updRows f (l1 ++ l2) = updRows (updRows f l1) l2
  | [], l2, f => rfl
  | (k, c) :: l1, l2, f => by simp only [List.cons_append, updRows]; exact updRows_append l1 l2 _
theorem allFree_get (R : Nat → Nat → RowSt) (d : Nat) : ∀ (L : List AV) (k y : Nat) t, allFree R d k L = true → tells L y = some t → R d (k + y) = .free
  | [], k, y, t, _, h => by simp [tells] at h
  | c :: L, k, 0, t, h, ht => by
    have : rowOf c = some t := ht
    simp only [allFree, this, Bool.and_eq_true] at h
    have h1 := h.1
    simp only [Nat.add_zero]
    split at h1
    · assumption
    · cases h1
  | c :: L, k, y + 1, t, h, ht => by
    simp only [allFree, Bool.and_eq_true] at h
    have := allFree_get R d L (k + 1) y t h.2 (by unfold tells at ht ⊢; simpa using ht)
    rw [show k + (y + 1) = k + 1 + y from by omega]
    exact this

def callBoxes (d : Nat) (site : Option (Nat × Nat)) (r : Res) : List (Nat × List AV) :=
  (match site, r.box with | some (_, s), some cs => [(s, retCells d 0 cs)] | _, _ => []) ++ (match r.new with | some cs => [(d, retCells d (r.box.getD []).length cs)] | none => [])
def callEff (p : Passed) (q : Prop) (d : Nat) (r : Res) : Eff :=
  ⟨p.obl ∧ q, retVal p.site d ((r.box.getD []).length + (r.new.getD []).length) r.val, callBoxes d p.site r, p.rows ++ retRows d 0 r.outs⟩

theorem call_boxes {site : Option (Nat × Nat)} {r : Res} (hs : site.isSome = r.box.isSome) (hsd : ∀ i s, site = some (i, s) → s ≠ d) (B : Nat → Option (List AV)) (x : Nat) :
    updAll B (callBoxes d site r) x = match (exitSt d site r).boxes x with | some c => some c | none => B x := by
  unfold callBoxes exitSt
  cases hsite : site with
  | none =>
    rw [hsite] at hs
    cases hb : r.box with
    | some c => rw [hb] at hs; cases hs
    | none =>
      cases hn : r.new with
      | none => simp [updAll]
      | some cn =>
        by_cases hx : x = d
        · subst hx; simp [updAll, upd]
        · have : (x == d) = false := by simpa using hx
          simp [updAll, upd, hx, this]
  | some is =>
    obtain ⟨i, s⟩ := is
    rw [hsite] at hs
    have hne := hsd i s hsite
    cases hb : r.box with
    | none => rw [hb] at hs; cases hs
    | some c =>
      cases hn : r.new with
      | none =>
        by_cases hx : x = s
        · subst hx; simp [updAll, upd]
        · have : (x == s) = false := by simpa using hx
          simp [updAll, upd, hx, this]
      | some cn =>
        by_cases hx : x = d
        · subst hx
          have h1 : ¬ x = s := fun e => hne e.symm
          simp [updAll, upd, h1]
        · have h1 : (x == d) = false := by simpa using hx
          by_cases hx2 : x = s
          · subst hx2; simp [updAll, upd, h1]
          · have h2 : (x == s) = false := by simpa using hx2
            simp [updAll, upd, hx, hx2, h1, h2]

theorem exit_box {site : Option (Nat × Nat)} {r : Res} {x : Nat} {c : List AV} (h : (exitSt d site r).boxes x = some c) : x = d ∨ ∃ i, site = some (i, x) := by
  unfold exitSt at h
  simp only at h
  split at h
  · split at h
    · rename_i e; subst e; exact .inr ⟨_, rfl⟩
    · split at h
      · rename_i e; exact .inl e
      · cases h
  · split at h
    · rename_i e; exact .inl e
    · cases h

theorem ownsRow_heap {v : Value} {e size m : Nat} {us : List Value} (h : w.ownsRow 0 e size v m us) (hh : ∀ g, v.ownBlock = some g → w'.heap[g]? = w.heap[g]?) : w'.ownsRow 0 e size v m us := by
  refine ⟨h.1, ?_⟩
  rcases h.2 with h1 | ⟨g, cap, cur, hv, h1, h2, h3⟩
  · exact .inl h1
  · refine .inr ⟨g, cap, cur, hv, h1, ?_, h3⟩
    rw [hh g (by rw [hv]; rfl)]; exact h2

theorem hand_back {vs : List AV} {us : Array Value} {p : Passed} {N : List (Nat × Nat)} {r : Res} {q : Prop} {v : Value} (hR : Rel P n w0 own st G a w) (hin : In P st G w vs us p N GE own') (hback : Back P w own' GE d p.site r GX v w')
    (hs : p.site.isSome = r.box.isSome) (hfree : allFree st.rows d 0 r.outs = true) (hdn : st.boxes d = none) (hd : d < n) :
    ∃ G', Rel P n w0 own ((callEff p q d r).app (some d) st) G' (a.put (some d) v) w' := by
  obtain ⟨stX, hX⟩ : ∃ s, s = exitSt d p.site r := ⟨_, rfl⟩
  obtain ⟨st', hst'⟩ : ∃ s, s = (callEff p q d r).app (some d) st := ⟨_, rfl⟩
  obtain ⟨bmem, bval, bbx, bpres, bobox, borow, bbad, brbad⟩ := hback
  rw [← hX] at bmem bval bobox borow brbad
  rw [← hst']
  have hsd : ∀ i s, p.site = some (i, s) → s ≠ d := by
    rintro i s h rfl
    obtain ⟨_, ⟨cs, h1⟩, _⟩ := hin.site i s h
    rw [hdn] at h1; cases h1
  have hbs : ∀ x, st'.boxes x = match stX.boxes x with | some c => some c | none => st.boxes x := by
    intro x; rw [hst', hX]; exact call_boxes hs hsd st.boxes x
  have hXr : ∀ x y, stX.rows x y = if x = d then (match tells r.outs y with | some t => .live t.1 | none => .free) else .free := by
    intro x y; rw [hX]
    simp only [exitSt]
    rw [retRows_at]
    simp only [Nat.zero_le, and_true, Nat.sub_zero]
    rfl
  have hrs : ∀ x y, st'.rows x y = if x = d ∧ (tells r.outs y).isSome = true then stX.rows x y else if (x, y) ∈ N then .dead else st.rows x y := by
    intro x y
    rw [hst']
    simp only [callEff, Eff.app]
    rw [updRows_append, retRows_at, hin.rows, hXr]
    simp only [Nat.zero_le, and_true, Nat.sub_zero]
    by_cases hx : x = d
    · subst hx
      cases ht : tells r.outs y <;> simp [ht]
    · simp [hx]
  have hfr : ∀ y, (tells r.outs y).isSome = true → st.rows d y = .free := by
    intro y h
    obtain ⟨t, ht⟩ := Option.isSome_iff_exists.1 h
    have := allFree_get st.rows d r.outs 0 y t hfree ht
    rwa [Nat.zero_add] at this
  have hXl : ∀ {x y tip}, stX.rows x y = .live tip → x = d ∧ (tells r.outs y).isSome = true := by
    intro x y tip h
    rw [hXr] at h
    split at h
    · rename_i hx
      refine ⟨hx, ?_⟩
      cases ht : tells r.outs y with
      | none => rw [ht] at h; cases h
      | some t => rfl
    · cases h
  obtain ⟨G', hG'⟩ : ∃ G' : Gh, G' = { bx := fun x => if x = d then GX.bx d else G.bx x, cv := fun x y => if x = d ∧ (tells r.outs y).isSome = true then GX.cv x y else G.cv x y, et := fun x y => if x = d ∧ (tells r.outs y).isSome = true then GX.et x y else G.et x y, bad := G.bad } := ⟨_, rfl⟩
  have hbxX : ∀ x c, stX.boxes x = some c → G'.bx x = GX.bx x := by
    intro x c h
    rw [hX] at h
    rw [hG']
    simp only
    rcases exit_box h with rfl | ⟨i, hi⟩
    · rw [if_pos rfl]
    · rw [if_neg (hsd i x hi), bbx i x hi, (hin.site i x hi).1]
  have hbxO : ∀ x c, st.boxes x = some c → G'.bx x = G.bx x := by
    intro x c h
    rw [hG']
    simp only
    rw [if_neg (by rintro rfl; rw [hdn] at h; cases h)]
  have hXin : ∀ {x y}, x = d ∧ (tells r.outs y).isSome = true → G'.cv x y = GX.cv x y ∧ G'.et x y = GX.et x y := by
    intro x y h; rw [hG']; simp only; rw [if_pos h, if_pos h]; exact ⟨rfl, rfl⟩
  have hXout : ∀ {x y}, ¬ (x = d ∧ (tells r.outs y).isSome = true) → G'.cv x y = G.cv x y ∧ G'.et x y = G.et x y := by
    intro x y h; rw [hG']; simp only; rw [if_neg h, if_neg h]; exact ⟨rfl, rfl⟩
  have hGbad : G'.bad = G.bad := by rw [hG']
  -- what is not handed over stays
  have hbw : ∀ s cs, st.boxes s = some cs → G.bx s < w.heap.size := by
    intro s cs h
    obtain ⟨_, _, h1, _⟩ := hR.mem.box s cs h
    exact (Array.getElem?_eq_some_iff.1 h1).1
  have hrw : ∀ x y tip g, st.rows x y = .live tip → (G.cv x y).ownBlock = some g → g < w.heap.size := by
    intro x y tip g h1 h2
    obtain ⟨_, us, h3⟩ := hR.mem.row x y tip h1
    exact (h3.lt g h2).2
  have hsb : ∀ i s, p.site = some (i, s) → ∃ cs, st.boxes s = some cs := fun i s h => (hin.site i s h).2.1
  -- a box that is not handed over is not owned by the call
  have hob : ∀ s cs, st.boxes s = some cs → (∀ i, p.site ≠ some (i, s)) → own' (G.bx s) = none := by
    intro s cs h1 h2
    cases ho : own' (G.bx s) with
    | none => rfl
    | some t =>
      rcases hin.only _ t ho with ⟨i, s', h3, h4, _⟩ | ⟨q', hq, tip, h3, h4, _⟩
      · obtain ⟨cs', h5⟩ := hsb i s' h3
        have := hR.mem.inj s' cs' s cs h5 h1 h4
        subst this
        exact absurd h3 (h2 i)
      · exact absurd h4 (hR.mem.brow s cs _ _ _ h1 h3)
  have hor : ∀ x y tip g, st.rows x y = .live tip → (x, y) ∉ N → (G.cv x y).ownBlock = some g → own' g = none := by
    intro x y tip g h1 h2 h3
    cases ho : own' g with
    | none => rfl
    | some t =>
      rcases hin.only _ t ho with ⟨i, s', h4, h5, _⟩ | ⟨q', hq, tip', h4, h5, _⟩
      · obtain ⟨cs', h6⟩ := hsb i s' h4
        exact absurd (by rw [h5]; exact h3) (hR.mem.brow s' cs' x y tip h6 h1)
      · obtain ⟨e1, e2⟩ := hR.mem.rinj _ _ _ _ _ _ g h4 h1 h5 h3
        exact absurd (by rw [← e1, ← e2]; exact hq) h2
  -- from the frame's state before
  have hkA : Kp P st G w st' G' w' := by
    refine ⟨?_, ?_, ?_⟩
    · intro b o u hs hc
      have hlt : b < w.heap.size := World.block_lt_of_cell? w _ hc
      -- an owned block that has a cell that nobody writes is a row
      have hrowown : ∀ t, own' b = some t → o < t := by
        intro t ho
        rcases hin.only b t ho with ⟨i, s', h4, h5, _⟩ | ⟨q', hq, tip', h4, h5, h6⟩
        · obtain ⟨cs', h6⟩ := hsb i s' h4
          exact absurd h5 (hs.2.1 s' cs' h6)
        · have := hs.2.2 _ _ _ h4 h5
          omega
      refine ⟨⟨by rw [hGbad]; exact hs.1, ?_, ?_⟩, ?_⟩
      · intro s cs h
        rw [hbs] at h
        cases hx : stX.boxes s with
        | some c =>
          rw [hbxX s c hx]
          intro e
          rcases bobox s c hx with h1 | h1
          · omega
          · rw [e] at h1
            have := hrowown 0 h1; omega
        | none =>
          rw [hx] at h
          rw [hbxO s cs h]
          exact hs.2.1 s cs h
      · intro x y tip h1 h2
        rw [hrs] at h1
        split at h1
        · rename_i hin'
          rw [(hXin hin').1] at h2
          rw [(hXin hin').2]
          rcases borow x y tip b h1 h2 with h3 | ⟨t, h3, h4⟩
          · omega
          · have := hrowown t h3; omega
        · rename_i hout
          split at h1
          · cases h1
          · rw [(hXout hout).1] at h2
            rw [(hXout hout).2]
            exact hs.2.2 x y tip h1 h2
      · cases ho : own' b with
        | none => rw [World.cell?_of_block (w := w) (bpres.block b hlt ho)]; exact hc
        | some t => exact bpres.cell b t hlt ho o u (hrowown t ho) hc
    · intro s cs h
      refine ⟨?_, hbxO s cs h⟩
      rw [hbs]
      cases stX.boxes s with
      | some c => exact ⟨c, rfl⟩
      | none => exact ⟨cs, h⟩
    · intro x y h
      rw [hrs]
      split
      · rename_i hin'
        obtain ⟨rfl, h2⟩ := hin'
        exact absurd (hfr y h2) h
      · rename_i hout
        split
        · exact ⟨by simp, fun tip h' => by cases h'⟩
        · exact ⟨h, fun tip h' => ⟨tip, h', (hXout hout).2, Nat.le_refl _, fun _ => (hXout hout).1⟩⟩
  have hXnone : ∀ s, stX.boxes s = none → ∀ i, p.site ≠ some (i, s) := by
    intro s hx i hi
    rw [hX] at hx
    unfold exitSt at hx
    rw [hi] at hx hs
    cases hb : r.box with
    | none => rw [hb] at hs; cases hs
    | some c => simp [hb] at hx
  -- from what came back
  have hkX : Kp P stX GX w' st' G' w' := by
    refine ⟨?_, ?_, ?_⟩
    · intro b o u hs hc
      have hnk : ¬ kept P st G p.site N b o := by
        have := hs.1
        rw [bbad, hin.bad] at this
        exact this
      refine ⟨⟨by rw [hGbad]; exact fun h => hnk (.inl h), ?_, ?_⟩, hc⟩
      · intro s cs h
        rw [hbs] at h
        cases hx : stX.boxes s with
        | some c => rw [hbxX s c hx]; exact hs.2.1 s c hx
        | none =>
          rw [hx] at h
          rw [hbxO s cs h]
          intro e
          exact hnk (.inr (.inl ⟨s, cs, h, hXnone s hx, e⟩))
      · intro x y tip h1 h2
        rw [hrs] at h1
        split at h1
        · rename_i hin'
          rw [(hXin hin').1] at h2
          rw [(hXin hin').2]
          exact hs.2.2 x y tip h1 h2
        · rename_i hout
          split at h1
          · cases h1
          · rename_i hN
            rw [(hXout hout).1] at h2
            rw [(hXout hout).2]
            rcases Nat.lt_or_ge o (tip * tsize P (G.et x y)) with h | h
            · exact h
            · exact absurd (.inr (.inr ⟨x, y, tip, h1, hN, h2, h⟩)) hnk
    · intro s c h
      exact ⟨⟨c, by rw [hbs, h]⟩, hbxX s c h⟩
    · intro x y h
      have hin' : x = d ∧ (tells r.outs y).isSome = true := by
        cases hr : stX.rows x y with
        | free => exact absurd hr h
        | dead => rw [hXr] at hr; split at hr <;> (try split at hr) <;> cases hr
        | live tip => exact hXl hr
      rw [hrs, if_pos hin']
      exact ⟨h, fun tip h' => ⟨tip, h', (hXin hin').2, Nat.le_refl _, fun _ => (hXin hin').1⟩⟩
  have hlast : ∀ g t, own' g = some t → w0.heap.size ≤ g ∨ ∃ t0, own g = some t0 ∧ t0 ≤ t := by
    intro g t ho
    rcases hin.only g t ho with ⟨i, s', h4, h5, h6⟩ | ⟨q', hq, tip', h4, h5, h6⟩
    · obtain ⟨cs', h7⟩ := hsb i s' h4
      rcases hR.obox s' cs' h7 with h8 | h8
      · left; rw [← h5]; exact h8
      · right; exact ⟨0, by rw [← h5]; exact h8, Nat.zero_le _⟩
    · rcases hR.orow _ _ _ g h4 h5 with h8 | ⟨t0, h8, h9⟩
      · exact .inl h8
      · exact .inr ⟨t0, h8, by omega⟩
  refine ⟨G', ?_⟩
  have hval : Rep P st' G' w' (callEff p q d r).val v := bval.keep hkX
  have hmem : Mem P st' G' w' := by
    refine ⟨?_, ?_, ?_, ?_, ?_⟩
    · intro s c h
      rw [hbs] at h
      cases hx : stX.boxes s with
      | some c' =>
        rw [hx] at h; cases h
        obtain ⟨us, t, h1, h2, h3⟩ := bmem.box s c hx
        rw [hbxX s c hx]
        exact ⟨us, t, h1, h2, fun i c' hc => by
          obtain ⟨h4, u, h5, h6⟩ := h3 i c' hc
          exact ⟨h4, u, h5, h6.keep hkX⟩⟩
      | none =>
        rw [hx] at h
        obtain ⟨us, t, h1, h2, h3⟩ := hR.mem.box s c h
        rw [hbxO s c h]
        exact ⟨us, t, by rw [bpres.block _ (hbw s c h) (hob s c h (hXnone s hx))]; exact h1, h2, fun i c' hc => by
          obtain ⟨h4, u, h5, h6⟩ := h3 i c' hc
          exact ⟨h4, u, h5, h6.keep hkA⟩⟩
    · have cross : ∀ s c s' c', stX.boxes s = some c → stX.boxes s' = none → st.boxes s' = some c' → GX.bx s ≠ G.bx s' := by
        intro s c s' c' h1 h2 h3 e
        have hn := hob s' c' h3 (hXnone s' h2)
        rcases bobox s c h1 with h4 | h4
        · have := hbw s' c' h3; omega
        · rw [e, hn] at h4; cases h4
      intro s c s' c' h1 h2 he
      rw [hbs] at h1 h2
      cases hx : stX.boxes s with
      | some k =>
        cases hx' : stX.boxes s' with
        | some k' =>
          rw [hbxX s k hx, hbxX s' k' hx'] at he
          exact bmem.inj s k s' k' hx hx' he
        | none =>
          rw [hx'] at h2
          rw [hbxX s k hx, hbxO s' c' h2] at he
          exact absurd he (cross s k s' c' hx hx' h2)
      | none =>
        rw [hx] at h1
        cases hx' : stX.boxes s' with
        | some k' =>
          rw [hbxO s c h1, hbxX s' k' hx'] at he
          exact absurd he.symm (cross s' k' s c hx' hx h1)
        | none =>
          rw [hx'] at h2
          rw [hbxO s c h1, hbxO s' c' h2] at he
          exact hR.mem.inj s c s' c' h1 h2 he
    · intro x y tip h
      rw [hrs] at h
      split at h
      · rename_i hin'
        rw [(hXin hin').1, (hXin hin').2]
        exact bmem.row x y tip h
      · rename_i hout
        split at h
        · cases h
        · rename_i hN
          rw [(hXout hout).1, (hXout hout).2]
          obtain ⟨h1, us, h2⟩ := hR.mem.row x y tip h
          exact ⟨h1, us, ownsRow_heap h2 (fun g hg => bpres.block g (hrw x y tip g h hg) (hor x y tip g h hN hg))⟩
    · have cross : ∀ x y tip x' y' tip' g, stX.rows x y = .live tip → st.rows x' y' = .live tip' → (x', y') ∉ N → (GX.cv x y).ownBlock = some g → (G.cv x' y').ownBlock = some g → False := by
        intro x y tip x' y' tip' g h1 h2 h3 h4 h5
        have hn := hor x' y' tip' g h2 h3 h5
        rcases borow x y tip g h1 h4 with h6 | ⟨t, h6, _⟩
        · have := hrw x' y' tip' g h2 h5; omega
        · rw [hn] at h6; cases h6
      intro x y tip x' y' tip' g h1 h2 h3 h4
      rw [hrs] at h1 h2
      split at h1
      · rename_i i1
        rw [(hXin i1).1] at h3
        split at h2
        · rename_i i2
          rw [(hXin i2).1] at h4
          exact bmem.rinj x y tip x' y' tip' g h1 h2 h3 h4
        · rename_i o2
          split at h2
          · cases h2
          · rename_i n2
            rw [(hXout o2).1] at h4
            exact (cross x y tip x' y' tip' g h1 h2 n2 h3 h4).elim
      · rename_i o1
        split at h1
        · cases h1
        · rename_i n1
          rw [(hXout o1).1] at h3
          split at h2
          · rename_i i2
            rw [(hXin i2).1] at h4
            exact (cross x' y' tip' x y tip g h2 h1 n1 h4 h3).elim
          · rename_i o2
            split at h2
            · cases h2
            · rw [(hXout o2).1] at h4
              exact hR.mem.rinj x y tip x' y' tip' g h1 h2 h3 h4
    · intro s c x y tip h1 h2 h3
      rw [hbs] at h1
      rw [hrs] at h2
      cases hx : stX.boxes s with
      | some k =>
        rw [hbxX s k hx] at h3
        split at h2
        · rename_i i2
          rw [(hXin i2).1] at h3
          exact bmem.brow s k x y tip hx h2 h3
        · rename_i o2
          split at h2
          · cases h2
          · rename_i n2
            rw [(hXout o2).1] at h3
            have hn := hor x y tip _ h2 n2 h3
            rcases bobox s k hx with h4 | h4
            · have := hrw x y tip _ h2 h3; omega
            · rw [hn] at h4; cases h4
      | none =>
        rw [hx] at h1
        rw [hbxO s c h1] at h3
        split at h2
        · rename_i i2
          rw [(hXin i2).1] at h3
          have hn := hob s c h1 (hXnone s hx)
          rcases borow x y tip _ h2 h3 with h4 | ⟨t, h4, _⟩
          · have := hbw s c h1; omega
          · rw [hn] at h4; cases h4
        · rename_i o2
          split at h2
          · cases h2
          · rw [(hXout o2).1] at h3
            exact hR.mem.brow s c x y tip h1 h2 h3
  have hpres : Pres w0 own w' := by
    have hp := hR.pres
    refine ⟨bpres.os.trans hp.os, bpres.tape.trans hp.tape, bpres.output.trans hp.output, Nat.le_trans hp.size bpres.size, fun b hb ho => ?_, fun b t hb ho q' u hq hc => ?_⟩
    · have hn : own' b = none := by
        cases h : own' b with
        | none => rfl
        | some t =>
          rcases hlast b t h with h1 | ⟨t0, h1, _⟩
          · omega
          · rw [ho] at h1; cases h1
      rw [bpres.block b (by have := hp.size; omega) hn]
      exact hp.block b hb ho
    · have hcw := hp.cell b t hb ho q' u hq hc
      have hlt : b < w.heap.size := by have := hp.size; omega
      cases h : own' b with
      | none => rw [World.cell?_of_block (w := w) (bpres.block b hlt h)]; exact hcw
      | some t' =>
        rcases hlast b t' h with h1 | ⟨t0, h1, h2⟩
        · omega
        · rw [ho] at h1; cases h1
          exact bpres.cell b t' hlt h q' u (by omega) hcw
  have hobox : ∀ s cs, st'.boxes s = some cs → w0.heap.size ≤ G'.bx s ∨ own (G'.bx s) = some 0 := by
    intro s c h
    rw [hbs] at h
    cases hx : stX.boxes s with
    | some k =>
      rw [hbxX s k hx]
      rcases bobox s k hx with h1 | h1
      · left; have := hR.pres.size; omega
      · rcases hlast _ _ h1 with h2 | ⟨t0, h2, h3⟩
        · exact .inl h2
        · right; rw [h2]; congr 1; omega
    | none =>
      rw [hx] at h
      rw [hbxO s c h]
      exact hR.obox s c h
  have horow : ∀ x y tip g, st'.rows x y = .live tip → (G'.cv x y).ownBlock = some g → w0.heap.size ≤ g ∨ ∃ t, own g = some t ∧ t ≤ tip * tsize P (G'.et x y) := by
    intro x y tip g h1 h2
    rw [hrs] at h1
    split at h1
    · rename_i i1
      rw [(hXin i1).1] at h2
      rw [(hXin i1).2]
      rcases borow x y tip g h1 h2 with h3 | ⟨t, h3, h4⟩
      · left; have := hR.pres.size; omega
      · rcases hlast _ _ h3 with h5 | ⟨t0, h5, h6⟩
        · exact .inl h5
        · exact .inr ⟨t0, h5, by omega⟩
    · rename_i o1
      split at h1
      · cases h1
      · rw [(hXout o1).1] at h2
        rw [(hXout o1).2]
        exact hR.orow x y tip g h1 h2
  have hrbad : ∀ x y tip g o, st'.rows x y = .live tip → (G'.cv x y).ownBlock = some g → ¬ G.bad g o := by
    intro x y tip g o h1 h2
    rw [hrs] at h1
    split at h1
    · rename_i i1
      rw [(hXin i1).1] at h2
      have := brbad x y tip g o h1 h2
      rw [bbad, hin.bad] at this
      exact fun h => this (.inl h)
    · rename_i o1
      split at h1
      · cases h1
      · rw [(hXout o1).1] at h2
        exact hR.rbad x y tip g o h1 h2
  subst hst'
  exact hR.step (by rintro _ ⟨⟩; exact hd) hkA (fun _ => hval) hmem hpres hobox horow hGbad hrbad
end
end Go.Proofs.Ytnhfjdbnkpbbkab
