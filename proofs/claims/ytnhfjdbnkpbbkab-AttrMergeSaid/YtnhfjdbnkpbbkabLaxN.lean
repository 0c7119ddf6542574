/- A row of the frame's own, made or grown: the frame's state follows. -/
import Derived.Test.YtnhfjdbnkpbbkabLaxM
namespace Go.Proofs.Ytnhfjdbnkpbbkab
set_option linter.unusedVariables false
set_option linter.unusedSimpArgs false
open Go.RowKit

section
variable {P : Program} {n : Nat} {w0 : World} {own : OwnP} {st st' : St} {G G' : Gh} {a : Act} {w w' : World} {o : Oper}

theorem upd2_same {α : Type} (f : Nat → Nat → α) (x y : Nat) (v : α) : upd2 f (x, y) v x y = v := by simp [upd2]
theorem upd2_other {α : Type} (f : Nat → Nat → α) {x y x' y' : Nat} (v : α) (h : ¬ (x' = x ∧ y' = y)) : upd2 f (x, y) v x' y' = f x' y' := by
  unfold upd2
  have : (x' == x && y' == y) = false := by
    rw [Bool.and_eq_false_iff]
    by_cases h1 : x' = x
    · right; simp; intro h2; exact h ⟨h1, h2⟩
    · left; simpa using h1
  rw [this]; rfl

/-- what is known of a row before a step -/
def RowWas (st : St) (G : Gh) (P : Program) (x y e tip' : Nat) (v' : Value) (old : Option Nat) (tip : Nat) : Prop :=
  (st.rows x y = .free ∧ old = none ∧ tip = 0) ∨ (st.rows x y = .live tip ∧ G.et x y = e ∧ tip ≤ tip' ∧ (tip = tip' → v' = G.cv x y) ∧ old = (G.cv x y).ownBlock)

theorem Rel.setRowName (hR : Rel P n w0 own st G a w) {d : Tmp} (hd : d < n) {x y e tip tip' : Nat} {v' : Value} {old : Option Nat} {zs : List AV} {us : List Value} (hwas : RowWas st G P x y e tip' v' old tip) (hpos : 0 < tsize P e)
    (hown : w'.ownsRow 0 e (tsize P e) v' tip' us) (hg : w.grownBy w' old) (hb : v'.ownBlock = old ∨ v'.ownBlock = some w.heap.size)
    (hold : ∀ g o u, old = some g → o < tip * tsize P e → w.cell? ⟨g, o, none⟩ = some u → w'.cell? ⟨g, o, none⟩ = some u) (hz : zs.length = tip') {p : Prop}
    (hrep : ∀ st'' G', st'' = (⟨p, .sl zs (.row x y e), [], [((x, y), .live tip')]⟩ : Eff).app (some d) st → G'.bx = G.bx → Kp P st G w st'' G' w' → (∀ g o, v'.ownBlock = some g → o < tip' * tsize P e → stable P st'' G' g o) → RepP w' (stable P st'' G') (.sl zs .no) v') :
    ∃ G', Rel P n w0 own ((⟨p, .sl zs (.row x y e), [], [((x, y), .live tip')]⟩ : Eff).app (some d) st) G' (a.put (some d) v') w' := by
  obtain ⟨st'', hst''⟩ : ∃ s, s = (⟨p, .sl zs (.row x y e), [], [((x, y), .live tip')]⟩ : Eff).app (some d) st := ⟨_, rfl⟩
  obtain ⟨G', hG'⟩ : ∃ G' : Gh, G' = { bx := G.bx, cv := upd2 G.cv (x, y) v', et := upd2 G.et (x, y) e, bad := G.bad } := ⟨_, rfl⟩
  have hbx : G'.bx = G.bx := by rw [hG']
  have hcv1 : G'.cv x y = v' := by rw [hG']; exact upd2_same _ _ _ _
  have het1 : G'.et x y = e := by rw [hG']; exact upd2_same _ _ _ _
  have hcv2 : ∀ x' y', ¬ (x' = x ∧ y' = y) → G'.cv x' y' = G.cv x' y' := fun x' y' h => by rw [hG']; exact upd2_other _ _ h
  have het2 : ∀ x' y', ¬ (x' = x ∧ y' = y) → G'.et x' y' = G.et x' y' := fun x' y' h => by rw [hG']; exact upd2_other _ _ h
  have hboxes : st''.boxes = st.boxes := by rw [hst'']; rfl
  have hr1 : st''.rows x y = .live tip' := by rw [hst'']; exact upd2_same _ _ _ _
  have hr2 : ∀ x' y', ¬ (x' = x ∧ y' = y) → st''.rows x' y' = st.rows x' y' := fun x' y' h => by rw [hst'']; exact upd2_other _ _ h
  have hrl : ∀ x y tip g, st.rows x y = .live tip → (G.cv x y).ownBlock = some g → g < w.heap.size := by
    intro x y tip g h1 h2
    obtain ⟨_, us, h3⟩ := hR.mem.row x y tip h1
    exact (h3.lt g h2).2
  have hbl : ∀ s cs, st.boxes s = some cs → G.bx s < w.heap.size := by
    intro s cs h
    obtain ⟨_, _, h1, _⟩ := hR.mem.box s cs h
    exact (Array.getElem?_eq_some_iff.1 h1).1
  have holdlt : ∀ g, old = some g → g < w.heap.size := by
    intro g h
    rcases hwas with ⟨_, h1, _⟩ | ⟨h1, _, _, _, h2⟩
    · rw [h1] at h; cases h
    · exact hrl x y tip g h1 (by rw [← h2]; exact h)
  -- boxes are not in the row
  have hbo : ∀ s cs, st.boxes s = some cs → some (G.bx s) ≠ old := by
    intro s cs h e'
    rcases hwas with ⟨_, h1, _⟩ | ⟨h1, _, _, _, h2⟩
    · rw [h1] at e'; cases e'
    · exact hR.mem.brow s cs x y tip h h1 (by rw [← h2, ← e'])
  have hro : ∀ x' y' t g, ¬ (x' = x ∧ y' = y) → st.rows x' y' = .live t → (G.cv x' y').ownBlock = some g → some g ≠ old := by
    intro x' y' t g hne h1 h2 e'
    rcases hwas with ⟨_, h3, _⟩ | ⟨h3, _, _, _, h4⟩
    · rw [h3] at e'; cases e'
    · exact hne (hR.mem.rinj x' y' t x y tip g h1 h3 h2 (by rw [← h4, ← e']))
  have hk : Kp P st G w st'' G' w' := by
    refine ⟨?_, ?_, ?_⟩
    · intro b o u ⟨s0, s1, s2⟩ hc
      have hlt : b < w.heap.size := World.block_lt_of_cell? w _ hc
      have htip : old = some b → o < tip * tsize P e := by
        intro h
        rcases hwas with ⟨_, h1, _⟩ | ⟨h1, h2, _, _, h3⟩
        · rw [h1] at h; cases h
        · rw [← h2]; exact s2 x y tip h1 (by rw [← h3]; exact h)
      refine ⟨⟨by rw [hG']; exact s0, ?_, ?_⟩, ?_⟩
      · intro s cs hs; rw [hboxes] at hs; rw [hbx]; exact s1 s cs hs
      · intro x' y' t h1 h2
        by_cases he : x' = x ∧ y' = y
        · obtain ⟨rfl, rfl⟩ := he
          rw [hr1] at h1; cases h1
          rw [hcv1] at h2
          rw [het1]
          rcases hb with hb | hb
          · have := htip (by rw [← hb]; exact h2)
            have hle : tip ≤ tip' := by
              rcases hwas with ⟨_, _, h⟩ | ⟨_, _, h, _⟩ <;> omega
            exact Nat.lt_of_lt_of_le this (Nat.mul_le_mul_right _ hle)
          · rw [hb] at h2; cases h2; omega
        · rw [hr2 _ _ he] at h1
          rw [hcv2 _ _ he] at h2
          rw [het2 _ _ he]
          exact s2 x' y' t h1 h2
      · by_cases he : some b = old
        · exact hold b o u he.symm (htip he.symm) hc
        · rw [World.cell?_of_block (w := w) (hg.block b hlt he)]; exact hc
    · intro s cs hs
      exact ⟨⟨cs, by rw [hboxes]; exact hs⟩, by rw [hbx]⟩
    · intro x' y' h
      by_cases he : x' = x ∧ y' = y
      · obtain ⟨rfl, rfl⟩ := he
        refine ⟨by rw [hr1]; simp, fun t ht => ?_⟩
        rw [hr1] at ht; cases ht
        rcases hwas with ⟨h1, _, _⟩ | ⟨h1, h2, h3, h4, _⟩
        · exact absurd h1 h
        · exact ⟨tip, h1, by rw [het1, h2], h3, fun hh => by rw [hcv1]; exact h4 hh⟩
      · rw [hr2 _ _ he, hcv2 _ _ he, het2 _ _ he]
        exact ⟨h, fun t ht => ⟨t, ht, rfl, Nat.le_refl _, fun _ => rfl⟩⟩
  have hblk : ∀ g, v'.ownBlock = some g → (∀ s cs, st.boxes s = some cs → G.bx s ≠ g) ∧ ∀ x' y' t, ¬ (x' = x ∧ y' = y) → st.rows x' y' = .live t → (G.cv x' y').ownBlock ≠ some g := by
    intro g hg'
    rcases hb with hb | hb
    · refine ⟨fun s cs hs e' => hbo s cs hs (by rw [e', ← hb, hg']), fun x' y' t hne h1 h2 => hro x' y' t g hne h1 h2 (by rw [← hb, hg'])⟩
    · rw [hb] at hg'; cases hg'
      exact ⟨fun s cs hs e' => by have := hbl s cs hs; omega, fun x' y' t hne h1 h2 => by have := hrl x' y' t _ h1 h2; omega⟩
  have hnbad : ∀ g o, v'.ownBlock = some g → ¬ G.bad g o := by
    intro g o hg' hbad
    rcases hb with hb | hb
    · rcases hwas with ⟨_, h3, _⟩ | ⟨h3, _, _, _, h4⟩
      · rw [hb, h3] at hg'; cases hg'
      · exact hR.rbad x y tip g o h3 (by rw [← h4, ← hb]; exact hg') hbad
    · rw [hb] at hg'; cases hg'
      have := hR.bad _ _ hbad
      have := hR.pres.size
      omega
  have hstab : ∀ g o, v'.ownBlock = some g → o < tip' * tsize P e → stable P st'' G' g o := by
    intro g o hg' ho
    refine ⟨by rw [hG']; exact hnbad g o hg', fun s cs hs => by rw [hboxes] at hs; rw [hbx]; exact (hblk g hg').1 s cs hs, fun x' y' t h1 h2 => ?_⟩
    by_cases he : x' = x ∧ y' = y
    · obtain ⟨rfl, rfl⟩ := he
      rw [hr1] at h1; cases h1
      rw [het1]; exact ho
    · rw [hr2 _ _ he] at h1
      rw [hcv2 _ _ he] at h2
      exact absurd h2 ((hblk g hg').2 x' y' t he h1)
  have hrp := hrep st'' G' hst'' hbx hk hstab
  refine ⟨G', ?_⟩
  rw [← hst'']
  have hval : ((⟨p, .sl zs (.row x y e), [], [((x, y), .live tip')]⟩ : Eff)).val = .sl zs (.row x y e) := rfl
  rw [hst''] at hk hrp hstab hr1 hr2 hboxes
  rw [hst'']
  refine hR.step (by rintro _ ⟨⟩; exact hd) hk (fun _ => ?_) ?_ ?_ ?_ ?_ (by rw [hG']) (fun x' y' t g o h1 h2 => ?_)
  · refine (⟨hrp, ?_⟩ : Rep1 P _ G' w' (.sl zs (.row x y e)) v')
    rw [hr1]
    exact ⟨het1.symm, by omega, fun _ => hcv1.symm⟩
  · refine ⟨?_, ?_, ?_, ?_, ?_⟩
    · intro s cs hs
      rw [hboxes] at hs
      rw [hbx]
      obtain ⟨vs, t, h1, h2, h3⟩ := hR.mem.box s cs hs
      refine ⟨vs, t, by rw [hg.block _ (hbl s cs hs) (hbo s cs hs)]; exact h1, h2, fun i c hc => ?_⟩
      obtain ⟨h4, u, h5, h6⟩ := h3 i c hc
      exact ⟨h4, u, h5, h6.keep hk⟩
    · intro s c s' c' h1 h2 he
      rw [hboxes] at h1 h2
      rw [hbx] at he
      exact hR.mem.inj s c s' c' h1 h2 he
    · intro x' y' t h1
      by_cases he : x' = x ∧ y' = y
      · obtain ⟨rfl, rfl⟩ := he
        rw [hr1] at h1; cases h1
        rw [hcv1, het1]
        exact ⟨hpos, us, hown⟩
      · rw [hr2 _ _ he] at h1
        rw [hcv2 _ _ he, het2 _ _ he]
        obtain ⟨h2, vs, h3⟩ := hR.mem.row x' y' t h1
        refine ⟨h2, vs, h3.kept hg ?_⟩
        cases hq : (G.cv x' y').ownBlock with
        | none => exact .inl rfl
        | some g => exact .inr (hro x' y' t g he h1 hq)
    · intro x1 y1 t1 x2 y2 t2 g h1 h2 h3 h4
      by_cases e1 : x1 = x ∧ y1 = y <;> by_cases e2 : x2 = x ∧ y2 = y
      · exact ⟨by rw [e1.1, e2.1], by rw [e1.2, e2.2]⟩
      · obtain ⟨rfl, rfl⟩ := e1
        rw [hcv1] at h3
        rw [hr2 _ _ e2] at h2
        rw [hcv2 _ _ e2] at h4
        exact absurd h4 ((hblk g h3).2 x2 y2 t2 e2 h2)
      · obtain ⟨rfl, rfl⟩ := e2
        rw [hcv1] at h4
        rw [hr2 _ _ e1] at h1
        rw [hcv2 _ _ e1] at h3
        exact absurd h3 ((hblk g h4).2 x1 y1 t1 e1 h1)
      · rw [hr2 _ _ e1] at h1
        rw [hr2 _ _ e2] at h2
        rw [hcv2 _ _ e1] at h3
        rw [hcv2 _ _ e2] at h4
        exact hR.mem.rinj x1 y1 t1 x2 y2 t2 g h1 h2 h3 h4
    · intro s cs x' y' t h1 h2
      rw [hboxes] at h1
      rw [hbx]
      by_cases he : x' = x ∧ y' = y
      · obtain ⟨rfl, rfl⟩ := he
        rw [hcv1]
        intro hq
        exact (hblk _ hq).1 s cs h1 rfl
      · rw [hr2 _ _ he] at h2
        rw [hcv2 _ _ he]
        exact hR.mem.brow s cs x' y' t h1 h2
  · have hp := hR.pres
    refine ⟨hg.os.trans hp.os, hg.tape.trans hp.tape, hg.output.trans hp.output, Nat.le_trans hp.size hg.size, fun b hlt hn => ?_, fun b t hlt ht q u hq hc => ?_⟩
    · have hne : some b ≠ old := by
        intro e'
        rcases hwas with ⟨_, h1, _⟩ | ⟨h1, _, _, _, h2⟩
        · rw [h1] at e'; cases e'
        · rcases hR.orow x y tip b h1 (by rw [← h2, ← e']) with h | ⟨t, h, _⟩
          · omega
          · rw [hn] at h; cases h
      rw [hg.block b (by have := hp.size; omega) hne]
      exact hp.block b hlt hn
    · have hcw := hp.cell b t hlt ht q u hq hc
      by_cases he : some b = old
      · rcases hwas with ⟨_, h1, _⟩ | ⟨h1, h5, _, _, h2⟩
        · rw [h1] at he; cases he
        · rcases hR.orow x y tip b h1 (by rw [← h2, ← he]) with h | ⟨t', h, h'⟩
          · omega
          · rw [ht] at h; cases h
            rw [h5] at h'
            exact hold b q u he.symm (by omega) hcw
      · rw [World.cell?_of_block (w := w) (hg.block b (by have := hp.size; omega) he)]; exact hcw
  · intro s cs hs
    rw [hboxes] at hs
    rw [hbx]
    exact hR.obox s cs hs
  · intro x' y' t g h1 h2
    by_cases he : x' = x ∧ y' = y
    · obtain ⟨rfl, rfl⟩ := he
      rw [hr1] at h1; cases h1
      rw [hcv1] at h2
      rw [het1]
      rcases hb with hb | hb
      · rcases hwas with ⟨_, h3, _⟩ | ⟨h3, h5, h6, _, h4⟩
        · rw [hb, h3] at h2; cases h2
        · rcases hR.orow x' y' tip g h3 (by rw [← h4, ← hb]; exact h2) with h | ⟨t', h, h'⟩
          · exact .inl h
          · refine .inr ⟨t', h, Nat.le_trans h' ?_⟩
            rw [h5]
            exact Nat.mul_le_mul_right _ h6
      · rw [hb] at h2; cases h2
        exact .inl hR.pres.size
    · rw [hr2 _ _ he] at h1
      rw [hcv2 _ _ he] at h2
      rw [het2 _ _ he]
      exact hR.orow x' y' t g h1 h2
  · by_cases he : x' = x ∧ y' = y
    · obtain ⟨rfl, rfl⟩ := he
      rw [hcv1] at h2
      exact hnbad g o h2
    · rw [hr2 _ _ he] at h1
      rw [hcv2 _ _ he] at h2
      exact hR.rbad x' y' t g o h1 h2
end
end Go.Proofs.Ytnhfjdbnkpbbkab
