/- A call by its contract: the frame's state follows. -/
import Derived.Test.YtnhfjdbnkpbbkabLaxS
namespace Go.Proofs.Ytnhfjdbnkpbbkab
set_option linter.unusedVariables false
set_option linter.unusedSimpArgs false
open Go.RowKit

section
variable {P : Program} {n : Nat} {w0 : World} {own own' : OwnP} {st st' stX : St} {G G' GX GE : Gh} {a : Act} {w w' : World} {o : Oper} {A L : List AV} {d : Nat}

theorem exists_own (hm : Mem P st G w) : ∃ own, OwnOf P st G own := by
  classical
  refine ⟨⟨fun b => if ∃ s cs, st.boxes s = some cs ∧ G.bx s = b then some 0 else
    if h : ∃ q : Nat × Nat × Nat, st.rows q.1 q.2.1 = .live q.2.2 ∧ (G.cv q.1 q.2.1).ownBlock = some b then some ((Classical.choose h).2.2 * tsize P (G.et (Classical.choose h).1 (Classical.choose h).2.1)) else none, fun _ => none, fun _ _ => False⟩, ?_, ?_, ?_⟩
  · intro s cs h
    dsimp only
    rw [if_pos ⟨s, cs, h, rfl⟩]
  · intro x y tip g h1 h2
    have hn : ¬ ∃ s cs, st.boxes s = some cs ∧ G.bx s = g := by
      rintro ⟨s, cs, h3, h4⟩
      exact hm.brow s cs x y tip h3 h1 (by rw [h4]; exact h2)
    dsimp only
    rw [if_neg hn]
    have hex : ∃ q : Nat × Nat × Nat, st.rows q.1 q.2.1 = .live q.2.2 ∧ (G.cv q.1 q.2.1).ownBlock = some g := ⟨(x, y, tip), h1, h2⟩
    rw [dif_pos hex]
    obtain ⟨h3, h4⟩ := Classical.choose_spec hex
    obtain ⟨e1, e2⟩ := hm.rinj _ _ _ _ _ _ g h3 h1 h4 h2
    rw [e1, e2] at h3 ⊢
    rw [h1] at h3
    have e3 := (RowSt.live.inj h3).symm
    rw [e3]
  · intro b t h
    dsimp only at h
    split at h
    · rename_i h1; exact .inl h1
    · split at h
      · rename_i h2
        obtain ⟨h3, h4⟩ := Classical.choose_spec h2
        exact .inr ⟨_, _, _, h3, h4⟩
      · cases h

theorem argsOf_get (k : Nat) (cs : List AV) : ∀ (vs : List AV) (i j : Nat), (argsOf k cs i vs)[j]? = (vs[j]?).map fun v => if i + j = k then .box cs else .val v.drop
  | [], i, j => by simp [argsOf]
  | v :: vs, i, 0 => by simp [argsOf]
  | v :: vs, i, j + 1 => by
    simp only [argsOf, List.getElem?_cons_succ]
    rw [argsOf_get k cs vs (i + 1) j]
    congr 2
    funext v
    have : (i + 1 + j = k) = (i + (j + 1) = k) := by rw [eq_iff_iff]; omega
    simp only [this]
theorem argsOf_length (k : Nat) (cs : List AV) (vs : List AV) (i : Nat) : (argsOf k cs i vs).length = vs.length := by
  induction vs generalizing i with
  | nil => rfl
  | cons v vs ih => simp [argsOf, ih]
theorem boxOf_args (k : Nat) (cs : List AV) : ∀ (vs : List AV) (i : Nat), i ≤ k → boxOf (argsOf k cs i vs) = if k < i + vs.length then cs else []
  | [], i, h => by simp [argsOf, boxOf]; omega
  | v :: vs, i, h => by
    simp only [argsOf]
    by_cases hk : i = k
    · rw [if_pos hk]
      simp only [boxOf, List.length_cons]
      rw [if_pos (by omega)]
    · rw [if_neg hk]
      simp only [boxOf, List.length_cons]
      rw [boxOf_args k cs vs (i + 1) (by omega)]
      have : (k < i + 1 + vs.length) = (k < i + (vs.length + 1)) := by rw [eq_iff_iff]; omega
      simp only [this]
theorem allPlain_get (k : Nat) : ∀ (vs : List AV) (i j : Nat) v, allPlain k i vs = true → vs[j]? = some v → i + j = k ∨ v.plain = true
  | [], i, j, v, _, h => by simp at h
  | x :: vs, i, 0, v, h, hv => by
    simp at hv; subst hv
    simp only [allPlain, Bool.and_eq_true, Bool.or_eq_true, beq_iff_eq] at h
    exact h.1
  | x :: vs, i, j + 1, v, h, hv => by
    simp only [allPlain, Bool.and_eq_true] at h
    have := allPlain_get k vs (i + 1) j v h.2 (by simpa using hv)
    rcases this with h | h
    · left; omega
    · exact .inr h
theorem findPtr_one : ∀ (vs : List AV) (i k s off : Nat), findPtr i vs = [(k, s, off)] → i ≤ k ∧ vs[k - i]? = some (.ptr s off)
  | [], i, k, s, off, h => by simp [findPtr] at h
  | v :: vs, i, k, s, off, h => by
    by_cases hv : ∃ s off, v = .ptr s off
    · obtain ⟨s', off', rfl⟩ := hv
      simp only [findPtr, List.cons.injEq, Prod.mk.injEq] at h
      obtain ⟨⟨rfl, rfl, rfl⟩, _⟩ := h
      exact ⟨Nat.le_refl _, by simp⟩
    · have e : findPtr i (v :: vs) = findPtr (i + 1) vs := by
        cases v <;> first | rfl | exact absurd ⟨_, _, rfl⟩ hv
      rw [e] at h
      obtain ⟨h1, h2⟩ := findPtr_one vs (i + 1) k s off h
      refine ⟨by omega, ?_⟩
      rw [show k - i = (k - (i + 1)) + 1 from by omega, List.getElem?_cons_succ]
      exact h2

theorem outFit_one {c c' : AV} (h : OutFit st c c') (h1 : c.one = true) : c'.one = true := by
  unfold OutFit at h
  split at h
  · rfl
  · rfl
  · rfl
  · rw [h.1]; exact h1
theorem retCell_one {p : Nat} {c : AV} (h : c.one = true) : (retCell d p c).one = true := by
  unfold retCell
  split
  · rfl
  · exact h

theorem rep_dropped {v : AV} {r : Value} (h : Rep P st G w v r) (hp : v.plain = true) (hk : ∀ b o u, stable P st G b o → w.cell? ⟨b, o, none⟩ = some u → stable P stX GX b o) : Rep P stX GX w v.drop r := by
  have hk' : ∀ b o u, stable P st G b o → w.cell? ⟨b, o, none⟩ = some u → stable P stX GX b o ∧ w.cell? ⟨b, o, none⟩ = some u := fun b o u h1 h2 => ⟨hk b o u h1 h2, h2⟩
  have cell : ∀ {c : AV} {u : Value}, Rep1 P st G w c u → c.plainCell = true → Rep1 P stX GX w c.dropCell u := by
    intro c u hc hp
    cases c with
    | sl xs ow =>
      cases ow with
      | no => exact RepP.mono hc hk'
      | nil => exact hc
      | row x y e => exact RepP.mono hc.1 hk'
    | ptr _ _ => cases hp
    | eptr _ _ => cases hp
    | agg _ => cases hp
    | tup _ => cases hp
    | any => cases hp
    | skip => cases hp
    | _ => exact RepP.mono hc hk'
  unfold AV.plain at hp
  rw [List.all_eq_true] at hp
  by_cases hv : ∃ cs, v = .agg cs
  · obtain ⟨cs, rfl⟩ := hv
    obtain ⟨us, rfl, h2, h3⟩ := (h : RepA P st G w (.agg cs) r)
    refine (⟨us, rfl, by simpa using h2, fun i c hc => ?_⟩ : RepA P stX GX w (.agg (cs.map AV.dropCell)) (.agg us))
    simp only [List.getElem?_map, Option.map_eq_some_iff] at hc
    obtain ⟨c', hc', rfl⟩ := hc
    obtain ⟨h4, u, h5, h6⟩ := h3 i c' hc'
    exact ⟨dropCell_one h4, u, h5, cell h6 (hp c' (List.mem_of_getElem? hc'))⟩
  · have hv' : ∀ cs, v ≠ .agg cs := fun cs e => hv ⟨cs, e⟩
    have hcs := cellsOf_one hv'
    have hp1 := hp v (by rw [hcs]; simp)
    have hnt : ∀ cs, v ≠ .tup cs := by rintro cs rfl; cases hp1
    have e : v.drop = v.dropCell := by cases v <;> first | rfl | exact absurd rfl (hv' _)
    rw [e]
    exact Rep.of1 (cell (h.to1 hnt hv') hp1)

/-- what lies in rows of the frame's own that are not handed over, and in its other boxes -/
def kept (P : Program) (st : St) (G : Gh) (site : Option (Nat × Nat)) (N : List (Nat × Nat)) (b o : Nat) : Prop :=
  G.bad b o ∨ (∃ s cs, st.boxes s = some cs ∧ (∀ i, site ≠ some (i, s)) ∧ G.bx s = b) ∨
    ∃ x y tip, st.rows x y = .live tip ∧ (x, y) ∉ N ∧ (G.cv x y).ownBlock = some b ∧ tip * tsize P (G.et x y) ≤ o

theorem kept_stable {site : Option (Nat × Nat)} {N : List (Nat × Nat)} {b o : Nat} (h : stable P st G b o) : ¬ kept P st G site N b o := by
  rintro (h1 | ⟨s, cs, h1, _, h2⟩ | ⟨x, y, tip, h1, _, h2, h3⟩)
  · exact h.1 h1
  · exact h.2.1 s cs h1 h2
  · have := h.2.2 x y tip h1 h2; omega

theorem outNames_mem : ∀ (A L : List AV) q, q ∈ outNames A L → ∃ (p : Nat) (c c' : AV) (t : Nat × Nat), A[p]? = some c ∧ L[p]? = some c' ∧ rowName c = some q ∧ rowOf c' = some t := by
  intro A
  induction A with
  | nil => intro L q h; simp [outNames] at h
  | cons c A ih =>
    intro L q h
    cases L with
    | nil => simp [outNames] at h
    | cons c' L =>
      simp only [outNames, List.mem_append] at h
      rcases h with h | h
      · split at h
        · rename_i q' q'' h1 h2
          simp at h
          subst h
          refine ⟨0, c, c', ?_⟩
          unfold rowName at h2
          split at h2
          · exact ⟨_, rfl, rfl, h1, rfl⟩
          · cases h2
        · simp at h
      · obtain ⟨p, c1, c2, t, h1, h2, h3, h4⟩ := ih L q h
        exact ⟨p + 1, c1, c2, t, by simpa using h1, by simpa using h2, h3, h4⟩

structure In (P : Program) (st : St) (G : Gh) (w : World) (vs : List AV) (us : Array Value) (p : Passed) (N : List (Nat × Nat)) (GE : Gh) (own' : OwnP) : Prop where
  came : Came P p.args us w GE own'
  bad : GE.bad = kept P st G p.site N
  site : ∀ i s, p.site = some (i, s) → GE.bx i = G.bx s ∧ (∃ cs, st.boxes s = some cs) ∧ ∃ cs, p.args[i]? = some (.box cs)
  rows : ∀ x y, updRows st.rows p.rows x y = if (x, y) ∈ N then .dead else st.rows x y
  live : ∀ q ∈ N, ∃ tip, st.rows q.1 q.2 = .live tip
  only : ∀ b t, own' b = some t → (∃ i s, p.site = some (i, s) ∧ G.bx s = b ∧ t = 0) ∨ ∃ q ∈ N, ∃ tip, st.rows q.1 q.2 = .live tip ∧ (G.cv q.1 q.2).ownBlock = some b ∧ t = tip * tsize P (G.et q.1 q.2)
  box : ∀ i s, p.site = some (i, s) → own' (G.bx s) = some 0
  row : ∀ q ∈ N, ∀ tip b, st.rows q.1 q.2 = .live tip → (G.cv q.1 q.2).ownBlock = some b → own' b = some (tip * tsize P (G.et q.1 q.2))

/-- the state that a call begins in -/
theorem hand_in (hR : Rel P n w0 own st G a w) {vs : List AV} {us : Array Value} (hus : us.size = vs.length) (hvs : ∀ (i : Nat) v, vs[i]? = some v → Rep P st G w v (us.getD i undef)) {p : Passed} (hp : passArgs st.boxes st.rows vs = some p) (ho : p.obl) :
    ∃ N GE own', In P st G w vs us p N GE own' := by
  have hbw : ∀ s cs, st.boxes s = some cs → G.bx s < w.heap.size := by
    intro s cs h
    obtain ⟨_, _, h1, _⟩ := hR.mem.box s cs h
    exact (Array.getElem?_eq_some_iff.1 h1).1
  have hrw : ∀ x y tip g, st.rows x y = .live tip → (G.cv x y).ownBlock = some g → g < w.heap.size := by
    intro x y tip g h1 h2
    obtain ⟨_, us, h3⟩ := hR.mem.row x y tip h1
    exact (h3.lt g h2).2
  have hkb : ∀ site N b o, kept P st G site N b o → b < w.heap.size := by
    rintro site N b o (h | ⟨s, cs, h1, _, h2⟩ | ⟨x, y, tip, h1, _, h2, _⟩)
    · exact Nat.lt_of_lt_of_le (hR.bad b o h) hR.pres.size
    · rw [← h2]; exact hbw s cs h1
    · exact hrw x y tip b h1 h2
  unfold passArgs at hp
  split at hp
  · -- no pointer
    split at hp
    · rename_i hpl
      cases hp
      obtain ⟨GE, hGE⟩ : ∃ GE : Gh, GE = ⟨fun _ => 0, fun _ _ => .slice none 0 0, fun _ _ => 0, kept P st G none []⟩ := ⟨_, rfl⟩
      have hargs : ∀ i : Nat, (argsOf vs.length [] 0 vs)[i]? = (vs[i]?).map fun (v : AV) => Arg.val v.drop := by
        intro i
        rw [argsOf_get]
        cases hv : vs[i]? with
        | none => rfl
        | some v =>
          have : i < vs.length := (List.getElem?_eq_some_iff.1 hv).1
          simp only [Option.map_some]
          rw [if_neg (by omega)]
      have hnb : ∀ s, (entrySt (argsOf vs.length [] 0 vs)).boxes s = none := by
        intro s
        simp only [entrySt, hargs]
        cases vs[s]? <;> rfl
      have hnr : ∀ x y, (entrySt (argsOf vs.length [] 0 vs)).rows x y = .free := by
        intro x y
        simp only [entrySt, boxOf_args vs.length [] vs 0 (Nat.zero_le _)]
        simp [retRows, updRows]
      have hst : ∀ b o u, stable P st G b o → w.cell? ⟨b, o, none⟩ = some u → stable P (entrySt (argsOf vs.length [] 0 vs)) GE b o := by
        intro b o u hs _
        refine ⟨by rw [hGE]; exact kept_stable hs, fun s cs h => (by rw [hnb] at h; cases h), fun x y tip h => (by rw [hnr] at h; cases h)⟩
      have hmem : Mem P (entrySt (argsOf vs.length [] 0 vs)) GE w :=
        ⟨fun s cs h => (by rw [hnb] at h; cases h), fun s cs s' cs' h => (by rw [hnb] at h; cases h), fun x y tip h => (by rw [hnr] at h; cases h), fun x y tip x' y' tip' g h => (by rw [hnr] at h; cases h), fun s cs x y tip h => (by rw [hnb] at h; cases h)⟩
      obtain ⟨own', hown⟩ := exists_own hmem
      refine ⟨[], GE, own', ⟨⟨by rw [argsOf_length]; exact hus, hmem, fun i => ?_, hown, fun b o h => hkb none [] b o (by rw [hGE] at h; exact h), fun x y tip g o h => (by rw [hnr] at h; cases h)⟩, (by rw [hGE]), (fun i s h => (by cases h)), (fun x y => (by simp [updRows])), (fun q h => (by simp at h)), fun b t h => ?_, (fun i s h => (by cases h)), (fun q h => (by simp at h))⟩⟩
      · have htm : (entrySt (argsOf vs.length [] 0 vs)).tmps i = match vs[i]? with | some v => v.drop | none => .skip := by
          simp only [entrySt, hargs]
          cases vs[i]? <;> rfl
        rw [htm]
        cases hv : vs[i]? with
        | none =>
          have hge : vs.length ≤ i := by
            rcases Nat.lt_or_ge i vs.length with h | h
            · rw [List.getElem?_eq_getElem h] at hv; cases hv
            · exact h
          have : us.getD i undef = undef := by simp [Array.getD_eq_getD_getElem?, hus, hge]
          rw [this]
          exact rep_skip
        | some v =>
          have hi : i < vs.length := (List.getElem?_eq_some_iff.1 hv).1
          rcases allPlain_get vs.length vs 0 i v hpl hv with h | h
          · omega
          · exact rep_dropped (hvs i v hv) h hst
      · rcases hown.only b t h with ⟨s, cs, h1, _⟩ | ⟨x, y, tip, h1, _⟩
        · rw [hnb] at h1; cases h1
        · rw [hnr] at h1; cases h1
    · cases hp
  · -- one pointer
    rename_i k s hfp
    split at hp
    · rename_i cs hcs
      split at hp
      · rename_i hcond
        obtain ⟨hpl, hpc⟩ := hcond
        cases hp
        obtain ⟨_, hk⟩ := findPtr_one vs 0 k s 0 hfp
        rw [Nat.sub_zero] at hk
        have hkl : k < vs.length := (List.getElem?_eq_some_iff.1 hk).1
        have hsp := passCells_spec cs st.rows hpc ho
        generalize passCells st.rows cs = z at *
        obtain ⟨zo, L, zr⟩ := z
        obtain ⟨N, hN⟩ : ∃ N, N = outNames cs L := ⟨_, rfl⟩
        have hspl : L.length = cs.length := hsp.len
        have hspf : ∀ (p : Nat) c c', cs[p]? = some c → L[p]? = some c' → OutFit { tmps := fun _ => .skip, boxes := fun _ => none, rows := st.rows } c c' ∧ (∀ t, rowOf c' = some t → ∃ q, rowName c = some q ∧ rowName c' = some q) := hsp.fit
        have hspn : (outNames cs L).Nodup := hsp.nodup
        have hspv : ∀ q ∈ outNames cs L, ∃ tip, st.rows q.1 q.2 = .live tip := hsp.live
        have hspr : ∀ x y, updRows st.rows zr x y = if (x, y) ∈ outNames cs L then .dead else st.rows x y := hsp.rows
        simp only
        obtain ⟨GE, hGE⟩ : ∃ GE : Gh, GE = ⟨fun _ => G.bx s, fun _ y => toldCv G cs y, fun _ y => toldEt L y, kept P st G (some (k, s)) N⟩ := ⟨_, rfl⟩
        have hargs : ∀ i : Nat, (argsOf k L 0 vs)[i]? = (vs[i]?).map fun (v : AV) => if i = k then Arg.box L else Arg.val v.drop := by
          intro i; rw [argsOf_get]; simp only [Nat.zero_add]
        have hbx : ∀ x, (entrySt (argsOf k L 0 vs)).boxes x = if x = k then some (retCells 1000 0 L) else none := by
          intro x
          simp only [entrySt, hargs]
          by_cases hx : x = k
          · subst hx; rw [hk]; simp
          · cases vs[x]? <;> simp [hx]
        have hrows : ∀ x y, (entrySt (argsOf k L 0 vs)).rows x y = if x = 1000 then (match tells L y with | some t => .live t.1 | none => .free) else .free := by
          intro x y
          simp only [entrySt, boxOf_args k L vs 0 (Nat.zero_le _)]
          rw [if_pos (by omega), retRows_at]
          simp only [Nat.zero_le, and_true, Nat.sub_zero]
          rfl
        obtain ⟨cus, ct, hb1, hb2, hb3⟩ := hR.mem.box s cs hcs
        have hfit : ∀ (p : Nat) c c', cs[p]? = some c → L[p]? = some c' → OutFit st c c' := by
          intro p c c' h1 h2
          exact (hspf p c c' h1 h2).1
        have hand : Hand P st G w cs L 1000 (entrySt (argsOf k L 0 vs)) GE := by
          refine ⟨hR.mem, ?_, hfit, ?_, ?_, hrows, ?_, fun y => by rw [hGE], fun y => by rw [hGE], fun b o u h _ => by rw [hGE]; exact kept_stable h, fun p c hc => ?_⟩
          · exact hspl.symm
          · exact hspn
          · intro p t ht
            unfold tells at ht
            simp only [Option.bind_eq_some_iff] at ht
            obtain ⟨c', h1, h2⟩ := ht
            have hpl' : p < cs.length := by
              rw [← hspl]; exact (List.getElem?_eq_some_iff.1 h1).1
            have hc := List.getElem?_eq_getElem hpl'
            obtain ⟨q, hq1, hq2⟩ := (hspf p _ _ hc h1).2 t h2
            have hf := hfit p _ _ hc h1
            obtain ⟨_, u, _, hu⟩ := hb3 p _ hc
            obtain ⟨xs, e, hxe⟩ := rowName_some hq1
            obtain ⟨ys, a', b', rfl, _⟩ := rowOf_some h2
            rw [hxe] at hf hu
            obtain ⟨rfl, rfl, h3⟩ := hf
            obtain ⟨_, hu2⟩ := hu
            split at h3
            · rename_i hh
              rw [hh] at hu2
              rw [hu2.1]
              exact (hR.mem.row _ _ _ hh).1
            · exact h3.elim
          · intro x c hx
            rw [hbx] at hx
            split at hx
            · exact ⟨s, cs, hcs, by rw [hGE]⟩
            · cases hx
          · obtain ⟨_, u, _, hu⟩ := hb3 p c hc
            exact ⟨u, hu⟩
        have hmem := hand.memX (by
          intro x c hx
          rw [hbx] at hx
          split at hx
          · cases hx
            refine ⟨cus, ct, by rw [hGE]; exact hb1, by rw [retCells_length, hspl]; exact hb2, fun i c hc => ?_⟩
            rw [retCells_get] at hc
            simp only [Option.map_eq_some_iff, Nat.zero_add] at hc
            obtain ⟨c', hc', rfl⟩ := hc
            have hil : i < cs.length := by
              rw [← hspl]; exact (List.getElem?_eq_some_iff.1 hc').1
            have hci := List.getElem?_eq_getElem hil
            obtain ⟨h0, u, h4, h5⟩ := hb3 i _ hci
            exact ⟨retCell_one (outFit_one (hfit i _ _ hci hc') h0), u, h4, hand.rep1 hci hc' h5⟩
          · cases hx) (by
          intro x c x' c' hx hx' _
          rw [hbx] at hx hx'
          split at hx
          · split at hx'
            · rename_i e1 e2; rw [e1, e2]
            · cases hx'
          · cases hx)
        obtain ⟨own', hown⟩ := exists_own hmem
        have hlN : ∀ q ∈ N, ∃ tip, st.rows q.1 q.2 = .live tip := by
          rw [hN]; exact hspv
        refine ⟨N, GE, own', ⟨⟨by rw [argsOf_length]; exact hus, hmem, fun i => ?_, hown, fun b o h => hkb (some (k, s)) N b o (by rw [hGE] at h; exact h), fun x y tip g o h hg => ?_⟩, (by rw [hGE]), fun i s' h => ?_, ?_, hlN, fun b t h => ?_, fun i s' h => ?_, fun q hq tip b h1 h2 => ?_⟩⟩
        · have htm : (entrySt (argsOf k L 0 vs)).tmps i = match vs[i]? with | some v => (if i = k then .ptr i 0 else v.drop) | none => .skip := by
            simp only [entrySt, hargs]
            cases vs[i]? with
            | none => rfl
            | some v => by_cases hi : i = k <;> simp [hi]
          rw [htm]
          cases hv : vs[i]? with
          | none =>
            have hge : vs.length ≤ i := by
              rcases Nat.lt_or_ge i vs.length with h | h
              · rw [List.getElem?_eq_getElem h] at hv; cases hv
              · exact h
            have : us.getD i undef = undef := by simp [Array.getD_eq_getD_getElem?, hus, hge]
            rw [this]
            exact rep_skip
          | some v =>
            by_cases hi : i = k
            · subst hi
              simp only [if_true]
              rw [hk] at hv; cases hv
              obtain ⟨_, h2⟩ := (hvs i _ hk).inv_ptr
              exact ⟨⟨retCells 1000 0 L, by have := hbx i; rw [if_pos rfl] at this; exact this⟩, by rw [h2, hGE]⟩
            · simp only [hi, if_false]
              rcases allPlain_get k vs 0 i v hpl hv with h | h
              · omega
              · exact rep_dropped (hvs i v hv) h (fun b o u h1 h2 => hand.stable h1 h2)
        · obtain ⟨rfl, c, c', t, h1, h2, h3, h4, h5, h6⟩ := hand.told h
          rcases h6 with ⟨xs, q, rfl, h7, h8, h9, h10⟩ | ⟨h7, _⟩
          · rw [h8] at hg
            rw [hGE]
            have hqN : (q.1, q.2) ∈ N := by rw [hN]; exact outNames_get cs L y _ _ _ _ h1 h2 rfl h3
            rintro (hb | ⟨s', cs', hs1, hs2, hs3⟩ | ⟨x', y', tip', hr1, hr2, hr3, _⟩)
            · exact hR.rbad _ _ _ _ _ h7 hg hb
            · exact hR.mem.brow s' cs' _ _ _ hs1 h7 (by rw [hs3]; exact hg)
            · obtain ⟨e1, e2⟩ := hR.mem.rinj _ _ _ _ _ _ g hr1 h7 hr3 hg
              exact hr2 (by rw [e1, e2]; exact hqN)
          · rw [h7] at hg; cases hg
        · cases h
          exact ⟨by rw [hGE], ⟨cs, hcs⟩, L, by rw [hargs, hk]; simp⟩
        · rw [hN]; exact hspr
        · rcases hown.only b t h with ⟨x, c, h1, h2⟩ | ⟨x, y, tip, h1, h2⟩
          · left
            have hx := h1
            rw [hbx] at hx
            split at hx
            · have := hown.box x c h1
              rw [h2] at this
              rw [this] at h
              refine ⟨k, s, rfl, ?_, (Option.some.inj h).symm⟩
              rw [← h2, hGE]
            · cases hx
          · right
            have hrow := hown.row x y tip b h1 h2
            rw [hrow] at h
            obtain ⟨rfl, c, c', t', g1, g2, g3, g4, g5, g6⟩ := hand.told h1
            rcases g6 with ⟨xs, q, rfl, h7, h8, h9, h10⟩ | ⟨h7, _⟩
            · refine ⟨(q.1, q.2), by rw [hN]; exact outNames_get cs L y _ _ _ _ g1 g2 rfl g3, tip, h7, by rw [← h8]; exact h2, ?_⟩
              rw [h10, ← g5]
              exact (Option.some.inj h).symm
            · rw [h7] at h2; cases h2
        · cases h
          have := hown.box k (retCells 1000 0 L) (by rw [hbx, if_pos rfl])
          rw [hGE] at this
          exact this
        · rw [hN] at hq
          obtain ⟨y, c, c', t, g1, g2, g3, g4⟩ := outNames_mem cs L q hq
          have hlive : (entrySt (argsOf k L 0 vs)).rows 1000 y = .live t.1 := by rw [hrows, if_pos rfl]; simp [tells, g2, g4]
          obtain ⟨_, c1, c1', t1, k1, k2, k3, k4, k5, k6⟩ := hand.told hlive
          rw [g1] at k1; cases k1
          rw [g2] at k2; cases k2
          rw [g4] at k3; cases k3
          rcases k6 with ⟨xs, q', rfl, h7, h8, h9, h10⟩ | ⟨h7, h8⟩
          · have : (q'.1, q'.2) = q := by simpa [rowName] using g3
            subst this
            have := hown.row 1000 y t.1 b hlive (by rw [h8]; exact h2)
            rw [k5, ← h10] at this
            rw [h7] at h1
            rw [← RowSt.live.inj h1]
            exact this
          · obtain ⟨xs, e, rfl⟩ := rowName_some g3
            have hf := hfit y _ _ g1 g2
            obtain ⟨ys, a', b', rfl, _⟩ := rowOf_some g4
            have hcv : GE.cv 1000 y = G.cv q.1 q.2 := by rw [hGE]; simp [toldCv, g1, rowName]
            rw [hcv] at h7
            rw [h7] at h2; cases h2
      · cases hp
    · cases hp
  · cases hp
end
end Go.Proofs.Ytnhfjdbnkpbbkab
