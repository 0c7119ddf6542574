/- What is handed over at a call, and what comes back: names change, content stays. -/
import Derived.Test.YtnhfjdbnkpbbkabLaxQ
namespace Go.Proofs.Ytnhfjdbnkpbbkab
set_option linter.unusedVariables false
set_option linter.unusedSimpArgs false
open Go.RowKit

/-- a cell as it is, and as it is told -/
def OutFit (st : St) (c c' : AV) : Prop :=
  match c' with
  | .sl ys (.row _ _ e') => (match c with
    | .sl xs (.row a b e) => ys = xs ∧ e' = e ∧ (match st.rows a b with | .live tip => tip = xs.length | _ => False)
    | .sl _ .nil => ys = []
    | _ => False)
  | .sl ys .no => (match c with | .sl xs _ => ys = xs | _ => False)
  | .sl ys .nil => (match c with | .sl xs .nil => ys = xs | _ => False)
  | v => v = c ∧ c.plainCell = true

def outNames : List AV → List AV → List (Nat × Nat)
  | c :: A, c' :: L => (match rowName c, rowName c' with | some q, some _ => [q] | _, _ => []) ++ outNames A L
  | _, _ => []

/-- the row that is told at a place -/
def tells (L : List AV) (y : Nat) : Option (Nat × Nat) := (L[y]?).bind rowOf

section
variable {P : Program} {n : Nat} {w0 : World} {own : OwnP} {st st' stX : St} {G G' GX : Gh} {a : Act} {w w' : World} {o : Oper} {A L : List AV} {d : Nat}

theorem rowOf_some {c : AV} {t : Nat × Nat} (h : rowOf c = some t) : ∃ xs a b, c = .sl xs (.row a b t.2) ∧ t.1 = xs.length := by
  unfold rowOf at h
  split at h
  · cases h; exact ⟨_, _, _, rfl, rfl⟩
  · cases h
theorem rowName_some {c : AV} {q : Nat × Nat} (h : rowName c = some q) : ∃ xs e, c = .sl xs (.row q.1 q.2 e) := by
  unfold rowName at h
  split at h
  · cases h; exact ⟨_, _, rfl⟩
  · cases h
theorem rowName_of {c : AV} {t : Nat × Nat} (h : rowOf c = some t) : ∃ q, rowName c = some q := by
  obtain ⟨xs, a, b, rfl, _⟩ := rowOf_some h
  exact ⟨_, rfl⟩

theorem retCells_get (d : Nat) : ∀ (L : List AV) (k p : Nat), (retCells d k L)[p]? = (L[p]?).map (retCell d (k + p))
  | [], k, p => by simp [retCells]
  | c :: L, k, 0 => by simp [retCells]
  | c :: L, k, p + 1 => by
    simp only [retCells, List.getElem?_cons_succ]
    rw [retCells_get d L (k + 1) p]
    congr 2
    omega
theorem retCells_length (d : Nat) (L : List AV) (k : Nat) : (retCells d k L).length = L.length := by
  induction L generalizing k with
  | nil => rfl
  | cons c L ih => simp [retCells, ih]

theorem updRows_at : ∀ (l : List ((Nat × Nat) × RowSt)) (f : Nat → Nat → RowSt) (x y : Nat), (∀ q ∈ l, q.1 ≠ (x, y)) → updRows f l x y = f x y
  | [], f, x, y, _ => rfl
  | (k, c) :: l, f, x, y, h => by
    simp only [updRows]
    rw [updRows_at l _ x y (fun q hq => h q (by simp [hq]))]
    have := h (k, c) (by simp)
    exact upd2_other f c (fun e => this (by rw [e.1, e.2]))

theorem retRows_at (d : Nat) : ∀ (L : List AV) (k : Nat) (f : Nat → Nat → RowSt) (x y : Nat),
    updRows f (retRows d k L) x y = if x = d ∧ k ≤ y then (match tells L (y - k) with | some t => .live t.1 | none => f x y) else f x y
  | [], k, f, x, y => by
    simp only [retRows, updRows, tells]
    split <;> simp
  | c :: L, k, f, x, y => by
    have key : ∀ f', updRows f' (retRows d (k + 1) L) x y = if x = d ∧ k + 1 ≤ y then (match tells L (y - (k + 1)) with | some t => .live t.1 | none => f' x y) else f' x y := fun f' => retRows_at d L (k + 1) f' x y
    have hs : k + 1 ≤ y → tells (c :: L) (y - k) = tells L (y - (k + 1)) := by
      intro h
      unfold tells
      rw [show y - k = (y - (k + 1)) + 1 from by omega, List.getElem?_cons_succ]
    have h0 : tells (c :: L) 0 = rowOf c := rfl
    simp only [retRows]
    by_cases h1 : x = d ∧ k + 1 ≤ y
    · rw [if_pos ⟨h1.1, by omega⟩, hs h1.2]
      cases hr : rowOf c with
      | none =>
        simp only [List.nil_append]
        rw [key, if_pos h1]
      | some t =>
        simp only [List.cons_append, List.nil_append, updRows]
        rw [key, if_pos h1]
        split
        · rfl
        · exact upd2_other f _ (by rintro ⟨_, h⟩; omega)
    · by_cases h2 : x = d ∧ k ≤ y
      · have : y = k := by
          rcases Nat.lt_or_ge y (k + 1) with h | h
          · omega
          · exact absurd ⟨h2.1, h⟩ h1
        subst this
        rw [if_pos h2, Nat.sub_self, h0]
        cases hr : rowOf c with
        | none =>
          simp only [List.nil_append]
          rw [key, if_neg h1]
        | some t =>
          simp only [List.cons_append, List.nil_append, updRows]
          rw [key, if_neg h1, h2.1]
          exact upd2_same _ _ _ _
      · rw [if_neg h2]
        cases hr : rowOf c with
        | none =>
          simp only [List.nil_append]
          rw [key, if_neg h1]
        | some t =>
          simp only [List.cons_append, List.nil_append, updRows]
          rw [key, if_neg h1]
          exact upd2_other f _ (by rintro ⟨h3, h4⟩; exact h2 ⟨h3, by omega⟩)

/-- the name that is told at a place, and its row -/
theorem outNames_get : ∀ (A L : List AV) (p : Nat) c c' q t, A[p]? = some c → L[p]? = some c' → rowName c = some q → rowOf c' = some t → q ∈ outNames A L := by
  intro A
  induction A with
  | nil => intro L p c c' q t h; simp at h
  | cons c A ih =>
    intro L p c1 c1' q t h1 h2 h3 h4
    cases L with
    | nil => simp at h2
    | cons c' L =>
      cases p with
      | zero =>
        simp at h1 h2
        subst h1 h2
        obtain ⟨q', h5⟩ := rowName_of h4
        simp [outNames, h3, h5]
      | succ p =>
        simp only [List.getElem?_cons_succ] at h1 h2
        have := ih L p c1 c1' q t h1 h2 h3 h4
        simp only [outNames, List.mem_append]
        exact .inr this
theorem outNames_inj : ∀ (A L : List AV), (outNames A L).Nodup → ∀ (p1 p2 : Nat) c1 c2 c1' c2' q t1 t2, A[p1]? = some c1 → L[p1]? = some c1' → A[p2]? = some c2 → L[p2]? = some c2' →
    rowName c1 = some q → rowName c2 = some q → rowOf c1' = some t1 → rowOf c2' = some t2 → p1 = p2 := by
  intro A
  induction A with
  | nil => intro L _ p1 p2 c1 c2 c1' c2' q t1 t2 h; simp at h
  | cons c A ih =>
    intro L hn p1 p2 c1 c2 c1' c2' q t1 t2 h1 h2 h3 h4 h5 h6 h7 h8
    cases L with
    | nil => simp at h2
    | cons c' L =>
      simp only [outNames] at hn
      have hn' := (List.nodup_append.1 hn).2.1
      cases p1 with
      | zero =>
        cases p2 with
        | zero => rfl
        | succ p2 =>
          simp only [List.getElem?_cons_zero, Option.some.injEq, List.getElem?_cons_succ] at h1 h2 h3 h4
          subst h1 h2
          have h9 := outNames_get A L p2 _ _ _ _ h3 h4 h6 h8
          obtain ⟨q', h10⟩ := rowName_of h7
          rw [h5, h10] at hn
          exact absurd rfl ((List.nodup_append.1 hn).2.2 q (by simp) q h9)
      | succ p1 =>
        cases p2 with
        | zero =>
          simp only [List.getElem?_cons_zero, Option.some.injEq, List.getElem?_cons_succ] at h1 h2 h3 h4
          subst h3 h4
          have h9 := outNames_get A L p1 _ _ _ _ h1 h2 h5 h7
          obtain ⟨q', h10⟩ := rowName_of h8
          rw [h6, h10] at hn
          exact absurd rfl ((List.nodup_append.1 hn).2.2 q (by simp) q h9)
        | succ p2 =>
          simp only [List.getElem?_cons_succ] at h1 h2 h3 h4
          have := ih L hn' p1 p2 _ _ _ _ _ _ _ h1 h2 h3 h4 h5 h6 h7 h8
          omega

/-- the ghost behind names that are told -/
def toldCv (G : Gh) (A : List AV) (y : Nat) : Value :=
  match (A[y]?).bind rowName with
  | some q => G.cv q.1 q.2
  | none => .slice none 0 0
def toldEt (L : List AV) (y : Nat) : Nat :=
  match tells L y with
  | some t => t.2
  | none => 0

structure Hand (P : Program) (st : St) (G : Gh) (w : World) (A L : List AV) (d : Nat) (stX : St) (GX : Gh) : Prop where
  mem : Mem P st G w
  len : A.length = L.length
  fit : ∀ (p : Nat) c c', A[p]? = some c → L[p]? = some c' → OutFit st c c'
  nodup : (outNames A L).Nodup
  pos : ∀ p t, tells L p = some t → 0 < tsize P t.2
  rows : ∀ x y, stX.rows x y = if x = d then (match tells L y with | some t => .live t.1 | none => .free) else .free
  box : ∀ s cs, stX.boxes s = some cs → ∃ s' cs', st.boxes s' = some cs' ∧ GX.bx s = G.bx s'
  cv : ∀ y, GX.cv d y = toldCv G A y
  et : ∀ y, GX.et d y = toldEt L y
  bad : ∀ b o u, stable P st G b o → w.cell? ⟨b, o, none⟩ = some u → ¬ GX.bad b o
  rep : ∀ (p : Nat) c, A[p]? = some c → ∃ u, Rep1 P st G w c u

/-- what lies behind a row that is told -/
theorem Hand.told (h : Hand P st G w A L d stX GX) {x y tip : Nat} (hl : stX.rows x y = .live tip) : x = d ∧ ∃ c c' t, A[y]? = some c ∧ L[y]? = some c' ∧ rowOf c' = some t ∧ tip = t.1 ∧ GX.et x y = t.2 ∧
    ((∃ (xs : List AV) (q : Nat × Nat), c = .sl xs (.row q.1 q.2 t.2) ∧ st.rows q.1 q.2 = .live tip ∧ GX.cv x y = G.cv q.1 q.2 ∧ tip = xs.length ∧ G.et q.1 q.2 = t.2) ∨ (GX.cv x y = .slice none 0 0 ∧ tip = 0)) := by
  rw [h.rows] at hl
  split at hl
  · rename_i hx
    subst hx
    refine ⟨rfl, ?_⟩
    cases ht : tells L y with
    | none => rw [ht] at hl; cases hl
    | some t =>
      rw [ht] at hl
      cases hl
      have ht' := ht
      unfold tells at ht'
      simp only [Option.bind_eq_some_iff] at ht'
      obtain ⟨c', hL, hr⟩ := ht'
      have hy : y < A.length := by rw [h.len]; exact (List.getElem?_eq_some_iff.1 hL).1
      have hA := List.getElem?_eq_getElem hy
      have hf := h.fit y _ _ hA hL
      obtain ⟨ys, a', b', rfl, hlen⟩ := rowOf_some hr
      refine ⟨A[y], _, t, hA, hL, hr, rfl, by rw [h.et]; simp [toldEt, ht], ?_⟩
      have hcv : GX.cv x y = toldCv G A y := h.cv y
      rw [hcv]
      unfold toldCv
      rw [hA]
      generalize A[y] = c at hA hf
      unfold OutFit at hf
      simp only at hf
      split at hf
      · rename_i xs p q e1
        obtain ⟨rfl, rfl, h3⟩ := hf
        left
        obtain ⟨u, hu⟩ := h.rep y _ hA
        obtain ⟨_, hu2⟩ := (hu : Rep1 P st G w (.sl ys (.row p q t.2)) u)
        split at h3
        · rename_i hh
          rw [hh] at hu2
          exact ⟨ys, (p, q), rfl, by simp only; rw [hh, h3, hlen], rfl, hlen, hu2.1.symm⟩
        · exact h3.elim
      · right
        exact ⟨rfl, by rw [hlen, hf]; rfl⟩
      · exact hf.elim
  · cases hl

theorem Hand.stable (h : Hand P st G w A L d stX GX) {b o : Nat} {u : Value} (hs : stable P st G b o) (hc : w.cell? ⟨b, o, none⟩ = some u) : stable P stX GX b o := by
  refine ⟨h.bad b o u hs hc, fun s cs hb => ?_, fun x y tip hl hblk => ?_⟩
  · obtain ⟨s', cs', h1, h2⟩ := h.box s cs hb
    rw [h2]; exact hs.2.1 s' cs' h1
  · obtain ⟨rfl, c, c', t, h1, h2, h3, h4, h5, h6⟩ := h.told hl
    rcases h6 with ⟨xs, q, rfl, h7, h8, h9, h10⟩ | ⟨h7, _⟩
    · rw [h8] at hblk
      have := hs.2.2 _ _ _ h7 hblk
      rw [h5, ← h10]; exact this
    · rw [h7] at hblk; cases hblk

/-- a cell that is told, under its new name -/
theorem Hand.rep1 (h : Hand P st G w A L d stX GX) {p : Nat} {c c' : AV} {u : Value} (h1 : A[p]? = some c) (h2 : L[p]? = some c') (hu : Rep1 P st G w c u) : Rep1 P stX GX w (retCell d p c') u := by
  have hf := h.fit p c c' h1 h2
  have hk : ∀ b o v, Go.Proofs.Ytnhfjdbnkpbbkab.stable P st G b o → w.cell? ⟨b, o, none⟩ = some v → Go.Proofs.Ytnhfjdbnkpbbkab.stable P stX GX b o ∧ w.cell? ⟨b, o, none⟩ = some v := fun b o v hs hc => ⟨h.stable hs hc, hc⟩
  unfold OutFit at hf
  split at hf
  · rename_i ys a' b' e'
    have hrow : tells L p = some (ys.length, e') := by simp [tells, h2, rowOf]
    have hlive : stX.rows d p = .live ys.length := by rw [h.rows, if_pos rfl, hrow]
    have het : GX.et d p = e' := by rw [h.et]; simp [toldEt, hrow]
    split at hf
    · rename_i xs a b e
      obtain ⟨rfl, rfl, h3⟩ := hf
      obtain ⟨q1, q2⟩ := (hu : Rep1 P st G w (.sl ys (.row a b e')) u)
      refine (⟨q1.mono hk, ?_⟩ : Rep1 P stX GX w (.sl ys (.row d p e')) u)
      rw [hlive]
      refine ⟨het.symm, Nat.le_refl _, fun _ => ?_⟩
      have hcv : GX.cv d p = G.cv a b := by rw [h.cv]; simp [toldCv, h1, rowName]
      rw [hcv]
      split at h3
      · rename_i hh
        rw [hh] at q2
        exact q2.2.2 h3.symm
      · exact h3.elim
    · subst hf
      obtain ⟨rfl, q2⟩ := (hu : Rep1 P st G w (.sl _ .nil) u)
      refine (⟨by rw [q2]; exact .slnil _ _ _ (by unfold maxLen; omega), ?_⟩ : Rep1 P stX GX w (.sl [] (.row d p e')) u)
      rw [hlive]
      refine ⟨het.symm, Nat.le_refl _, fun _ => ?_⟩
      rw [q2, h.cv]; simp [toldCv, h1, rowName]
    · exact hf.elim
  · split at hf
    · subst hf
      exact RepP.mono (Rep.inv_sl (Rep.of1 hu)) hk
    · exact hf.elim
  · split at hf
    · subst hf
      obtain ⟨rfl, q2⟩ := (hu : Rep1 P st G w (.sl _ .nil) u)
      exact ⟨rfl, q2⟩
    · exact hf.elim
  · rename_i hn1 hn2 hn3
    obtain ⟨rfl, h3⟩ := hf
    have hrp := plain_repP hu h3
    cases c' with
    | sl xs ow =>
      cases ow with
      | no => exact absurd rfl (hn2 _)
      | nil => exact absurd rfl (hn3 _)
      | row a b e => exact absurd rfl (hn1 _ _ _ _)
    | ptr _ _ => cases h3
    | eptr _ _ => cases h3
    | agg _ => cases h3
    | tup _ => cases h3
    | any => cases h3
    | skip => cases h3
    | _ => exact RepP.mono hrp hk

/-- the memory that is told -/
theorem Hand.memX (h : Hand P st G w A L d stX GX) (hbox : ∀ s cs, stX.boxes s = some cs → ∃ us t, w.heap[GX.bx s]? = some (.cells us t (0, 0)) ∧ us.size = cs.length ∧ ∀ (i : Nat) c, cs[i]? = some c → c.one = true ∧ ∃ u, us[i]? = some u ∧ Rep1 P stX GX w c u)
    (hinj : ∀ s cs s' cs', stX.boxes s = some cs → stX.boxes s' = some cs' → GX.bx s = GX.bx s' → s = s') : Mem P stX GX w := by
  refine ⟨hbox, hinj, fun x y tip hl => ?_, fun x y tip x' y' tip' g hl hl' hg hg' => ?_, fun s cs x y tip hb hl hg => ?_⟩
  · obtain ⟨rfl, c, c', t, h1, h2, h3, h4, h5, h6⟩ := h.told hl
    have hp : 0 < tsize P t.2 := h.pos y t (by simp [tells, h2, h3])
    rw [h5]
    refine ⟨hp, ?_⟩
    rcases h6 with ⟨xs, q, rfl, h7, h8, h9, h10⟩ | ⟨h7, h8⟩
    · rw [h8]
      obtain ⟨_, us, h11⟩ := h.mem.row _ _ _ h7
      rw [h10] at h11
      exact ⟨us, h11⟩
    · rw [h7, h8]
      exact ⟨[], World.ownsRow_nil _ _ _ _⟩
  · obtain ⟨rfl, c, c', t, h1, h2, h3, h4, h5, h6⟩ := h.told hl
    obtain ⟨rfl, e, e', t', g1, g2, g3, g4, g5, g6⟩ := h.told hl'
    refine ⟨rfl, ?_⟩
    rcases h6 with ⟨xs, q, rfl, h7, h8, h9, h10⟩ | ⟨h7, h8⟩
    · rcases g6 with ⟨xs', q', rfl, g7, g8, g9, g10⟩ | ⟨g7, g8⟩
      · rw [h8] at hg
        rw [g8] at hg'
        obtain ⟨e1, e2⟩ := h.mem.rinj _ _ _ _ _ _ g h7 g7 hg hg'
        exact outNames_inj A L h.nodup y y' _ _ _ _ (q.1, q.2) _ _ h1 h2 g1 g2 rfl (by simp [rowName, e1, e2]) h3 g3
      · rw [g7] at hg'; cases hg'
    · rw [h7] at hg; cases hg
  · obtain ⟨rfl, c, c', t, h1, h2, h3, h4, h5, h6⟩ := h.told hl
    obtain ⟨s', cs', h11, h12⟩ := h.box s cs hb
    rcases h6 with ⟨xs, q, rfl, h7, h8, h9, h10⟩ | ⟨h7, h8⟩
    · rw [h8, h12] at hg
      exact h.mem.brow _ _ _ _ _ h11 h7 hg
    · rw [h7] at hg; cases hg
end
end Go.Proofs.Ytnhfjdbnkpbbkab
