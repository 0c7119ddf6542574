/- An operation does the same wherever what it looks at is the same; two that touch nothing of one another may change places. -/
import Derived.Test.YtnhfjdbnkpbbkabLaxX
namespace Go.Proofs.Ytnhfjdbnkpbbkab
set_option linter.unusedVariables false
set_option linter.unusedSimpArgs false
open Go.RowKit

section
variable {P : Program} {n : Nat} {st st' st1 : St} {o : Oper} {Γ : Nat → Option Con} {ops : Array Oper} {ft : Foot} {E : Eff}

theorem map_ev {l : List Operand} (h : ∀ x ∈ l, st.ev x = st'.ev x) : l.map st.ev = l.map st'.ev := List.map_congr_left h
theorem opt_map_ev {l : Option Operand} (h : ∀ x ∈ l.toArray, st.ev x = st'.ev x) : l.map st.ev = l.map st'.ev := by
  cases l with
  | none => rfl
  | some x => simp only [Option.map_some]; rw [h x (by simp)]
theorem parts_ev {l : List (Nat × Operand)} (h : ∀ q ∈ l, st.ev q.2 = st'.ev q.2) : (l.map fun q => (q.1, st.ev q.2)) = l.map fun q => (q.1, st'.ev q.2) :=
  List.map_congr_left fun q hq => by rw [h q hq]

theorem eff_local (hev : ∀ x ∈ o.op.operands, st.ev x = st'.ev x) (he : eff Γ P o st = some (ft, E)) (hb : ∀ s, s ∈ ft.rd ∨ s ∈ ft.wr → st.boxes s = st'.boxes s) (hr : ∀ h ∈ ft.nm, ∀ y, st.rows h y = st'.rows h y) :
    eff Γ P o st' = some (ft, E) := by
  unfold eff at he ⊢
  simp only at he ⊢
  split at he
  all_goals (rename_i hop; try rw [hop] at hev)
  · rw [← hev _ (by simp [Op.operands])]; exact he
  · rw [← hev _ (by simp [Op.operands])]; exact he
  · rename_i c x y
    rw [← hev c (by simp [Op.operands]), ← hev x (by simp [Op.operands]), ← hev y (by simp [Op.operands])]; exact he
  · -- alloc
    split at he
    · rename_i d z hd hz
      split at he
      · rename_i hc
        have hft : ft = ⟨[], [d], []⟩ := by simp only [Option.some.injEq, Prod.mk.injEq] at he; exact he.1.symm
        have h1 := hb d (.inr (by rw [hft]; simp))
        rw [h1] at hc
        rw [if_pos hc]; exact he
      · cases he
    · cases he
  · -- box
    rename_i e v
    rw [← hev v (by simp [Op.operands])]
    split at he
    · rename_i d hd
      split at he
      · rename_i hc
        have hft : ft = ⟨[], [d], []⟩ := by simp only [Option.some.injEq, Prod.mk.injEq] at he; exact he.1.symm
        have h1 := hb d (.inr (by rw [hft]; simp))
        rw [h1] at hc
        rw [if_pos hc]; exact he
      · cases he
    · cases he
  · -- build
    rename_i t parts
    have hp : ∀ q ∈ parts.toList, st.ev q.2 = st'.ev q.2 := fun q hq => hev q.2 (by simp [Op.operands]; exact ⟨q.1, by simpa using hq⟩)
    rw [← parts_ev hp, ← all_congr' (f := fun (q : Nat × Operand) => allOne (st.ev q.2).cells) (g := fun q => allOne (st'.ev q.2).cells) (fun q hq => by rw [hp q hq])]
    exact he
  · -- load
    rename_i t x
    rw [← hev x (by simp [Op.operands])]
    split at he
    · rename_i s off hx
      split at he
      · rename_i cs hcs
        split at he
        · rename_i hc
          have hft : ft = ⟨[s], [], []⟩ := by simp only [Option.some.injEq, Prod.mk.injEq] at he; exact he.1.symm
          have h1 := hb s (.inl (by rw [hft]; simp))
          rw [← h1, hcs]
          simp only
          rw [if_pos hc]; exact he
        · cases he
      · cases he
    · exact he
    · cases he
  · -- store
    rename_i t x y
    rw [← hev x (by simp [Op.operands]), ← hev y (by simp [Op.operands])]
    split at he
    · rename_i s off hx
      split at he
      · rename_i cs hcs
        split at he
        · rename_i hc
          have hft : ft = ⟨[], [s], []⟩ := by simp only [Option.some.injEq, Prod.mk.injEq] at he; exact he.1.symm
          have h1 := hb s (.inr (by rw [hft]; simp))
          rw [← h1, hcs]
          simp only
          rw [if_pos hc]; exact he
        · cases he
      · cases he
    · cases he
  · rw [← hev _ (by simp [Op.operands])]; exact he
  · rename_i op xT x y yT
    rw [← hev x (by simp [Op.operands]), ← hev y (by simp [Op.operands])]; exact he
  · rw [← hev _ (by simp [Op.operands])]; exact he
  · rw [← hev _ (by simp [Op.operands])]; exact he
  · -- slice
    rename_i t x lo hi mx
    rw [← hev x (by simp [Op.operands]), ← opt_map_ev (l := lo) (fun y hy => hev y (by simp [Op.operands]; simp at hy; simp [hy])), ← opt_map_ev (l := hi) (fun y hy => hev y (by simp [Op.operands]; simp at hy; simp [hy])), ← opt_map_ev (l := mx) (fun y hy => hev y (by simp [Op.operands]; simp at hy; simp [hy]))]
    exact he
  · rename_i t x f
    rw [← hev x (by simp [Op.operands])]; exact he
  · rename_i t x f
    rw [← hev x (by simp [Op.operands])]; exact he
  · rename_i t x i
    rw [← hev x (by simp [Op.operands]), ← hev i (by simp [Op.operands])]; exact he
  · rename_i t x i
    rw [← hev x (by simp [Op.operands]), ← hev i (by simp [Op.operands])]; exact he
  · rename_i x i
    rw [← hev x (by simp [Op.operands])]; exact he
  · -- buildSlice
    rename_i t len parts
    have hp : ∀ q ∈ parts.toList, st.ev q.2 = st'.ev q.2 := fun q hq => hev q.2 (by simp [Op.operands]; exact ⟨q.1, by simpa using hq⟩)
    have hm : (parts.toList.map fun q => (st.ev q.2).drop) = parts.toList.map fun q => (st'.ev q.2).drop := List.map_congr_left fun q hq => by rw [hp q hq]
    rw [← hm]
    split at he
    · rename_i d e hd hu
      split at he
      · rename_i z hz hfr
        split at he
        · rename_i hc
          have hft : ft = ⟨[], [], [d]⟩ := by simp only [Option.some.injEq, Prod.mk.injEq] at he; exact he.1.symm
          have h1 := hr d (by rw [hft]; simp) 0
          have hall : parts.toList.all (fun q => (st'.ev q.2).plain && allOne (st'.ev q.2).cells && decide ((st'.ev q.2).cells.length = tsize P e)) = true := by
            rw [← all_congr' (f := fun (q : Nat × Operand) => (st.ev q.2).plain && allOne (st.ev q.2).cells && decide ((st.ev q.2).cells.length = tsize P e)) (fun q hq => by rw [hp q hq])]
            exact hc.1
          simp only [hd, hu, hz, ← h1, hfr]
          rw [if_pos ⟨hall, hc.2⟩]; exact he
        · cases he
      · cases he
    · cases he
  · -- call
    rename_i c
    split at he
    · rename_i d b hd hc
      rw [← map_ev (l := c.args.toList) (fun x hx => hev x (by simp [Op.operands, Call.operands, hc]; simpa using hx))]
      exact builtin_local he hr
    · rename_i d f hd hc
      rw [← hev f (by simp [Op.operands, Call.operands, hc]), ← map_ev (l := c.args.toList) (fun x hx => hev x (by simp [Op.operands, Call.operands, hc]; right; simpa using hx))]
      split at he
      · exact effCall_local he (fun s hs => hb s (.inr hs)) hr
      · cases he
    · cases he
  · cases he

theorem eff_foot (he : eff Γ P o st = some (ft, E)) : (∀ x ∈ E.boxes, x.1 ∈ ft.wr) ∧ ∀ x ∈ E.rows, x.1.1 ∈ ft.nm := by
  have pureC : ∀ {x : AV}, pureE x = some (ft, E) → (∀ x ∈ E.boxes, x.1 ∈ ft.wr) ∧ ∀ x ∈ E.rows, x.1.1 ∈ ft.nm := by
    intro x h; cases h; exact ⟨fun x h => (by simp at h), fun x h => (by simp at h)⟩
  have oblC : ∀ {p : Prop} {x : AV}, oblE p x = some (ft, E) → (∀ x ∈ E.boxes, x.1 ∈ ft.wr) ∧ ∀ x ∈ E.rows, x.1.1 ∈ ft.nm := by
    intro p x h; cases h; exact ⟨fun x h => (by simp at h), fun x h => (by simp at h)⟩
  unfold eff at he
  simp only at he
  split at he
  case h_20 => 
    split at he
    · exact ⟨fun x h => (by rw [(builtin_foot he).1] at h; simp at h), (builtin_foot he).2⟩
    · split at he
      · exact effCall_foot he
      · cases he
    · cases he
  all_goals (try (exact pureC he))
  all_goals (repeat' (split at he))
  all_goals first
    | exact pureC he
    | exact oblC he
    | (cases he; done)
    | (cases he; constructor <;> intro x h <;> simp at h <;> simp [h])

/-- what an operation looks at -/
def usesOf (ops : Array Oper) (o : Oper) : List Tmp := o.looksAt ops

/-- two steps touch nothing of one another -/
def apartF (ops : Array Oper) (o1 o2 : Oper) : Bool :=
  (match o1.dst with | some d => !(usesOf ops o2).contains d && o2.dst != some d | none => true) && (match o2.dst with | some d => !(usesOf ops o1).contains d | none => true)

theorem upd_upd {α : Type} (f : Nat → α) {k k' : Nat} (v v' : α) (h : k ≠ k') : upd (upd f k v) k' v' = upd (upd f k' v') k v := by
  funext x
  unfold upd
  by_cases h1 : x = k
  · subst h1
    have : (x == k') = false := by simpa using h
    simp [this]
  · have h2 : (x == k) = false := by simpa using h1
    simp [h2]
theorem updAll_at (f : Nat → Option (List AV)) : ∀ (l : List (Nat × List AV)) (x : Nat), (∀ q ∈ l, q.1 ≠ x) → updAll f l x = f x
  | [], x, _ => rfl
  | (k, c) :: l, x, h => by
    have h1 : ∀ f', updAll f' l x = f' x := fun f' => updAll_at f' l x (fun q hq => h q (by simp [hq]))
    simp only [updAll]
    rw [h1]
    have : (x == k) = false := by have := h (k, c) (by simp); simpa using fun e => this e.symm
    simp [upd, this]
theorem updAll_in : ∀ (l : List (Nat × List AV)) (f g : Nat → Option (List AV)) (x : Nat), (∃ q ∈ l, q.1 = x) → updAll f l x = updAll g l x
  | [], f, g, x, h => by obtain ⟨q, h, _⟩ := h; simp at h
  | (k, c) :: l, f, g, x, h => by
    simp only [updAll]
    by_cases hl : ∃ q ∈ l, q.1 = x
    · exact updAll_in l _ _ x hl
    · have hn : ∀ q ∈ l, q.1 ≠ x := fun q hq e => hl ⟨q, hq, e⟩
      rw [updAll_at _ l x hn, updAll_at _ l x hn]
      obtain ⟨q, hq, e⟩ := h
      rcases List.mem_cons.1 hq with rfl | hq
      · simp at e; subst e; simp [upd]
      · exact absurd ⟨q, hq, e⟩ hl
theorem updAll_comm (f : Nat → Option (List AV)) {l l' : List (Nat × List AV)} (h : ∀ q ∈ l, ∀ q' ∈ l', q.1 ≠ q'.1) : updAll (updAll f l) l' = updAll (updAll f l') l := by
  funext x
  by_cases h1 : ∃ q ∈ l, q.1 = x
  · have hn : ∀ q ∈ l', q.1 ≠ x := by
      obtain ⟨q, hq, e⟩ := h1
      intro q' hq' e'
      exact h q hq q' hq' (by rw [e, e'])
    rw [updAll_at _ l' x hn]
    exact updAll_in l _ _ x h1
  · have hn : ∀ q ∈ l, q.1 ≠ x := fun q hq e => h1 ⟨q, hq, e⟩
    rw [updAll_at _ l x hn]
    by_cases h2 : ∃ q ∈ l', q.1 = x
    · exact updAll_in l' _ _ x h2
    · have hn' : ∀ q ∈ l', q.1 ≠ x := fun q hq e => h2 ⟨q, hq, e⟩
      rw [updAll_at _ l' x hn', updAll_at _ l' x hn', updAll_at _ l x hn]
theorem updRows_out (l : List ((Nat × Nat) × RowSt)) (f : Nat → Nat → RowSt) (x y : Nat) (h : ∀ q ∈ l, q.1.1 ≠ x) : updRows f l x y = f x y :=
  updRows_at l f x y (fun q hq e => h q hq (by rw [e]))
theorem updRows_same : ∀ (l : List ((Nat × Nat) × RowSt)) (f g : Nat → Nat → RowSt) (x y : Nat), f x y = g x y → updRows f l x y = updRows g l x y
  | [], f, g, x, y, h => h
  | (k, c) :: l, f, g, x, y, h => by
    simp only [updRows]
    exact updRows_same l _ _ x y (by unfold upd2; rw [h])
theorem updRows_comm (f : Nat → Nat → RowSt) {l l' : List ((Nat × Nat) × RowSt)} (h : ∀ q ∈ l, ∀ q' ∈ l', q.1.1 ≠ q'.1.1) : updRows (updRows f l) l' = updRows (updRows f l') l := by
  funext x y
  by_cases h1 : ∃ q ∈ l, q.1.1 = x
  · have hn : ∀ q ∈ l', q.1.1 ≠ x := by
      obtain ⟨q, hq, e⟩ := h1
      intro q' hq' e'
      exact h q hq q' hq' (by rw [e, e'])
    rw [updRows_out l' _ x y hn]
    exact updRows_same l _ _ x y (updRows_out l' f x y hn).symm
  · have hn : ∀ q ∈ l, q.1.1 ≠ x := fun q hq e => h1 ⟨q, hq, e⟩
    rw [updRows_out l _ x y hn]
    exact updRows_same l' _ _ x y (updRows_out l f x y hn)
end
end Go.Proofs.Ytnhfjdbnkpbbkab
