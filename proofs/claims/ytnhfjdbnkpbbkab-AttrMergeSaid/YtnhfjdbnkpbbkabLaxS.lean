/- What a function's contract is, by content (Meets), and a call by it. -/
import Derived.Test.YtnhfjdbnkpbbkabLaxR
namespace Go.Proofs.Ytnhfjdbnkpbbkab
set_option linter.unusedVariables false
set_option linter.unusedSimpArgs false
open Go.RowKit

def boxOf : List Arg → List AV
  | [] => []
  | .box cs :: _ => cs
  | .val _ :: r => boxOf r
/-- the state in which a function begins -/
def entrySt (args : List Arg) : St :=
  { tmps := fun i => match args[i]? with | some (.val v) => v | some (.box _) => .ptr i 0 | none => .skip
    boxes := fun s => match args[s]? with | some (.box cs) => some (retCells 1000 0 cs) | _ => none
    rows := updRows (fun _ _ => .free) (retRows 1000 0 (boxOf args)) }
/-- what it leaves -/
def exitSt (d : Nat) (site : Option (Nat × Nat)) (r : Res) : St :=
  { tmps := fun _ => .skip
    boxes := fun x => match site, r.box with
      | some (_, s), some cs => if x = s then some (retCells d 0 cs) else if x = d then r.new.map (retCells d cs.length) else none
      | _, _ => if x = d then r.new.map (retCells d 0) else none
    rows := updRows (fun _ _ => .free) (retRows d 0 r.outs) }

/-- what a call may write -/
structure OwnOf (P : Program) (st : St) (G : Gh) (own : OwnP) : Prop where
  box : ∀ s cs, st.boxes s = some cs → own (G.bx s) = some 0
  row : ∀ a b tip g, st.rows a b = .live tip → (G.cv a b).ownBlock = some g → own g = some (tip * tsize P (G.et a b))
  only : ∀ b t, own b = some t → (∃ s cs, st.boxes s = some cs ∧ G.bx s = b) ∨ ∃ x y tip, st.rows x y = .live tip ∧ (G.cv x y).ownBlock = some b

structure Back (P : Program) (w : World) (own : OwnP) (GE : Gh) (d : Nat) (site : Option (Nat × Nat)) (r : Res) (GX : Gh) (v : Value) (w' : World) : Prop where
  mem : Mem P (exitSt d site r) GX w'
  val : Rep P (exitSt d site r) GX w' (retVal site d ((r.box.getD []).length + (r.new.getD []).length) r.val) v
  bx : ∀ i s, site = some (i, s) → GX.bx s = GE.bx i
  pres : Pres w own w'
  obox : ∀ s cs, (exitSt d site r).boxes s = some cs → w.heap.size ≤ GX.bx s ∨ own (GX.bx s) = some 0
  orow : ∀ a b tip g, (exitSt d site r).rows a b = .live tip → (GX.cv a b).ownBlock = some g → w.heap.size ≤ g ∨ ∃ t, own g = some t ∧ t ≤ tip * tsize P (GX.et a b)
  bad : GX.bad = GE.bad
  rbad : ∀ a b tip g o, (exitSt d site r).rows a b = .live tip → (GX.cv a b).ownBlock = some g → ¬ GX.bad g o

structure Came (P : Program) (args : List Arg) (vals : Array Value) (w : World) (GE : Gh) (own : OwnP) : Prop where
  size : vals.size = args.length
  mem : Mem P (entrySt args) GE w
  tmps : ∀ i, Rep P (entrySt args) GE w ((entrySt args).tmps i) (vals.getD i undef)
  own : OwnOf P (entrySt args) GE own
  bad : ∀ b o, GE.bad b o → b < w.heap.size
  rbad : ∀ a b tip g o, (entrySt args).rows a b = .live tip → (GE.cv a b).ownBlock = some g → ¬ GE.bad g o

/-- a function's contract, by content -/
structure Meets (P : Program) (f : Nat) (F : Con) : Prop where
  enters : ∀ args w, (callFunc f args).run P w = .ok (.enter f args) w
  calls : ∀ (args : List Arg) (vals : Array Value) (w : World) (GE : Gh) (own : OwnP) (d : Nat) (site : Option (Nat × Nat)) (q : Prop) (r : Res),
    F args = some (q, r) → q → Came P args vals w GE own → site.isSome = r.box.isSome → (∀ i s, site = some (i, s) → s ≠ d ∧ ∃ cs, args[i]? = some (.box cs)) →
    Calls P f vals w fun e w' => ∃ GX v, e = .returned v ∧ Back P w own GE d site r GX v w'

def Sound (P : Program) (Γ : Nat → Option Con) : Prop := ∀ f F, Γ f = some F → Meets P f F

section
variable {P : Program} {n : Nat} {w0 : World} {own : OwnP} {st st' stX : St} {G G' GX : Gh} {a : Act} {w w' : World} {o : Oper} {A L : List AV} {d : Nat}

structure PassSpec (cs : List AV) (R : Nat → Nat → RowSt) (z : Prop × List AV × List ((Nat × Nat) × RowSt)) : Prop where
  len : z.2.1.length = cs.length
  fit : ∀ (p : Nat) c c', cs[p]? = some c → z.2.1[p]? = some c' → OutFit { tmps := fun _ => .skip, boxes := fun _ => none, rows := R } c c' ∧ (∀ t, rowOf c' = some t → ∃ q, rowName c = some q ∧ rowName c' = some q)
  nodup : (outNames cs z.2.1).Nodup
  live : ∀ q ∈ outNames cs z.2.1, ∃ tip, R q.1 q.2 = .live tip
  rows : ∀ x y, updRows R z.2.2 x y = if (x, y) ∈ outNames cs z.2.1 then .dead else R x y

theorem passCells_spec : ∀ (cs : List AV) (R : Nat → Nat → RowSt), cs.all AV.plainCell = true → (passCells R cs).1 → PassSpec cs R (passCells R cs)
  | [], R, _, _ => ⟨rfl, fun p c c' h => by simp at h, by simp [passCells, outNames], by simp [passCells, outNames], by simp [passCells, outNames, updRows]⟩
  | c :: cs, R, hp, ho => by
    simp only [List.all_cons, Bool.and_eq_true] at hp
    obtain ⟨hp1, hp2⟩ := hp
    -- a cell that goes as it is, or without its row
    have plain : ∀ c1, passCells R (c :: cs) = ((passCells R cs).1, c1 :: (passCells R cs).2.1, (passCells R cs).2.2) → rowName c1 = none → OutFit { tmps := fun _ => .skip, boxes := fun _ => none, rows := R } c c1 → PassSpec (c :: cs) R (passCells R (c :: cs)) := by
      intro c1 e hn hf
      rw [e] at ho ⊢
      obtain ⟨h1, h2, h3, h4, h5⟩ := passCells_spec cs R hp2 ho
      have hon : outNames (c :: cs) (c1 :: (passCells R cs).2.1) = outNames cs (passCells R cs).2.1 := by
        simp only [outNames, hn]
        split <;> simp_all
      refine ⟨by simp [h1], ?_, by rw [hon]; exact h3, by rw [hon]; exact h4, by rw [hon]; exact h5⟩
      intro p x x' hx hx'
      cases p with
      | zero =>
        simp at hx hx'
        subst hx hx'
        refine ⟨hf, fun t ht => ?_⟩
        obtain ⟨q, hq⟩ := rowName_of ht
        rw [hn] at hq; cases hq
      | succ p => exact h2 p x x' (by simpa using hx) (by simpa using hx')
    by_cases hc : ∃ xs p q e, c = .sl xs (.row p q e)
    · obtain ⟨xs, p, q, e, rfl⟩ := hc
      cases hr : R p q with
      | live tip =>
        have e1 : passCells R (.sl xs (.row p q e) :: cs) = (tip = xs.length ∧ (passCells (upd2 R (p, q) .dead) cs).1, .sl xs (.row p q e) :: (passCells (upd2 R (p, q) .dead) cs).2.1, ((p, q), .dead) :: (passCells (upd2 R (p, q) .dead) cs).2.2) := by
          simp only [passCells, hr]
        rw [e1] at ho ⊢
        obtain ⟨ho1, ho2⟩ := ho
        obtain ⟨h1, h2, h3, h4, h5⟩ := passCells_spec cs (upd2 R (p, q) .dead) hp2 ho2
        have hon : outNames (.sl xs (.row p q e) :: cs) (.sl xs (.row p q e) :: (passCells (upd2 R (p, q) .dead) cs).2.1) = (p, q) :: outNames cs (passCells (upd2 R (p, q) .dead) cs).2.1 := by
          simp [outNames, rowName]
        have hnot : ∀ x y, (x, y) ∈ outNames cs (passCells (upd2 R (p, q) .dead) cs).2.1 → ¬ (x = p ∧ y = q) := by
          rintro x y hm ⟨rfl, rfl⟩
          obtain ⟨t, ht⟩ := h4 _ hm
          rw [upd2_same] at ht; cases ht
        refine ⟨by simp [h1], ?_, ?_, ?_, ?_⟩
        · intro k x x' hx hx'
          cases k with
          | zero =>
            simp at hx hx'
            subst hx hx'
            exact ⟨⟨rfl, rfl, by simp only [hr]; exact ho1⟩, fun t _ => ⟨(p, q), rfl, rfl⟩⟩
          | succ k =>
            obtain ⟨f1, f2⟩ := h2 k x x' (by simpa using hx) (by simpa using hx')
            refine ⟨?_, f2⟩
            unfold OutFit at f1 ⊢
            split
            · rename_i ys a' b' e'
              simp only at f1
              split
              · rename_i xs' a b e0
                simp only at f1
                refine ⟨f1.1, f1.2.1, ?_⟩
                by_cases hh : a = p ∧ b = q
                · obtain ⟨rfl, rfl⟩ := hh
                  have := f1.2.2
                  rw [upd2_same] at this
                  exact this.elim
                · have := f1.2.2
                  rw [upd2_other _ _ hh] at this
                  exact this
              · exact f1
              · simp_all
            · exact f1
            · exact f1
            · simp_all
        · rw [hon, List.nodup_cons]
          exact ⟨fun hm => hnot p q hm ⟨rfl, rfl⟩, h3⟩
        · rw [hon]
          intro x hx
          rcases List.mem_cons.1 hx with rfl | hx
          · exact ⟨tip, hr⟩
          · obtain ⟨t, ht⟩ := h4 x hx
            rw [upd2_other _ _ (hnot x.1 x.2 hx)] at ht
            exact ⟨t, ht⟩
        · intro x y
          rw [hon]
          simp only [updRows]
          rw [h5]
          by_cases hm : (x, y) ∈ outNames cs (passCells (upd2 R (p, q) .dead) cs).2.1
          · rw [if_pos hm, if_pos (by simp [hm])]
          · rw [if_neg hm]
            by_cases hh : x = p ∧ y = q
            · obtain ⟨rfl, rfl⟩ := hh
              rw [upd2_same, if_pos (by simp)]
            · rw [upd2_other _ _ hh, if_neg (by simp only [List.mem_cons, hm, or_false, Prod.mk.injEq]; exact hh)]
      | free => exact plain (.sl xs .no) (by simp only [passCells, hr]) rfl rfl
      | dead => exact plain (.sl xs .no) (by simp only [passCells, hr]) rfl rfl
    · have e1 : passCells R (c :: cs) = ((passCells R cs).1, c :: (passCells R cs).2.1, (passCells R cs).2.2) := by
        cases c with
        | sl xs ow =>
          cases ow with
          | row p q e => exact absurd ⟨xs, p, q, e, rfl⟩ hc
          | _ => rfl
        | _ => rfl
      have hn : rowName c = none := by
        cases c with
        | sl xs ow =>
          cases ow with
          | row p q e => exact absurd ⟨xs, p, q, e, rfl⟩ hc
          | _ => rfl
        | _ => rfl
      refine plain c e1 hn ?_
      unfold OutFit
      cases c with
      | sl xs ow =>
        cases ow with
        | row p q e => exact absurd ⟨xs, p, q, e, rfl⟩ hc
        | no => rfl
        | nil => rfl
      | _ => exact ⟨rfl, hp1⟩
end
end Go.Proofs.Ytnhfjdbnkpbbkab
