/- Where a function ends: its results, and what is told of them. -/
import Derived.Test.YtnhfjdbnkpbbkabLaxCode2
namespace Go.Proofs.Ytnhfjdbnkpbbkab
set_option linter.unusedVariables false
set_option linter.unusedSimpArgs false
open Go.RowKit

def resVal1 (P : Program) (s : St) : ResultVar → Option AV
  | .tmp t => some (s.tmps t)
  | .cell a t => match s.tmps a with
    | .ptr b off => match s.boxes b with
      | some cs => if off + tsize P t ≤ cs.length ∧ (P.underlying t).isSome = true ∧ (tagg P t = true ∨ tsize P t = 1) then some (if tagg P t then .agg ((cs.drop off).take (tsize P t)) else cellAt cs off) else none
      | none => none
    | _ => none
def resVals (P : Program) (s : St) : List ResultVar → Option (List AV)
  | [] => some []
  | x :: r => match resVal1 P s x, resVals P s r with
    | some v, some vs => some (v :: vs)
    | _, _ => none
def resVal (P : Program) (s : St) (rs : List ResultVar) : Option AV :=
  match resVals P s rs with
  | some [v] => some v
  | some vs => some (.tup vs)
  | none => none

/-- a cell as it is, and as it is told -/
def fit1 (P : Program) (R : Nat → Nat → RowSt) (c c' : AV) : Prop :=
  match c', c with
  | .bool a, .bool b => a = b
  | .int k a, .int k' b => if k = k' then a = b else False
  | .str a, .str b => a = b
  | .nilptr, .nilptr => True
  | .nilfn, .nilfn => True
  | .sl ys (.row _ _ e'), .sl xs (.row a b e) => if e' = e then (match R a b with | .live tip => 0 < tsize P e ∧ ys = xs ∧ tip = xs.length | _ => False) else False
  | .sl ys (.row _ _ e'), .sl _ .nil => 0 < tsize P e' ∧ ys = []
  | .sl ys .no, .sl xs _ => ys = xs
  | .sl ys .nil, .sl xs .nil => ys = xs
  | _, _ => False
def fits (P : Program) (R : Nat → Nat → RowSt) : List AV → List AV → Prop
  | [], [] => True
  | c :: A, c' :: L => fit1 P R c c' ∧ fits P R A L
  | _, _ => False
def shape1 : AV → AV → Bool
  | .agg a, .agg b => a.length == b.length
  | .agg _, _ => false
  | _, .agg _ => false
  | .tup _, _ => false
  | _, .tup _ => false
  | _, _ => true
def shapes : List AV → List AV → Bool
  | [], [] => true
  | a :: x, b :: y => shape1 a b && shapes x y
  | _, _ => false
def shape : AV → AV → Bool
  | .tup a, .tup b => shapes a b
  | a, b => shape1 a b
def nodupB : List (Nat × Nat) → Bool
  | [] => true
  | q :: r => !(r.any fun x => x.1 == q.1 && x.2 == q.2) && nodupB r
/-- where the boxes are among arguments -/
def boxIxs : Nat → List Arg → List Nat
  | _, [] => []
  | i, .box _ :: r => i :: boxIxs (i + 1) r
  | i, .val _ :: r => boxIxs (i + 1) r

def exitOK (P : Program) (rs : List ResultVar) (bi : List Nat) (r : Res) (s : St) : Prop :=
  match r.new, resVal P s rs with
  | none, some v => shape v r.val = true ∧ (match bi, r.box with
    | [], none => fits P s.rows v.cellsT r.val.cellsT ∧ nodupB (outNames v.cellsT r.val.cellsT) = true
    | [i], some cs => (match s.boxes i with
      | some A => A.length = cs.length ∧ fits P s.rows (A ++ v.cellsT) (cs ++ r.val.cellsT) ∧ nodupB (outNames (A ++ v.cellsT) (cs ++ r.val.cellsT)) = true
      | none => False)
    | _, _ => False)
  | _, _ => False
/-- what a function's code must do -/
def exitQ (P : Program) (rs : List ResultVar) (bi : List Nat) (r : Res) (e : Ex) (s : St) : Prop :=
  match e with
  | .exit _ => False
  | _ => exitOK P rs bi r s

def resRun (tmps : Array Value) : ResultVar → Sem Value
  | .tmp t => pure (tmps.getD t undef)
  | .cell y t => do loadVar t (← asAddr (tmps.getD y undef))
theorem results_eq (fn : Func) (tmps : Array Value) : results fn tmps = (do
    let vs ← fn.results.mapM (resRun tmps)
    pure (if h : vs.size = 1 then vs[0] else .tuple vs)) := rfl
section
variable {P : Program} {n : Nat} {w0 : World} {own own' : OwnP} {st st' stX : St} {G G' GX GE : Gh} {a : Act} {w w' : World} {A L : List AV} {d : Nat}

theorem run_res1 (hR : Rel P n w0 own st G a w) {x : ResultVar} {v : AV} (h : resVal1 P st x = some v) :
    ∃ u, (resRun a.tmps x).run P w = .ok u w ∧ Rep P st G w v u := by
  cases x with
  | tmp t =>
    cases h
    exact ⟨_, by simp [resRun], hR.tmps t⟩
  | cell y t =>
    simp only [resVal1] at h
    split at h
    · rename_i b off hy
      split at h
      · rename_i cs hb
        split at h
        · rename_i hc
          obtain ⟨u, h1, h2⟩ := pure_loadPtr (o := { (default : Oper) with op := .load t (.tmp y) }) hR rfl (by exact hy) hb hc.1 hc.2.1 hc.2.2
          refine ⟨u, ?_, by cases h; exact h2⟩
          have e1 := hR.tmps y
          rw [hy] at e1
          obtain ⟨_, e2⟩ := e1.inv_ptr
          simp only [execOp, Act.eval, e2, Instr.loadAt, Instr.sureAddr] at h1
          simp only [resRun, e2, asAddr]
          simp only [Sem.run_bind, Sem.run_map, Sem.run_pure, Result.andThen] at h1 ⊢
          cases hl : (loadVar t ⟨G.bx b, off, none⟩).run P w with
          | ok u' w' => rw [hl] at h1; simp at h1; obtain ⟨rfl, rfl⟩ := h1; rfl
          | halt h' w' => rw [hl] at h1; simp at h1
        · cases h
      · cases h
    · cases h

theorem run_res (hR : Rel P n w0 own st G a w) : ∀ (l : List ResultVar) (vs : List AV), resVals P st l = some vs →
    ∃ us : List Value, (l.mapM (resRun a.tmps)).run P w = .ok us w ∧ us.length = vs.length ∧ ∀ (i : Nat) v, vs[i]? = some v → ∃ u, us[i]? = some u ∧ Rep P st G w v u
  | [], vs, h => by
    cases h
    exact ⟨[], by simp, rfl, fun i v h => by simp at h⟩
  | x :: l, vs, h => by
    simp only [resVals] at h
    split at h
    · rename_i v vs' h1 h2
      cases h
      obtain ⟨u, h3, h4⟩ := run_res1 hR h1
      obtain ⟨us, h5, h6, h7⟩ := run_res hR l vs' h2
      refine ⟨u :: us, ?_, by simp [h6], fun i v' hv => ?_⟩
      · rw [List.mapM_cons]
        simp only [Sem.run_bind, h3, h5, Sem.run_pure, Result.andThen]
      · cases i with
        | zero => simp at hv; subst hv; exact ⟨u, rfl, h4⟩
        | succ i => simpa using h7 i v' (by simpa using hv)
    · cases h

theorem run_results (hR : Rel P n w0 own st G a w) {fn : Func} {v : AV} (h : resVal P st fn.results.toList = some v) : ∃ u, (results fn a.tmps).run P w = .ok u w ∧
    ((Rep P st G w v u ∧ ∀ cs, v ≠ .tup cs) ∨ ∃ vs us, v = .tup vs ∧ u = .tuple us ∧ us.size = vs.length ∧ ∀ (i : Nat) c, vs[i]? = some c → ∃ u, us[i]? = some u ∧ Rep P st G w c u) := by
  unfold resVal at h
  cases hv : resVals P st fn.results.toList with
  | none => rw [hv] at h; cases h
  | some vs =>
    obtain ⟨us, h1, h2, h3⟩ := run_res hR _ _ hv
    rw [hv] at h
    have hm : (results fn a.tmps).run P w = .ok (if h : us.toArray.size = 1 then us.toArray[0] else .tuple us.toArray) w := by
      rw [results_eq]
      have : fn.results = fn.results.toList.toArray := by simp
      rw [this]
      rw [List.mapM_toArray]
      simp only [Sem.run_bind, Sem.run_map, Result.andThen]
      rw [h1]
      rfl
    refine ⟨_, hm, ?_⟩
    clear hm h1 hv
    match vs, us, h2, h3, h with
    | [x], [u], _, h3, h =>
      obtain rfl : x = v := by simpa using h
      obtain ⟨u', h4, h5⟩ := h3 0 x rfl
      simp at h4; subst h4
      by_cases ht : ∃ cs, x = .tup cs
      · obtain ⟨cs, rfl⟩ := ht
        right
        obtain ⟨us', q1, q2, q3⟩ := h5
        exact ⟨cs, us', rfl, by simpa using q1, q2, fun i c hc => by obtain ⟨u, q4, q5⟩ := q3 i c hc; exact ⟨u, q4, Rep.ofA q5⟩⟩
      · left
        exact ⟨by simpa using h5, fun cs e => ht ⟨cs, e⟩⟩
    | [], [], _, h3, h =>
      obtain rfl : AV.tup [] = v := by simpa using h
      exact .inr ⟨[], #[], rfl, by simp, rfl, fun i c hc => by simp at hc⟩
    | x :: y :: vs, u0 :: u1 :: us, h2, h3, h =>
      obtain rfl : AV.tup (x :: y :: vs) = v := by simpa using h
      exact .inr ⟨_, (u0 :: u1 :: us).toArray, rfl, by simp, by simpa using h2, fun i c hc => by simpa using h3 i c hc⟩
    | [], _ :: _, h2, _, _ => simp at h2
    | _ :: _, [], h2, _, _ => simp at h2
    | [_], _ :: _ :: _, h2, _, _ => simp at h2
    | _ :: _ :: _, [_], h2, _, _ => simp at h2

theorem fit1_spec {c c' : AV} (h : fit1 P st.rows c c') : OutFit st c c' ∧ c'.one = true ∧ (∀ s off, c' ≠ .ptr s off) ∧ ∀ t, rowOf c' = some t → 0 < tsize P t.2 := by
  unfold fit1 at h
  split at h
  · subst h; exact ⟨⟨rfl, rfl⟩, rfl, by simp, by simp [rowOf]⟩
  · split at h
    · rename_i hk; subst hk h; exact ⟨⟨rfl, rfl⟩, rfl, by simp, by simp [rowOf]⟩
    · exact h.elim
  · subst h; exact ⟨⟨rfl, rfl⟩, rfl, by simp, by simp [rowOf]⟩
  · exact ⟨⟨rfl, rfl⟩, rfl, by simp, by simp [rowOf]⟩
  · exact ⟨⟨rfl, rfl⟩, rfl, by simp, by simp [rowOf]⟩
  · split at h
    · rename_i he
      subst he
      split at h
      · rename_i tip hr
        obtain ⟨h1, rfl, h3⟩ := h
        refine ⟨⟨rfl, rfl, ?_⟩, rfl, by simp, by simp [rowOf, h1]⟩
        rw [hr]; exact h3
      · exact h.elim
    · exact h.elim
  · obtain ⟨h1, h2⟩ := h
    exact ⟨h2, rfl, by simp, by simp [rowOf, h1]⟩
  · exact ⟨h, rfl, by simp, by simp [rowOf]⟩
  · exact ⟨h, rfl, by simp, by simp [rowOf]⟩
  · exact h.elim
theorem fits_spec : ∀ (A L : List AV), fits P st.rows A L → A.length = L.length ∧ ∀ (p : Nat) c c', A[p]? = some c → L[p]? = some c' → fit1 P st.rows c c'
  | [], [], _ => ⟨rfl, fun p c c' h => by simp at h⟩
  | c :: A, c' :: L, h => by
    obtain ⟨h1, h2⟩ := fits_spec A L h.2
    refine ⟨by simp [h1], fun p x x' hx hx' => ?_⟩
    cases p with
    | zero => simp at hx hx'; subst hx hx'; exact h.1
    | succ p => exact h2 p x x' (by simpa using hx) (by simpa using hx')
  | [], _ :: _, h => h.elim
  | _ :: _, [], h => h.elim
theorem nodupB_spec : ∀ (l : List (Nat × Nat)), nodupB l = true → l.Nodup
  | [], _ => List.nodup_nil
  | q :: l, h => by
    simp only [nodupB, Bool.and_eq_true, Bool.not_eq_true', List.any_eq_false] at h
    rw [List.nodup_cons]
    exact ⟨fun hm => h.1 q hm (by simp), nodupB_spec l h.2⟩

/-- a told value, where its cells are -/
theorem ret1 {v v' : AV} {u : Value} {site : Option (Nat × Nat)} {k : Nat} (hv : Rep P st G w v u) (hs : shape1 v v' = true)
    (hc : ∀ (p : Nat) c c' u, v.cells[p]? = some c → v'.cells[p]? = some c' → Rep1 P st G w c u → Rep1 P stX GX w (retCell d (k + p) c') u ∧ c'.one = true ∧ ∀ s off, c' ≠ .ptr s off) : RepA P stX GX w (retVal1 site d k v') u := by
  by_cases ha : ∃ cs, v = .agg cs
  · obtain ⟨cs, rfl⟩ := ha
    cases v' with
    | agg cs' =>
      simp only [shape1, beq_iff_eq] at hs
      obtain ⟨us, rfl, h1, h2⟩ := (hv : RepA P st G w (.agg cs) u)
      refine (⟨us, rfl, by rw [retCells_length]; omega, fun i c hi => ?_⟩ : RepA P stX GX w (.agg (retCells d k cs')) (.agg us))
      rw [retCells_get] at hi
      simp only [Option.map_eq_some_iff] at hi
      obtain ⟨c', h3, rfl⟩ := hi
      have hlt : i < cs.length := by rw [hs]; exact (List.getElem?_eq_some_iff.1 h3).1
      obtain ⟨_, u, h4, h5⟩ := h2 i _ (List.getElem?_eq_getElem hlt)
      obtain ⟨h6, h7, _⟩ := hc i _ c' u (List.getElem?_eq_getElem hlt) h3 h5
      exact ⟨retCell_one h7, u, h4, h6⟩
    | _ => simp [shape1] at hs
  · have ha' : ∀ cs, v ≠ .agg cs := fun cs e => ha ⟨cs, e⟩
    have hb' : ∀ cs, v' ≠ .agg cs := by rintro cs rfl; cases v <;> simp_all [shape1]
    have ht' : ∀ cs, v ≠ .tup cs := by rintro cs rfl; cases v' <;> simp_all [shape1]
    have e1 : v.cells = [v] := by cases v <;> first | rfl | exact absurd rfl (ha' _)
    have e2 : v'.cells = [v'] := by cases v' <;> first | rfl | exact absurd rfl (hb' _)
    obtain ⟨h6, h7, h8⟩ := hc 0 v v' u (by rw [e1]; rfl) (by rw [e2]; rfl) (hv.to1 ht' ha')
    have e3 : retVal1 site d k v' = retCell d k v' := by
      cases v' with
      | ptr s off => exact absurd rfl (h8 s off)
      | agg cs => exact absurd rfl (hb' cs)
      | _ => rfl
    rw [e3, RepA_eq (by intro cs e; have := retCell_one (d := d) (p := k) h7; rw [e] at this; cases this)]
    simpa using h6
theorem shape1_cells {v v' : AV} (h : shape1 v v' = true) : v.cells.length = v'.cells.length := by
  cases v <;> cases v' <;> simp_all [shape1, AV.cells]
theorem rets {site : Option (Nat × Nat)} : ∀ (vs vs' : List AV) (us : List Value) (k : Nat), shapes vs vs' = true → us.length = vs.length → (∀ (i : Nat) v, vs[i]? = some v → ∃ u, us[i]? = some u ∧ Rep P st G w v u) →
    (∀ (p : Nat) c c' u, (vs.flatMap AV.cells)[p]? = some c → (vs'.flatMap AV.cells)[p]? = some c' → Rep1 P st G w c u → Rep1 P stX GX w (retCell d (k + p) c') u ∧ c'.one = true ∧ ∀ s off, c' ≠ .ptr s off) →
    vs'.length = vs.length ∧ ∀ (i : Nat) c, (retVals site d k vs')[i]? = some c → ∃ u, us[i]? = some u ∧ RepA P stX GX w c u
  | [], [], us, k, _, _, _, _ => ⟨rfl, fun i c h => by simp [retVals] at h⟩
  | v :: vs, v' :: vs', us, k, hs, hl, hv, hc => by
    simp only [shapes, Bool.and_eq_true] at hs
    obtain ⟨u, us', rfl⟩ : ∃ u us', us = u :: us' := by
      cases us with
      | nil => simp at hl
      | cons u us' => exact ⟨u, us', rfl⟩
    have hlen := shape1_cells hs.1
    obtain ⟨h1, h2⟩ := rets vs vs' us' (k + v'.cells.length) hs.2 (by simpa using hl) (fun i x hx => by simpa using hv (i + 1) x (by simpa using hx)) (by
      intro p c c' u h1 h2 h3
      have := hc (v.cells.length + p) c c' u (by simp only [List.flatMap_cons]; rw [List.getElem?_append_right (by omega)]; simpa using h1) (by simp only [List.flatMap_cons]; rw [hlen, List.getElem?_append_right (by omega)]; simpa using h2) h3
      rw [hlen, ← Nat.add_assoc] at this
      exact this)
    refine ⟨by simp [h1], fun i c hi => ?_⟩
    cases i with
    | zero =>
      simp only [retVals, List.getElem?_cons_zero, Option.some.injEq] at hi
      subst hi
      obtain ⟨u0, e1, h4⟩ := hv 0 v rfl
      simp at e1; subst e1
      exact ⟨u, rfl, ret1 h4 hs.1 fun p c c' u0 h1 h2 h3 => hc p c c' u0 (by simp only [List.flatMap_cons]; rw [List.getElem?_append_left (List.getElem?_eq_some_iff.1 h1).1]; exact h1) (by simp only [List.flatMap_cons]; rw [List.getElem?_append_left (List.getElem?_eq_some_iff.1 h2).1]; exact h2) h3⟩
    | succ i =>
      simp only [retVals, List.getElem?_cons_succ] at hi
      simpa using h2 i c hi
  | [], _ :: _, _, _, hs, _, _, _ => by simp [shapes] at hs
  | _ :: _, [], _, _, hs, _, _, _ => by simp [shapes] at hs
theorem retVals_length (site : Option (Nat × Nat)) (d : Nat) : ∀ (vs : List AV) (k : Nat), (retVals site d k vs).length = vs.length
  | [], _ => rfl
  | v :: vs, k => by simp [retVals, retVals_length site d vs]
end
end Go.Proofs.Ytnhfjdbnkpbbkab
