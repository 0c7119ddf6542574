/- A region whose operations come in any order, by an invariant: one obligation for each operation, none for the orders. -/
import Derived.Test.YtnhfjdbnkpbbkaaKit
import Derived.Deep.RegionHeld3
namespace Go.Proofs.Ytnhfjdbnkpbbkaa
set_option linter.unusedVariables false
open Go.RowKit

/-- what must have come before operation i -/
def depsOf (md : Region.Mode) (ops : Array Oper) (i : Nat) : List Nat :=
  match ops[i]? with
  | some o => (o.after.toList.filter (Region.binds md)).map (·.on)
  | none => []
/-- the act with the values of the operations in a list -/
def putsOf (ops : Array Oper) (vals : Nat → Value) : List Nat → Act → Act
  | [], a => a
  | i :: r, a => putsOf ops vals r (a.put ((ops[i]?).bind (·.dst)) (vals i))

/-- what is put is what is listed, and no more -/
structure Agree (ops : Array Oper) (vals : Nat → Value) (a0 : Act) (L : Nat → Prop) (a : Act) : Prop where
  defers : a.defers = a0.defers
  size : a.tmps.size = a0.tmps.size
  out : ∀ t, (∀ i, L i → (ops[i]?).bind (·.dst) ≠ some t) → a.tmps.getD t undef = a0.tmps.getD t undef
  into : ∀ i t, L i → (ops[i]?).bind (·.dst) = some t → t < a0.tmps.size → a.tmps.getD t undef = vals i

theorem Agree.unique {ops : Array Oper} {vals : Nat → Value} {a0 a a' : Act} {L : Nat → Prop} (h : Agree ops vals a0 L a) (h' : Agree ops vals a0 L a') : a = a' := by
  obtain ⟨t, d⟩ := a
  obtain ⟨t', d'⟩ := a'
  have e1 : d = d' := h.defers.trans h'.defers.symm
  have e2 : t = t' := by
    have hs : t.size = t'.size := h.size.trans h'.size.symm
    apply Array.ext hs
    intro k h1 h2
    have g : t.getD k undef = t'.getD k undef := by
      by_cases hx : ∃ i, L i ∧ (ops[i]?).bind (·.dst) = some k
      · obtain ⟨i, hi, hd⟩ := hx
        have hk : k < a0.tmps.size := by have := h.size; simp only at this; omega
        exact (h.into i k hi hd hk).trans (h'.into i k hi hd hk).symm
      · have hn : ∀ i, L i → (ops[i]?).bind (·.dst) ≠ some k := fun i hi hd => hx ⟨i, hi, hd⟩
        exact (h.out k hn).trans (h'.out k hn).symm
    simpa [Array.getD_eq_getD_getElem?, h1, h2] using g
  rw [e1, e2]

theorem Agree.none {ops : Array Oper} {vals : Nat → Value} {a0 : Act} {L : Nat → Prop} (hL : ∀ i, ¬ L i) : Agree ops vals a0 L a0 :=
  ⟨rfl, rfl, fun _ _ => rfl, fun i _ hi => absurd hi (hL i)⟩

/-- no two unlisted operations put at one place -/
def Apart (ops : Array Oper) (U : Nat → Prop) : Prop :=
  ∀ i j t, U i → U j → (ops[i]?).bind (·.dst) = some t → (ops[j]?).bind (·.dst) = some t → i = j

theorem Agree.put {ops : Array Oper} {vals : Nat → Value} {a0 a : Act} {L L' U : Nat → Prop} (h : Agree ops vals a0 L a) (hap : Apart ops U)
    {i : Nat} (hLU : ∀ j, L j → U j) (hi : U i) (hni : ¬ L i) (hL' : ∀ j, L' j ↔ L j ∨ j = i) (v : Value) :
    Agree ops (fun j => if j = i then v else vals j) a0 L' (a.put ((ops[i]?).bind (·.dst)) v) := by
  cases hd : (ops[i]?).bind (·.dst) with
  | none =>
    refine ⟨h.defers, h.size, fun t ht => h.out t fun j hj => ht j ((hL' j).2 (.inl hj)), fun j t hj hjt hlt => ?_⟩
    rcases (hL' j).1 hj with hj | rfl
    · have hne : j ≠ i := fun e => hni (e ▸ hj)
      simp only [hne, if_false]
      exact h.into j t hj hjt hlt
    · rw [hd] at hjt; cases hjt
  | some d =>
    refine ⟨h.defers, by simp [Act.put, h.size], fun t ht => ?_, fun j t hj hjt hlt => ?_⟩
    · have hne : d ≠ t := fun e => ht i ((hL' i).2 (.inr rfl)) (by rw [hd, e])
      have := h.out t fun j hj => ht j ((hL' j).2 (.inl hj))
      simpa [Act.put, Array.getD_eq_getD_getElem?, Array.getElem?_setIfInBounds_ne hne] using this
    · rcases (hL' j).1 hj with hj | rfl
      · have hne : j ≠ i := fun e => hni (e ▸ hj)
        have hdt : d ≠ t := fun e => hne (hap j i t (hLU j hj) hi hjt (by rw [hd, e]))
        simp only [hne, if_false]
        have := h.into j t hj hjt hlt
        simpa [Act.put, Array.getD_eq_getD_getElem?, Array.getElem?_setIfInBounds_ne hdt] using this
      · rw [hd] at hjt
        obtain rfl := Option.some.inj hjt
        have hlt' : d < a.tmps.size := by rw [h.size]; exact hlt
        simp [Act.put, Array.getD_eq_getD_getElem?, hlt']

theorem Agree.congr {ops : Array Oper} {vals vals' : Nat → Value} {a0 a : Act} {L L' : Nat → Prop} (h : Agree ops vals a0 L a) (hL : ∀ i, L i ↔ L' i) (hv : ∀ i, L i → vals i = vals' i) : Agree ops vals' a0 L' a :=
  ⟨h.defers, h.size, fun t ht => h.out t fun i hi => ht i ((hL i).1 hi), fun i t hi hd hlt => (h.into i t ((hL i).2 hi) hd hlt).trans (hv i ((hL i).2 hi))⟩

theorem putsOf_agree {ops : Array Oper} {vals : Nat → Value} {a0 : Act} {U : Nat → Prop} (hap : Apart ops U) : ∀ (l : List Nat) (L : Nat → Prop) (a : Act), (∀ i ∈ l, U i) → (∀ i, L i → U i) → l.Nodup → (∀ i ∈ l, ¬ L i) →
    Agree ops vals a0 L a → Agree ops vals a0 (fun i => L i ∨ i ∈ l) (putsOf ops vals l a)
  | [], L, a, _, _, _, _, h => h.congr (by simp) (fun _ _ => rfl)
  | i :: r, L, a, hU, hLU, hn, hnl, h => by
    have h1 := (h.put (i := i) (L' := fun j => L j ∨ j = i) hap hLU (hU i (by simp)) (hnl i (by simp)) (fun _ => Iff.rfl) (vals i)).congr (vals' := vals) (fun _ => Iff.rfl)
      (fun j _ => by split <;> simp_all)
    rw [List.nodup_cons] at hn
    have h2 := putsOf_agree hap r (fun j => L j ∨ j = i) _ (fun j hj => hU j (by simp [hj])) (fun j hj => hj.elim (hLU j) fun e => e ▸ hU i (by simp)) hn.2
      (fun j hj => by
        rintro (hL | rfl)
        · exact hnl j (by simp [hj]) hL
        · exact hn.1 hj) h1
    exact h2.congr (by intro j; simp only [List.mem_cons, or_assoc]) (fun _ _ => rfl)

theorem filter_lt {l : List Nat} {p q : Nat → Bool} (h : ∀ x, q x = true → p x = true) {i : Nat} (hi : i ∈ l) (hp : p i = true) (hq : q i = false) : (l.filter q).length < (l.filter p).length := by
  induction l with
  | nil => cases hi
  | cons x r ih =>
    have hle : ∀ r : List Nat, (r.filter q).length ≤ (r.filter p).length := by
      intro r
      induction r with
      | nil => simp
      | cons y r ih => simp only [List.filter_cons]; have := h y; cases hq : q y <;> cases hp : p y <;> simp_all <;> omega
    rcases List.mem_cons.1 hi with rfl | hi
    · simp only [List.filter_cons, hp, hq]; have := hle r; simp; omega
    · have := ih hi
      simp only [List.filter_cons]; have := h x; cases hq : q x <;> cases hp : p x <;> simp_all <;> omega

/-- the operations that are not listed -/
def restOf (ops : Array Oper) (listed : Array Bool) : List Nat := (List.range ops.size).filter fun i => !listed.getD i true
/-- what of i's is still to be put -/
def needOf (md : Region.Mode) (ops : Array Oper) (listed : Array Bool) (i : Nat) : List Nat := (restOf ops listed).filter fun j => (depsOf md ops i).contains j

/-- the region fits the law: whatever an operation looks at was put by what came before it, or is put only behind it; no two put at one place -/
def fitB (md : Region.Mode) (ops : Array Oper) (listed : Array Bool) : Bool :=
  decide (listed.size = ops.size) && (List.range ops.size).all fun j => ((depsOf md ops j).all (· < j)) && (listed.getD j true || match ops[j]? with
    | some oj => (List.range ops.size).all fun i => listed.getD i true || i == j || match (ops[i]?).bind (·.dst) with
      | some t => (!(oj.looksAt ops).contains t || (depsOf md ops j).contains i || (depsOf md ops i).contains j) && oj.dst != some t
      | none => true
    | none => true)

theorem mem_deps {md : Region.Mode} {ops : Array Oper} {i j : Nat} {o : Oper} (h : ops[i]? = some o) : j ∈ depsOf md ops i ↔ ∃ e ∈ o.after, Region.binds md e = true ∧ e.on = j := by
  unfold depsOf; simp [h]; constructor
  · rintro ⟨e, ⟨h1, h2⟩, h3⟩; exact ⟨e, h1, h2, h3⟩
  · rintro ⟨e, h1, h2, h3⟩; exact ⟨e, ⟨h1, h2⟩, h3⟩

structure Fit (md : Region.Mode) (ops : Array Oper) (listed : Array Bool) : Prop where
  size : listed.size = ops.size
  less : ∀ i, ∀ j ∈ depsOf md ops i, j < i
  looks : ∀ i j t oj, listed.getD i true = false → listed.getD j true = false → i ≠ j → ops[j]? = some oj → (ops[i]?).bind (·.dst) = some t → t ∈ oj.looksAt ops → i ∈ depsOf md ops j ∨ j ∈ depsOf md ops i
  apart : Apart ops (fun i => listed.getD i true = false)

theorem fit_of {md : Region.Mode} {ops : Array Oper} {listed : Array Bool} (h : fitB md ops listed = true) : Fit md ops listed := by
  unfold fitB at h
  simp only [Bool.and_eq_true, decide_eq_true_eq, List.all_eq_true, List.mem_range] at h
  obtain ⟨hs, h⟩ := h
  have core : ∀ i j t oj, listed.getD i true = false → listed.getD j true = false → i ≠ j → ops[j]? = some oj → (ops[i]?).bind (·.dst) = some t →
      ((oj.looksAt ops).contains t = false ∨ (depsOf md ops j).contains i = true ∨ (depsOf md ops i).contains j = true) ∧ oj.dst ≠ some t := by
    intro i j t oj hi hj hne hoj hdi
    have hj' : j < ops.size := (Array.getElem?_eq_some_iff.1 hoj).1
    have hi' : i < ops.size := by
      cases hx : ops[i]? with
      | none => simp [hx] at hdi
      | some o => exact (Array.getElem?_eq_some_iff.1 hx).1
    have h1 := (h j hj').2
    rw [hj, hoj] at h1
    simp only [Bool.false_or, List.all_eq_true, List.mem_range] at h1
    have h2 := h1 i hi'
    rw [hi, hdi] at h2
    have hne' : (i == j) = false := by simpa using hne
    simp only [hne', Bool.false_or, Bool.and_eq_true, Bool.or_eq_true, Bool.not_eq_true', bne_iff_ne] at h2
    refine ⟨?_, h2.2⟩
    rcases h2.1 with (h3 | h3) | h3
    · exact .inl h3
    · exact .inr (.inl h3)
    · exact .inr (.inr h3)
  refine ⟨hs, ?_, ?_, ?_⟩
  · intro i j hj
    by_cases hi : i < ops.size
    · simpa using (h i hi).1 j hj
    · have : ops[i]? = none := by simp; omega
      simp [depsOf, this] at hj
  · intro i j t oj hi hj hne hoj hdi ht
    rcases (core i j t oj hi hj hne hoj hdi).1 with h3 | h3 | h3
    · simp at h3; exact absurd ht h3
    · exact .inl (by simpa using h3)
    · exact .inr (by simpa using h3)
  · intro i j t hi hj hdi hdj
    by_cases hne : i = j
    · exact hne
    · exfalso
      cases hoj : ops[j]? with
      | none => simp [hoj] at hdj
      | some oj => exact (core i j t oj hi hj hne hoj hdi).2 (by simpa [hoj] using hdj)

/-- nothing is ready any more: all is listed -/
theorem all_listed {md : Region.Mode} {ops : Array Oper} {listed : Array Bool} (hs : listed.size = ops.size) (hl : ∀ i, ∀ j ∈ depsOf md ops i, j < i)
    (hr : Region.ready md ops listed = []) : ∀ n i, i < n → i < ops.size → listed.getD i true = true := by
  intro n
  induction n with
  | zero => intro i h; omega
  | succ n ih =>
    intro i hi hlt
    by_cases hx : listed.getD i true = true
    · exact hx
    · exfalso
      have hm : i ∈ Region.ready md ops listed := mem_ready.2 ⟨by simpa using hx, ops[i], Array.getElem?_eq_getElem hlt, fun e he hb => by
        have hj : e.on < i := hl i e.on ((mem_deps (Array.getElem?_eq_getElem hlt)).2 ⟨e, he, hb, rfl⟩)
        have := ih e.on (by omega) (by omega)
        have h4 : e.on < listed.size := by omega
        simpa [Array.getD_eq_getD_getElem?, h4] using this⟩
      rw [hr] at hm; cases hm

/-- where two acts are alike at all that an operation looks at, it does the same -/
theorem same_do {ops : Array Oper} {o : Oper} {a a' : Act} (hs : a.tmps.size = a'.tmps.size) (hsel : ∀ cs b, o.op ≠ .select cs b)
    (h : ∀ t ∈ o.looksAt ops, a.tmps.getD t undef = a'.tmps.getD t undef) :
    execOp a.eval o = execOp a'.eval o ∧ Region.wanted o (yielded ops a.tmps) = Region.wanted o (yielded ops a'.tmps) := by
  refine ⟨execOp_congr o hsel fun x hx => ?_, ?_⟩
  · cases x with
    | tmp t => exact h t (List.mem_append_left _ (List.mem_filterMap.2 ⟨.tmp t, by simpa using hx, rfl⟩))
    | _ => rfl
  · unfold Region.wanted
    cases hg : o.guard with
    | none => rfl
    | some gw =>
      obtain ⟨g, want⟩ := gw
      have hy : yielded ops a.tmps g = yielded ops a'.tmps g := by
        unfold yielded
        cases ht : (ops[g]?).bind (·.dst) with
        | none => rfl
        | some t =>
          have h1 := h t (List.mem_append_right _ (by simp [hg, ht]))
          have h2 : a.tmps[t]? = a'.tmps[t]? := by
            by_cases hlt : t < a.tmps.size
            · have hlt' : t < a'.tmps.size := hs ▸ hlt
              simpa [Array.getD_eq_getD_getElem?, hlt, hlt'] using h1
            · have hlt' : ¬ t < a'.tmps.size := hs ▸ hlt
              simp [hlt, hlt']
          simp only [Option.bind_some, h2]
      simp only [hy]

/-- what one operation is to show: it ends, its value has its fact for good, and what was stays -/
def Ob (P : Program) (md : Region.Mode) (ops : Array Oper) (listed : Array Bool) (a0 : Act) (w0 : World) (V : Nat → Value → World → Prop) (i : Nat) (o : Oper) : Prop :=
  ∀ (vals : Nat → Value) (w : World), Below w0.heap.size w0 w → (∀ j ∈ needOf md ops listed i, V j (vals j) w) →
    ∀ K : Act → World → Prop, (∀ v w', Below w.heap.size w w' → (∀ w'', Below w'.heap.size w' w'' → V i v w'') → K ((putsOf ops vals (needOf md ops listed i) a0).put o.dst v) w') →
      if Region.wanted o (yielded ops (putsOf ops vals (needOf md ops listed i) a0).tmps) then o.wp P (putsOf ops vals (needOf md ops listed i) a0) w K (fun _ _ _ => False)
      else K ((putsOf ops vals (needOf md ops listed i) a0).put o.dst undef) w

theorem upon_noQ {P : Program} {o : Oper} {a a' : Act} {K K' : Act → World → Prop} {Q : Exit → Act → World → Prop} (h : ∀ v w, K (a.put o.dst v) w → K' (a'.put o.dst v) w)
    (hd : ∀ (d : Deferred) w, K ({ a with defers := d :: a.defers }.put o.dst undef) w → K' ({ a' with defers := d :: a'.defers }.put o.dst undef) w)
    {r : Result Next} (hh : o.upon P a K (fun _ _ _ => False) r) : o.upon P a' K' Q r := by
  cases r with
  | ok n w' =>
    cases n <;> simp only [Oper.upon] at hh ⊢ <;>
      first
        | exact h _ _ hh
        | exact hd _ _ hh
        | exact Calls.mono hh (fun e w'' he => by cases e <;> first | exact h _ _ he | exact he.elim | (obtain ⟨_, _, h⟩ := he; exact h.elim))
        | exact Rows.mono hh (fun _ _ he => h _ _ he)
  | halt x w' => cases x <;> simp only [Oper.upon] at hh ⊢ <;> exact hh.elim

theorem put_same {ai a : Act} (hs : ai.tmps.size = a.tmps.size) {dst : Option Tmp} {v v' : Value} (h : ai.put dst v = ai.put dst v') : a.put dst v = a.put dst v' := by
  cases dst with
  | none => rfl
  | some d =>
    by_cases hd : d < a.tmps.size
    · have hd' : d < ai.tmps.size := hs ▸ hd
      have h1 := congrArg (fun b : Act => b.tmps[d]?) h
      simp only [Act.put, Array.getElem?_setIfInBounds_self_of_lt hd', Option.some.injEq] at h1
      rw [h1]
    · have : ∀ u, a.tmps.setIfInBounds d u = a.tmps := fun u => by
        simp [Array.setIfInBounds, hd]
      simp only [Act.put, this]
theorem put_defer {ai : Act} {d : Deferred} {dst : Option Tmp} {u v : Value} (h : ({ ai with defers := d :: ai.defers } : Act).put dst u = ai.put dst v) : False := by
  have h1 := congrArg (fun b : Act => b.defers.length) h
  cases dst <;> simp [Act.put] at h1

theorem wpAny_inv {P : Program} {md : Region.Mode} {ops : Array Oper} {Q : Exit → Act → World → Prop} {listed0 : Array Bool} {a0 : Act} {w0 : World} (V : Nat → Value → World → Prop)
    (hfit : fitB md ops listed0 = true) (hsel : Region.noSelect ops = true) {fuel : Nat} (hfuel : (restOf ops listed0).length ≤ fuel)
    (step : ∀ i ∈ restOf ops listed0, ∀ o, ops[i]? = some o → Ob P md ops listed0 a0 w0 V i o)
    (fin : ∀ (vals : Nat → Value) (w : World), Below w0.heap.size w0 w → (∀ i ∈ restOf ops listed0, V i (vals i) w) → Q .normal (putsOf ops vals (restOf ops listed0) a0) w) :
    wpAny P md ops Q fuel listed0 a0 w0 := by
  have F := fit_of hfit
  have hU : ∀ i, i ∈ restOf ops listed0 → listed0.getD i true = false := by intro i hi; simpa using (List.mem_filter.1 hi).2
  have hnd : (restOf ops listed0).Nodup := (List.nodup_range).filter _
  suffices H : ∀ (fuel : Nat) (listed : Array Bool) (vals : Nat → Value) (a : Act) (w : World), (restOf ops listed).length ≤ fuel → listed.size = ops.size →
      (∀ i, listed0.getD i true = true → listed.getD i true = true) →
      (∀ i, listed0.getD i true = false → listed.getD i true = true → ∀ j ∈ depsOf md ops i, listed.getD j true = true) →
      Agree ops vals a0 (fun i => listed0.getD i true = false ∧ listed.getD i true = true) a → Below w0.heap.size w0 w →
      (∀ i, listed0.getD i true = false → listed.getD i true = true → ∀ w', Below w.heap.size w w' → V i (vals i) w') → wpAny P md ops Q fuel listed a w by
    refine H _ listed0 (fun _ => undef) a0 w0 ?_ F.size (fun _ h => h) ?_ (Agree.none ?_) (Below.refl _ _) ?_
    · exact hfuel
    · intro i h h'; rw [h] at h'; cases h'
    · rintro i ⟨h, h'⟩; rw [h] at h'; cases h'
    · intro i h h'; rw [h] at h'; cases h'
  have last : ∀ (listed : Array Bool) (vals : Nat → Value) (a : Act) (w : World), listed.size = ops.size →
      Agree ops vals a0 (fun i => listed0.getD i true = false ∧ listed.getD i true = true) a → Below w0.heap.size w0 w →
      (∀ i, listed0.getD i true = false → listed.getD i true = true → ∀ w', Below w.heap.size w w' → V i (vals i) w') → Region.ready md ops listed = [] → Q .normal a w := by
    intro listed vals a w hs hag hb hv hr
    have hall := all_listed hs F.less hr
    have hin : ∀ i, i ∈ restOf ops listed0 → i < ops.size := by intro i hi; simpa using (List.mem_filter.1 hi).1
    have e : a = putsOf ops vals (restOf ops listed0) a0 := by
      refine hag.unique ((putsOf_agree F.apart (restOf ops listed0) (fun _ => False) a0 hU (fun _ h => h.elim) hnd (fun _ _ h => h) (Agree.none fun _ h => h)).congr ?_ (fun _ _ => rfl))
      intro i
      simp only [false_or]
      constructor
      · intro hi; exact ⟨hU i hi, hall _ i (Nat.lt_succ_self _) (hin i hi)⟩
      · rintro ⟨h1, h2⟩
        refine List.mem_filter.2 ⟨?_, by simp [h1]⟩
        have : i < listed0.size := by
          by_cases h : i < listed0.size
          · exact h
          · simp [Array.getD_eq_getD_getElem?, h] at h1
        rw [List.mem_range, ← F.size]; exact this
    rw [e]
    exact fin vals w hb fun i hi => hv i (hU i hi) (hall _ i (Nat.lt_succ_self _) (hin i hi)) w (Below.refl _ _)
  intro fuel
  induction fuel with
  | zero =>
    intro listed vals a w hf hs hle hcl hag hb hv
    have hr : Region.ready md ops listed = [] := by
      cases hr : Region.ready md ops listed with
      | nil => rfl
      | cons x xs =>
        exfalso
        have hx : x ∈ Region.ready md ops listed := by rw [hr]; simp
        obtain ⟨h1, o, ho, _⟩ := mem_ready.1 hx
        have hm : x ∈ restOf ops listed := List.mem_filter.2 ⟨List.mem_range.2 (Array.getElem?_eq_some_iff.1 ho).1, by simp [h1]⟩
        have h0 : (restOf ops listed).length = 0 := by omega
        rw [List.length_eq_zero_iff.1 h0] at hm; cases hm
    exact ⟨hr, last listed vals a w hs hag hb hv hr⟩
  | succ fuel ih =>
    intro listed vals a w hf hs hle hcl hag hb hv
    refine ⟨fun hr => last listed vals a w hs hag hb hv hr, fun i hi => ?_⟩
    obtain ⟨hun, o, ho, haf⟩ := mem_ready.1 hi
    have hilt : i < ops.size := (Array.getElem?_eq_some_iff.1 ho).1
    have hun0 : listed0.getD i true = false := by
      cases hx : listed0.getD i true with
      | false => rfl
      | true => rw [hle i hx] at hun; cases hun
    have hmi : i ∈ restOf ops listed0 := List.mem_filter.2 ⟨List.mem_range.2 hilt, by simp [hun0]⟩
    have hdep : ∀ j ∈ depsOf md ops i, listed.getD j true = true := by
      intro j hj
      obtain ⟨e, he, hbd, rfl⟩ := (mem_deps ho).1 hj
      have := haf e he hbd
      have hlt : e.on < listed.size := by
        by_cases h : e.on < listed.size
        · exact h
        · simp [Array.getD_eq_getD_getElem?, h] at this
      simpa [Array.getD_eq_getD_getElem?, hlt] using this
    have hneed : ∀ j, j ∈ needOf md ops listed0 i ↔ j ∈ restOf ops listed0 ∧ j ∈ depsOf md ops i := by intro j; unfold needOf; simp [List.mem_filter]
    have hagi := putsOf_agree F.apart (needOf md ops listed0 i) (fun _ => False) a0 (vals := vals) (fun j hj => hU j ((hneed j).1 hj).1) (fun _ h => h.elim) (hnd.filter _) (fun _ _ h => h) (Agree.none fun _ h => h)
    obtain ⟨ai, hai⟩ : ∃ ai, ai = putsOf ops vals (needOf md ops listed0 i) a0 := ⟨_, rfl⟩
    rw [← hai] at hagi
    have hlook : ∀ t ∈ o.looksAt ops, ai.tmps.getD t undef = a.tmps.getD t undef := by
      intro t ht
      by_cases hx : ∃ j, listed0.getD j true = false ∧ (ops[j]?).bind (·.dst) = some t
      · obtain ⟨j, hj0, hjd⟩ := hx
        have hother : ∀ k, listed0.getD k true = false → k ≠ j → (ops[k]?).bind (·.dst) ≠ some t := fun k hk hne he => hne (F.apart k j t hk hj0 he hjd)
        have houts : (¬ j ∈ needOf md ops listed0 i) → (¬ listed.getD j true = true) → ai.tmps.getD t undef = a.tmps.getD t undef := by
          intro h1 h2
          rw [hagi.out t, hag.out t]
          · rintro k ⟨hk0, hk⟩ he
            by_cases hkj : k = j
            · exact h2 (hkj ▸ hk)
            · exact hother k hk0 hkj he
          · rintro k (hk | hk) he
            · exact hk
            · by_cases hkj : k = j
              · exact h1 (hkj ▸ hk)
              · exact hother k (hU k ((hneed k).1 hk).1) hkj he
        by_cases hij : j = i
        · subst hij
          refine houts (fun h => ?_) (by rw [hun]; simp)
          exact absurd (F.less j j ((hneed j).1 h).2) (Nat.lt_irrefl _)
        · rcases F.looks j i t o hj0 hun0 hij ho hjd ht with h | h
          · have hjl : j < ops.size := Nat.lt_trans (F.less i j h) hilt
            have hjm : j ∈ needOf md ops listed0 i := (hneed j).2 ⟨List.mem_filter.2 ⟨List.mem_range.2 hjl, by simp [hj0]⟩, h⟩
            by_cases hts : t < a0.tmps.size
            · rw [hagi.into j t (.inr hjm) hjd hts, hag.into j t ⟨hj0, hdep j h⟩ hjd hts]
            · have h1 : ¬ t < ai.tmps.size := by rw [hagi.size]; exact hts
              have h2 : ¬ t < a.tmps.size := by rw [hag.size]; exact hts
              simp [Array.getD_eq_getD_getElem?, h1, h2]
          · refine houts (fun hn => ?_) (fun hl => ?_)
            · have h1 := F.less i j ((hneed j).1 hn).2
              have h2 := F.less j i h
              omega
            · have := hcl j hj0 hl i h
              rw [hun] at this; cases this
      · rw [hagi.out t, hag.out t]
        · rintro k ⟨hk0, _⟩ he; exact hx ⟨k, hk0, he⟩
        · rintro k (hk | hk) he
          · exact hk
          · exact hx ⟨k, hU k ((hneed k).1 hk).1, he⟩
    obtain ⟨hex, hwa⟩ := same_do (hagi.size.trans hag.size.symm) (Region.noSelect_spec hsel i o · · ho) hlook
    have hob := step i hmi o ho vals w hb (fun j hj => hv j (hU j ((hneed j).1 hj).1) (hdep j ((hneed j).1 hj).2) w (Below.refl _ _))
    rw [← hai] at hob
    -- what follows
    have hnext : ∀ v w', Below w.heap.size w w' → (∀ w'', Below w'.heap.size w' w'' → V i v w'') → wpAny P md ops Q fuel (listed.setIfInBounds i true) (a.put o.dst v) w' := by
      intro v w' hbw hV
      have hil : i < listed.size := by rw [hs]; exact hilt
      have hset : ∀ k, (listed.setIfInBounds i true).getD k true = true ↔ listed.getD k true = true ∨ k = i := by
        intro k
        by_cases hk : k = i
        · subst hk; simp [Array.getD_eq_getD_getElem?, hil]
        · rw [getD_set_ne true (Ne.symm hk)]; simp [hk]
      refine ih (listed.setIfInBounds i true) (fun j => if j = i then v else vals j) _ w' ?_ (by simp [hs]) ?_ ?_ ?_ (bel_next hb hbw) ?_
      · have : (restOf ops (listed.setIfInBounds i true)).length < (restOf ops listed).length := by
          unfold restOf
          refine filter_lt (i := i) (fun x hx => ?_) (List.mem_range.2 hilt) (by simp [hun]) (by simp [(hset i).2 (.inr rfl)])
          simp only [Bool.not_eq_true'] at hx ⊢
          cases hy : listed.getD x true with
          | false => rfl
          | true => rw [(hset x).2 (.inl hy)] at hx; cases hx
        omega
      · intro k hk; exact (hset k).2 (.inl (hle k hk))
      · intro k hk0 hk j hj
        rcases (hset k).1 hk with hk | rfl
        · exact (hset j).2 (.inl (hcl k hk0 hk j hj))
        · exact (hset j).2 (.inl (hdep j hj))
      · have hd : o.dst = (ops[i]?).bind (·.dst) := by rw [ho]; rfl
        rw [hd]
        refine Agree.put hag F.apart (fun j hj => hj.1) hun0 (fun hj => by rw [hun] at hj; cases hj.2) ?_ v
        intro j
        rw [hset j]
        constructor
        · rintro ⟨h1, h2 | h2⟩
          · exact .inl ⟨h1, h2⟩
          · exact .inr h2
        · rintro (⟨h1, h2⟩ | rfl)
          · exact ⟨h1, .inl h2⟩
          · exact ⟨hun0, .inr rfl⟩
      · intro k hk0 hk w'' hbw''
        by_cases hki : k = i
        · subst hki; simp only [if_true]; exact hV w'' hbw''
        · simp only [hki, if_false]
          rcases (hset k).1 hk with hk | hk
          · exact hv k hk0 hk w'' (bel_next hbw hbw'')
          · exact absurd hk hki
    have hK := hob (fun a' w' => ∃ v, a' = ai.put o.dst v ∧ Below w.heap.size w w' ∧ ∀ w'', Below w'.heap.size w' w'' → V i v w'') (fun v w' h1 h2 => ⟨v, rfl, h1, h2⟩)
    have hat : ∀ v w', (∃ v', ai.put o.dst v = ai.put o.dst v' ∧ Below w.heap.size w w' ∧ ∀ w'', Below w'.heap.size w' w'' → V i v' w'') → wpAny P md ops Q fuel (listed.setIfInBounds i true) (a.put o.dst v) w' := by
      rintro v w' ⟨v', he, h1, h2⟩
      rw [put_same (hagi.size.trans hag.size.symm) he]
      exact hnext v' w' h1 h2
    unfold wpOp
    rw [ho]
    simp only
    rw [hwa] at hK
    split
    · rename_i hw
      rw [if_pos hw] at hK
      unfold Oper.wp at hK ⊢
      rw [← hex]
      exact .inl (upon_noQ (fun v w' h => hat v w' h) (fun d w' h => by obtain ⟨v', he, _⟩ := h; exact (put_defer he).elim) hK)
    · rename_i hw
      rw [if_neg hw] at hK
      exact hat undef w hK

/-- what is known of each operation's value -/
abbrev Facts := List (Nat × (Value → World → Prop))
def Facts.at (V : Facts) (i : Nat) (v : Value) (w : World) : Prop :=
  match V.lookup i with
  | some p => p v w
  | none => True
/-- whatever values with these facts are put -/
def ObIn (V : Facts) (w : World) (F : Act → Prop) : List (Nat × Option Tmp) → Act → Prop
  | [], a => F a
  | (j, d) :: r, a => ∀ v, V.at j v w → ObIn V w F r (a.put d v)
def withDst (ops : Array Oper) (l : List Nat) : List (Nat × Option Tmp) := l.map fun i => (i, (ops[i]?).bind (·.dst))
theorem ObIn.puts {V : Facts} {w : World} {F : Act → Prop} {ops : Array Oper} {vals : Nat → Value} : ∀ (l : List Nat) (a : Act), ObIn V w F (withDst ops l) a → (∀ j ∈ l, V.at j (vals j) w) → F (putsOf ops vals l a)
  | [], a, h, _ => h
  | j :: r, a, h, hv => ObIn.puts r _ (h (vals j) (hv j (by simp))) (fun k hk => hv k (by simp [hk]))

/-- one operation without a guard -/
def ObAt (P : Program) (V : Facts) (w0 : World) (i : Nat) (o : Oper) (d : Option Tmp) (ns : List (Nat × Option Tmp)) (a0 : Act) : Prop :=
  ∀ (w : World), Below w0.heap.size w0 w → ObIn V w (fun a => ∀ K : Act → World → Prop,
    (∀ v w', Below w.heap.size w w' → (∀ w'', Below w'.heap.size w' w'' → V.at i v w'') → K (a.put d v) w') → o.wp P a w K (fun _ _ _ => False)) ns a0
def Obs (P : Program) (md : Region.Mode) (ops : Array Oper) (listed : Array Bool) (a0 : Act) (w0 : World) (V : Facts) (rs : List Nat) : Prop :=
  ∀ i ∈ rs, ∀ o, ops[i]? = some o → Ob P md ops listed a0 w0 V.at i o
theorem Obs.nil {P : Program} {md : Region.Mode} {ops : Array Oper} {listed : Array Bool} {a0 : Act} {w0 : World} {V : Facts} : Obs P md ops listed a0 w0 V [] := fun i hi => by cases hi
theorem Obs.cons {P : Program} {md : Region.Mode} {ops : Array Oper} {listed : Array Bool} {a0 : Act} {w0 : World} {V : Facts} {i : Nat} {rs : List Nat} {o : Oper} (d : Option Tmp) (ns : List (Nat × Option Tmp))
    (ho : ops[i]? = some o) (hg : o.guard.isNone = true) (hd : o.dst = d) (hns : withDst ops (needOf md ops listed i) = ns) (h : ObAt P V w0 i o d ns a0) (hr : Obs P md ops listed a0 w0 V rs) : Obs P md ops listed a0 w0 V (i :: rs) := by
  intro j hj o' ho'
  rcases List.mem_cons.1 hj with rfl | hj
  · rw [ho] at ho'
    obtain rfl := Option.some.inj ho'
    intro vals w hb hv K hK
    have hw : Region.wanted o (yielded ops (putsOf ops vals (needOf md ops listed j) a0).tmps) = true := by
      unfold Region.wanted
      cases hx : o.guard with
      | none => rfl
      | some g => rw [hx] at hg; cases hg
    rw [if_pos hw]
    subst hd
    have h1 := h w hb
    rw [← hns] at h1
    exact ObIn.puts _ _ h1 hv K hK
  · exact hr j hj o' ho'
theorem region_inv {P : Program} {md : Region.Mode} {ops : Array Oper} {Q : Exit → Act → World → Prop} {listed0 : Array Bool} {a0 : Act} {w0 : World} {fuel : Nat} (V : Facts) (rs : List Nat) (fs : List (Nat × Option Tmp))
    (hfit : fitB md ops listed0 = true) (hsel : Region.noSelect ops = true) (hrs : restOf ops listed0 = rs) (hfs : withDst ops rs = fs) (hfuel : Nat.ble rs.length fuel = true)
    (step : Obs P md ops listed0 a0 w0 V rs)
    (fin : ∀ (w : World), Below w0.heap.size w0 w → ObIn V w (fun a => Q .normal a w) fs a0) :
    wpAny P md ops Q fuel listed0 a0 w0 :=
  wpAny_inv V.at hfit hsel (by rw [hrs]; exact Nat.le_of_ble_eq_true hfuel) (by rw [hrs]; exact step) (by
    intro vals w hb hv
    rw [hrs] at hv ⊢
    have h1 := fin w hb
    rw [← hfs] at h1
    exact ObIn.puts (F := fun a => Q .normal a w) _ _ h1 hv)

theorem keep_cell {w w' : World} {a : Addr} {v : Value} (h : w.cell? a = some v) (hb : Below w.heap.size w w') : w'.cell? a = some v := by
  rw [hb.cell (World.block_lt_of_cell? w _ h)]; exact h
theorem bel_of_drew {w w' : World} (hb : Below w.drew.heap.size w.drew w') : Below w.heap.size w w' := by
  exact ((Below.refl w.heap.size w).drew).trans hb

theorem take_at {P : Program} {md : Region.Mode} {ops : Array Oper} {Q : Exit → Act → World → Prop} (i : Nat) (d : Option Tmp) {oi : Oper} {v : Value} {fuel : Nat} {listed : Array Bool} {a : Act} {w : World} (hi : ops[i]? = some oi) (hd : oi.dst = d)
    (hs : Region.noSelect ops = true) (hf : Region.free md ops listed i = true) (hr : (Region.ready md ops listed).contains i = true)
    (hQ : ∀ c a w, Q (.panic c) (a.put oi.dst v) w → Q (.panic c) a w) (hg : Region.wanted oi (yielded ops a.tmps) = true) (hy : ∀ w, (execOp a.eval oi).run P w = .ok (.value v) w)
    (h : wpAny P md ops Q fuel (listed.setIfInBounds i true) (a.put d v) w) : wpAny P md ops Q (fuel + 1) listed a w :=
  wpAny_take hi hs hf hr hQ (.inl ⟨hg, hy⟩) (by rw [hd]; exact h)
end Go.Proofs.Ytnhfjdbnkpbbkaa
