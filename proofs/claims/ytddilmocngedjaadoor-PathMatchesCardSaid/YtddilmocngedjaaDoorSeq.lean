/- A range over an iterator that keeps what is left of its text in a box of its own: what the body owes. Nothing of the program stands here. -/
import Derived.RangeFuncFrom
import Derived.RangeFuncNested
import Derived.RangeFuncBox
namespace Go.Proofs.YtddilmocngedjaaDoor
set_option linter.unusedVariables false
set_option linter.unusedSimpArgs false
open Go Go.RowKit

variable {F : Fence} {n : Nat} {P : Program}

/-- what is said of the world stays where new blocks are laid, where a block that is no cells turns, from B on, and where the box Bs turns -/
def Bides {β : Type} (B Bs : Nat) (J : β → World → Prop) : Prop :=
  ∀ s W W' row, J s W → W.grownBy W' row → (∀ r, row = some r → r = Bs ∨ (B ≤ r ∧ ∃ o : Obj, W.heap[r]? = some o ∧ o.isCells = false)) → J s W'
theorem Bides.push {β : Type} {B Bs : Nat} {J : β → World → Prop} (h : Bides B Bs J) {s : β} {W : World} (o : Obj) (hs : J s W) : J s (W.alloc o) :=
  h s W _ none hs (World.grownBy_alloc W o none) fun r e => by cases e
theorem Bides.turn {β : Type} {B Bs : Nat} {J : β → World → Prop} (h : Bides B Bs J) {s : β} {W : World} {l : Nat} {o : Obj} (o' : Obj) (hs : J s W) (hB : B ≤ l) (hl : W.heap[l]? = some o) (ho : o.isCells = false) : J s (W.putObj l o') :=
  h s W _ (some l) hs (grownBy_putObj' W l o') fun r e => by cases e; exact .inr ⟨hB, o, hl, ho⟩
theorem Bides.box {β : Type} {B Bs : Nat} {J : β → World → Prop} (h : Bides B Bs J) {s : β} {W : World} (v : Value) (hs : J s W) : J s (W.setCell ⟨Bs, 0, none⟩ v) :=
  h s W _ (some Bs) hs (grownBy_setCell' W Bs v) fun r e => by cases e; exact .inl rfl
/-- the iterator's word: each of xs is yielded in its order, till a round says no -/
def Yields {α : Type} (F : Fence) (n : Nat) (P : Program) (g : Nat) (lb : Array Value) (enc : α → Value) (Kp : World → World → Prop) (Bs : Nat) (xs : List α) (w : World) : Prop :=
  ∀ (l : Nat) (J Jx : List α → World → Prop) (W : World), Below w.heap.size w W → Bides W.heap.size Bs J → Bides W.heap.size Bs Jx →
    (∀ pre x W1, J pre W1 → pre ++ [x] <+: xs → YieldAt F (n - 1) P l #[enc x] W1 fun e W' =>
      (e = .returned (.bool true) ∧ J (pre ++ [x]) W' ∧ Kp W1 W') ∨ (e = .returned (.bool false) ∧ Jx (pre ++ [x]) W')) →
    J [] W →
    CallsIn F n P g (#[.func (.yield l) #[] #[]] ++ lb) W fun e W' => (∃ v, e = .returned v) ∧ (J xs W' ∨ ∃ pre, pre <+: xs ∧ Jx pre W')
/-- where a round's body ends: it goes on, or returns -/
def roundEnds {α : Type} (Kp : World → World → Prop) (I Ix : List α → World → Prop) (xs : List α) (W : World) : Exit → Act → World → Prop
  | .normal, _, W' => KeepsOthers W W' ∧ Kp W W' ∧ I xs W'
  | .ret, _, W' => KeepsOthers W W' ∧ Ix xs W'
  | _, _, _ => False

theorem rangeS {α : Type} {g : Operand} {p : Tmp} {assign body : Code} {Q : Exit → Act → World → Prop} {a : Act} {w w0 : World} {gf : Nat} {lb : Array Value} {enc : α → Value} {Kp : World → World → Prop} {Bs : Nat} {xs : List α}
    (hro : F.round = none) (h1 : 1 ≤ n) (hg : a.eval g = .func (.func gf) #[] lb) (hF : F.fn gf) (eg : ∀ args w, (callFunc gf args).run P w = .ok (.enter gf args) w)
    (hseq : Yields F (n - 1) P gf lb enc Kp Bs xs w0) (hb0 : Below w0.heap.size w0 w) (hBs : Bs < w.heap.size)
    (hKt : ∀ {A B C : World}, Kp A B → Kp B C → Kp A C) (hKb : ∀ (W : World) (l : Nat) (o o' : Obj), w.heap.size ≤ l → W.heap[l]? = some o → o.isCells = false → Kp W (W.putObj l o'))
    (I Ix : List α → World → Prop) (hI : Bides w.heap.size Bs I) (hIx : Bides w.heap.size Bs Ix) (h0 : I [] w) (a₁ : α → Act)
    (hassign : ∀ (l : Nat) (x : α) (W : World) (K : Act → World → Prop), K (a₁ x) W →
      assign.wpIn (F.inRound l) (n - 1 - 1) P (Exit.then K (fun _ _ _ => False)) { tmps := ((#[p] : Array Tmp).zip #[enc x]).foldl (fun t (p, v) => t.setIfInBounds p v) a.tmps, defers := [] } W)
    (hbody : ∀ (l : Nat) (pre : List α) (x : α) (W : World), I pre W → pre ++ [x] <+: xs → body.wpIn (F.inRound l) (n - 1 - 1) P (roundEnds Kp I Ix (pre ++ [x]) W) (a₁ x) W)
    (hdone : ∀ (D : Nat) (W : World), w.heap.size ≤ D → I xs W → W.heap[D]? = some (.deferred (some [])) → Q .normal { a with defers := { target := .collected D, args := #[] } :: a.defers } W)
    (hstop : ∀ (D : Nat) (pre : List α) (W : World), w.heap.size ≤ D → pre <+: xs → Ix pre W → W.heap[D]? = some (.deferred (some [])) → Code.ret.wpIn F n P Q { a with defers := { target := .collected D, args := #[] } :: a.defers } W) :
    (Code.rangeFunc g #[p] assign body).wpIn F n P Q a w := by
  refine wpIn_rangeFunc fun fn hfn => ?_
  rw [hro]
  obtain ⟨R, hR⟩ : ∃ R : LoopState → Option Code → Loop, R = fun st pe => { state := st, pending := pe, fn, tmps := a.tmps, params := #[p], assign, body, defers := w.heap.size } := ⟨_, rfl⟩
  obtain ⟨D, hD⟩ : ∃ D, D = w.heap.size := ⟨_, rfl⟩
  obtain ⟨V, hV⟩ : ∃ V, V = (w.alloc (.deferred (some []))).alloc (.loop (R .ready none)) := ⟨_, rfl⟩
  have vL : V.heap[D + 1]? = some (.loop (R .ready none)) := by
    have := World.alloc_heap_new (w.alloc (.deferred (some []))) (.loop (R .ready none))
    rw [hV, hD]; rwa [World.size_alloc] at this
  have vD : V.heap[D]? = some (.deferred (some [])) := by
    rw [hV, hD]; exact (Below.heap_alloc _ _ _ (by simp)).trans (World.alloc_heap_new w _)
  have vS : V.heap.size = D + 2 := by rw [hV, hD]; simp
  have vB : Below w0.heap.size w0 V := by
    rw [hV]; exact hb0.trans ((((Below.refl _ w).alloc (Nat.le_refl _) _).alloc (by simp) _).mono hb0.size)
  have vI : I [] V := by rw [hV]; exact hI.push _ (hI.push _ h0)
  -- the books: the loop's record and the block for deferred calls
  have books : ∀ {A B : World} {row : Option Nat} {k : Nat} {o : Obj}, k = D ∨ k = D + 1 → A.heap[k]? = some o → A.grownBy B row → (∀ r, row = some r → r = Bs ∨ (V.heap.size ≤ r ∧ ∃ o : Obj, A.heap[r]? = some o ∧ o.isCells = false)) → B.heap[k]? = some o := by
    intro A B row k o hk ho hgr hr
    refine (hgr.block k (Array.getElem?_eq_some_iff.1 ho).1 fun e => ?_).trans ho
    rcases hr k e.symm with h | ⟨h, _⟩ <;> omega
  refine ⟨D + 1, [{ target := .collected D, args := #[] }], V, { target := .fn (.func gf) lb, args := #[.func (.yield (D + 1)) #[] #[]] }, V, gf, #[.func (.yield (D + 1)) #[] #[]] ++ lb, V, ?_, ?_, ?_, ?_, fun _ => h1, ?_⟩
  · rw [hV, hD, hR]; exact run_enterLoop_outer _ _ _ _ _
  · simp only [resolve, hg]; simp [go_sem]
  · intro f' hf'; simp [Target.leads] at hf'; subst hf'; exact hF
  · simp [invoke, go_sem, eg]
  refine (hseq (D + 1) (fun pre W => I pre W ∧ W.heap[D + 1]? = some (.loop (R .ready none)) ∧ W.heap[D]? = some (.deferred (some [])))
    (fun pre W => Ix pre W ∧ W.heap[D + 1]? = some (.loop (R .done (some .ret))) ∧ W.heap[D]? = some (.deferred (some []))) V vB ?_ ?_ ?_ ⟨vI, vL, vD⟩).mono ?_
  · rintro s A B row ⟨q1, q2, q3⟩ hgr hr
    exact ⟨hI s A B row q1 hgr fun r e => (hr r e).imp id fun h => ⟨by have := h.1; omega, h.2⟩, books (.inr rfl) q2 hgr hr, books (.inl rfl) q3 hgr hr⟩
  · rintro s A B row ⟨q1, q2, q3⟩ hgr hr
    exact ⟨hIx s A B row q1 hgr fun r e => (hr r e).imp id fun h => ⟨by have := h.1; omega, h.2⟩, books (.inr rfl) q2 hgr hr, books (.inl rfl) q3 hgr hr⟩
  · rintro pre x W ⟨i1, i2, i3⟩ hpx
    have hy := run_yield (P := P) (args := #[enc x]) i2 (by rw [hR]; rfl)
    rw [hR] at hy
    refine ⟨fn, _, assign, body, hy, roundIn_of_wpIn hfn ?_⟩
    have hlt : D + 1 < W.heap.size := (Array.getElem?_eq_some_iff.1 i2).1
    obtain ⟨U, hU⟩ : ∃ U, U = W.putObj (D + 1) (.loop { R .ready none with state := .busy }) := ⟨_, rfl⟩
    have u2 : U.heap[D + 1]? = some (.loop { R .ready none with state := .busy }) := by rw [hU]; exact World.putObj_heap_same hlt
    have u3 : U.heap[D]? = some (.deferred (some [])) := by rw [hU]; exact (World.putObj_heap_other (by omega)).trans i3
    have u1 : I pre U := by rw [hU]; exact hI.turn _ i1 (by omega) i2 rfl
    have uk : Kp W U := by rw [hU]; exact hKb _ _ _ _ (by omega) i2 rfl
    have enter : (Instr.beginRound (D + 1)).run P W = .ok () U := by rw [hU]; exact run_beginRound i2 (by rw [hR])
    refine hassign _ x W _ ?_
    refine ⟨_, enter, wpIn_mono (hbody _ pre x U u1 hpx) ?_⟩
    have leave : ∀ (jump : Option Code) (W3 : World), KeepsOthers U W3 → (Instr.endRound (D + 1) jump).run P W3 = .ok (.bool jump.isNone) (W3.putObj (D + 1) (.loop (R (if jump.isNone then .ready else .done) jump))) ∧
        W3.heap[D + 1]? = some (.loop { R .ready none with state := .busy }) ∧ (W3.putObj (D + 1) (.loop (R (if jump.isNone then .ready else .done) jump))).heap[D + 1]? = some (.loop (R (if jump.isNone then .ready else .done) jump)) ∧
        (W3.putObj (D + 1) (.loop (R (if jump.isNone then .ready else .done) jump))).heap[D]? = some (.deferred (some [])) := by
      intro jump W3 hk
      have h3 := hk.same _ _ u2 rfl
      have h4 := run_endRound (P := P) jump h3
      rw [hR] at h4
      exact ⟨by rw [hR]; exact h4, h3, World.putObj_heap_same (Array.getElem?_eq_some_iff.1 h3).1, (World.putObj_heap_other (by omega)).trans (hk.same _ _ u3 rfl)⟩
    rintro e a3 W3 hp
    cases e with
    | normal =>
      obtain ⟨h3, h4, h5⟩ := hp
      obtain ⟨r1, r2, r3, r4⟩ := leave none W3 h3
      exact ⟨_, _, r1, .inl ⟨rfl, ⟨hI.turn _ h5 (by omega) r2 rfl, r3, r4⟩, hKt (hKt uk h4) (hKb _ _ _ _ (by omega) r2 rfl)⟩⟩
    | ret =>
      obtain ⟨h3, h5⟩ := hp
      obtain ⟨r1, r2, r3, r4⟩ := leave (some .ret) W3 h3
      exact ⟨_, _, r1, .inr ⟨rfl, hIx.turn _ h5 (by omega) r2 rfl, r3, r4⟩⟩
    | exit id => exact hp.elim
    | goto t => exact hp.elim
    | panic ch => exact hp.elim
    | outgrown => exact hp.elim
  · rintro e W2 ⟨⟨v, rfl⟩, (⟨q1, q2, q3⟩ | ⟨pre, qp, q1, q2, q3⟩)⟩
    · have h5 := run_endLoop (P := P) q2 (by rw [hR]; simp)
      rw [hR] at h5
      exact ⟨none, _, by rw [hD] at h5 ⊢; exact h5, hdone D _ (by omega) (hI.turn _ q1 (by omega) q2 rfl) ((World.putObj_heap_other (by omega)).trans q3)⟩
    · have h5 := run_endLoop (P := P) q2 (by rw [hR]; simp)
      rw [hR] at h5
      exact ⟨some .ret, _, by rw [hD] at h5 ⊢; exact h5, hstop D pre _ (by omega) qp (hIx.turn _ q1 (by omega) q2 rfl) ((World.putObj_heap_other (by omega)).trans q3)⟩
end Go.Proofs.YtddilmocngedjaaDoor
