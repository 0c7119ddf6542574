/- A function's code, by content: its verification condition (awp), and its contract. -/
import Derived.Test.YtnhfjdbnkpbbkabLaxZ2
namespace Go.Proofs.Ytnhfjdbnkpbbkab
set_option linter.unusedVariables false
set_option linter.unusedSimpArgs false
open Go.RowKit

inductive Ex where
  | normal
  | exit (id : Nat)
  | ret

/-- the same state, with less known: what is listed stays as it is -/
def lookT : List (Nat × AV) → Nat → AV
  | [], _ => .any
  | (k, v) :: r, t => bif t == k then v else lookT r t
def lookB : List (Nat × List AV) → Nat → Option (List AV)
  | [], _ => none
  | (k, v) :: r, t => bif t == k then some v else lookB r t
def lookR : List ((Nat × Nat) × Nat) → Nat → Nat → RowSt
  | [], _, _ => .free
  | (k, v) :: r, x, y => bif (x == k.1 && y == k.2) then .live v else lookR r x y
def mkSt (T : List (Nat × AV)) (B : List (Nat × List AV)) (R : List ((Nat × Nat) × Nat)) : St := { tmps := lookT T, boxes := lookB B, rows := lookR R }
/-- a cell names nothing but what is listed -/
def AV.knownCell (B : List Nat) (R : List (Nat × Nat)) : AV → Bool
  | .ptr s _ => B.contains s
  | .sl _ (.row a b _) => R.contains (a, b)
  | _ => true
def AV.known (B : List Nat) (R : List (Nat × Nat)) : AV → Bool
  | .tup vs => vs.all fun v => v.cells.all (AV.knownCell B R)
  | v => v.cells.all (AV.knownCell B R)
def listT (st : St) : List (Nat × AV) → Prop
  | [] => True
  | (k, v) :: r => st.tmps k = v ∧ listT st r
def listB (st : St) : List (Nat × List AV) → Prop
  | [] => True
  | (k, v) :: r => st.boxes k = some v ∧ listB st r
def listR (st : St) : List ((Nat × Nat) × Nat) → Prop
  | [] => True
  | (k, v) :: r => (match st.rows k.1 k.2 with | .live t => t = v | _ => False) ∧ listR st r
def knownAll (T : List (Nat × AV)) (B : List (Nat × List AV)) (R : List ((Nat × Nat) × Nat)) : Bool :=
  (T.all fun x => x.2.known (B.map (·.1)) (R.map (·.1))) && (B.all fun x => x.2.all (AV.knownCell (B.map (·.1)) (R.map (·.1))))
def Less (pins : List Nat) (st : St) (T : List (Nat × AV)) (B : List (Nat × List AV)) (R : List ((Nat × Nat) × Nat)) : Prop := listT st T ∧ listB st B ∧ listR st R ∧ knownAll T B R = true ∧ (pins.all fun s => (B.map (·.1)).contains s) = true

def evCond (st : St) (c : Operand) (X Y : Prop) : Prop :=
  match st.ev c with
  | .bool b => match b with
    | true => X
    | false => Y
  | _ => False

/-- a loop's states: what is known there, told by a value of one's own; what holds of it; and how much is still to come -/
structure LoopInv where
  V : Type
  T : V → List (Nat × AV)
  B : V → List (Nat × List AV)
  R : V → List ((Nat × Nat) × Nat)
  inv : V → Prop
  mu : V → Nat
/-- the verification condition of code; a loop is named by the block that it stands in -/
def awp (pins : List Nat) (L : Nat → Option LoopInv) (Γ : Nat → Option Con) (P : Program) (n : Nat) : Nat → Code → St → (Ex → St → Prop) → Prop
  | cur, .skip, st, Q => Q .normal st
  | cur, .label _, st, Q => Q .normal st
  | cur, .region _ ops draw, st, Q => dstsOK n ops.toList = true ∧ runK Γ P ops ops.toList st [] fun fs st' => (match draw with | true => drawOK ops fs = true ∧ Q .normal st' | false => Q .normal st')
  | cur, .seq x y, st, Q => awp pins L Γ P n cur x st fun e s => match e with | .normal => awp pins L Γ P n cur y s Q | e => Q e s
  | cur, .cond c x y, st, Q => evCond st c (awp pins L Γ P n cur x st Q) (awp pins L Γ P n cur y st Q)
  | cur, .block id b, st, Q => awp pins L Γ P n id b st fun e s => match e with | .exit i => (match decide (i = id) with | true => Q .normal s | false => Q (.exit i) s) | e => Q e s
  | cur, .loop b, st, Q => match L cur with
    | none => False
    | some J => (∃ v : J.V, Less pins st (J.T v) (J.B v) (J.R v) ∧ J.inv v) ∧
      ∀ v : J.V, J.inv v → awp pins L Γ P n cur b (mkSt (J.T v) (J.B v) (J.R v)) fun e s' => match e with | .normal => ∃ v' : J.V, Less pins s' (J.T v') (J.B v') (J.R v') ∧ J.inv v' ∧ J.mu v' < J.mu v | e => Q e s'
  | cur, .exit id, st, Q => Q (.exit id) st
  | cur, .ret, st, Q => Q .ret st
  | _, _, _, _ => False

section
variable {P : Program} {n : Nat} {w0 : World} {own own' : OwnP} {st st' : St} {G G' : Gh} {a : Act} {w w' : World} {Γ : Nat → Option Con}

theorem lookT_spec {T : List (Nat × AV)} (h : listT st T) (t : Nat) : lookT T t = .any ∨ lookT T t = st.tmps t := by
  induction T with
  | nil => exact .inl rfl
  | cons x T ih =>
    obtain ⟨k, v⟩ := x
    simp only [lookT]
    by_cases hk : t = k
    · subst hk; right; simp [h.1]
    · have : (t == k) = false := by simpa using hk
      simp only [this, cond_false]
      exact ih h.2
theorem lookB_spec {B : List (Nat × List AV)} (h : listB st B) {s : Nat} {c : List AV} (hs : lookB B s = some c) : st.boxes s = some c := by
  induction B with
  | nil => cases hs
  | cons x B ih =>
    obtain ⟨k, v⟩ := x
    simp only [lookB] at hs
    by_cases hk : s = k
    · subst hk; simp at hs; rw [← hs]; exact h.1
    · have : (s == k) = false := by simpa using hk
      simp only [this, cond_false] at hs
      exact ih h.2 hs
theorem lookB_mem {B : List (Nat × List AV)} {s : Nat} (h : (B.map (·.1)).contains s = true) : ∃ c, lookB B s = some c := by
  induction B with
  | nil => simp at h
  | cons x B ih =>
    obtain ⟨k, v⟩ := x
    simp only [lookB]
    by_cases hk : s = k
    · subst hk; exact ⟨v, by simp⟩
    · have : (s == k) = false := by simpa using hk
      simp only [this, cond_false]
      refine ih ?_
      simpa [hk] using h
theorem lookR_spec {R : List ((Nat × Nat) × Nat)} (h : listR st R) {x y tip : Nat} (hs : lookR R x y = .live tip) : st.rows x y = .live tip := by
  induction R with
  | nil => cases hs
  | cons z R ih =>
    obtain ⟨k, v⟩ := z
    simp only [lookR] at hs
    by_cases hk : x = k.1 ∧ y = k.2
    · obtain ⟨rfl, rfl⟩ := hk
      simp at hs
      have := h.1
      split at this
      · rename_i hh; rw [hh, this, hs]
      · exact this.elim
    · have : (x == k.1 && y == k.2) = false := by
        rw [Bool.and_eq_false_iff]
        by_cases h1 : x = k.1
        · right; simp; intro h2; exact hk ⟨h1, h2⟩
        · left; simpa using h1
      simp only [this, cond_false] at hs
      exact ih h.2 hs
theorem lookR_mem {R : List ((Nat × Nat) × Nat)} {x y : Nat} (h : (R.map (·.1)).contains (x, y) = true) : ∃ t, lookR R x y = .live t := by
  induction R with
  | nil => simp at h
  | cons z R ih =>
    obtain ⟨k, v⟩ := z
    simp only [lookR]
    by_cases hk : x = k.1 ∧ y = k.2
    · obtain ⟨rfl, rfl⟩ := hk; exact ⟨v, by simp⟩
    · have : (x == k.1 && y == k.2) = false := by
        rw [Bool.and_eq_false_iff]
        by_cases h1 : x = k.1
        · right; simp; intro h2; exact hk ⟨h1, h2⟩
        · left; simpa using h1
      simp only [this, cond_false]
      refine ih ?_
      simp only [List.map_cons, List.contains_cons, Bool.or_eq_true, beq_iff_eq] at h
      rcases h with h | h
      · exact absurd ⟨congrArg Prod.fst h, congrArg Prod.snd h⟩ hk
      · exact h
theorem lookR_not_dead {R : List ((Nat × Nat) × Nat)} {x y : Nat} : lookR R x y ≠ .dead := by
  induction R with
  | nil => simp [lookR]
  | cons z R ih =>
    simp only [lookR]
    cases (x == z.1.1 && y == z.1.2) <;> simp [ih]

theorem lookT_any {T : List (Nat × AV)} {t : Nat} (hm : ¬ ∃ v, (t, v) ∈ T ∧ lookT T t = v) : lookT T t = .any := by
  induction T with
  | nil => rfl
  | cons x T ih =>
    obtain ⟨k, v⟩ := x
    by_cases hkk : t = k
    · subst hkk
      exact absurd ⟨v, by simp, by simp [lookT]⟩ hm
    · have hf : (t == k) = false := by simpa using hkk
      have he : lookT ((k, v) :: T) t = lookT T t := by simp [lookT, hf]
      rw [he]
      refine ih ?_
      rintro ⟨v', h1, h2⟩
      exact hm ⟨v', by simp [h1], by rw [he]; exact h2⟩
theorem lookB_in {B : List (Nat × List AV)} {s : Nat} {cs : List AV} (h : lookB B s = some cs) : (s, cs) ∈ B := by
  induction B with
  | nil => cases h
  | cons x B ih =>
    obtain ⟨k, v⟩ := x
    simp only [lookB] at h
    by_cases hkk : s = k
    · subst hkk; simp at h; simp [h]
    · have hf : (s == k) = false := by simpa using hkk
      simp only [hf, cond_false] at h
      simp [ih h]

/-- less known of the same state -/
theorem Rel.less (hR : Rel P n w0 own st G a w) {T : List (Nat × AV)} {B : List (Nat × List AV)} {R : List ((Nat × Nat) × Nat)} {pins : List Nat} (hpin : ∀ s b, own.pin s = some b → s ∈ pins) (h : Less pins st T B R) : Rel P n w0 own (mkSt T B R) G a w := by
  obtain ⟨hT, hB, hRr, hk, hpn⟩ := h
  unfold knownAll at hk
  simp only [Bool.and_eq_true] at hk
  obtain ⟨hk1, hk2⟩ := hk
  rw [List.all_eq_true] at hk1 hk2
  have hst : ∀ b o, stable P st G b o → stable P (mkSt T B R) G b o := fun b o hs => ⟨hs.1, fun s cs h => hs.2.1 s cs (lookB_spec hB h), fun x y tip h => hs.2.2 x y tip (lookR_spec hRr h)⟩
  have hmono : ∀ b o u, stable P st G b o → w.cell? ⟨b, o, none⟩ = some u → stable P (mkSt T B R) G b o ∧ w.cell? ⟨b, o, none⟩ = some u := fun b o u h1 h2 => ⟨hst b o h1, h2⟩
  have cell : ∀ {c : AV} {u : Value}, Rep1 P st G w c u → c.knownCell (B.map (·.1)) (R.map (·.1)) = true → Rep1 P (mkSt T B R) G w c u := by
    intro c u hc hn
    cases c with
    | ptr s off =>
      obtain ⟨_, h2⟩ := hc
      exact ⟨lookB_mem hn, h2⟩
    | sl xs ow =>
      cases ow with
      | no => exact RepP.mono hc hmono
      | nil => exact hc
      | row x y e =>
        obtain ⟨h1, h2⟩ := hc
        refine ⟨h1.mono hmono, ?_⟩
        obtain ⟨t, ht⟩ := lookR_mem hn
        have h3 := lookR_spec hRr ht
        have h4 : (mkSt T B R).rows x y = .live t := ht
        rw [h4]
        rw [h3] at h2
        exact h2
    | eptr x j =>
      obtain ⟨b, off, h1, h2⟩ := hc
      exact ⟨b, off, h1, fun i c hc => by obtain ⟨h0, h3, u, h4, h5⟩ := h2 i c hc; exact ⟨h0, hst _ _ h3, u, h4, h5.mono hmono⟩⟩
    | agg _ => exact hc
    | tup _ => exact hc
    | skip => exact RepP.mono hc hmono
    | any => exact RepP.mono hc hmono
    | bool _ => exact RepP.mono hc hmono
    | int _ _ => exact RepP.mono hc hmono
    | str _ => exact RepP.mono hc hmono
    | nilptr => exact RepP.mono hc hmono
    | fn _ _ => exact RepP.mono hc hmono
    | nilfn => exact RepP.mono hc hmono
  have agg : ∀ {v : AV} {r : Value}, RepA P st G w v r → v.cells.all (AV.knownCell (B.map (·.1)) (R.map (·.1))) = true → RepA P (mkSt T B R) G w v r := by
    intro v r hv hn
    rw [List.all_eq_true] at hn
    by_cases ha : ∃ cs, v = .agg cs
    · obtain ⟨cs, rfl⟩ := ha
      obtain ⟨us, h1, h2, h3⟩ := hv
      exact ⟨us, h1, h2, fun i c hc => by obtain ⟨h0, u, h4, h5⟩ := h3 i c hc; exact ⟨h0, u, h4, cell h5 (hn c (List.mem_of_getElem? hc))⟩⟩
    · have ha' : ∀ cs, v ≠ .agg cs := fun cs e => ha ⟨cs, e⟩
      rw [RepA_eq ha'] at hv ⊢
      exact cell hv (hn v (by rw [cellsOf_one ha']; simp))
  refine ⟨hR.size, hR.defers, fun t => ?_, ⟨fun s cs h => ?_, fun s cs s' cs' h h' he => hR.mem.inj s cs s' cs' (lookB_spec hB h) (lookB_spec hB h') he, fun x y tip h => hR.mem.row x y tip (lookR_spec hRr h),
    fun x y tip x' y' tip' g h h' => hR.mem.rinj x y tip x' y' tip' g (lookR_spec hRr h) (lookR_spec hRr h'), fun s cs x y tip h h' => hR.mem.brow s cs x y tip (lookB_spec hB h) (lookR_spec hRr h')⟩, hR.pres,
    fun s cs h => hR.obox s cs (lookB_spec hB h), fun x y tip g h => hR.orow x y tip g (lookR_spec hRr h), hR.bad, fun x y tip g o h => hR.rbad x y tip g o (lookR_spec hRr h), fun s b h => ⟨lookB_mem (by rw [List.all_eq_true] at hpn; exact hpn s (hpin s b h)), (hR.pin s b h).2⟩, hR.same⟩
  · have hv := hR.tmps t
    have : (mkSt T B R).tmps t = lookT T t := rfl
    rw [this]
    by_cases hm : ∃ v, (t, v) ∈ T ∧ lookT T t = v
    · obtain ⟨v, hm1, hm2⟩ := hm
      rw [hm2]
      rcases lookT_spec hT t with h | h
      · rw [hm2] at h; rw [h]; exact rep_any _
      · rw [hm2] at h
        rw [← h] at hv
        have hkn := hk1 (t, v) hm1
        simp only at hkn
        by_cases ht : ∃ vs, v = .tup vs
        · obtain ⟨vs, rfl⟩ := ht
          obtain ⟨us, q1, q2, q3⟩ := hv
          simp only [AV.known, List.all_eq_true] at hkn
          refine ⟨us, q1, q2, fun i c hc => ?_⟩
          obtain ⟨u, q4, q5⟩ := q3 i c hc
          exact ⟨u, q4, agg q5 (by rw [List.all_eq_true]; exact hkn c (List.mem_of_getElem? hc))⟩
        · have ht' : ∀ vs, v ≠ .tup vs := fun vs e => ht ⟨vs, e⟩
          rw [Rep_eq ht'] at hv ⊢
          refine agg hv ?_
          cases v <;> first | exact hkn | exact absurd rfl (ht' _)
    · have : lookT T t = .any := lookT_any hm
      rw [this]; exact rep_any _
  · obtain ⟨us, t, h1, h2, h3⟩ := hR.mem.box s cs (lookB_spec hB h)
    refine ⟨us, t, h1, h2, fun i c hc => ?_⟩
    obtain ⟨h4, u, h5, h6⟩ := h3 i c hc
    refine ⟨h4, u, h5, cell h6 ?_⟩
    have : (s, cs) ∈ B := lookB_in h
    have hkb := hk2 (s, cs) this
    simp only [List.all_eq_true] at hkb
    exact hkb c (List.mem_of_getElem? hc)
end
end Go.Proofs.Ytnhfjdbnkpbbkab
