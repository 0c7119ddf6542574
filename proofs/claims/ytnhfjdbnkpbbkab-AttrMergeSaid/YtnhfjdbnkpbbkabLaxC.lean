/- When a value's content fits a real value in a real world (Rep), a frame's state a real frame (Rel); what keeps it. Nothing is said of the program here. -/
import Derived.Test.YtnhfjdbnkpbbkabLaxB
namespace Go.Proofs.Ytnhfjdbnkpbbkab
set_option linter.unusedVariables false
set_option linter.unusedSimpArgs false
open Go.RowKit

structure Gh where
  bx : Nat → Nat
  cv : Nat → Nat → Value
  et : Nat → Nat → Nat
  bad : Nat → Nat → Prop

/-- a value that holds no address of the frame's own -/
inductive RepP (w : World) (S : Nat → Nat → Prop) : AV → Value → Prop
  | any (v : Value) : RepP w S .any v
  | skip : RepP w S .skip undef
  | bool (b : Bool) : RepP w S (.bool b) (.bool b)
  | int (k : IntKind) (n : Int) (h1 : k.min ≤ n) (h2 : n ≤ k.max) : RepP w S (.int k n) (.int k n)
  | str (l : List UInt8) (h : l.length ≤ 9223372036854775807) : RepP w S (.str l) (.string ⟨l.toArray⟩)
  | nilptr : RepP w S .nilptr (.pointer none)
  | nilfn : RepP w S .nilfn .nilFunc
  | fn (f : Nat) : RepP w S (.fn f []) (.func (.func f) #[] #[])
  | slnil (o : Own) (a : Option Addr) (cap : Nat) (h : cap ≤ maxLen) : RepP w S (.sl [] o) (.slice a 0 cap)
  | sl (xs : List AV) (o : Own) (b off cap size : Nat) (us : Nat → Nat → Value) (hc : xs.length ≤ cap) (hm : cap ≤ maxLen)
      (hsz : ∀ (i : Nat) (x : AV), xs[i]? = some x → x.cells.length = size)
      (hS : ∀ (i : Nat) (x : AV) (j : Nat) (c : AV), xs[i]? = some x → x.cells[j]? = some c → S b (off + i * size + j) ∧ w.cell? ⟨b, off + i * size + j, none⟩ = some (us i j) ∧ c.one = true)
      (hr : ∀ (i : Nat) (x : AV) (j : Nat) (c : AV), xs[i]? = some x → x.cells[j]? = some c → RepP w S c (us i j)) : RepP w S (.sl xs o) (.slice (some ⟨b, off, none⟩) xs.length cap)

theorem RepP.mono {w w' : World} {S S' : Nat → Nat → Prop} {v : AV} {r : Value} (h : RepP w S v r)
    (hk : ∀ b o u, S b o → w.cell? ⟨b, o, none⟩ = some u → S' b o ∧ w'.cell? ⟨b, o, none⟩ = some u) : RepP w' S' v r := by
  induction h with
  | any v => exact .any v
  | skip => exact .skip
  | bool b => exact .bool b
  | int k n h1 h2 => exact .int k n h1 h2
  | str l h => exact .str l h
  | nilptr => exact .nilptr
  | nilfn => exact .nilfn
  | fn f => exact .fn f
  | slnil o a cap h => exact .slnil o a cap h
  | sl xs o b off cap size us hc hm hsz hS hr ih =>
    exact .sl xs o b off cap size us hc hm hsz (fun i x j c h1 h2 => ⟨(hk _ _ _ (hS i x j c h1 h2).1 (hS i x j c h1 h2).2.1).1, (hk _ _ _ (hS i x j c h1 h2).1 (hS i x j c h1 h2).2.1).2, (hS i x j c h1 h2).2.2⟩) ih

theorem RepP.own {w : World} {S : Nat → Nat → Prop} {xs : List AV} {o o' : Own} {r : Value} (h : RepP w S (.sl xs o) r) : RepP w S (.sl xs o') r := by
  cases h with
  | slnil _ a cap h => exact .slnil _ a cap h
  | sl _ _ b off cap size us hc hm hsz hS hr => exact .sl xs o' b off cap size us hc hm hsz hS hr

/-- a cell that nobody writes any more -/
def stable (P : Program) (st : St) (G : Gh) (b o : Nat) : Prop :=
  ¬ G.bad b o ∧ (∀ s cs, st.boxes s = some cs → G.bx s ≠ b) ∧
  (∀ a c tip, st.rows a c = .live tip → (G.cv a c).ownBlock = some b → o < tip * tsize P (G.et a c))

def Rep1 (P : Program) (st : St) (G : Gh) (w : World) : AV → Value → Prop
  | .ptr s off, r => (∃ cs, st.boxes s = some cs) ∧ r = .pointer (some ⟨G.bx s, off, none⟩)
  | .sl xs (.row a b e), r => RepP w (stable P st G) (.sl xs .no) r ∧
    (match st.rows a b with
     | .free => False
     | .dead => True
     | .live tip => e = G.et a b ∧ xs.length ≤ tip ∧ (xs.length = tip → r = G.cv a b))
  | .sl xs .nil, r => xs = [] ∧ r = .slice none 0 0
  | .eptr x j, r => ∃ b off, r = .pointer (some ⟨b, off + j, none⟩) ∧ ∀ (i : Nat) (c : AV), x.cells[i]? = some c → c.one = true ∧ stable P st G b (off + i) ∧ ∃ u, w.cell? ⟨b, off + i, none⟩ = some u ∧ RepP w (stable P st G) c u
  | .agg _, _ => False
  | .tup _, _ => False
  | v, r => RepP w (stable P st G) v r

def RepA (P : Program) (st : St) (G : Gh) (w : World) : AV → Value → Prop
  | .agg cs, r => ∃ us : Array Value, r = .agg us ∧ us.size = cs.length ∧ ∀ (i : Nat) c, cs[i]? = some c → c.one = true ∧ ∃ u, us[i]? = some u ∧ Rep1 P st G w c u
  | v, r => Rep1 P st G w v r

def Rep (P : Program) (st : St) (G : Gh) (w : World) : AV → Value → Prop
  | .tup vs, r => ∃ us : Array Value, r = .tuple us ∧ us.size = vs.length ∧ ∀ (i : Nat) c, vs[i]? = some c → ∃ u, us[i]? = some u ∧ RepA P st G w c u
  | v, r => RepA P st G w v r

structure Mem (P : Program) (st : St) (G : Gh) (w : World) : Prop where
  box : ∀ s cs, st.boxes s = some cs → ∃ us t, w.heap[G.bx s]? = some (.cells us t (0, 0)) ∧ us.size = cs.length ∧ ∀ (i : Nat) c, cs[i]? = some c → c.one = true ∧ ∃ u, us[i]? = some u ∧ Rep1 P st G w c u
  inj : ∀ s cs s' cs', st.boxes s = some cs → st.boxes s' = some cs' → G.bx s = G.bx s' → s = s'
  row : ∀ a b tip, st.rows a b = .live tip → 0 < tsize P (G.et a b) ∧ ∃ us, w.ownsRow 0 (G.et a b) (tsize P (G.et a b)) (G.cv a b) tip us
  rinj : ∀ a b tip a' b' tip' g, st.rows a b = .live tip → st.rows a' b' = .live tip' → (G.cv a b).ownBlock = some g → (G.cv a' b').ownBlock = some g → a = a' ∧ b = b'
  brow : ∀ s cs a b tip, st.boxes s = some cs → st.rows a b = .live tip → (G.cv a b).ownBlock ≠ some (G.bx s)

/-- what a call may write: blocks, each with the length that stays; and boxes that lie where they lay -/
structure OwnP where
  of : Nat → Option Nat
  pin : Nat → Option Nat
  bad : Nat → Nat → Prop
instance : CoeFun OwnP (fun _ => Nat → Option Nat) := ⟨OwnP.of⟩
/-- of the world w0 just what is owned was written -/
structure Pres (w0 : World) (own : OwnP) (w : World) : Prop where
  os : w.os = w0.os
  tape : w.tape = w0.tape
  output : w.output = w0.output
  size : w0.heap.size ≤ w.heap.size
  block : ∀ b, b < w0.heap.size → own b = none → w.heap[b]? = w0.heap[b]?
  cell : ∀ b t, b < w0.heap.size → own b = some t → ∀ o u, o < t → w0.cell? ⟨b, o, none⟩ = some u → w.cell? ⟨b, o, none⟩ = some u

theorem Pres.refl (w : World) (own : OwnP) : Pres w own w := ⟨rfl, rfl, rfl, Nat.le_refl _, fun _ _ _ => rfl, fun _ _ _ _ _ _ _ h => h⟩

structure Rel (P : Program) (n : Nat) (w0 : World) (own : OwnP) (st : St) (G : Gh) (a : Act) (w : World) : Prop where
  size : a.tmps.size = n
  defers : a.defers = []
  tmps : ∀ t, Rep P st G w (st.tmps t) (a.tmps.getD t undef)
  mem : Mem P st G w
  pres : Pres w0 own w
  obox : ∀ s cs, st.boxes s = some cs → w0.heap.size ≤ G.bx s ∨ own (G.bx s) = some 0
  orow : ∀ a b tip g, st.rows a b = .live tip → (G.cv a b).ownBlock = some g → w0.heap.size ≤ g ∨ ∃ t, own g = some t ∧ t ≤ tip * tsize P (G.et a b)
  bad : ∀ b o, G.bad b o → b < w0.heap.size
  rbad : ∀ a b tip g o, st.rows a b = .live tip → (G.cv a b).ownBlock = some g → ¬ G.bad g o
  pin : ∀ s b, own.pin s = some b → (∃ cs, st.boxes s = some cs) ∧ G.bx s = b
  same : G.bad = own.bad

/-- what one step may do -/
structure Kp (P : Program) (st : St) (G : Gh) (w : World) (st' : St) (G' : Gh) (w' : World) : Prop where
  cell : ∀ b o u, stable P st G b o → w.cell? ⟨b, o, none⟩ = some u → stable P st' G' b o ∧ w'.cell? ⟨b, o, none⟩ = some u
  box : ∀ s cs, st.boxes s = some cs → (∃ cs', st'.boxes s = some cs') ∧ G'.bx s = G.bx s
  row : ∀ a b, st.rows a b ≠ .free → st'.rows a b ≠ .free ∧ ∀ tip', st'.rows a b = .live tip' → ∃ tip, st.rows a b = .live tip ∧ G'.et a b = G.et a b ∧ tip ≤ tip' ∧ (tip = tip' → G'.cv a b = G.cv a b)

section
variable {P : Program} {st st' st'' : St} {G G' G'' : Gh} {w w' w'' : World}
theorem Kp.refl : Kp P st G w st G w := ⟨fun _ _ _ h1 h2 => ⟨h1, h2⟩, fun s cs h => ⟨⟨cs, h⟩, rfl⟩, fun a b h => ⟨h, fun tip h' => ⟨tip, h', rfl, Nat.le_refl _, fun _ => rfl⟩⟩⟩
theorem Rep1.keep (k : Kp P st G w st' G' w') {v : AV} {r : Value} (h : Rep1 P st G w v r) : Rep1 P st' G' w' v r := by
  cases v with
  | ptr s off =>
    obtain ⟨⟨cs, h1⟩, h2⟩ := h
    obtain ⟨h3, h4⟩ := k.box s cs h1
    exact ⟨h3, by rw [h4]; exact h2⟩
  | sl xs o =>
    cases o with
    | no => exact RepP.mono h k.cell
    | nil => exact h
    | row a b e =>
      obtain ⟨h1, h2⟩ := h
      refine ⟨RepP.mono h1 k.cell, ?_⟩
      have hf : st.rows a b ≠ .free := by intro hh; rw [hh] at h2; exact h2
      obtain ⟨k1, k2⟩ := k.row a b hf
      cases hr : st'.rows a b with
      | free => exact k1 hr
      | dead => trivial
      | live tip' =>
        obtain ⟨tip, e1, e2, e3, e4⟩ := k2 tip' hr
        rw [e1] at h2
        obtain ⟨f1, f2, f3⟩ := h2
        exact ⟨by rw [e2]; exact f1, by omega, fun hx => by rw [e4 (by omega)]; exact f3 (by omega)⟩
  | eptr x j =>
    obtain ⟨b, off, h1, h2⟩ := h
    exact ⟨b, off, h1, fun i c hc => by
      obtain ⟨h0, h3, u, h4, h5⟩ := h2 i c hc
      exact ⟨h0, (k.cell _ _ _ h3 h4).1, u, (k.cell _ _ _ h3 h4).2, h5.mono k.cell⟩⟩
  | agg _ => exact h
  | tup _ => exact h
  | skip => exact RepP.mono h k.cell
  | any => exact RepP.mono h k.cell
  | bool _ => exact RepP.mono h k.cell
  | int _ _ => exact RepP.mono h k.cell
  | str _ => exact RepP.mono h k.cell
  | nilptr => exact RepP.mono h k.cell
  | fn _ _ => exact RepP.mono h k.cell
  | nilfn => exact RepP.mono h k.cell
theorem RepA_eq {v : AV} {r : Value} (hv : ∀ cs, v ≠ .agg cs) : RepA P st G w v r = Rep1 P st G w v r := by
  cases v <;> first | rfl | exact absurd rfl (hv _)
theorem Rep_eq {v : AV} {r : Value} (hv : ∀ cs, v ≠ .tup cs) : Rep P st G w v r = RepA P st G w v r := by
  cases v <;> first | rfl | exact absurd rfl (hv _)
theorem RepA.keep (k : Kp P st G w st' G' w') {v : AV} {r : Value} (h : RepA P st G w v r) : RepA P st' G' w' v r := by
  by_cases hv : ∃ cs, v = .agg cs
  · obtain ⟨cs, rfl⟩ := hv
    obtain ⟨us, h1, h2, h3⟩ := h
    exact ⟨us, h1, h2, fun i c hc => by obtain ⟨h0, u, h4, h5⟩ := h3 i c hc; exact ⟨h0, u, h4, h5.keep k⟩⟩
  · have hv' : ∀ cs, v ≠ .agg cs := fun cs e => hv ⟨cs, e⟩
    rw [RepA_eq hv'] at h ⊢
    exact h.keep k
theorem Rep.keep (k : Kp P st G w st' G' w') {v : AV} {r : Value} (h : Rep P st G w v r) : Rep P st' G' w' v r := by
  by_cases hv : ∃ cs, v = .tup cs
  · obtain ⟨cs, rfl⟩ := hv
    obtain ⟨us, h1, h2, h3⟩ := h
    exact ⟨us, h1, h2, fun i c hc => by obtain ⟨u, h4, h5⟩ := h3 i c hc; exact ⟨u, h4, h5.keep k⟩⟩
  · have hv' : ∀ cs, v ≠ .tup cs := fun cs e => hv ⟨cs, e⟩
    rw [Rep_eq hv'] at h ⊢
    exact h.keep k

theorem Rep.ofA {v : AV} {r : Value} (h : RepA P st G w v r) : Rep P st G w v r := by
  rw [Rep_eq]; exact h
  rintro cs rfl; exact (h : False).elim
theorem Rep.of1 {v : AV} {r : Value} (h : Rep1 P st G w v r) : Rep P st G w v r := by
  refine Rep.ofA ?_
  rw [RepA_eq]; exact h
  rintro cs rfl; exact (h : False).elim
theorem Rep.toA {v : AV} {r : Value} (h : Rep P st G w v r) (hv : ∀ cs, v ≠ .tup cs) : RepA P st G w v r := by rw [Rep_eq hv] at h; exact h
theorem Rep.to1 {v : AV} {r : Value} (h : Rep P st G w v r) (hv : ∀ cs, v ≠ .tup cs) (hv' : ∀ cs, v ≠ .agg cs) : Rep1 P st G w v r := by rw [Rep_eq hv, RepA_eq hv'] at h; exact h
theorem Rep1.one {v : AV} {r : Value} (h : Rep1 P st G w v r) (h1 : v.one = true) : r.oneCell' = true ∧ r.cells = #[r] := by
  cases v with
  | ptr s off => obtain ⟨_, rfl⟩ := h; exact ⟨rfl, rfl⟩
  | sl xs o =>
    cases o with
    | nil => obtain ⟨_, rfl⟩ := h; exact ⟨rfl, rfl⟩
    | no => cases h <;> exact ⟨rfl, rfl⟩
    | row a b e => obtain ⟨h, _⟩ := h; cases h <;> exact ⟨rfl, rfl⟩
  | eptr x j => obtain ⟨b, off, rfl, _⟩ := h; exact ⟨rfl, rfl⟩
  | skip => simp [AV.one] at h1
  | any => simp [AV.one] at h1
  | agg _ => exact h.elim
  | tup _ => exact h.elim
  | bool _ => cases h; exact ⟨rfl, rfl⟩
  | int _ _ => cases h; exact ⟨rfl, rfl⟩
  | str _ => cases h; exact ⟨rfl, rfl⟩
  | nilptr => cases h; exact ⟨rfl, rfl⟩
  | fn _ _ => cases h; exact ⟨rfl, rfl⟩
  | nilfn => cases h; exact ⟨rfl, rfl⟩

/-- cells of a value, as real cells -/
theorem Rep.cells {v : AV} {r : Value} (h : Rep P st G w v r) (h1 : allOne v.cells = true) : ∃ us : List Value, r.cells = us.toArray ∧ us.length = v.cells.length ∧ (∀ u ∈ us, u.oneCell' = true) ∧
    ∀ (i : Nat) c, v.cells[i]? = some c → c.one = true ∧ ∃ u, us[i]? = some u ∧ Rep1 P st G w c u := by
  unfold allOne at h1
  rw [List.all_eq_true] at h1
  by_cases hv : ∃ cs, v = .agg cs
  · obtain ⟨cs, rfl⟩ := hv
    obtain ⟨us, rfl, h2, h3⟩ := (h : RepA P st G w (.agg cs) r)
    refine ⟨us.toList, by simp [Value.cells], by simpa [AV.cells] using h2, ?_, ?_⟩
    · intro u hu
      obtain ⟨i, hi, rfl⟩ := List.getElem_of_mem hu
      have hi' : i < cs.length := by simpa [h2] using hi
      obtain ⟨h0, u', h4, h5⟩ := h3 i cs[i] (List.getElem?_eq_getElem hi')
      have : us[i]? = some us.toList[i] := by simp at hi; simp [hi]
      rw [this] at h4; cases h4
      exact (h5.one h0).1
    · intro i c hc
      obtain ⟨h0, u, h4, h5⟩ := h3 i c hc
      exact ⟨h0, u, by simpa using h4, h5⟩
  · have hv' : ∀ cs, v ≠ .agg cs := fun cs e => hv ⟨cs, e⟩
    have hc : v.cells = [v] := by cases v <;> first | rfl | exact absurd rfl (hv' _)
    rw [hc] at h1 ⊢
    have h0 : v.one = true := h1 v (by simp)
    have hv2 : ∀ cs, v ≠ .tup cs := by rintro cs rfl; simp [AV.one] at h0
    have h' := h.to1 hv2 hv'
    obtain ⟨e1, e2⟩ := h'.one h0
    refine ⟨[r], by rw [e2], rfl, by simpa using e1, ?_⟩
    intro i c hc
    match i, hc with
    | 0, hc => simp at hc; subst hc; exact ⟨h0, r, rfl, h'⟩
end

end Go.Proofs.Ytnhfjdbnkpbbkab
