/- Two operands: a real world does what the reading by content says. -/
import Derived.Test.YtnhfjdbnkpbbkabLaxE
namespace Go.Proofs.Ytnhfjdbnkpbbkab
set_option linter.unusedVariables false
set_option linter.unusedSimpArgs false
open Go.RowKit

section
variable {P : Program} {n : Nat} {w0 : World} {own : OwnP} {st st' : St} {G G' : Gh} {a : Act} {w w' : World} {o : Oper}

theorem keyType_guard : ∀ (m : Nat) (t : TypeId), P.keyTypeAt m t = true → ∀ d, m ≤ d → P.eqGuardType d t = false
  | 0, t, h => by simp [Program.keyTypeAt] at h
  | m + 1, t, h => by
    intro d hd
    obtain ⟨d, rfl⟩ : ∃ d', d = d' + 1 := ⟨d - 1, by omega⟩
    unfold Program.keyTypeAt at h
    unfold Program.eqGuardType
    cases hu : P.underlying t with
    | none => simp [hu] at h
    | some k =>
      cases k with
      | struct fs =>
        simp only [hu, Bool.and_eq_true] at h
        have h1 := h.1.1
        simp only [Array.all_eq_true] at h1
        simp only [Array.any_eq_false]
        intro i hi
        have := h1 i hi
        simp only [Bool.and_eq_true] at this
        simp only [Bool.and_eq_true, not_and]
        intro _
        have h2 := keyType_guard m _ this.2 d (by omega)
        simp [h2]
      | array n e => simp only [hu] at h; exact keyType_guard m e h d (by omega)
      | interface ms => simp [hu] at h
      | _ => rfl

theorem depth_big : 8 ≤ P.depth := by unfold Program.depth Made.depth; omega

/-- leaves as literals -/
def litOf : AV → Lit
  | .bool b => .bool b
  | .int k n => .int k n
  | .str l => .string l
  | _ => .bool false

theorem drop_take_get {α : Type} {l : List α} {o k i : Nat} : ((l.drop o).take k)[i]? = if i < k then l[o + i]? else none := by
  rw [List.getElem?_take]; split <;> simp [List.getElem?_drop]

theorem avLits_key (d : Nat) : ∀ (t : TypeId) (cs : List AV) (us : List Value) (la : List AV), P.keyTypeAt d t = true → avLits P d t cs = some la → us.length = cs.length → (∀ (i : Nat) c u, cs[i]? = some c → us[i]? = some u → Rep1 P st G w c u) →
    P.keyLits d t us = some (la.map litOf) ∧ ∀ x ∈ la, (∃ b, x = .bool b) ∨ (∃ k i, x = .int k i) ∨ ∃ l, x = .str l := by
  induction d with
  | zero => intro t cs us la _ h; simp [avLits] at h
  | succ d ih =>
    intro t cs us la hkt h hl hr
    have chunk : ∀ o k, ((us.drop o).take k).length = ((cs.drop o).take k).length := by intro o k; simp [hl]
    have hchunk : ∀ o k, ∀ (i : Nat) c u, ((cs.drop o).take k)[i]? = some c → ((us.drop o).take k)[i]? = some u → Rep1 P st G w c u := by
      intro o k i c u h1 h2
      rw [drop_take_get] at h1 h2
      split at h1
      · simp_all; exact hr _ c u h1 h2
      · cases h1
    have hmap : ∀ {α : Type} (f : α → TypeId × Nat × Nat) (l : List α) (ss : List (List AV)), (∀ x ∈ l, P.keyTypeAt d (f x).1 = true) → mapO (fun x => avLits P d (f x).1 ((cs.drop (f x).2.1).take (f x).2.2)) l = some ss →
        l.mapM (fun x => P.keyLits d (f x).1 ((us.drop (f x).2.1).take (f x).2.2)) = some (ss.map (·.map litOf)) ∧ ∀ s ∈ ss, ∀ x ∈ s, (∃ b, x = .bool b) ∨ (∃ k i, x = .int k i) ∨ ∃ l, x = .str l := by
      intro α f l
      induction l with
      | nil => intro ss _ h; simp [mapO] at h; subst h; simp
      | cons x l ihl =>
        intro ss hka h
        simp only [mapO] at h
        split at h
        · rename_i y s h1 h2
          cases h
          obtain ⟨e1, e2⟩ := ih _ _ _ _ (hka x (by simp)) h1 (chunk _ _) (hchunk _ _)
          obtain ⟨e3, e4⟩ := ihl _ (fun y hy => hka y (by simp [hy])) h2
          refine ⟨by rw [List.mapM_cons, e1, e3]; rfl, ?_⟩
          intro q hq
          rcases List.mem_cons.1 hq with rfl | hq
          · exact e2
          · exact e4 q hq
        · cases h
    unfold avLits at h
    unfold Program.keyLits
    unfold Program.keyTypeAt at hkt
    split at h
    · rename_i b hu
      cases h
      obtain ⟨u, hu1⟩ : ∃ u, us = [u] := by match us, hl with | [u], _ => exact ⟨u, rfl⟩
      subst hu1
      have := hr 0 _ u rfl rfl
      cases (this : RepP w _ (.bool b) u)
      rw [hu]
      exact ⟨rfl, by simp⟩
    · rename_i q q' i hu
      split at h
      · rename_i hq; subst hq
        cases h
        obtain ⟨u, hu1⟩ : ∃ u, us = [u] := by match us, hl with | [u], _ => exact ⟨u, rfl⟩
        subst hu1
        have := hr 0 _ u rfl rfl
        cases (this : RepP w _ (.int q' i) u)
        rename_i h1 h2
        rw [hu]
        have hwf : (Lit.int q' i).wf = true := by simp [Lit.wf, h1, h2]
        simp [hwf, litOf]
      · cases h
    · rename_i s hu
      cases h
      obtain ⟨u, hu1⟩ : ∃ u, us = [u] := by match us, hl with | [u], _ => exact ⟨u, rfl⟩
      subst hu1
      have := hr 0 _ u rfl rfl
      cases (this : RepP w _ (.str s) u)
      rename_i h1
      rw [hu]
      have : (⟨s.toArray⟩ : ByteArray).size ≤ maxLen := by rw [size_mk]; unfold maxLen; omega
      simp [this, litOf]
    · rename_i n' e hu
      split at h
      · rename_i hc
        rw [hu]
        simp only [Option.map_eq_some_iff] at h
        obtain ⟨ss, h1, rfl⟩ := h
        obtain ⟨e1, e2⟩ := hmap (fun i => (e, i * P.cellsOf e, P.cellsOf e)) _ _ (fun _ _ => by simpa [hu] using hkt) h1
        simp only [hl, hc, if_true, e1, Option.map_some, List.map_flatten]
        refine ⟨by first | rfl | simp, ?_⟩
        intro x hx
        obtain ⟨s, hs, hxs⟩ := List.mem_flatten.1 hx
        exact e2 s hs x hxs
      · cases h
    · rename_i fs hu
      split at h
      · rename_i hc
        rw [hu]
        simp only [Option.map_eq_some_iff] at h
        obtain ⟨ss, h1, rfl⟩ := h
        simp only [hu, Bool.and_eq_true] at hkt
        have hk1 := hkt.1.1
        have hall : ∀ f ∈ fs.toList, (f.name != "_") = true ∧ P.keyTypeAt d f.type = true := by
          intro f hf
          rw [Array.all_eq_true] at hk1
          obtain ⟨i, hi, rfl⟩ := List.getElem_of_mem hf
          have := hk1 i (by simpa using hi)
          simpa using this
        have hnm : fs.all (·.name != "_") = true := by
          rw [Array.all_eq_true]
          intro i hi
          exact (hall fs[i] (by simp)).1
        obtain ⟨e1, e2⟩ := hmap (fun (f : Field) => (f.type, f.offset, P.cellsOf f.type)) _ _ (fun f hf => (hall f hf).2) h1
        simp only [hl, hc, hnm, and_self, if_true, e1, Option.map_some, List.map_flatten]
        refine ⟨by first | rfl | simp, ?_⟩
        intro x hx
        obtain ⟨s, hs, hxs⟩ := List.mem_flatten.1 hx
        exact e2 s hs x hxs
      · cases h
    · cases h

theorem same_lits : ∀ (x y : List AV), (∀ q ∈ x, (∃ b, q = .bool b) ∨ (∃ k i, q = .int k i) ∨ ∃ l, q = .str l) → (∀ q ∈ y, (∃ b, q = .bool b) ∨ (∃ k i, q = .int k i) ∨ ∃ l, q = .str l) →
    Alike (x.map litOf) (y.map litOf) → (sameCells x y = true ↔ x.map litOf = y.map litOf)
  | [], [], _, _, _ => by simp [sameCells]
  | a :: x, b :: y, hx, hy, hk => by
    have ih := same_lits x y (fun q hq => hx q (by simp [hq])) (fun q hq => hy q (by simp [hq])) hk.2
    have h1 : a.same b = true ↔ litOf a = litOf b := by
      have := hk.1
      rcases hx a (by simp) with ⟨p, rfl⟩ | ⟨k, i, rfl⟩ | ⟨l, rfl⟩ <;> rcases hy b (by simp) with ⟨p', rfl⟩ | ⟨k', i', rfl⟩ | ⟨l', rfl⟩ <;> simp_all [AV.same, litOf, Lit.sameKind]
      try (rintro rfl; assumption)
    simp only [sameCells, Bool.and_eq_true, List.map_cons, List.cons.injEq, h1, ih]
  | [], _ :: _, _, _, hk => hk.elim
  | _ :: _, [], _, _, hk => hk.elim

theorem run_aggEq {t : TypeId} {x y : List AV} {u v : Value} {r : Bool} (hx : Rep P st G w (.agg x) u) (hy : Rep P st G w (.agg y) v) (h : aggEq P t x y = some r) :
    (Op.equal t u v).run P w = .ok r w ∧ P.eqGuardType P.depth t = false ∧ ∃ xs ys, u = .agg xs ∧ v = .agg ys := by
  unfold aggEq at h
  split at h
  · rename_i hk0
    obtain ⟨hk, hag, hla, hlb⟩ := hk0
    split at h
    · rename_i la lb h1 h2
      cases h
      obtain ⟨us, rfl, hu1, hu2⟩ := (hx : RepA P st G w (.agg x) u)
      obtain ⟨vs, rfl, hv1, hv2⟩ := (hy : RepA P st G w (.agg y) v)
      obtain ⟨a1, a2⟩ := avLits_key (w := w) (G := G) (st := st) 8 t x us.toList la hk h1 (by simpa using hu1) (fun i c q hc hq => by
        obtain ⟨_, q', h3, h4⟩ := hu2 i c hc
        simp only [Array.getElem?_toList] at hq
        rw [hq] at h3; cases h3; exact h4)
      obtain ⟨b1, b2⟩ := avLits_key (w := w) (G := G) (st := st) 8 t y vs.toList lb hk h2 (by simpa using hv1) (fun i c q hc hq => by
        obtain ⟨_, q', h3, h4⟩ := hv2 i c hc
        simp only [Array.getElem?_toList] at hq
        rw [hq] at h3; cases h3; exact h4)
      have hform : ∀ (zs : Array Value), zs.size = tsize P t → (Value.agg zs).formed P t = true := by
        intro zs hz
        unfold tagg at hag
        unfold tsize at hz
        simp only [Value.formed]
        split at hag
        · rename_i hu; rw [hu]; simp [hz]
        · rename_i hu; rw [hu]; simp [hz]
        · cases hag
      obtain ⟨q, hq, hiff⟩ := run_equalIn_deep (P := P) 9992 8 t hk w 8 8 (.agg us) (.agg vs) _ _ (hform _ (hu1.trans hla)) (hform _ (hv1.trans hlb)) a1 b1
      refine ⟨?_, keyType_guard 8 t hk _ depth_big, us, vs, rfl, rfl⟩
      have : q = sameCells la lb := by
        have := same_lits la lb a2 b2 (keyLits_alike a1 b1)
        rw [Bool.eq_iff_iff, hiff, this]
      rw [← this]
      exact hq
    · cases h
  · cases h
end
end Go.Proofs.Ytnhfjdbnkpbbkab
