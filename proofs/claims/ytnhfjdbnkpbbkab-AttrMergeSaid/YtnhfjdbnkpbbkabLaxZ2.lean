/- A region that draws its order, in a real world. -/
import Derived.Test.YtnhfjdbnkpbbkabLaxZ
namespace Go.Proofs.Ytnhfjdbnkpbbkab
set_option linter.unusedVariables false
set_option linter.unusedSimpArgs false
open Go.RowKit

section
variable {P : Program} {n : Nat} {w0 : World} {own own' : OwnP} {st st' st1 st2 stF : St} {G G' : Gh} {a : Act} {w w' : World} {o : Oper} {Γ : Nat → Option Con} {ops : Array Oper} {ft : Foot} {E : Eff}

theorem masks_length : ∀ (l : List Oper) (acc : List Nat), (masks l acc).length = acc.length + l.length
  | [], acc => rfl
  | o :: l, acc => by simp only [masks, masks_length l]; simp; omega
theorem masks_keep : ∀ (l : List Oper) (acc : List Nat) (k : Nat), k < acc.length → (masks l acc)[k]? = acc[k]?
  | [], acc, k, h => rfl
  | o :: l, acc, k, h => by
    simp only [masks]
    rw [masks_keep l _ k (by simp; omega), List.getElem?_append_left h]
theorem masks_at : ∀ (l : List Oper) (acc : List Nat) (k : Nat) o, l[k]? = some o → ∃ acc' : List Nat, (masks l acc)[acc.length + k]? = some (maskOf acc' o) ∧ acc'.length = acc.length + k ∧ ∀ j, j < acc'.length → acc'[j]? = (masks l acc)[j]?
  | [], acc, k, o, h => by simp at h
  | x :: l, acc, 0, o, h => by
    simp at h; subst h
    simp only [masks, Nat.add_zero]
    refine ⟨acc, ?_, rfl, fun j hj => ?_⟩
    · rw [masks_keep l _ _ (by simp)]; simp
    · rw [masks_keep l _ j (by simp; omega), List.getElem?_append_left hj]
  | x :: l, acc, k + 1, o, h => by
    simp only [masks]
    obtain ⟨acc', h1, h2, h3⟩ := masks_at l (acc ++ [maskOf acc x]) k o (by simpa using h)
    refine ⟨acc', ?_, ?_, h3⟩
    · rw [← h1]; congr 1; simp; omega
    · rw [h2]; simp; omega

theorem fold_bits (acc : List Nat) (k : Nat) : ∀ (l : List Edge) (s : Nat), (l.foldl (fun s e => if Region.binds .any e then s ||| (2 ^ e.on ||| acc.getD e.on 0) else s) s).testBit k = true →
    s.testBit k = true ∨ ∃ e ∈ l, Region.binds .any e = true ∧ (e.on = k ∨ (acc.getD e.on 0).testBit k = true)
  | [], s, h => .inl h
  | e :: l, s, h => by
    simp only [List.foldl_cons] at h
    rcases fold_bits acc k l _ h with h1 | ⟨e', h1, h2⟩
    · split at h1
      · rename_i hb
        rw [Nat.testBit_or, Nat.testBit_or, Bool.or_eq_true, Bool.or_eq_true] at h1
        rcases h1 with h1 | h1 | h1
        · exact .inl h1
        · right
          refine ⟨e, by simp, hb, .inl ?_⟩
          rw [Nat.testBit_two_pow] at h1
          simpa using h1
        · exact .inr ⟨e, by simp, hb, .inr h1⟩
      · exact .inl h1
    · exact .inr ⟨e', by simp [h1], h2⟩

/-- what comes before an operation comes before it directly, or before one that does -/
theorem mask_spec {i k m : Nat} (ho : ops[i]? = some o) (hm : (masks ops.toList [])[i]? = some m) (hk : m.testBit k = true) : ∃ e ∈ o.after, Region.binds .any e = true ∧ (e.on = k ∨ ∃ m', (masks ops.toList [])[e.on]? = some m' ∧ m'.testBit k = true) := by
  obtain ⟨acc', h1, h2, h3⟩ := masks_at ops.toList [] i o (by simpa using ho)
  simp only [List.length_nil, Nat.zero_add] at h1 h2
  rw [hm] at h1
  cases h1
  unfold maskOf at hk
  rcases fold_bits acc' k _ 0 hk with h | ⟨e, h4, h5, h6⟩
  · simp at h
  · refine ⟨e, by simpa using h4, h5, ?_⟩
    rcases h6 with h6 | h6
    · exact .inl h6
    · right
      by_cases hl : e.on < acc'.length
      · have h7 := h3 e.on hl
        rw [List.getElem?_eq_getElem hl] at h7
        refine ⟨_, h7.symm, ?_⟩
        simpa [List.getD, List.getElem?_eq_getElem hl] using h6
      · rw [List.getD_eq_getElem?_getD, List.getElem?_eq_none (by omega)] at h6
        simp at h6

theorem edges_spec : ∀ (l : List Oper) (i k : Nat) o, edgesOK i l = true → l[k]? = some o → ∀ e ∈ o.after, Region.binds .any e = true → e.on < i + k
  | [], i, k, o, _, h => by simp at h
  | x :: l, i, 0, o, h, ho => by
    simp at ho; subst ho
    simp only [edgesOK, Bool.and_eq_true, List.all_eq_true] at h
    intro e he hb
    have := h.1 e (by simpa using he)
    simpa [hb] using this
  | x :: l, i, k + 1, o, h, ho => by
    simp only [edgesOK, Bool.and_eq_true] at h
    intro e he hb
    have := edges_spec l (i + 1) k o h.2 (by simpa using ho) e he hb
    omega

theorem pair_spec (p : Nat) (o : Oper) (f : Foot) : ∀ (l : List Oper) (fs : List Foot) (ms : List Nat) (q k : Nat) o' f' m, pairOK ops p o f q l fs ms = true → l[k]? = some o' → fs[k]? = some f' → ms[k]? = some m → m.testBit p = true ∨ (apartF ops o o' = true ∧ clash f f' = false)
  | [], _, _, _, k, o', f', m, _, h, _, _ => by simp at h
  | _ :: _, [], _, _, k, o', f', m, _, _, h, _ => by simp at h
  | _ :: _, _ :: _, [], _, k, o', f', m, _, _, _, h => by simp at h
  | x :: l, g :: fs, b :: ms, q, 0, o', f', m, h, h1, h2, h3 => by
    simp at h1 h2 h3; subst h1 h2 h3
    simp only [pairOK, Bool.and_eq_true, Bool.or_eq_true, Bool.not_eq_true'] at h
    exact h.1
  | x :: l, g :: fs, b :: ms, q, k + 1, o', f', m, h, h1, h2, h3 => by
    simp only [pairOK, Bool.and_eq_true] at h
    exact pair_spec p o f l fs ms (q + 1) k o' f' m h.2 (by simpa using h1) (by simpa using h2) (by simpa using h3)
theorem pairs_spec : ∀ (l : List Oper) (fs : List Foot) (ms : List Nat) (p0 p q : Nat) o f o' f' m, pairsOK ops p0 l fs ms = true → p < q → l[p]? = some o → fs[p]? = some f → ms.length = l.length → l[q]? = some o' → fs[q]? = some f' → ms[q]? = some m →
    m.testBit (p0 + p) = true ∨ (apartF ops o o' = true ∧ clash f f' = false)
  | [], _, _, _, p, q, o, f, o', f', m, _, _, h, _, _, _, _, _ => by simp at h
  | _ :: _, [], _, _, p, q, o, f, o', f', m, _, _, _, h, _, _, _, _ => by simp at h
  | _ :: _, _ :: _, [], _, p, q, o, f, o', f', m, _, _, _, _, h, _, _, _ => by simp at h
  | x :: l, g :: fs, b :: ms, p0, 0, q, o, f, o', f', m, h, hpq, h1, h2, h3, h4, h5, h6 => by
    simp at h1 h2; subst h1 h2
    simp only [pairsOK, Bool.and_eq_true] at h
    obtain ⟨q', rfl⟩ : ∃ q', q = q' + 1 := ⟨q - 1, by omega⟩
    exact pair_spec p0 x g l fs ms (p0 + 1) q' o' f' m h.1 (by simpa using h4) (by simpa using h5) (by simpa using h6)
  | x :: l, g :: fs, b :: ms, p0, p + 1, q, o, f, o', f', m, h, hpq, h1, h2, h3, h4, h5, h6 => by
    simp only [pairsOK, Bool.and_eq_true] at h
    obtain ⟨q', rfl⟩ : ∃ q', q = q' + 1 := ⟨q - 1, by omega⟩
    have := pairs_spec l fs ms (p0 + 1) p q' o f o' f' m h.2 (by omega) (by simpa using h1) (by simpa using h2) (by simpa using h3) (by simpa using h4) (by simpa using h5) (by simpa using h6)
    rw [show p0 + (p + 1) = p0 + 1 + p from by omega]
    exact this

/-- the operations that are not listed -/
def restOf (ops : Array Oper) (listed : Array Bool) : List Nat := (List.range ops.size).filter fun i => !listed.getD i true

theorem set_listed {listed : Array Bool} {i : Nat} (hi : i < listed.size) (k : Nat) : (listed.setIfInBounds i true).getD k true = (listed.getD k true || k == i) := by
  by_cases hk : k = i
  · subst hk; simp [Array.getD_eq_getD_getElem?, hi]
  · have : (k == i) = false := by simpa using hk
    rw [this, Bool.or_false]
    simp [Array.getD_eq_getD_getElem?, Array.getElem?_setIfInBounds_ne (Ne.symm hk)]

theorem mem_ready' {listed : Array Bool} {i : Nat} : i ∈ Region.ready .any ops listed ↔ listed.getD i true = false ∧ ∃ o, ops[i]? = some o ∧ ∀ e ∈ o.after, Region.binds .any e = true → listed.getD e.on false = true := by
  unfold Region.ready
  simp only [List.mem_filter, List.mem_range, Bool.and_eq_true, Bool.not_eq_true']
  constructor
  · rintro ⟨h1, h2, h3⟩
    refine ⟨h2, ops[i], Array.getElem?_eq_getElem h1, ?_⟩
    rw [Array.getElem?_eq_getElem h1] at h3
    simp only [Option.map_some, Option.getD_some, Array.all_eq_true] at h3
    intro e he hb
    obtain ⟨k, hk, rfl⟩ := Array.getElem_of_mem he
    have := h3 k hk
    simpa [hb] using this
  · rintro ⟨h1, o, ho, h2⟩
    have hlt := (Array.getElem?_eq_some_iff.1 ho).1
    refine ⟨hlt, h1, ?_⟩
    rw [ho]
    simp only [Option.map_some, Option.getD_some, Array.all_eq_true]
    intro k hk
    by_cases hb : Region.binds .any o.after[k] = true
    · simp [hb, h2 _ (Array.getElem_mem hk) hb]
    · simp only [Bool.not_eq_true] at hb; simp [hb]

theorem all_listed' {listed : Array Bool} (hs : listed.size = ops.size) (he : edgesOK 0 ops.toList = true) (hr : Region.ready .any ops listed = []) : ∀ m i, i < m → i < ops.size → listed.getD i true = true := by
  intro m
  induction m with
  | zero => intro i h; omega
  | succ m ih =>
    intro i hi hlt
    by_cases hx : listed.getD i true = true
    · exact hx
    · exfalso
      have hm : i ∈ Region.ready .any ops listed := by
        refine mem_ready'.2 ⟨by simpa using hx, ops[i], Array.getElem?_eq_getElem hlt, fun e he' hb => ?_⟩
        have hj := edges_spec ops.toList 0 i ops[i] he (by simp [hlt]) e he' hb
        rw [Nat.zero_add] at hj
        have h4 := ih e.on (by omega) (by omega)
        have h5 : e.on < listed.size := by omega
        simpa [Array.getD_eq_getD_getElem?, h5] using h4
      rw [hr] at hm; cases hm

theorem rest_split {listed : Array Bool} {i : Nat} (hs : listed.size = ops.size) {l : List (Nat × Foot)} (hl : l.map (·.1) = restOf ops listed) (hi : i < ops.size) (hu : listed.getD i true = false) :
    ∃ pre fi post, l = pre ++ (i, fi) :: post ∧ (pre ++ post).map (·.1) = restOf ops (listed.setIfInBounds i true) := by
  have hm : i ∈ l.map (·.1) := by rw [hl]; exact List.mem_filter.2 ⟨List.mem_range.2 hi, by simp [hu]⟩
  obtain ⟨⟨i', fi⟩, hx, rfl⟩ := List.mem_map.1 hm
  obtain ⟨pre, post, rfl⟩ := List.append_of_mem hx
  refine ⟨pre, fi, post, rfl, ?_⟩
  simp only at hu hi hl ⊢
  have hnd : (restOf ops listed).Nodup := List.nodup_range.filter _
  rw [← hl] at hnd
  simp only [List.map_append, List.map_cons] at hnd hl
  have h1 : restOf ops (listed.setIfInBounds i' true) = (restOf ops listed).filter (fun k => k != i') := by
    unfold restOf
    rw [List.filter_filter]
    apply List.filter_congr
    intro k _
    rw [set_listed (by omega)]
    cases listed.getD k true <;> cases h : (k == i') <;> simp [bne, h]
  rw [h1, ← hl, List.filter_append, List.filter_cons]
  simp only [bne_self_eq_false, Bool.false_eq_true, if_false]
  rw [List.nodup_append] at hnd
  obtain ⟨n1, n2, n3⟩ := hnd
  rw [List.nodup_cons] at n2
  rw [List.map_append, List.filter_eq_self.2, List.filter_eq_self.2]
  · intro k hk
    simp only [bne_iff_ne]
    rintro rfl
    exact n2.1 hk
  · intro k hk
    simp only [bne_iff_ne]
    rintro rfl
    exact n3 k hk k (by simp) rfl

theorem any_run (hS : Sound P Γ) (hd : dstsOK n ops.toList = true) (hed : edgesOK 0 ops.toList = true) {Q : Exit → Act → World → Prop} (hQ : ∀ G' a' w', Rel P n w0 own stF G' a' w' → Q .normal a' w') :
    ∀ (fuel : Nat) (listed : Array Bool) (l : List (Nat × Foot)) (st : St) (G : Gh) (a : Act) (w : World), RunI Γ P ops l st stF → l.map (·.1) = restOf ops listed →
      l.Pairwise (fun x y => ∀ o o' m, ops[x.1]? = some o → ops[y.1]? = some o' → (masks ops.toList [])[y.1]? = some m → m.testBit x.1 = true ∨ (apartF ops o o' = true ∧ clash x.2 y.2 = false)) →
      Rel P n w0 own st G a w → listed.size = ops.size → l.length ≤ fuel → (∀ j, j < ops.size → listed.getD j true = true → ∀ m k, (masks ops.toList [])[j]? = some m → m.testBit k = true → listed.getD k false = true) →
      wpAny P .any ops Q fuel listed a w := by
  have last : ∀ (listed : Array Bool) (l : List (Nat × Foot)) (st : St) (G : Gh) (a : Act) (w : World), RunI Γ P ops l st stF → l.map (·.1) = restOf ops listed → Rel P n w0 own st G a w → listed.size = ops.size → Region.ready .any ops listed = [] → Q .normal a w := by
    intro listed l st G a w hrun hl hR hs hr
    have hall := all_listed' hs hed hr
    have : restOf ops listed = [] := by
      unfold restOf
      rw [List.filter_eq_nil_iff]
      intro i hi
      have := hall _ i (Nat.lt_succ_self _) (List.mem_range.1 hi)
      simp [this]
    rw [this] at hl
    have : l = [] := by simpa using hl
    subst this
    cases hrun
    exact hQ G a w hR
  intro fuel
  induction fuel with
  | zero =>
    intro listed l st G a w hrun hl hp hR hs hf hc
    have hl0 : l = [] := List.eq_nil_of_length_eq_zero (by omega)
    have hr : Region.ready .any ops listed = [] := by
      cases hr : Region.ready .any ops listed with
      | nil => rfl
      | cons x xs =>
        exfalso
        have hx : x ∈ Region.ready .any ops listed := by rw [hr]; simp
        obtain ⟨h1, o, ho, _⟩ := mem_ready'.1 hx
        have hm : x ∈ restOf ops listed := List.mem_filter.2 ⟨List.mem_range.2 (Array.getElem?_eq_some_iff.1 ho).1, by simp [h1]⟩
        rw [← hl, hl0] at hm; simp at hm
    exact ⟨hr, last listed l st G a w hrun hl hR hs hr⟩
  | succ fuel ih =>
    intro listed l st G a w hrun hl hp hR hs hf hc
    refine ⟨fun hr => last listed l st G a w hrun hl hR hs hr, fun i hi => ?_⟩
    obtain ⟨hu, o, ho, haf⟩ := mem_ready'.1 hi
    have hilt : i < ops.size := (Array.getElem?_eq_some_iff.1 ho).1
    obtain ⟨pre, fi, post, rfl, hl'⟩ := rest_split hs hl hilt hu
    have hml : (masks ops.toList []).length = ops.size := by rw [masks_length]; simp
    obtain ⟨m, hm⟩ : ∃ m, (masks ops.toList [])[i]? = some m := ⟨_, List.getElem?_eq_getElem (by rw [hml]; exact hilt)⟩
    -- all that comes before it is listed
    have hbef : ∀ k, m.testBit k = true → listed.getD k false = true := by
      intro k hk
      obtain ⟨e, he, hb, h1⟩ := mask_spec ho hm hk
      have hle := haf e he hb
      rcases h1 with rfl | ⟨m', hm', hk'⟩
      · exact hle
      · have hlt : e.on < ops.size := by
          rw [← hml]; exact (List.getElem?_eq_some_iff.1 hm').1
        refine hc e.on hlt ?_ m' k hm' hk'
        have h5 : e.on < listed.size := by omega
        simpa [Array.getD_eq_getD_getElem?, h5] using hle
    have hap : ∀ x ∈ pre, ∀ o1 o2, ops[x.1]? = some o1 → ops[i]? = some o2 → apartF ops o1 o2 = true ∧ clash x.2 fi = false := by
      intro x hx o1 o2 h1 h2
      rw [List.pairwise_append] at hp
      have := hp.2.2 x hx (i, fi) (by simp) o1 o2 m h1 h2 hm
      rcases this with h3 | h3
      · exfalso
        have h4 := hbef x.1 h3
        have hxm : x.1 ∈ restOf ops listed := by rw [← hl]; exact List.mem_map.2 ⟨x, by simp [hx], rfl⟩
        have h5 := (List.mem_filter.1 hxm).2
        have h6 : x.1 < listed.size := by
          rw [hs]; exact List.mem_range.1 (List.mem_filter.1 hxm).1
        simp [Array.getD_eq_getD_getElem?, h6] at h4 h5
        rw [h4] at h5; cases h5
      · exact h3
    obtain ⟨o', s, ho', hs', hrun'⟩ := bubble pre post st hrun hap
    rw [ho] at ho'; cases ho'
    have hdo := dstsOK_get hd (o := o) (by
      have : ops.toList[i]? = some o := by simpa using ho
      exact List.mem_of_getElem? this)
    have key := step_sound hS hR hdo hs' (K := wpAny P .any ops Q fuel (listed.setIfInBounds i true)) (Q := Q) (fun G' a' w' hR' => by
      refine ih _ (pre ++ post) s G' a' w' hrun' hl' ?_ hR' (by simp [hs]) (by simp at hf ⊢; omega) ?_
      · rw [List.pairwise_append] at hp ⊢
        obtain ⟨p1, p2, p3⟩ := hp
        rw [List.pairwise_cons] at p2
        exact ⟨p1, p2.2, fun x hx y hy => p3 x hx y (by simp [hy])⟩
      · intro j hj hlj m' k hm' hk'
        rw [set_listed (by omega)] at hlj
        have h6 : listed.getD k false = true := by
          rcases Bool.or_eq_true_iff.1 hlj with h | h
          · exact hc j hj h m' k hm' hk'
          · have : j = i := by simpa using h
            subst this
            rw [hm] at hm'; cases hm'
            exact hbef k hk'
        have h7 : k < listed.size := by
          by_cases h : k < listed.size
          · exact h
          · simp [Array.getD_eq_getD_getElem?, h] at h6
        have h8 := set_listed (listed := listed) (i := i) (by omega) k
        have h9 : listed.getD k true = true := by simpa [Array.getD_eq_getD_getElem?, h7] using h6
        rw [h9, Bool.true_or] at h8
        have h10 : k < (listed.setIfInBounds i true).size := by simpa using h7
        simpa [Array.getD_eq_getD_getElem?, h10, h7] using h8)
    unfold wpOp
    rw [ho]
    simp only
    rcases key with ⟨h1, h2⟩ | ⟨h1, h2⟩
    · rw [if_pos h1]; exact .inl h2
    · rw [if_neg (by rw [h1]; simp)]; exact h2

/-- a region that draws its order -/
theorem region_draw (hS : Sound P Γ) (hmx : P.follows .mixedOrders = true) {Q : Exit → Act → World → Prop} {id : Nat} {fs : List Foot} (hd : dstsOK n ops.toList = true) (hR : Rel P n w0 own st G a w) (h : RunF Γ P ops ops.toList st fs st') (hok : drawOK ops fs = true)
    (hQ : ∀ G' a' w', Rel P n w0 own st' G' a' w' → Q .normal a' w') : (Code.region id ops true).wp P Q a w := by
  refine wp_region_any hmx ?_
  unfold drawOK at hok
  simp only [Bool.and_eq_true] at hok
  obtain ⟨hed, hpr⟩ := hok
  obtain ⟨hi, hlen⟩ := run_index 0 ops.toList st fs (by simp) h
  have hml : (masks ops.toList []).length = ops.toList.length := by rw [masks_length]; simp
  have hmap : (((List.range' 0 ops.toList.length).zip fs).map (·.1)) = restOf ops (Array.replicate ops.size false) := by
    have h1 : ((List.range' 0 ops.toList.length).zip fs).map (·.1) = List.range' 0 ops.toList.length := by
      rw [show (fun x : Nat × Foot => x.1) = Prod.fst from rfl, List.map_fst_zip (by simp [hlen])]
    rw [h1]
    unfold restOf
    rw [List.filter_eq_self.2]
    · simp [List.range_eq_range']
    · intro i hi
      have : i < ops.size := List.mem_range.1 hi
      simp [Array.getD_eq_getD_getElem?, this]
  refine any_run hS hd hed hQ ops.size _ _ st G a _ hi hmap ?_ (by exact hR.drew) (by simp) (by simp [hlen]) ?_
  · rw [List.pairwise_iff_getElem]
    intro p q hp hq hpq o o' m h1 h2 h3
    simp only [List.getElem_zip, List.getElem_range', Nat.zero_add, Nat.one_mul] at h1 h2 h3 ⊢
    have hp' : p < fs.length := by simp at hp; omega
    have hq' : q < fs.length := by simp at hq; omega
    have := pairs_spec ops.toList fs (masks ops.toList []) 0 p q o fs[p] o' fs[q] m hpr hpq (by simpa using h1) (List.getElem?_eq_getElem hp') hml (by simpa using h2) (List.getElem?_eq_getElem hq') h3
    simpa using this
  · intro j hj h1
    simp [Array.getD_eq_getD_getElem?, hj] at h1
end
end Go.Proofs.Ytnhfjdbnkpbbkab
