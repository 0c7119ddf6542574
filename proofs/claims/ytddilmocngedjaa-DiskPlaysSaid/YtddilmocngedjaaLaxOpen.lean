/- Arguments of a law, by content: whatever plain data a type tells of: numbers, truths, texts, and slices, structs and arrays of them. -/
import Derived.Test.YtddilmocngedjaaLm3
import Derived.OpenShut
namespace Go.Proofs.Ytddilmocngedjaa
set_option linter.unusedVariables false
set_option linter.unusedSimpArgs false
open Go.RowKit

/-- the kinds of a type's cells -/
inductive Ty where
  | int (k : IntKind)
  | bool
  | str
  | sl (l : List Ty)
def seqTys (P : Program) (f : TypeId → Option (List Ty)) : List Field → Nat → Option (List Ty)
  | [], _ => some []
  | fd :: r, off => match f fd.type with
    | some l => if fd.offset = off ∧ P.cellsOf fd.type = l.length then (match seqTys P f r (off + l.length) with | some m => some (l ++ m) | none => none) else none
    | none => none
def tys (P : Program) : Nat → TypeId → Option (List Ty)
  | 0, _ => none
  | d + 1, t => match P.underlying t with
    | some (.int k) => some [.int k]
    | some .bool => some [.bool]
    | some .string => some [.str]
    | some (.slice e) => (match tys P d e with | some l => if l.length = P.cellsOf e ∧ 0 < l.length then some [.sl l] else none | none => none)
    | some (.struct fs) => (match seqTys P (tys P d) fs.toList 0 with | some l => if l.length = P.cellsOf t then some l else none | none => none)
    | some (.array n e) => (match tys P d e with | some l => if l.length = P.cellsOf e ∧ n * l.length = P.cellsOf t then some ((List.replicate n l).flatten) else none | none => none)
    | _ => none
/-- an element out of its cells -/
def elemOf : List AV → AV
  | [c] => c
  | cs => .agg cs
/-- texts and lists of at most B letters or elements -/
inductive HasTy (B : Nat) : Ty → AV → Prop
  | int (k : IntKind) (n : Int) (h1 : k.min ≤ n) (h2 : n ≤ k.max) : HasTy B (.int k) (.int k n)
  | bool (b : Bool) : HasTy B .bool (.bool b)
  | str (l : List UInt8) (h : l.length ≤ B) : HasTy B .str (.str l)
  | sl (l : List Ty) (xs : List AV) (f : Nat → List AV) (hm : xs.length ≤ B) (h1 : ∀ (i : Nat) x, xs[i]? = some x → x = elemOf (f i) ∧ (f i).length = l.length)
      (h2 : ∀ (i : Nat) x (j : Nat) ty c, xs[i]? = some x → l[j]? = some ty → (f i)[j]? = some c → HasTy B ty c) : HasTy B (.sl l) (.sl xs .no)
theorem HasTy.one {B : Nat} {ty : Ty} {c : AV} (h : HasTy B ty c) : c.one = true := by cases h <;> rfl
theorem HasTy.bare {B : Nat} {ty : Ty} {c : AV} (h : HasTy B ty c) : c.bareCell = true := by cases h <;> rfl
/-- cells zs their kinds say -/
def CellsTy (B : Nat) (l : List Ty) (zs : List AV) : Prop := zs.length = l.length ∧ ∀ (i : Nat) ty c, l[i]? = some ty → zs[i]? = some c → HasTy B ty c
theorem CellsTy.one {B : Nat} {l : List Ty} {zs : List AV} (h : CellsTy B l zs) : ∀ (i : Nat) c, zs[i]? = some c → c.one = true := by
  intro i c hc
  have hi : i < l.length := by rw [← h.1]; exact (List.getElem?_eq_some_iff.1 hc).1
  exact (h.2 i _ c (List.getElem?_eq_getElem hi) hc).one
theorem elemOf_cells {B : Nat} {l : List Ty} {zs : List AV} (h : CellsTy B l zs) : (elemOf zs).cells = zs := by
  match zs, h with
  | [c], h =>
    have h1 := h.one 0 c rfl
    show c.cells = [c]
    cases c <;> first | rfl | cases h1
  | [], _ => rfl
  | _ :: _ :: _, _ => rfl
theorem CellsTy.append {B : Nat} {l m : List Ty} {zs bs : List AV} (h : CellsTy B l zs) (h' : CellsTy B m bs) : CellsTy B (l ++ m) (zs ++ bs) := by
  refine ⟨by simp [h.1, h'.1], fun i ty c h1 h2 => ?_⟩
  by_cases hi : i < l.length
  · rw [List.getElem?_append_left hi] at h1
    rw [List.getElem?_append_left (by rw [h.1]; exact hi)] at h2
    exact h.2 i ty c h1 h2
  · rw [List.getElem?_append_right (by omega)] at h1
    rw [List.getElem?_append_right (by rw [h.1]; omega), h.1] at h2
    exact h'.2 _ ty c h1 h2

section
variable {H : Type} {enc : TypeId × Value → H} {P : Program} {w : World} {base : Nat} {spare : Nat → Bool} {held : Bool} {S : Nat → Nat → Prop}
/-- cells by content and real ones -/
def RLc (w : World) (S : Nat → Nat → Prop) (zs : List AV) (cs : List Value) : Prop := zs.length = cs.length ∧ ∀ (i : Nat) c, zs[i]? = some c → ∃ u, cs[i]? = some u ∧ RepP w S c u
theorem RLc.append {zs bs : List AV} {cs ds : List Value} (h : RLc w S zs cs) (h' : RLc w S bs ds) : RLc w S (zs ++ bs) (cs ++ ds) := by
  refine ⟨by simp [h.1, h'.1], fun i c hc => ?_⟩
  by_cases hi : i < zs.length
  · rw [List.getElem?_append_left hi] at hc
    obtain ⟨u, h1, h2⟩ := h.2 i c hc
    exact ⟨u, by rw [List.getElem?_append_left (by rw [← h.1]; exact hi)]; exact h1, h2⟩
  · rw [List.getElem?_append_right (by omega)] at hc
    obtain ⟨u, h1, h2⟩ := h'.2 _ c hc
    exact ⟨u, by rw [List.getElem?_append_right (by rw [← h.1]; omega), ← h.1]; exact h1, h2⟩
theorem RLc.nil : RLc w S [] [] := ⟨rfl, fun i c h => by simp at h⟩
theorem CellsTy.nil {B : Nat} : CellsTy B [] [] := ⟨rfl, fun i ty c h => by simp at h⟩
theorem one_cell {B : Nat} {c : AV} {u : Value} {ty : Ty} (h : HasTy B ty c) (h' : RepP w S c u) : CellsTy B [ty] [c] ∧ RLc w S [c] [u] := by
  refine ⟨⟨rfl, fun i ty' c' h1 h2 => ?_⟩, ⟨rfl, fun i c' h1 => ?_⟩⟩
  · match i, h1, h2 with
    | 0, h1, h2 => simp at h1 h2; subst h1 h2; exact h
  · match i, h1 with
    | 0, h1 => simp at h1; subst h1; exact ⟨u, rfl, h'⟩

theorem seq_open {B : Nat} {f : TypeId → Option (List Ty)} {cs : List Value} {tr : TypeId → List Value → Prop}
    (hf : ∀ t cs l, f t = some l → tr t cs → cs.length = l.length ∧ ∃ zs, CellsTy B l zs ∧ RLc w S zs cs) :
    ∀ (fs : List Field) (off : Nat) (l : List Ty), seqTys P f fs off = some l → (∀ fd ∈ fs, tr fd.type ((cs.drop fd.offset).take (P.cellsOf fd.type))) → off + l.length ≤ cs.length →
      ∃ zs, CellsTy B l zs ∧ RLc w S zs ((cs.drop off).take l.length)
  | [], off, l, h, _, _ => by
    simp [seqTys] at h
    subst h
    exact ⟨[], CellsTy.nil, by simpa using RLc.nil⟩
  | fd :: fs, off, l, h, ht, hl => by
    simp only [seqTys] at h
    split at h
    · rename_i lf hlf
      split at h
      · rename_i hc
        obtain ⟨rfl, hw⟩ := hc
        split at h
        · rename_i m hm
          cases h
          simp only [List.length_append] at hl ⊢
          obtain ⟨_, zs, h1, h2⟩ := hf _ _ lf hlf (ht fd (by simp))
          obtain ⟨bs, h3, h4⟩ := seq_open hf fs (fd.offset + lf.length) m hm (fun fd' h' => ht fd' (by simp [h'])) (by omega)
          refine ⟨zs ++ bs, h1.append h3, ?_⟩
          have e : (cs.drop fd.offset).take (lf.length + m.length) = (cs.drop fd.offset).take lf.length ++ (cs.drop (fd.offset + lf.length)).take m.length := by
            rw [List.take_add, List.drop_drop]
          rw [e, ← hw]
          rw [hw] at h2 ⊢
          exact h2.append h4
        · cases h
      · cases h
    · cases h

/-- what a bulk counts -/
structure Bulky (bulk : DataW H → Nat) : Prop where
  str : ∀ l, l.length ≤ bulk (.lit (.string l))
  len : ∀ a b, a.length ≤ bulk (.slice a b)
  el : ∀ a b d, d ∈ a → bulk d ≤ bulk (.slice a b)
  part : ∀ a d, d ∈ a → bulk d ≤ bulk (.agg a)
/-- the bound of texts and lists: none but the model's, or a bulk's -/
def Capped (B : Nat) (x : DataW H) : Prop := 9223372036854775807 ≤ B ∨ ∃ bulk, Bulky (H := H) bulk ∧ bulk x ≤ B
theorem Capped.el {B : Nat} {a b : List (DataW H)} {d : DataW H} (h : Capped B (.slice a b)) (hd : d ∈ a) : Capped B d := by
  rcases h with h | ⟨f, h1, h2⟩
  · exact .inl h
  · exact .inr ⟨f, h1, Nat.le_trans (h1.el a b d hd) h2⟩
theorem Capped.part {B : Nat} {a : List (DataW H)} {d : DataW H} (h : Capped B (.agg a)) (hd : d ∈ a) : Capped B d := by
  rcases h with h | ⟨f, h1, h2⟩
  · exact .inl h
  · exact .inr ⟨f, h1, Nat.le_trans (h1.part a d hd) h2⟩
theorem trod_open {B : Nat} (hS : ∀ b o, S b o) : ∀ (d fuel : Nat) (t : TypeId) (cs : List Value) (x : DataW H × List MemPlace) (l : List Ty), tys P d t = some l → Capped B x.1 → DataW.trod enc P w base spare held fuel t cs = some x →
    cs.length = l.length ∧ ∃ zs, CellsTy B l zs ∧ RLc w S zs cs
  | 0, fuel, t, cs, x, l, h, _, _ => by simp [tys] at h
  | d + 1, fuel, t, cs, x, l, h, hB, hx => by
    have ih := trod_open (B := B) hS d
    simp only [tys] at h
    split at h
    · rename_i k hu
      cases h
      obtain ⟨n, rfl, _, hw⟩ := DataW.trod_int hu hx
      have hb : k.min ≤ n ∧ n ≤ k.max := by simpa [Lit.wf] using hw
      exact ⟨rfl, _, one_cell (.int k n hb.1 hb.2) (.int k n hb.1 hb.2)⟩
    · rename_i hu
      cases h
      obtain ⟨b, rfl, _⟩ := DataW.trod_bool hu hx
      exact ⟨rfl, _, one_cell (.bool b) (.bool b)⟩
    · rename_i hu
      cases h
      obtain ⟨s, rfl, rfl, hm⟩ := DataW.trod_string hu hx
      have hz : s.data.toList.length = s.size := by rw [Array.length_toList]; rfl
      have hl : s.data.toList.length ≤ 9223372036854775807 := by rw [hz]; unfold maxLen at hm; omega
      have e : s = ⟨s.data.toList.toArray⟩ := by simp
      have hb : s.data.toList.length ≤ B := by
        rcases hB with h | ⟨f, h1, h2⟩
        · omega
        · exact Nat.le_trans (h1.str _) h2
      refine ⟨rfl, _, one_cell (.str s.data.toList hb) ?_⟩
      have := RepP.str (w := w) (S := S) s.data.toList hl
      rw [← e] at this
      exact this
    · rename_i e hu
      split at h
      · rename_i le hle
        split at h
        · rename_i hc
          cases h
          obtain ⟨hsz, hpos⟩ := hc
          rcases DataW.trod_slice hu hx with ⟨rfl, _⟩ | ⟨ad, len, cap, elems, rest, n, _, rfl, hxe, _, h1, h2, h3, h4, _⟩
          · exact ⟨rfl, _, one_cell (.sl le [] (fun _ => []) (by simp) (fun i x h => by simp at h) (fun i x j ty c h => by simp at h)) (.slnil .no none 0 (by unfold maxLen; omega))⟩
          · refine ⟨rfl, ?_⟩
            have hlB : len ≤ B := by
              rcases hB with h | ⟨f, g1, g2⟩
              · unfold maxLen at h2; omega
              · rw [hxe] at g2
                have := Nat.le_trans (g1.len (elems.map (·.1)) (rest.map (·.1))) g2
                simp at this
                omega
            have key : ∀ i, ∃ zs : List AV, ∃ ds : List Value, i < len → CellsTy B le zs ∧ RLc w S zs ds ∧ ∀ j, j < le.length → w.cell? (ad.add (i * le.length + j)) = ds[j]? := by
              intro i
              by_cases hi : i < len
              · have h5 := h4 i hi
                have h6 : i < elems.length := by omega
                rw [List.getElem?_eq_getElem h6] at h5
                simp only [Option.bind_eq_some_iff] at h5
                obtain ⟨ds, h7, h8⟩ := h5
                obtain ⟨hdl, zs, h9, h10⟩ := ih _ e ds _ le hle (by rw [hxe] at hB; exact hB.el (List.mem_map.2 ⟨elems[i], List.getElem_mem h6, rfl⟩)) h8
                have h11 := World.cells?_some h7
                refine ⟨zs, ds, fun _ => ⟨h9, h10, fun j hj => ?_⟩⟩
                have := h11.2.2 j (by rw [← hsz]; exact hj)
                rw [← this, hsz, Addr.add_add]
              · exact ⟨[], [], fun h => absurd h hi⟩
            have hf : ∃ f : Nat → List AV, ∃ g : Nat → List Value, ∀ i, i < len → CellsTy B le (f i) ∧ RLc w S (f i) (g i) ∧ ∀ j, j < le.length → w.cell? (ad.add (i * le.length + j)) = (g i)[j]? :=
              ⟨fun i => Classical.choose (key i), fun i => Classical.choose (Classical.choose_spec (key i)), fun i hi => Classical.choose_spec (Classical.choose_spec (key i)) hi⟩
            obtain ⟨f, g, hfg⟩ := hf
            have hxs : ∀ (i : Nat) x, ((List.range len).map fun i => elemOf (f i))[i]? = some x → i < len ∧ x = elemOf (f i) := by
              intro i x hx
              simp only [List.getElem?_map, Option.map_eq_some_iff] at hx
              obtain ⟨k, hk, rfl⟩ := hx
              have := List.getElem?_eq_some_iff.1 hk
              obtain ⟨h5, h6⟩ := this
              simp at h5 h6
              subst h6
              exact ⟨h5, rfl⟩
            refine ⟨[.sl ((List.range len).map fun i => elemOf (f i)) .no], one_cell (.sl le _ f (by simpa using hlB) (fun i x hx => ?_) (fun i x j ty c hx h5 h6 => ?_)) ?_⟩
            · obtain ⟨hi, rfl⟩ := hxs i x hx
              exact ⟨rfl, (hfg i hi).1.1⟩
            · obtain ⟨hi, rfl⟩ := hxs i x hx
              exact (hfg i hi).1.2 j ty c h5 h6
            · by_cases hl0 : len = 0
              · subst hl0
                exact .slnil .no _ _ h2
              · have hcell : ∀ i j, i < len → j < le.length → ∃ u, (g i)[j]? = some u ∧ w.cell? (ad.add (i * le.length + j)) = some u := by
                  intro i j hi hj
                  obtain ⟨q1, q2, q3⟩ := hfg i hi
                  have hjg : j < (g i).length := by rw [← q2.1, q1.1]; exact hj
                  exact ⟨_, List.getElem?_eq_getElem hjg, by rw [q3 j hj]; exact List.getElem?_eq_getElem hjg⟩
                obtain ⟨b, off, spot⟩ := ad
                have hsp : spot = none := by
                  obtain ⟨u, _, h5⟩ := hcell 0 0 (by omega) hpos
                  have := World.cell?_spot h5
                  simpa [Addr.add] using this
                subst hsp
                have h5 := RepP.sl (w := w) (S := S) ((List.range len).map fun i => elemOf (f i)) .no b off cap le.length (fun i j => (g i).getD j undef) (by simpa using h1) h2
                  (fun i x hx => by
                    obtain ⟨hi, rfl⟩ := hxs i x hx
                    rw [elemOf_cells (hfg i hi).1, (hfg i hi).1.1])
                  (fun i x j c hx hc => by
                    obtain ⟨hi, rfl⟩ := hxs i x hx
                    rw [elemOf_cells (hfg i hi).1] at hc
                    have hj : j < le.length := by rw [← (hfg i hi).1.1]; exact (List.getElem?_eq_some_iff.1 hc).1
                    obtain ⟨u, h6, h7⟩ := hcell i j hi hj
                    refine ⟨hS _ _, ?_, (hfg i hi).1.one j c hc⟩
                    rw [Addr.add_mid] at h7
                    rw [Nat.add_assoc, h7]
                    simp [List.getD, h6])
                  (fun i x j c hx hc => by
                    obtain ⟨hi, rfl⟩ := hxs i x hx
                    rw [elemOf_cells (hfg i hi).1] at hc
                    obtain ⟨u, h6, h7⟩ := (hfg i hi).2.1.2 j c hc
                    simpa [List.getD, h6] using h7)
                simpa using h5
        · cases h
      · cases h
    · rename_i fs hu
      split at h
      · rename_i ls hls
        split at h
        · rename_i hc
          obtain rfl : ls = l := by simpa using h
          obtain ⟨xs, n, _, hxe, h1, h2, h3⟩ := DataW.trod_struct hu hx
          obtain ⟨zs, h4, h5⟩ := seq_open (B := B) (tr := fun t cs => ∃ y, Capped B y.1 ∧ DataW.trod enc P w base spare held n t cs = some y) (cs := cs) (fun t cs l hl ⟨y, hyB, hy⟩ => ih n t cs y l hl hyB hy) fs.toList 0 ls hls (fun fd hfd => by
            obtain ⟨i, hi⟩ := List.getElem?_of_mem hfd
            have hi' : fs[i]? = some fd := by simpa using hi
            have := h3 i fd hi'
            have hlt : i < xs.length := by rw [h2]; exact (Array.getElem?_eq_some_iff.1 hi').1
            rw [List.getElem?_eq_getElem hlt] at this
            exact ⟨_, (by rw [hxe] at hB; exact hB.part (List.mem_map.2 ⟨xs[i], List.getElem_mem hlt, rfl⟩)), this⟩) (by omega)
          refine ⟨by omega, zs, h4, ?_⟩
          rw [List.drop_zero, List.take_of_length_le (by omega)] at h5
          exact h5
        · cases h
      · cases h
    · rename_i n e hu
      split at h
      · rename_i le hle
        split at h
        · rename_i hc
          cases h
          obtain ⟨xs, m, _, hxe, h1, h2, h3⟩ := DataW.trod_array hu hx
          have step : ∀ k, k ≤ n → ∃ zs, CellsTy B ((List.replicate k le).flatten) zs ∧ RLc w S zs (cs.take (k * le.length)) := by
            intro k
            induction k with
            | zero => intro _; exact ⟨[], CellsTy.nil, by simpa using RLc.nil⟩
            | succ k ihk =>
              intro hk
              obtain ⟨zs, h4, h5⟩ := ihk (by omega)
              have h6 := h3 k (by omega)
              rw [List.getElem?_eq_getElem (by omega)] at h6
              obtain ⟨_, bs, h7, h8⟩ := ih m e _ _ le hle (by rw [hxe] at hB; exact hB.part (List.mem_map.2 ⟨xs[k], List.getElem_mem (by omega), rfl⟩)) h6
              refine ⟨zs ++ bs, ?_, ?_⟩
              · rw [List.replicate_succ', List.flatten_append]
                simpa using h4.append h7
              · rw [Nat.add_mul, Nat.one_mul, List.take_add]
                rw [← hc.1] at h8
                exact h5.append h8
          obtain ⟨zs, h4, h5⟩ := step n (Nat.le_refl _)
          have hlen : ((List.replicate n le).flatten).length = n * le.length := by simp
          rw [List.take_of_length_le (by omega)] at h5
          exact ⟨by rw [hlen]; omega, zs, h4, h5⟩
        · cases h
      · cases h
    · cases h
/-- a value among a law's arguments, by content, whatever the law's state at entry -/
def RepAny (P : Program) (w : World) (a : AV) (v : Value) : Prop := ∀ vs : List AV, Rep P (entrySt (vals vs)) noGh w a v
theorem stable_vals {P : Program} (vs : List AV) (b o : Nat) : stable P (entrySt (vals vs)) noGh b o :=
  ⟨fun h => h, fun s cs h => (by rw [vals_boxes] at h; cases h), fun x y tip h => (by rw [vals_rows] at h; cases h)⟩
/-- the cells of a plain-data argument -/
theorem open_cells {B : Nat} {t : TypeId} {l : List Ty} {v : Value} {dd : DataW H} {p : List MemPlace} {d : Nat} (hl : tys P d t = some l) (hB : Capped B dd) (h : DataW.Trod enc P w 0 spare held t v dd p) :
    ∃ zs, CellsTy B l zs ∧ RLc w (fun _ _ => True) zs v.cells.toList := by
  obtain ⟨fuel, hf⟩ := h
  exact (trod_open (S := fun _ _ => True) (fun _ _ => trivial) d fuel t _ _ _ hl hB hf).2
/-- a struct or an array among a law's arguments -/
theorem open_agg {B : Nat} {t : TypeId} {l : List Ty} {v : Value} {dd : DataW H} {p : List MemPlace} {d : Nat} (ht : tagg P t = true) (hl : tys P d t = some l)
    (hB : Capped B dd) (hv : Value.okWide P w .any base t v) (h : DataW.Trod enc P w 0 spare held t v dd p) : ∃ zs, CellsTy B l zs ∧ RepAny P w (.agg zs) v := by
  have key : ∃ cs, v = .agg cs := by
    unfold Value.okWide at hv
    unfold tagg at ht
    cases hu : P.underlying t with
    | none => rw [hu] at ht; cases ht
    | some dd => rw [hu] at hv ht; cases dd <;> first | (obtain ⟨cs, h, _⟩ := hv; exact ⟨cs, h⟩) | cases ht
  obtain ⟨cs, rfl⟩ := key
  obtain ⟨zs, h1, h2⟩ := open_cells hl hB h
  refine ⟨zs, h1, fun vs => ?_⟩
  have e0 : (Value.agg cs).cells = cs := rfl
  rw [e0] at h2
  refine (⟨cs, rfl, by have := h2.1; simp at this; omega, fun i c hc => ?_⟩ : RepA P _ noGh w (.agg zs) (.agg cs))
  obtain ⟨u, h4, h5⟩ := h2.2 i c hc
  have ⟨hlt, _⟩ := List.getElem?_eq_some_iff.1 hc
  have hty : ∃ ty, HasTy B ty c := by
    have hl' : i < l.length := by rw [← h1.1]; exact hlt
    exact ⟨_, h1.2 i l[i] c (List.getElem?_eq_getElem hl') hc⟩
  obtain ⟨ty, hty⟩ := hty
  exact ⟨hty.one, u, by simpa using h4, bare_rep1 (h5.mono fun b o u _ hc => ⟨stable_vals vs b o, hc⟩) hty.bare⟩
/-- a number, a truth, a text, a slice among a law's arguments -/
theorem open_one {B : Nat} {t : TypeId} {ty : Ty} {v : Value} {dd : DataW H} {p : List MemPlace} {d : Nat} (ht : tagg P t = false) (hl : tys P d t = some [ty])
    (hB : Capped B dd) (hv : Value.okWide P w .any base t v) (h : DataW.Trod enc P w 0 spare held t v dd p) : ∃ c, HasTy B ty c ∧ RepAny P w c v := by
  obtain ⟨zs, h1, h2⟩ := open_cells hl hB h
  have hna : v.cells = #[v] := by
    have hna : ∀ cs, v ≠ .agg cs := by
      rintro cs rfl
      cases d with
      | zero => cases hl
      | succ d =>
        unfold tys at hl
        unfold Value.okWide at hv
        unfold tagg at ht
        cases hu : P.underlying t with
        | none => rw [hu] at hl; cases hl
        | some dd =>
          rw [hu] at hl hv ht
          cases dd <;> first | (cases ht; done) | (cases hl; done) | skip
          all_goals (simp [Cell.okWide, Cell.ok, hu] at hv)
    cases v <;> first | rfl | exact absurd rfl (hna _)
  match zs, h1, h2 with
  | [c], h1, h2 =>
    have h3 := h1.2 0 _ c rfl rfl
    obtain ⟨u, h4, h5⟩ := h2.2 0 c rfl
    have hu' : u = v := by rw [hna] at h4; simpa using h4.symm
    subst hu'
    exact ⟨c, h3, fun vs => Rep.of1 (bare_rep1 (h5.mono fun b o u _ hc => ⟨stable_vals vs b o, hc⟩) h3.bare)⟩
  | [], h1, _ => simp [CellsTy] at h1
  | _ :: _ :: _, h1, _ => simp [CellsTy] at h1
theorem CellsTy.cons {B : Nat} {ty : Ty} {l : List Ty} {zs : List AV} (h : CellsTy B (ty :: l) zs) : ∃ c cs, zs = c :: cs ∧ HasTy B ty c ∧ CellsTy B l cs := by
  obtain ⟨h1, h2⟩ := h
  cases zs with
  | nil => simp at h1
  | cons c cs => exact ⟨c, cs, rfl, h2 0 ty c rfl rfl, by simpa using h1, fun i ty' c' h3 h4 => h2 (i + 1) ty' c' (by simpa using h3) (by simpa using h4)⟩
theorem CellsTy.done {B : Nat} {zs : List AV} (h : CellsTy B [] zs) : zs = [] := by
  have := h.1
  simpa using this
theorem HasTy.inv_int {B : Nat} {k : IntKind} {c : AV} (h : HasTy B (.int k) c) : ∃ n, c = .int k n ∧ k.min ≤ n ∧ n ≤ k.max := by
  cases h with
  | int k n h1 h2 => exact ⟨n, rfl, h1, h2⟩
theorem HasTy.inv_bool {B : Nat} {c : AV} (h : HasTy B .bool c) : ∃ b, c = .bool b := by
  cases h with
  | bool b => exact ⟨b, rfl⟩
theorem HasTy.inv_str {B : Nat} {c : AV} (h : HasTy B .str c) : ∃ l, c = .str l ∧ l.length ≤ B := by
  cases h with
  | str l h => exact ⟨l, rfl, h⟩
theorem HasTy.inv_sl {B : Nat} {l : List Ty} {c : AV} (h : HasTy B (.sl l) c) : ∃ xs, c = .sl xs .no ∧ HasTy B (.sl l) (.sl xs .no) := by
  cases h with
  | sl l xs f hm h1 h2 => exact ⟨xs, rfl, .sl l xs f hm h1 h2⟩
/-- a slice among a law's arguments -/
theorem open_sl {B : Nat} {t e : TypeId} {l : List Ty} {v : Value} {dd : DataW H} {p : List MemPlace} {d : Nat} (hu : P.underlying t = some (.slice e)) (hl : tys P d t = some [.sl l])
    (hB : Capped B dd) (hv : Value.okWide P w .any base t v) (h : DataW.Trod enc P w 0 spare held t v dd p) : ∃ xs, HasTy B (.sl l) (.sl xs .no) ∧ RepAny P w (.sl xs .no) v := by
  obtain ⟨A, len, cap, rfl⟩ := Go.WideShapes.okWide_slice hu hv
  obtain ⟨zs, h1, h2⟩ := open_cells hl hB h
  match zs, h1, h2 with
  | [c], h1, h2 =>
    have h3 := h1.2 0 _ c rfl rfl
    obtain ⟨u, h4, h5⟩ := h2.2 0 c rfl
    have hu' : u = .slice A len cap := by simpa [Value.cells] using h4.symm
    subst hu'
    cases h3 with
    | sl l xs f hm g1 g2 =>
      refine ⟨xs, .sl l xs f hm g1 g2, fun vs => Rep.of1 (repP_to1 (h5.mono fun b o u _ hc => ⟨stable_vals vs b o, hc⟩) (by simp) (by simp))⟩
  | [], h1, _ => simp [CellsTy] at h1
  | _ :: _ :: _, h1, _ => simp [CellsTy] at h1
end

def kdOf : Ty → Kd
  | .int k => .int k
  | .bool => .bool
  | .str => .str
  | .sl _ => .sl
/-- an element of a list whose elements have their kinds -/
theorem HasTy.elem {B : Nat} {l : List Ty} {xs : List AV} (h : HasTy B (.sl l) (.sl xs .no)) {i : Nat} (hi : i < xs.length) : CellsTy B l (elemAt xs i).cells := by
  cases h with
  | sl l xs f hm h1 h2 =>
    have hx := List.getElem?_eq_getElem hi
    have he : elemAt xs i = elemOf (f i) := by
      unfold elemAt cellAt
      rw [hx]
      exact (h1 i _ hx).1
    have hc : CellsTy B l (f i) := ⟨(h1 i _ hx).2, fun j ty c h3 h4 => h2 i _ j ty c hx h3 h4⟩
    rw [he, elemOf_cells hc]
    exact hc
theorem HasTy.len {B : Nat} {l : List Ty} {xs : List AV} (h : HasTy B (.sl l) (.sl xs .no)) : xs.length ≤ B := by
  cases h with
  | sl l xs f hm h1 h2 => exact hm
theorem HasTy.okElem {B : Nat} {l : List Ty} {xs : List AV} (h : HasTy B (.sl l) (.sl xs .no)) {i : Nat} (hi : i < xs.length) : okElem l.length xs i := (h.elem hi).1
theorem HasTy.okWidth {B : Nat} {l : List Ty} {xs : List AV} (h : HasTy B (.sl l) (.sl xs .no)) : okWidth l.length xs := by
  intro x hx
  obtain ⟨i, hi, rfl⟩ := List.getElem_of_mem hx
  have := (h.elem hi).1
  unfold elemAt cellAt at this
  simpa [hi] using this
theorem CellsTy.eta {B : Nat} {l : List Ty} {x : AV} (h : CellsTy B l x.cells) {j : Nat} {ty : Ty} (hj : l[j]? = some ty) : x.cells[j]? = some (etaK (kdOf ty) x j) ∧ HasTy B ty (etaK (kdOf ty) x j) := by
  have hlt : j < x.cells.length := by rw [h.1]; exact (List.getElem?_eq_some_iff.1 hj).1
  have hc := List.getElem?_eq_getElem hlt
  have ht := h.2 j ty _ hj hc
  have hca : cellAt x.cells j = x.cells[j] := by unfold cellAt; rw [hc]; rfl
  have e : etaK (kdOf ty) x j = x.cells[j] := by
    generalize x.cells[j] = c at ht hca
    cases ht <;> simp [kdOf, etaK, rdInt, rdBool, rdStr, rdList, hca, AV.theInt, AV.theBool, AV.theStr, AV.theList]
  rw [e]
  exact ⟨hc, ht⟩
theorem CellsTy.okRead {B : Nat} {l : List Ty} {x : AV} (h : CellsTy B l x.cells) {ks : List Kd} {j : Nat} (hk : ks = ((l.drop j).take ks.length).map kdOf) : okRead ks x j := by
  intro i kd hi
  rw [hk] at hi
  simp only [List.getElem?_map, Option.map_eq_some_iff] at hi
  obtain ⟨ty, h1, rfl⟩ := hi
  rw [List.getElem?_take] at h1
  split at h1
  · rw [List.getElem?_drop] at h1
    exact (h.eta h1).1
  · cases h1
theorem HasTy.intR {B : Nat} {k : IntKind} {n : Int} (h : HasTy B (.int k) (.int k n)) : k.min ≤ n ∧ n ≤ k.max := by
  cases h with
  | int k n h1 h2 => exact ⟨h1, h2⟩
theorem HasTy.bytes {B : Nat} {xs : List AV} (h : HasTy B (.sl [.int .u8]) (.sl xs .no)) : isBytes xs := by
  unfold isBytes bytesAV bytesL
  rw [List.map_map]
  conv => lhs; rw [← List.map_id xs]
  refine List.map_congr_left fun x hx => ?_
  obtain ⟨i, hi, rfl⟩ := List.getElem_of_mem hx
  cases h with
  | sl l xs f hm h1 h2 =>
    have hx := List.getElem?_eq_getElem hi
    obtain ⟨e, hl⟩ := h1 i _ hx
    match hf : f i, hl with
    | [c], _ =>
      have ht := h2 i _ 0 (.int .u8) c hx rfl (by rw [hf]; rfl)
      rw [hf] at e
      have e' : xs[i] = c := e
      rw [e']
      cases ht with
      | int k n h3 h4 =>
        have m0 : IntKind.u8.min = 0 := by decide
        have m1 : IntKind.u8.max = 255 := by decide
        simp only [id, Function.comp, AV.byte, byteAV]
        congr 1
        rw [UInt8.toNat_ofNat']
        omega
end Go.Proofs.Ytddilmocngedjaa
