/- A function's contract from its verification condition. -/
import Derived.Test.YtnhfjdbnkpbbkabLaxExit
namespace Go.Proofs.Ytnhfjdbnkpbbkab
set_option linter.unusedVariables false
set_option linter.unusedSimpArgs false
open Go.RowKit

def AV.bare : AV → AV
  | .sl xs _ => .sl xs .no
  | v => v
/-- a cell that fits some real value -/
def AV.okay (c : AV) : Prop := ∃ (P : Program) (st : St) (G : Gh) (w : World) (r : Value), Rep1 P st G w c.bare r
def Arg.cells : Arg → List AV
  | .val (.tup _) => []
  | .val v => v.cells
  | .box cs => cs
def ArgsOkay (args : List Arg) : Prop := ∀ x ∈ args, ∀ c ∈ x.cells, c.okay

section
variable {P : Program} {n : Nat} {w0 : World} {own own' : OwnP} {st st' stX : St} {G G' GX GE : Gh} {a : Act} {w w' : World} {A L : List AV} {d : Nat}

theorem boxIxs_get : ∀ (l : List Arg) (k i : Nat), i ∈ boxIxs k l ↔ ∃ j cs, i = k + j ∧ l[j]? = some (.box cs)
  | [], k, i => by simp [boxIxs]
  | .box cs :: l, k, i => by
    simp only [boxIxs, List.mem_cons, boxIxs_get l (k + 1) i]
    constructor
    · rintro (rfl | ⟨j, cs', rfl, h⟩)
      · exact ⟨0, cs, rfl, rfl⟩
      · exact ⟨j + 1, cs', by omega, by simpa using h⟩
    · rintro ⟨j, cs', rfl, h⟩
      cases j with
      | zero => left; rfl
      | succ j => right; exact ⟨j, cs', by omega, by simpa using h⟩
  | .val v :: l, k, i => by
    simp only [boxIxs, boxIxs_get l (k + 1) i]
    constructor
    · rintro ⟨j, cs', rfl, h⟩
      exact ⟨j + 1, cs', by omega, by simpa using h⟩
    · rintro ⟨j, cs', rfl, h⟩
      cases j with
      | zero => simp at h
      | succ j => exact ⟨j, cs', by omega, by simpa using h⟩

theorem okay_of {c : AV} {u : Value} (h : Rep1 P st G w c u) : c.okay := by
  refine ⟨P, st, G, w, u, ?_⟩
  cases c with
  | sl xs ow =>
    cases ow with
    | row x y e => exact h.1
    | nil =>
      obtain ⟨rfl, rfl⟩ := (h : Rep1 P st G w (.sl xs .nil) u)
      exact RepP.slnil _ _ _ (by unfold maxLen; omega)
    | no => exact h
  | _ => exact h
theorem okay_of_repP {c : AV} {u : Value} (h : RepP w (stable P st G) c u) : c.okay := by
  refine ⟨P, st, G, w, u, ?_⟩
  cases c with
  | sl xs ow =>
    have h1 : RepP w (stable P st G) (.sl xs .no) u := h.own
    exact h1
  | ptr s off => cases h
  | eptr s off => cases h
  | agg cs => cases h
  | tup cs => cases h
  | _ => exact h
theorem okay_int {k : IntKind} {i : Int} (h : (AV.int k i).okay) : k.min ≤ i ∧ i ≤ k.max := by
  obtain ⟨P, st, G, w, r, h⟩ := h
  exact (Rep.inv_int (Rep.of1 h)).2
theorem okay_str {l : List UInt8} (h : (AV.str l).okay) : l.length ≤ 9223372036854775807 := by
  obtain ⟨P, st, G, w, r, h⟩ := h
  exact (Rep.inv_str (Rep.of1 h)).2
theorem okay_sl {xs : List AV} {ow : Own} (h : (AV.sl xs ow).okay) : xs.length ≤ maxLen ∧ ∀ x ∈ xs, ∀ c ∈ x.cells, c.okay := by
  obtain ⟨P, st, G, w, r, h⟩ := h
  have h2 : RepP w (stable P st G) (.sl xs .no) r := h
  cases h2 with
  | slnil => exact ⟨by simp, fun x hx => by simp at hx⟩
  | sl _ _ b off cap size us hc hm hsz hS hr =>
    refine ⟨by omega, fun x hx c hc => ?_⟩
    obtain ⟨i, hi⟩ := List.getElem?_of_mem hx
    obtain ⟨j, hj⟩ := List.getElem?_of_mem hc
    exact okay_of_repP (hr i x j c hi hj)

theorem came_okay {args : List Arg} {vals : Array Value} (h : Came P args vals w GE own) : ArgsOkay args := by
  intro x hx c hc
  obtain ⟨i, hi⟩ := List.getElem?_of_mem hx
  cases x with
  | box cs =>
    have hb : (entrySt args).boxes i = some (retCells 1000 0 cs) := by simp [entrySt, hi]
    obtain ⟨us, t, _, _, h3⟩ := h.mem.box i _ hb
    obtain ⟨k, hk⟩ := List.getElem?_of_mem (show c ∈ cs from hc)
    obtain ⟨_, u, _, h5⟩ := h3 k (retCell 1000 k c) (by rw [retCells_get, hk]; simp)
    cases c with
    | sl xs ow =>
      cases ow with
      | row x y e =>
        obtain ⟨h6, h7⟩ := (h5 : Rep1 P (entrySt args) GE w (.sl xs (.row 1000 k e)) u)
        exact ⟨P, _, GE, w, u, h6⟩
      | nil => exact okay_of (c := .sl xs .nil) h5
      | no => exact okay_of (c := .sl xs .no) h5
    | _ => exact okay_of h5
  | val v =>
    have ht : (entrySt args).tmps i = v := by simp [entrySt, hi]
    have hr := h.tmps i
    rw [ht] at hr
    by_cases htp : ∃ vs, v = .tup vs
    · obtain ⟨vs, rfl⟩ := htp
      simp [Arg.cells] at hc
    · have htp' : ∀ vs, v ≠ .tup vs := fun vs e => htp ⟨vs, e⟩
      have hcs : (Arg.val v).cells = v.cells := by cases v <;> first | rfl | exact absurd rfl (htp' _)
      rw [hcs] at hc
      by_cases ha : ∃ cs, v = .agg cs
      · obtain ⟨cs, rfl⟩ := ha
        obtain ⟨us, _, _, h3⟩ := (hr : RepA P _ GE w (.agg cs) _)
        obtain ⟨k, hk⟩ := List.getElem?_of_mem (show c ∈ cs from hc)
        obtain ⟨_, u, _, h5⟩ := h3 k c hk
        exact okay_of h5
      · have ha' : ∀ cs, v ≠ .agg cs := fun cs e => ha ⟨cs, e⟩
        have e1 : v.cells = [v] := by cases v <;> first | rfl | exact absurd rfl (ha' _)
        rw [e1] at hc
        obtain rfl : c = v := by simpa using hc
        exact okay_of (hr.to1 htp' ha')

theorem shape_one {v v' : AV} (h : shape v v' = true) (h2 : ∀ cs, v ≠ .tup cs) : shape1 v v' = true ∧ ∀ cs, v' ≠ .tup cs := by
  have e : shape v v' = shape1 v v' := by cases v <;> first | rfl | exact absurd rfl (h2 _)
  rw [e] at h
  refine ⟨h, ?_⟩
  rintro cs rfl
  cases v <;> first | exact absurd rfl (h2 _) | cases h
theorem shapes_no_tup : ∀ (vs vs' : List AV), shapes vs vs' = true → ∀ x ∈ vs, ∀ cs, x ≠ .tup cs
  | [], _, _, x, hx, _ => by simp at hx
  | v :: vs, [], h, _, _, _ => by cases h
  | v :: vs, v' :: vs', h, x, hx, cs => by
    simp only [shapes, Bool.and_eq_true] at h
    rcases List.mem_cons.1 hx with rfl | hx
    · rintro rfl
      cases v' <;> cases h.1
    · exact shapes_no_tup vs vs' h.2 x hx cs
theorem cellsT_rep {v v' : AV} {u : Value} (hshape : shape v v' = true) (hu : (Rep P st G w v u ∧ ∀ cs, v ≠ .tup cs) ∨ ∃ vs us, v = .tup vs ∧ u = .tuple us ∧ us.size = vs.length ∧ ∀ (i : Nat) c, vs[i]? = some c → ∃ u, us[i]? = some u ∧ Rep P st G w c u) {p : Nat} {c : AV} (h : v.cellsT[p]? = some c) : ∃ u, Rep1 P st G w c u := by
  have one : ∀ {v : AV} {u : Value} {p : Nat} {c : AV}, Rep P st G w v u → (∀ cs, v ≠ .tup cs) → v.cells[p]? = some c → ∃ u, Rep1 P st G w c u := by
    intro v u p c hv hnt h
    by_cases ha : ∃ cs, v = .agg cs
    · obtain ⟨cs, rfl⟩ := ha
      obtain ⟨us, _, _, h3⟩ := (hv : RepA P st G w (.agg cs) u)
      obtain ⟨_, u, _, h4⟩ := h3 p c h
      exact ⟨u, h4⟩
    · have ha' : ∀ cs, v ≠ .agg cs := fun cs e => ha ⟨cs, e⟩
      have e1 : v.cells = [v] := by cases v <;> first | rfl | exact absurd rfl (ha' _)
      rw [e1] at h
      cases p with
      | zero => simp at h; subst h; exact ⟨u, hv.to1 hnt ha'⟩
      | succ p => simp at h
  rcases hu with ⟨h1, h2⟩ | ⟨vs, us, rfl, rfl, h3, h4⟩
  · have e1 : v.cellsT = v.cells := by cases v <;> first | rfl | exact absurd rfl (h2 _)
    rw [e1] at h
    exact one h1 h2 h
  · have hm : c ∈ vs.flatMap AV.cells := List.mem_of_getElem? h
    obtain ⟨x, hx, hcx⟩ := List.mem_flatMap.1 hm
    obtain ⟨i, hi⟩ := List.getElem?_of_mem hx
    obtain ⟨u, _, h5⟩ := h4 i x hi
    obtain ⟨k, hk⟩ := List.getElem?_of_mem hcx
    by_cases hxt : ∃ cs, x = .tup cs
    · obtain ⟨cs, e⟩ := hxt
      cases v' with
      | tup vs' => exact absurd e (shapes_no_tup vs vs' hshape x hx cs)
      | _ => simp [shape, shape1] at hshape
    · exact one h5 (fun cs e => hxt ⟨cs, e⟩) hk

/-- where the code ends, its caller goes on -/
theorem back_of {args : List Arg} {vals : Array Value} {r : Res} {site : Option (Nat × Nat)} {v : AV} {u : Value} (hc : Came P args vals w0 GE own) {own2 : OwnP} (ho2 : own2 = ⟨own.of, fun s => (match args[s]? with | some (.box _) => some (GE.bx s) | _ => none), GE.bad⟩)
    (hR : Rel P n w0 own2 st G a w) (hsite : site.isSome = r.box.isSome) (hs : ∀ i s, site = some (i, s) → s ≠ d ∧ ∃ cs, args[i]? = some (.box cs)) (hnew : r.new = none) (hshape : shape v r.val = true)
    (hu : (Rep P st G w v u ∧ ∀ cs, v ≠ .tup cs) ∨ ∃ vs us, v = .tup vs ∧ u = .tuple us ∧ us.size = vs.length ∧ ∀ (i : Nat) c, vs[i]? = some c → ∃ u, us[i]? = some u ∧ Rep P st G w c u)
    {A : List AV} (hA : (r.box = none ∧ A = []) ∨ ∃ i s cs, site = some (i, s) ∧ r.box = some cs ∧ st.boxes i = some A ∧ A.length = cs.length) (hf : fits P st.rows (A ++ v.cellsT) r.outs) (hn : (outNames (A ++ v.cellsT) r.outs).Nodup) :
    ∃ GX, Back P w0 own GE d site r GX u w := by
  have hout : r.outs = r.box.getD [] ++ r.val.cellsT := by simp [Res.outs, hnew]
  obtain ⟨hlen, hfit⟩ := fits_spec _ _ hf
  have hAl : A.length = (r.box.getD []).length := by
    rcases hA with ⟨h1, h2⟩ | ⟨i, s, cs, h1, h2, h3, h4⟩
    · simp [h1, h2]
    · simp [h2, h4]
  obtain ⟨bx0, hbx0⟩ : ∃ b, b = (match site with | some (i, _) => GE.bx i | none => 0) := ⟨_, rfl⟩
  obtain ⟨GX, hGX⟩ : ∃ g : Gh, g = ⟨fun _ => bx0, fun _ y => toldCv G (A ++ v.cellsT) y, fun _ y => toldEt r.outs y, GE.bad⟩ := ⟨_, rfl⟩
  obtain ⟨stX, hX⟩ : ∃ s, s = exitSt d site r := ⟨_, rfl⟩
  have hXr : ∀ x y, stX.rows x y = if x = d then (match tells r.outs y with | some t => .live t.1 | none => .free) else .free := by
    intro x y; rw [hX]
    simp only [exitSt]
    rw [retRows_at]
    simp only [Nat.zero_le, and_true, Nat.sub_zero]
    rfl
  have hXb : ∀ x c, stX.boxes x = some c → ∃ i cs, site = some (i, x) ∧ r.box = some cs ∧ c = retCells d 0 cs := by
    intro x c h
    rw [hX] at h
    simp only [exitSt] at h
    split at h
    · rename_i i s cs hb
      split at h
      · rename_i hx
        subst hx
        cases h
        exact ⟨_, _, rfl, hb, rfl⟩
      · rw [hnew] at h; simp at h
    · rw [hnew] at h; simp at h
  have hpin : ∀ i s, site = some (i, s) → (∃ cs, st.boxes i = some cs) ∧ G.bx i = GE.bx i := by
    intro i s h
    obtain ⟨_, cs, h1⟩ := hs i s h
    exact hR.pin i (GE.bx i) (by rw [ho2]; simp [h1])
  have hand : Hand P st G w (A ++ v.cellsT) r.outs d stX GX := by
    refine ⟨hR.mem, hlen, fun p c c' h1 h2 => (fit1_spec (hfit p c c' h1 h2)).1, hn, fun p t ht => ?_, hXr, fun x c h => ?_, fun y => by rw [hGX], fun y => by rw [hGX], fun b o u' h1 _ => ?_, fun p c h => ?_⟩
    · unfold tells at ht
      simp only [Option.bind_eq_some_iff] at ht
      obtain ⟨c', h1, h2⟩ := ht
      have hlt : p < (A ++ v.cellsT).length := by rw [hlen]; exact (List.getElem?_eq_some_iff.1 h1).1
      exact (fit1_spec (hfit p _ c' (List.getElem?_eq_getElem hlt) h1)).2.2.2 t h2
    · obtain ⟨i, cs, h1, _, _⟩ := hXb x c h
      obtain ⟨⟨cs', h2⟩, h3⟩ := hpin i x h1
      exact ⟨i, cs', h2, by rw [hGX, h3]; simp only; rw [hbx0, h1]⟩
    · have := h1.1
      rw [hR.same, ho2] at this
      rw [hGX]; exact this
    · rcases Nat.lt_or_ge p A.length with hp | hp
      · rcases hA with ⟨_, h2⟩ | ⟨i, s, cs, h1, h2, h3, h4⟩
        · rw [h2] at hp; simp at hp
        · obtain ⟨us, t, _, _, h5⟩ := hR.mem.box i A h3
          rw [List.getElem?_append_left hp] at h
          obtain ⟨_, u', _, h6⟩ := h5 p c h
          exact ⟨u', h6⟩
      · rw [List.getElem?_append_right hp] at h
        exact cellsT_rep hshape hu h
  have hcellv : ∀ (p : Nat) c c' u', v.cellsT[p]? = some c → r.val.cellsT[p]? = some c' → Rep1 P st G w c u' → Rep1 P stX GX w (retCell d ((r.box.getD []).length + p) c') u' ∧ c'.one = true ∧ ∀ s off, c' ≠ .ptr s off := by
    intro p c c' u' h1 h2 h3
    have e1 : (A ++ v.cellsT)[(r.box.getD []).length + p]? = some c := by
      rw [List.getElem?_append_right (by omega), hAl, Nat.add_sub_cancel_left]; exact h1
    have e2 : r.outs[(r.box.getD []).length + p]? = some c' := by
      rw [hout, List.getElem?_append_right (by omega), Nat.add_sub_cancel_left]; exact h2
    have h4 := fit1_spec (hfit _ _ _ e1 e2)
    exact ⟨hand.rep1 e1 e2 h3, h4.2.1, h4.2.2.1⟩
  have hbxE : ∀ i s, site = some (i, s) → GX.bx s = GE.bx i := by
    intro i s h; rw [hGX]; simp only; rw [hbx0, h]
  refine ⟨GX, ?_⟩
  have hmem : Mem P stX GX w := by
    refine hand.memX (fun x c h => ?_) (fun x c x' c' h h' _ => ?_)
    · obtain ⟨i, cs, h1, h2, rfl⟩ := hXb x c h
      rcases hA with ⟨h3, _⟩ | ⟨i', s', cs', h3, h4, h5, h6⟩
      · rw [h3] at h2; cases h2
      · rw [h1] at h3
        cases h3
        rw [h2] at h4
        cases h4
        obtain ⟨us, t, h7, h8, h9⟩ := hR.mem.box i A h5
        refine ⟨us, t, ?_, by rw [h8, retCells_length, h6], fun p c hp => ?_⟩
        · rw [hbxE i x h1, ← (hpin i x h1).2]; exact h7
        · rw [retCells_get] at hp
          simp only [Option.map_eq_some_iff] at hp
          obtain ⟨c', h10, rfl⟩ := hp
          have hlt : p < A.length := by rw [h6]; exact (List.getElem?_eq_some_iff.1 h10).1
          have e1 : (A ++ v.cellsT)[p]? = some A[p] := by rw [List.getElem?_append_left hlt]; exact List.getElem?_eq_getElem hlt
          have e2 : r.outs[p]? = some c' := by
            rw [hout, h2]
            simp only [Option.getD_some]
            rw [List.getElem?_append_left (by omega)]; exact h10
          obtain ⟨_, u', h11, h12⟩ := h9 p A[p] (List.getElem?_eq_getElem hlt)
          have := hand.rep1 e1 e2 h12
          refine ⟨retCell_one (fit1_spec (hfit _ _ _ e1 e2)).2.1, u', h11, ?_⟩
          rw [Nat.zero_add]; exact this
    · obtain ⟨i, cs, h1, _⟩ := hXb x c h
      obtain ⟨i', cs', h1', _⟩ := hXb x' c' h'
      rw [h1] at h1'
      cases h1'; rfl
  have hpre : Pres w0 own w := by
    have := hR.pres
    rw [ho2] at this
    exact ⟨this.os, this.tape, this.output, this.size, this.block, this.cell⟩
  have hof : ∀ g, own2 g = own g := by intro g; rw [ho2]
  rw [hX] at hmem hand hcellv
  refine ⟨hmem, ?_, hbxE, hpre, fun s c h => ?_, fun x y tip g h h' => ?_, by rw [hGX], fun x y tip g o h h' => ?_⟩
  · rw [hnew]
    simp only [Option.getD_none, List.length_nil, Nat.add_zero]
    rcases hu with ⟨h1, h2⟩ | ⟨vs, us, rfl, rfl, h3, h4⟩
    · have hs1 := shape_one hshape h2
      have e1 : v.cellsT = v.cells := by cases v <;> first | rfl | exact absurd rfl (h2 _)
      have e2 : r.val.cellsT = r.val.cells := by cases hv : r.val <;> first | rfl | exact absurd hv (hs1.2 _)
      have e3 : retVal site d (r.box.getD []).length r.val = retVal1 site d (r.box.getD []).length r.val := by cases hv : r.val <;> first | rfl | exact absurd hv (hs1.2 _)
      rw [e3]
      exact Rep.ofA (ret1 h1 hs1.1 (by rw [← e1, ← e2]; exact hcellv))
    · cases hv : r.val with
      | tup vs' =>
        rw [hv] at hshape hcellv
        obtain ⟨h5, h6⟩ := rets (site := site) vs vs' us.toList (r.box.getD []).length hshape (by simpa using h3) (fun i x hx => by simpa using h4 i x hx) hcellv
        refine (⟨us, rfl, ?_, fun i c hi => ?_⟩ : Rep P _ GX w (.tup (retVals site d (r.box.getD []).length vs')) (.tuple us))
        · rw [retVals_length]; omega
        · simpa using h6 i c hi
      | _ => rw [hv] at hshape; simp [shape, shape1] at hshape
  · obtain ⟨i, cs, h1, _⟩ := hXb s c (by rw [hX]; exact h)
    right
    rw [hbxE i s h1]
    obtain ⟨_, cs', h2⟩ := hs i s h1
    exact hc.own.box i (retCells 1000 0 cs') (by simp [entrySt, h2])
  · obtain ⟨rfl, c, c', t, h1, h2, h3, h4, h5, h6⟩ := hand.told h
    rcases h6 with ⟨xs, q, rfl, h7, h8, h9, h10⟩ | ⟨h7, _⟩
    · rw [h8] at h'
      have := hR.orow _ _ _ _ h7 h'
      rw [hof, h10] at this
      rw [h5]; exact this
    · rw [h7] at h'; cases h'
  · obtain ⟨rfl, c, c', t, h1, h2, h3, h4, h5, h6⟩ := hand.told h
    rcases h6 with ⟨xs, q, rfl, h7, h8, h9, h10⟩ | ⟨h7, _⟩
    · rw [h8] at h'
      have := hR.rbad _ _ _ _ o h7 h'
      rw [hR.same, ho2] at this
      rw [hGX]; exact this
    · rw [h7] at h'; cases h'

/-- a contract, from its code's condition -/
theorem meets_of_awp {f : Nat} {fn : Func} {c : Code} {F : Con} {Γ : Nat → Option Con} (hS : Sound P Γ) (hmx : P.follows .mixedOrders = true) (hfn : P.funcs[f]? = some fn) (hb : fn.body = some c) (hent : ∀ args w, (callFunc f args).run P w = .ok (.enter f args) w)
    {L : List Arg → Nat → Option LoopInv} (h : ∀ args q r, F args = some (q, r) → q → ArgsOkay args → args.length ≤ fn.ntmps ∧ awp (boxIxs 0 args) (L args) Γ P fn.ntmps 0 c (entrySt args) (exitQ P fn.results.toList (boxIxs 0 args) r)) : Meets P f F := by
  refine ⟨hent, ?_⟩
  intro args vals w GE own d site q r hF hq hc hsite hs
  obtain ⟨hlen, hawp⟩ := h args q r hF hq (came_okay hc)
  obtain ⟨own2, ho2⟩ : ∃ o : OwnP, o = ⟨own.of, fun s => (match args[s]? with | some (.box _) => some (GE.bx s) | _ => none), GE.bad⟩ := ⟨_, rfl⟩
  refine calls_of_wp hfn hb ?_
  have hR : Rel P fn.ntmps w own2 (entrySt args) GE { tmps := vals ++ Array.replicate (fn.ntmps - vals.size) undef, defers := [] } w := by
    refine ⟨?_, rfl, fun t => ?_, hc.mem, Pres.refl _ _, fun s cs h => .inr ?_, fun x y tip g h h' => .inr ⟨_, ?_, Nat.le_refl _⟩, hc.bad, hc.rbad, fun s b h => ?_, by rw [ho2]⟩
    · simp [hc.size]; omega
    · have := hc.tmps t
      have e : (vals ++ Array.replicate (fn.ntmps - vals.size) undef).getD t undef = vals.getD t undef := by
        simp only [Array.getD_eq_getD_getElem?, Array.getElem?_append]
        split
        · rfl
        · rename_i hge
          rw [Array.getElem?_eq_none (xs := vals) (by omega), Array.getElem?_replicate]
          split <;> rfl
      simp only [e]; exact this
    · rw [ho2]; exact hc.own.box s cs h
    · rw [ho2]; exact hc.own.row x y tip g h h'
    · rw [ho2] at h
      simp only at h
      split at h
      · rename_i cs hi
        cases h
        exact ⟨⟨_, by simp [entrySt, hi]; rfl⟩, rfl⟩
      · cases h
  refine awp_sound (own := own2) (pins := boxIxs 0 args) (L := L args) ?_ hS hmx c 0 (entrySt args) GE _ w _ _ hawp hR ?_
  · intro s b h
    rw [ho2] at h
    simp only at h
    split at h
    · rename_i cs hi
      exact (boxIxs_get args 0 s).2 ⟨s, cs, by omega, hi⟩
    · cases h
  · intro e s G a w' hq hR'
    have fin : exitOK P fn.results.toList (boxIxs 0 args) r s → a.defers = [] ∧ ∃ v, (results fn a.tmps).run P w' = .ok v w' ∧ ∃ GX v', (Ending.returned v = .returned v') ∧ Back P w own GE d site r GX v' w' := by
      intro hx
      refine ⟨hR'.defers, ?_⟩
      unfold exitOK at hx
      split at hx
      · rename_i v hnew hv
        obtain ⟨h1, h2⟩ := hx
        obtain ⟨u, h3, h4⟩ := run_results hR' hv
        refine ⟨u, h3, ?_⟩
        split at h2
        · rename_i hbi hbx
          obtain ⟨GX, hB⟩ := back_of (A := []) hc ho2 hR' hsite hs hnew h1 h4 (.inl ⟨hbx, rfl⟩) (by simpa [Res.outs, hnew, hbx] using h2.1) (nodupB_spec _ (by simpa [Res.outs, hnew, hbx] using h2.2))
          exact ⟨GX, u, rfl, hB⟩
        · rename_i i cs hbi hbx
          split at h2
          · rename_i A hA
            have hsome : site.isSome = true := by rw [hsite, hbx]; rfl
            obtain ⟨⟨i', s'⟩, hsi⟩ := Option.isSome_iff_exists.1 hsome
            obtain ⟨_, cs', hi'⟩ := hs i' s' hsi
            have hi2 : i' ∈ boxIxs 0 args := (boxIxs_get args 0 i').2 ⟨i', cs', by omega, hi'⟩
            rw [hbi] at hi2
            obtain rfl : i' = i := by simpa using hi2
            obtain ⟨GX, hB⟩ := back_of (A := A) hc ho2 hR' hsite hs hnew h1 h4 (.inr ⟨_, _, _, hsi, hbx, hA, h2.1⟩) (by simpa [Res.outs, hnew, hbx] using h2.2.1) (nodupB_spec _ (by simpa [Res.outs, hnew, hbx] using h2.2.2))
            exact ⟨GX, u, rfl, hB⟩
          · exact h2.elim
        · exact h2.elim
      · exact hx.elim
    cases e with
    | normal =>
      obtain ⟨h1, v, h2, GX, v', h3, h4⟩ := fin hq
      exact ⟨h1, v, h2, GX, v', h3, h4⟩
    | exit i => exact hq.elim
    | ret =>
      obtain ⟨h1, v, h2, GX, v', h3, h4⟩ := fin hq
      exact ⟨h1, v, h2, GX, v', h3, h4⟩
end
end Go.Proofs.Ytnhfjdbnkpbbkab
