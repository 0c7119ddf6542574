/- The frame of a law's row, once for all laws of the seat: from a walk that returns true and leaves all old memory as it was, to the row's word. And the openers of arguments. -/
import Derived.Test.YtddilmocngedjaaKit
import Derived.ShutString
import Derived.ChangeOld
import Derived.SizedLaws
import Derived.Lib.SmallJoins
namespace Go.Proofs.Ytddilmocngedjaa
set_option maxRecDepth 100000
set_option linter.unusedVariables false
open Go.ChangeShapes Go.WideShapes Go.ChangeAt Go.RowKit
open Go.ChangeMaps (open_string shut_string)

/-- What is given of the arguments. -/
structure Given {H : Type} (enc : TypeId × Value → H) (ts : List TypeId) (W : World) (base : Nat) (args : List Value) (ds : List (DataW H)) (p : List MemPlace) : Prop where
  val : ∀ (j : Nat) t v, ts[j]? = some t → args[j]? = some v → Value.okWide Try.prog W .any base t v
  trod : DataW.TrodAll enc Try.prog W 0 (fun _ => true) true ts args ds p
  room : (DataW.weightsEach Try.prog ts ds).all (· ≤ reachBytes) = true

theorem trodAll_below {H : Type} {enc : TypeId × Value → H} {W W' : World} (bel : Below W.heap.size W W') :
    ∀ (ts : List TypeId) (vs : List Value) (ds : List (DataW H)) (ps : List MemPlace), ts.all (fun t => Try.prog.readableRec t && decide (t < Try.prog.types.size)) = true →
      DataW.TrodAll enc Try.prog W 0 (fun _ => true) true ts vs ds ps → (∀ x ∈ ps, x.block < W.heap.size) → DataW.TrodAll enc Try.prog W' 0 (fun b => decide (b < W.heap.size)) true ts vs ds ps := by
  intro ts
  induction ts with
  | nil =>
    intro vs ds ps _ h _
    obtain ⟨rfl, rfl, rfl⟩ := trodAll_nil h
    exact trodAll_mk0
  | cons t ts ih =>
    intro vs ds ps hr h hlt
    obtain ⟨v, vs', d, ds', p, q, rfl, rfl, rfl, h1, h2⟩ := trodAll_cons h
    simp only [List.all_cons, Bool.and_eq_true, decide_eq_true_eq] at hr
    exact trodAll_cons_mk (Below.trod laid_out hr.1.1 hr.1.2 h1 bel (fun x hx => hlt x (by simp [hx]))) (ih vs' ds' q (by simpa using hr.2) h2 (fun x hx => hlt x (by simp [hx])))

set_option maxRecDepth 100000 in
theorem law_lift {f : FuncId} {fn : Func} {s : ChangeSpec} (ts : List TypeId) (os : Os) (started : os.Started) (H : Type) (enc : TypeId × Value → H)
    (noInit : Try.prog.inits.idxOf? f = none) (hfn : Try.prog.funcs[f]? = some fn) (hts : fn.params.toList = ts) (hres : fn.resultTypes = #[4]) (hvars : s.vars = [])
    (hrec : ts.all (fun t => Try.prog.readableRec t && decide (t < Try.prog.types.size)) = true)
    (hs : ∀ ds : List (DataW H), ds.length = ts.length → s.fn H (ds ++ []) = { results := [.lit (.bool true)], args := ds })
    (witness : ∃ (w : World) (tape : Tape) (i : Input), w.os = os ∧ (w.forCall tape i).Shaped Try.checked.prog ∧ i.vars = [] ∧ Input.okWide Try.checked.prog (w.forCall tape i) .any w.heap.size f i ∧
      s.pre6 enc Try.checked.prog fn [] false (w.forCall tape i).memory i.args ∧ ({} : Assume).holds Try.checked.prog (lone (Frame.enter Try.checked.prog f i.args .normal) [] (w.forCall tape i)))
    (walk : ∀ (W : World) (base : Nat) (args : List Value) (ds : List (DataW H)) (p : List MemPlace), Given enc ts W base args ds p →
      Calls Try.prog f args.toArray W fun e W' => e = .returned (.bool true) ∧ Below W.heap.size W W') :
    ReturnsInHanded {} Try.checked os f .any (s.pre6 enc Try.checked.prog fn [] false) (s.post enc Try.checked.prog fn false true false false) := by
  refine returnsInHanded_of_change_sized (C := Try.checked) own_knob started noInit hfn witness ?_
  intro W base args ds gs before hval0 hW hcnd hsz0 _
  have hval : ∀ (j : Nat) t v, fn.params[j]? = some t → args[j]? = some v → Value.okWide Try.prog W .any base t v := hval0
  have hlen : args.toList.length = args.size := by simp
  have hW' := hW
  obtain ⟨p, q, hA0, hV, rfl, hfz, hnd⟩ := hW
  have hA : DataW.TrodAll enc Try.prog W 0 (fun _ => true) true fn.params.toList args.toList ds p := hA0
  have hsz : (DataW.weightsEach Try.prog (fn.params.toList ++ s.plain.varTypes Try.prog) (ds ++ gs)).all (· ≤ reachBytes) = true := hsz0
  have hvt : s.plain.varTypes Try.prog = [] := by simp [DataSpec.varTypes, ChangeSpec.plain, hvars]
  have hV' : gs = [] ∧ q = [] := by rw [hvars] at hV; exact trodVars_none hV
  obtain ⟨rfl, rfl⟩ := hV'
  rw [hvt] at hsz
  simp only [List.append_nil] at hsz
  rw [hts] at hA hsz
  have g : Given enc ts W base args.toList ds p := by
    refine ⟨fun j t v ht hv => hval j t v ?_ ?_, hA, hsz⟩
    · rw [← hts] at ht; rw [← Array.getElem?_toList]; exact ht
    · rw [← Array.getElem?_toList]; exact hv
  have hdl : ds.length = ts.length := by
    have : ∀ (ts : List TypeId) (vs : List Value) (ds : List (DataW H)) (ps : List MemPlace), DataW.TrodAll enc Try.prog W 0 (fun _ => true) true ts vs ds ps → ds.length = ts.length := by
      intro ts
      induction ts with
      | nil => intro vs ds ps h; obtain ⟨_, rfl, _⟩ := trodAll_nil h; rfl
      | cons t ts ih => intro vs ds ps h; obtain ⟨_, _, _, _, _, _, _, rfl, _, _, h2⟩ := trodAll_cons h; simp [ih _ _ _ h2]
    exact this _ _ _ _ hA
  have hargs : args = args.toList.toArray := by simp
  have hw := walk W base args.toList ds p g
  rw [← hargs] at hw
  refine hw.mono fun e W' ⟨he, bel⟩ => ?_
  subst he
  have hlt : ∀ x ∈ p, x.block < W.heap.size := fun x hx => hW'.lt x (by simp [hx])
  have e1 := hs ds hdl
  have hR : DataW.TrodAll enc Try.prog W' W.heap.size (fun _ => false) false fn.resultTypes.toList ((Value.bool true).resultList fn.resultTypes.size) (s.fn H (ds ++ [])).results [] := by
    rw [e1, hres]; exact trodAll_mk1 (shut_bool Try.underlying4 _)
  have hAr : DataW.TrodAll enc Try.prog W' 0 (fun b => decide (b < W.heap.size)) true fn.params.toList args.toList (s.fn H (ds ++ [])).args p := by
    rw [e1, hts]; exact trodAll_below bel _ _ _ _ hrec hA hlt
  refine ⟨_, rfl, _, _, _, [], _, [], hW', hR, hAr, ?_, bel.frame _, fun h => by cases h⟩
  rw [e1, hvars]; rfl

/-! ### openers -/
section
variable {H : Type} {enc : TypeId × Value → H} {W : World} {base : Nat}
theorem Given.next {t : TypeId} {ts : List TypeId} {args : List Value} {ds : List (DataW H)} {p : List MemPlace} (g : Given enc (t :: ts) W base args ds p) :
    ∃ v vs d ds' p1 p2, args = v :: vs ∧ Value.okWide Try.prog W .any base t v ∧ DataW.Trod enc Try.prog W 0 (fun _ => true) true t v d p1 ∧ (DataW.weightsEach Try.prog [t] [d]).all (· ≤ reachBytes) = true ∧ Given enc ts W base vs ds' p2 := by
  obtain ⟨val, trod, room⟩ := g
  obtain ⟨v, vs, d, ds', p1, p2, rfl, rfl, rfl, h1, h2⟩ := trodAll_cons trod
  have hr : (DataW.weightsEach Try.prog [t] [d]).all (· ≤ reachBytes) = true ∧ (DataW.weightsEach Try.prog ts ds').all (· ≤ reachBytes) = true := by
    simp only [DataW.weightsEach, List.all_append, Bool.and_eq_true, List.append_nil] at room ⊢
    exact room
  exact ⟨v, vs, d, ds', p1, p2, rfl, val 0 t v rfl rfl, h1, hr.1, fun j t' v' ht hv => val (j + 1) t' v' (by simpa using ht) (by simpa using hv), h2, hr.2⟩
theorem Given.done {args : List Value} {ds : List (DataW H)} {p : List MemPlace} (g : Given enc [] W base args ds p) : args = [] := (trodAll_nil g.trod).1

theorem open_bytes {v : Value} {d : DataW H} {p : List MemPlace} (hv : Value.okWide Try.prog W .any base 22 v) (h : DataW.Trod enc Try.prog W 0 (fun _ => true) true 22 v d p)
    (hr : (DataW.weightsEach Try.prog [22] [d]).all (· ≤ reachBytes) = true) :
    ∃ (A : Option Addr) (c : Nat) (l : List UInt8), v = .slice A l.length c ∧ Rd W W.heap.size A (l.map bv) ∧ l.length ≤ c ∧ c ≤ 140737488351232 := by
  obtain ⟨A, len, cap, rfl⟩ := okWide_slice Try.underlying22 hv
  obtain ⟨fuel, hf⟩ := h
  rcases open_ints Try.underlying22 Try.underlying5 (by kernel_rfl) hf with ⟨hcs, _⟩ | ⟨x, l, c, zs, hcs, _, hl, hm, hz, hx, hcell, hwz⟩
  · simp [Value.cells] at hcs
    obtain ⟨rfl, rfl, rfl⟩ := hcs
    exact ⟨none, 0, [], rfl, .inl rfl, Nat.le_refl _, by omega⟩
  · simp [Value.cells] at hcs
    obtain ⟨rfl, rfl, rfl⟩ := hcs
    simp only [if_true] at hz
    simp only [Prod.mk.injEq] at hx
    have hs := sized_slice hr (j := 0) (t := 22) (e := 5) (elems := lits .u8 (zs.take len)) (spare := lits .u8 (zs.drop len)) rfl (by rw [hx.1]; rfl) Try.underlying22
    have hb1 : Try.prog.bytesOf 5 = 1 := by kernel_rfl
    rw [hb1] at hs
    simp only [lits, List.length_map, List.length_take, List.length_drop, reachBytes] at hs
    refine ⟨some x, cap, (zs.take len).map (fun n => UInt8.ofNat n.toNat), ?_, ?_, ?_, by omega⟩
    · rw [List.length_map, List.length_take, Nat.min_eq_left (by omega)]
    · by_cases h0 : len = 0
      · subst h0; left; simp
      · have hlt : x.block < W.heap.size := by
          have := DataW.trod_lt fuel _ _ _ hf (.cell x.block x.off) (by rw [hx.2]; unfold MemPlace.row; refine List.mem_map.2 ⟨0, by simp; omega, by simp⟩)
          exact this
        refine Rd.of_addr hlt fun j u hu => ?_
        simp only [List.map_map, List.getElem?_map, Option.map_eq_some_iff] at hu
        obtain ⟨n, hn, rfl⟩ := hu
        rw [List.getElem?_take] at hn
        split at hn
        · obtain ⟨hj, rfl⟩ := List.getElem?_eq_some_iff.1 hn
          rw [hcell j hj]
          have hw := bounds_u8 (hwz _ (List.getElem_mem hj))
          simp only [Function.comp, bv, List.getD_eq_getElem?_getD, List.getElem?_eq_getElem hj, Option.getD_some, UInt8.toNat_ofNat']
          congr 2; omega
        · cases hn
    · simp; omega
end
end Go.Proofs.Ytddilmocngedjaa
