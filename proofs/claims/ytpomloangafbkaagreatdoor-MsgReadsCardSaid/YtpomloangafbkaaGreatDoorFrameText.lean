/- The frame of a law's row that lists the library's tables, for a walk that reads them. -/
import Derived.Test.YtpomloangafbkaaGreatDoorFrame
import Derived.Test.YtpomloangafbkaaGreatDoorTie
import Derived.Test.YtpomloangafbkaaGreatDoorCards
import Derived.Test.YtpomloangafbkaaGreatDoorLm1
import Derived.LaidMore
import Derived.Lay
import Derived.MakeChecks
import Derived.SevenTiedAt
import Derived.SevenTiedPlain
import Derived.Stop.LaidErr
import Derived.Shelf.Vars
namespace Go.Proofs.YtpomloangafbkaaGreatDoor
set_option maxRecDepth 100000
set_option linter.unusedVariables false
open Go.ChangeShapes Go.WideShapes Go.ChangeAt Go.RowKit

theorem row_err (u : TypeId) (h : Tryz.prog.typeName? 3 u = some "*errors.errorString") : u = 206 :=
  typeName_ptr_named (nm := "errors.errorString") (by rw [show "*" ++ "errors.errorString" = "*errors.errorString" by decide]; kernel_rfl) (by kernel_rfl) (by decide) u (by rw [show "*" ++ "errors.errorString" = "*errors.errorString" by decide]; exact h)
theorem err_of {W : World} {n : String} {text : List UInt8} {r : List (String × DataW Unit)} (h : laidMet Tryz.prog ((n, .iface "*errors.errorString" (.ptr (.agg [.lit (.string text)]))) :: r) W) (hg : Tryz.prog.globalNamed n = some (((Tryz.prog.globalNamed n).getD 0))) (ht : (Tryz.prog.globals[((Tryz.prog.globalNamed n).getD 0)]?).map (·.type) = some 97) : errAt Tryz.prog W n := by
  intro g hg'
  obtain rfl := Option.some.inj (hg.symm.trans hg')
  obtain ⟨a0, s0, hv0, -, -, -⟩ := laid_sentinel h hg ht Tryz.underlying97 row_err Tryz.underlying206 Tryz.underlying208 rfl rfl Tryz.underlying9 (by kernel_rfl) (by kernel_rfl)
  exact ⟨_, by have h0 := World.var?_cell hg hv0 0; simpa using h0, Or.inr ⟨_, _, rfl⟩⟩
theorem size_of {W : World} (h : W.ShapedOpen Tryz.prog) : Tryz.prog.globals.size < W.heap.size := by
  have h2 := h.2 Tryz.prog.globals.size (Nat.le_refl _) (by decide +kernel)
  obtain ⟨o, _, h3, _⟩ := h2
  exact (Array.getElem?_eq_some_iff.1 h3).1
theorem change_and_shaped {H : Type} {enc : TypeId × Value → H} {a : Assume} {C : Checked} {os : Os} {f : FuncId} {fn : Func} {s : ChangeSpec} {conds : List PathCond} {apart fresh handsOn again : Bool} {X : World → Array Value → Prop}
    (hX : ∀ (w w' : World) (args : Array Value), w.heap = w'.heap → X w args → X w' args)
    (own : ownKnob C.prog.godebug = none) (started : os.Started) (noInit : C.prog.inits.idxOf? f = none) (hfn : C.prog.funcs[f]? = some fn)
    (witness : ∃ (w : World) (tape : Tape) (i : Input), w.os = os ∧ (w.forCall tape i).Shaped C.prog ∧ i.vars = [] ∧ Input.okWide C.prog (w.forCall tape i) .any w.heap.size f i ∧
      ((s.pre enc C.prog fn conds apart (w.forCall tape i).memory i.args ∧ X (w.forCall tape i).memory i.args) ∧ sizedMet enc C.prog fn (OpenSpec.ofChange s) apart (w.forCall tape i).memory i.args) ∧ a.holds C.prog (lone (Frame.enter C.prog f i.args .normal) [] (w.forCall tape i)))
    (contract : ∀ (W : World) (base : Nat) (args : Array Value) (ds gs : List (DataW H)) (before : List MemPlace),
      (∀ (j : Nat) t v, fn.params[j]? = some t → args[j]? = some v → Value.okWide C.prog W .any base t v) →
      DataW.Whole enc C.prog fn.params.toList s.vars apart W args.toList ds gs before →
      conds.all (PathCond.test C.prog ⟨fn.params.toList, ds, s.plain.varTypes C.prog, gs⟩) = true →
      (DataW.weightsEach C.prog (fn.params.toList ++ s.plain.varTypes C.prog) (ds ++ gs)).all (· ≤ reachBytes) = true → X W args → W.ShapedOpen C.prog →
      a.holds C.prog (lone (Frame.enter C.prog f args .normal) [] W) →
      Calls C.prog f args W fun e W' => ∃ v, e = .returned v ∧ s.post enc C.prog fn apart fresh handsOn again W args v W') :
    ReturnsInHanded a C os f .any (fun w args => (s.pre enc C.prog fn conds apart w args ∧ X w args) ∧ sizedMet enc C.prog fn (OpenSpec.ofChange s) apart w args) (s.post enc C.prog fn apart fresh handsOn again) := by
  refine returnsInHanded_of_calls own started noInit witness ?_
  intro w tape i _ hsh _ hok hpre hholds
  obtain ⟨_, _, _, fn', hfn', _, _, _, _, hval⟩ := hok
  have e : fn' = fn := Option.some.inj (hfn'.symm.trans hfn)
  subst e
  obtain ⟨⟨⟨ds, gs, before, hw, hc⟩, hx⟩, hz⟩ := hpre
  have hw' := DataW.Whole.of_heap (w' := w.forCall tape i) (by rfl) hw
  refine (contract (w.forCall tape i) w.heap.size i.args ds gs before hval hw' hc (hz.weights hw) (hX _ _ _ (by rfl) hx) hsh hholds).mono fun e W' ⟨v, he, hp⟩ => ?_
  subst he
  exact ChangeSpec.post_blind hp

set_option maxRecDepth 100000 in
theorem law_lift_text {X : World → Array Value → Prop} (hX : ∀ (w w' : World) (args : Array Value), w.heap = w'.heap → X w args → X w' args) {f : FuncId} {fn : Func} {s : ChangeSpec} (ts : List TypeId) (os : Os) (started : os.Started) (H : Type) (enc : TypeId × Value → H)
    (noInit : Tryz.prog.inits.idxOf? f = none) (hfn : Tryz.prog.funcs[f]? = some fn) (hts : fn.params.toList = ts) (hres : fn.resultTypes = #[4]) (hvars : s.vars = [])
    (hrec : ts.all (fun t => Tryz.prog.readableRec t && decide (t < Tryz.prog.types.size)) = true)
    (hs : ∀ ds : List (DataW H), ds.length = ts.length → s.fn H (ds ++ []) = { results := [.lit (.bool true)], args := ds })
    (witness : ∃ (w : World) (tape : Tape) (i : Input), w.os = os ∧ (w.forCall tape i).Shaped Tryz.checked.prog ∧ i.vars = [] ∧ Input.okWide Tryz.checked.prog (w.forCall tape i) .any w.heap.size f i ∧
      ((s.pre enc Tryz.checked.prog fn [] false (w.forCall tape i).memory i.args ∧ X (w.forCall tape i).memory i.args) ∧ sizedMet enc Tryz.checked.prog fn (OpenSpec.ofChange s) false (w.forCall tape i).memory i.args) ∧ ({} : Assume).holds Tryz.checked.prog (lone (Frame.enter Tryz.checked.prog f i.args .normal) [] (w.forCall tape i)))
    (walk : ∀ (W : World) (base : Nat) (args : List Value) (ds : List (DataW H)) (p : List MemPlace), Given enc ts W base args ds p → W.ShapedOpen Tryz.prog → X W args.toArray →
      Calls Tryz.prog f args.toArray W fun e W' => e = .returned (.bool true) ∧ Below W.heap.size W W') :
    ReturnsInHanded {} Tryz.checked os f .any (fun w args => (s.pre enc Tryz.checked.prog fn [] false w args ∧ X w args) ∧ sizedMet enc Tryz.checked.prog fn (OpenSpec.ofChange s) false w args) (s.post enc Tryz.checked.prog fn false true false false) := by
  refine change_and_shaped (C := Tryz.checked) (X := X) hX own_knob started noInit hfn witness ?_
  intro W base args ds gs before hval0 hW hcnd hsz0 hxx hsh _
  have hval : ∀ (j : Nat) t v, fn.params[j]? = some t → args[j]? = some v → Value.okWide Tryz.prog W .any base t v := hval0
  have hlen : args.toList.length = args.size := by simp
  have hW' := hW
  obtain ⟨p, q, hA0, hV, rfl, hfz, hnd⟩ := hW
  have hA : DataW.TrodAll enc Tryz.prog W 0 (fun _ => true) true fn.params.toList args.toList ds p := hA0
  have hsz : (DataW.weightsEach Tryz.prog (fn.params.toList ++ s.plain.varTypes Tryz.prog) (ds ++ gs)).all (· ≤ reachBytes) = true := hsz0
  have hvt : s.plain.varTypes Tryz.prog = [] := by simp [DataSpec.varTypes, ChangeSpec.plain, hvars]
  have hV' : gs = [] ∧ q = [] := by rw [hvars] at hV; exact trodVars_none hV
  obtain ⟨rfl, rfl⟩ := hV'
  rw [hvt] at hsz
  simp only [List.append_nil] at hsz
  rw [hts] at hA hsz
  have g : Given enc ts W base args.toList ds p := by
    refine ⟨fun j t v ht hv => hval j t v ?_ ?_, hA, hsz⟩
    · rw [← hts] at ht; rw [← Array.getElem?_toList]; exact ht
    · rw [← Array.getElem?_toList]; exact hv
  have hdl : ds.length = ts.length := by
    have : ∀ (ts : List TypeId) (vs : List Value) (ds : List (DataW H)) (ps : List MemPlace), DataW.TrodAll enc Tryz.prog W 0 (fun _ => true) true ts vs ds ps → ds.length = ts.length := by
      intro ts
      induction ts with
      | nil => intro vs ds ps h; obtain ⟨_, rfl, _⟩ := trodAll_nil h; rfl
      | cons t ts ih => intro vs ds ps h; obtain ⟨_, _, _, _, _, _, _, rfl, _, _, h2⟩ := trodAll_cons h; simp [ih _ _ _ h2]
    exact this _ _ _ _ hA
  have hargs : args = args.toList.toArray := by simp
  have hw := walk W base args.toList ds p g hsh (by rw [← hargs]; exact hxx)
  rw [← hargs] at hw
  refine hw.mono fun e W' ⟨he, bel⟩ => ?_
  subst he
  have hlt : ∀ x ∈ p, x.block < W.heap.size := fun x hx => hW'.lt x (by simp [hx])
  have e1 := hs ds hdl
  have hR : DataW.TrodAll enc Tryz.prog W' W.heap.size (fun _ => false) false fn.resultTypes.toList ((Value.bool true).resultList fn.resultTypes.size) (s.fn H (ds ++ [])).results [] := by
    rw [e1, hres]; exact trodAll_mk1 (shut_bool Tryz.underlying4 _)
  have hAr : DataW.TrodAll enc Tryz.prog W' 0 (fun b => decide (b < W.heap.size)) true fn.params.toList args.toList (s.fn H (ds ++ [])).args p := by
    rw [e1, hts]; exact trodAll_below bel _ _ _ _ hrec hA hlt
  refine ⟨_, rfl, _, _, _, [], _, [], hW', hR, hAr, ?_, bel.frame _, fun h => by cases h⟩
  rw [e1, hvars]; rfl

end Go.Proofs.YtpomloangafbkaaGreatDoor
