/- The frame of a law's row that lists the library's two tables: the walk needs nothing of them. And the card's closing facts. -/
import Derived.Test.YtddilmocngedjaaDoorFrame
import Derived.Test.YtddilmocngedjaaDoorTie
import Derived.Test.YtddilmocngedjaaDoorCards
import Derived.LaidMore
import Derived.Lay
import Derived.MakeChecks
import Derived.SevenTiedAt
import Derived.SevenTiedPlain
namespace Go.Proofs.YtddilmocngedjaaDoor
set_option maxRecDepth 100000
set_option linter.unusedVariables false
open Go.ChangeShapes Go.WideShapes Go.ChangeAt Go.RowKit

abbrev laidTables : List (String × DataW Unit) := [("unicode/utf8.acceptRanges", Rows.laid_unicode_utf8_acceptRanges), ("unicode/utf8.first", Rows.laid_unicode_utf8_first)]
theorem laid_world (os : Os) (args : Array Value) : laidMetH Tryd.prog laidTables ((World.laidAll Tryd.prog os laidTables).forCall (fun _ _ => 0) ⟨#[], args, []⟩).memory := by
  rw [MakeChecks.laidMetH_plain _ _ _ (by kernel_rfl)]
  exact laidMet_laidAll _ (by kernel_rfl) (by kernel_rfl)

set_option maxRecDepth 100000 in
theorem law_lift_and {X : World → Array Value → Prop} (hX : ∀ (w w' : World) (args : Array Value), w.heap = w'.heap → X w args → X w' args) {f : FuncId} {fn : Func} {s : ChangeSpec} (ts : List TypeId) (os : Os) (started : os.Started) (H : Type) (enc : TypeId × Value → H)
    (noInit : Tryd.prog.inits.idxOf? f = none) (hfn : Tryd.prog.funcs[f]? = some fn) (hts : fn.params.toList = ts) (hres : fn.resultTypes = #[4]) (hvars : s.vars = [])
    (hrec : ts.all (fun t => Tryd.prog.readableRec t && decide (t < Tryd.prog.types.size)) = true)
    (hs : ∀ ds : List (DataW H), ds.length = ts.length → s.fn H (ds ++ []) = { results := [.lit (.bool true)], args := ds })
    (witness : ∃ (w : World) (tape : Tape) (i : Input), w.os = os ∧ (w.forCall tape i).Shaped Tryd.checked.prog ∧ i.vars = [] ∧ Input.okWide Tryd.checked.prog (w.forCall tape i) .any w.heap.size f i ∧
      ((s.pre enc Tryd.checked.prog fn [] false (w.forCall tape i).memory i.args ∧ X (w.forCall tape i).memory i.args) ∧ sizedMet enc Tryd.checked.prog fn (OpenSpec.ofChange s) false (w.forCall tape i).memory i.args) ∧ ({} : Assume).holds Tryd.checked.prog (lone (Frame.enter Tryd.checked.prog f i.args .normal) [] (w.forCall tape i)))
    (walk : ∀ (W : World) (base : Nat) (args : List Value) (ds : List (DataW H)) (p : List MemPlace), Given enc ts W base args ds p →
      Calls Tryd.prog f args.toArray W fun e W' => e = .returned (.bool true) ∧ Below W.heap.size W W') :
    ReturnsInHanded {} Tryd.checked os f .any (fun w args => (s.pre enc Tryd.checked.prog fn [] false w args ∧ X w args) ∧ sizedMet enc Tryd.checked.prog fn (OpenSpec.ofChange s) false w args) (s.post enc Tryd.checked.prog fn false true false false) := by
  refine returnsInHanded_of_change_and (C := Tryd.checked) (X := X) hX own_knob started noInit hfn witness ?_
  intro W base args ds gs before hval0 hW hcnd hsz0 _ _
  have hval : ∀ (j : Nat) t v, fn.params[j]? = some t → args[j]? = some v → Value.okWide Tryd.prog W .any base t v := hval0
  have hlen : args.toList.length = args.size := by simp
  have hW' := hW
  obtain ⟨p, q, hA0, hV, rfl, hfz, hnd⟩ := hW
  have hA : DataW.TrodAll enc Tryd.prog W 0 (fun _ => true) true fn.params.toList args.toList ds p := hA0
  have hsz : (DataW.weightsEach Tryd.prog (fn.params.toList ++ s.plain.varTypes Tryd.prog) (ds ++ gs)).all (· ≤ reachBytes) = true := hsz0
  have hvt : s.plain.varTypes Tryd.prog = [] := by simp [DataSpec.varTypes, ChangeSpec.plain, hvars]
  have hV' : gs = [] ∧ q = [] := by rw [hvars] at hV; exact trodVars_none hV
  obtain ⟨rfl, rfl⟩ := hV'
  rw [hvt] at hsz
  simp only [List.append_nil] at hsz
  rw [hts] at hA hsz
  have g : Given enc ts W base args.toList ds p := by
    refine ⟨fun j t v ht hv => hval j t v ?_ ?_, hA, hsz⟩
    · rw [← hts] at ht; rw [← Array.getElem?_toList]; exact ht
    · rw [← Array.getElem?_toList]; exact hv
  have hdl : ds.length = ts.length := by
    have : ∀ (ts : List TypeId) (vs : List Value) (ds : List (DataW H)) (ps : List MemPlace), DataW.TrodAll enc Tryd.prog W 0 (fun _ => true) true ts vs ds ps → ds.length = ts.length := by
      intro ts
      induction ts with
      | nil => intro vs ds ps h; obtain ⟨_, rfl, _⟩ := trodAll_nil h; rfl
      | cons t ts ih => intro vs ds ps h; obtain ⟨_, _, _, _, _, _, _, rfl, _, _, h2⟩ := trodAll_cons h; simp [ih _ _ _ h2]
    exact this _ _ _ _ hA
  have hargs : args = args.toList.toArray := by simp
  have hw := walk W base args.toList ds p g
  rw [← hargs] at hw
  refine hw.mono fun e W' ⟨he, bel⟩ => ?_
  subst he
  have hlt : ∀ x ∈ p, x.block < W.heap.size := fun x hx => hW'.lt x (by simp [hx])
  have e1 := hs ds hdl
  have hR : DataW.TrodAll enc Tryd.prog W' W.heap.size (fun _ => false) false fn.resultTypes.toList ((Value.bool true).resultList fn.resultTypes.size) (s.fn H (ds ++ [])).results [] := by
    rw [e1, hres]; exact trodAll_mk1 (shut_bool Tryd.underlying4 _)
  have hAr : DataW.TrodAll enc Tryd.prog W' 0 (fun b => decide (b < W.heap.size)) true fn.params.toList args.toList (s.fn H (ds ++ [])).args p := by
    rw [e1, hts]; exact trodAll_below bel _ _ _ _ hrec hA hlt
  refine ⟨_, rfl, _, _, _, [], _, [], hW', hR, hAr, ?_, bel.frame _, fun h => by cases h⟩
  rw [e1, hvars]; rfl

end Go.Proofs.YtddilmocngedjaaDoor
