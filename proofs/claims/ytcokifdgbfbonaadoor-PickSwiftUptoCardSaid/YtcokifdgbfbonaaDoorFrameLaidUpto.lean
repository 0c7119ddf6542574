/- The frame of a law's narrowed row ('Upto') that lists the library's two tables: the walk is given the bound of the bulk, and needs nothing of the tables. -/
import Derived.Test.YtcokifdgbfbonaaDoorFrameLaid
import Derived.Deep.CondSized
import Derived.Test.YtcokifdgbfbonaaDoorLaxOpen
namespace Go.Proofs.YtcokifdgbfbonaaDoor
set_option linter.unusedVariables false
set_option maxRecDepth 100000
open Go.ChangeShapes Go.WideShapes Go.ChangeAt Go.RowKit

theorem bulk_one {H : Type} (d : DataW H) : 1 ≤ Rows.uptoBulk d := by
  cases d with
  | lit l => cases l <;> simp [Rows.uptoBulk]
  | _ => simp [Rows.uptoBulk]
theorem bulk_part {H : Type} {d : DataW H} {l : List (DataW H)} (h : d ∈ l) : Rows.uptoBulk d ≤ Rows.uptoBulkAll l := by
  induction l with
  | nil => cases h
  | cons x r ih =>
    simp only [Rows.uptoBulkAll]
    cases List.mem_cons.1 h with
    | inl e => subst e; omega
    | inr e => have := ih e; omega
theorem bulk_length {H : Type} (l : List (DataW H)) : l.length ≤ Rows.uptoBulkAll l := by
  induction l with
  | nil => simp [Rows.uptoBulkAll]
  | cons x r ih => have := bulk_one x; simp only [Rows.uptoBulkAll, List.length_cons]; omega
theorem bulky {H : Type} : Bulky (H := H) Rows.uptoBulk :=
  ⟨fun l => by simp [Rows.uptoBulk], fun a b => by have := bulk_length a; simp only [Rows.uptoBulk]; omega, fun a b d h => by have := bulk_part h; simp only [Rows.uptoBulk]; omega,
    fun a d h => by have := bulk_part h; simp only [Rows.uptoBulk]; omega⟩

theorem witness_upto_shaped {H : Type} {enc : TypeId × Value → H} {C : Checked} {os : Os} {f : FuncId} {fn : Func} {s : OpenSpec} {k : (H : Type) → List (DataW H) → Bool} (hk : s.cond = some k) {X : World → Array Value → Prop} (w0 : World) (args : Array Value) (fuel : Nat) (hos : w0.os = os)
    (hsh : (w0.forCall (fun _ _ => 0) ⟨#[], args, []⟩).Shaped C.prog)
    (hok : Input.okWideB C.prog (w0.forCall (fun _ _ => 0) ⟨#[], args, []⟩) f ⟨#[], args, []⟩ = true)
    (hx : (match DataW.whole enc C.prog (w0.forCall (fun _ _ => 0) ⟨#[], args, []⟩).memory fn.params.toList s.vars false args.toList fuel with | some x => k H (x.1 ++ x.2.1) | none => false) = true)
    (hsz : s.bare.sizedB enc C.prog fn false (w0.forCall (fun _ _ => 0) ⟨#[], args, []⟩).memory args fuel = true)
    (hX : X (w0.forCall (fun _ _ => 0) ⟨#[], args, []⟩).memory args) :
    ∃ (w : World) (tape : Tape) (i : Input), w.os = os ∧ (w.forCall tape i).Shaped C.prog ∧ i.vars = [] ∧ Input.okWide C.prog (w.forCall tape i) .any w.heap.size f i ∧
      ((s.pre enc C.prog fn [] false (w.forCall tape i).memory i.args ∧ X (w.forCall tape i).memory i.args) ∧ sizedMet enc C.prog fn s false (w.forCall tape i).memory i.args) ∧ ({} : Assume).holds C.prog (lone (Frame.enter C.prog f i.args .normal) [] (w.forCall tape i)) := by
  cases hw : DataW.whole enc C.prog (w0.forCall (fun _ _ => 0) ⟨#[], args, []⟩).memory fn.params.toList s.vars false args.toList fuel with
  | none => rw [hw] at hx; simp at hx
  | some x =>
    rw [hw] at hx
    exact ⟨w0, fun _ _ => 0, ⟨#[], args, []⟩, hos, hsh, (Input.okWide_of_okWideB (base := 0) hok).1, (Input.okWide_of_okWideB hok).2, ⟨⟨(OpenSpec.pre_some hk [] false _ _).2 ⟨x.1, x.2.1, x.2.2, DataW.Whole_of_whole hw, rfl, hx⟩, hX⟩, sizedMet_of_sizedB hsz⟩, by
      simp only [Assume.holds]
      exact ⟨by simp, by simp, fun h => (by simp at h), by simp, by simp⟩⟩

set_option maxRecDepth 100000 in
theorem law_lift_upto_and {X : World → Array Value → Prop} {f : FuncId} {fn : Func} {s : ChangeSpec} (ts : List TypeId) (os : Os) (started : os.Started) (H : Type) (enc : TypeId × Value → H)
    (noInit : Tryd.prog.inits.idxOf? f = none) (hfn : Tryd.prog.funcs[f]? = some fn) (hts : fn.params.toList = ts) (hres : fn.resultTypes = #[4]) (hvars : s.vars = [])
    (hrec : ts.all (fun t => Tryd.prog.readableRec t && decide (t < Tryd.prog.types.size)) = true)
    (hs : ∀ ds : List (DataW H), ds.length = ts.length → s.fn H (ds ++ []) = { results := [.lit (.bool true)], args := ds })
    {F : Stop.Interp} (witness : ∃ (w : World) (tape : Tape) (i : Input), w.os = os ∧ (w.forCall tape i).Shaped Tryd.checked.prog ∧ i.vars = [] ∧ Input.okWide Tryd.checked.prog (w.forCall tape i) .any w.heap.size f i ∧
      (((Rows.OpenSpec.upto s).pre enc Tryd.checked.prog fn [] false (w.forCall tape i).memory i.args ∧ X (w.forCall tape i).memory i.args) ∧ sizedMet enc Tryd.checked.prog fn (Rows.OpenSpec.upto s) false (w.forCall tape i).memory i.args) ∧ ({} : Assume).holds Tryd.checked.prog (lone (Frame.enter Tryd.checked.prog f i.args .normal) [] (w.forCall tape i)))
    (walk : ∀ (W : World) (base : Nat) (args : List Value) (ds : List (DataW H)) (p : List MemPlace), Given enc ts W base args ds p → Rows.uptoBulkAll ds ≤ 1048576 →
      Calls Tryd.prog f args.toArray W fun e W' => e = .returned (.bool true) ∧ Below W.heap.size W W') :
    ReturnsInHanded {} Tryd.checked os f .any (fun w args => ((Rows.OpenSpec.upto s).pre enc Tryd.checked.prog fn [] false w args ∧ X w args) ∧ sizedMet enc Tryd.checked.prog fn (Rows.OpenSpec.upto s) false w args) (((Rows.OpenSpec.upto s).at F).post enc Tryd.checked.prog fn false true false false) := by
  have core : ∀ (W : World) (base : Nat) (args : Array Value) (ds gs : List (DataW H)) (before : List MemPlace),
      (∀ (j : Nat) t v, fn.params[j]? = some t → args[j]? = some v → Value.okWide Tryd.prog W .any base t v) → DataW.Whole enc Tryd.checked.prog fn.params.toList s.vars false W args.toList ds gs before → Rows.uptoSmall H (ds ++ gs) = true →
      (DataW.weightsEach Tryd.prog (fn.params.toList ++ s.plain.varTypes Tryd.prog) (ds ++ gs)).all (· ≤ reachBytes) = true →
      Calls Tryd.prog f args W fun e W' => ∃ v, e = .returned v ∧ ((Rows.OpenSpec.upto s).at F).post enc Tryd.checked.prog fn false true false false W args v W' := by
    intro W base args ds gs before hval hW hk hsz0
    have hlen : args.toList.length = args.size := by simp
    have hW' := hW
    obtain ⟨p, q, hA0, hV, rfl, hfz, hnd⟩ := hW
    have hA : DataW.TrodAll enc Tryd.prog W 0 (fun _ => true) true fn.params.toList args.toList ds p := hA0
    have hsz : (DataW.weightsEach Tryd.prog (fn.params.toList ++ s.plain.varTypes Tryd.prog) (ds ++ gs)).all (· ≤ reachBytes) = true := hsz0
    have hvt : s.plain.varTypes Tryd.prog = [] := by simp [DataSpec.varTypes, ChangeSpec.plain, hvars]
    have hV' : gs = [] ∧ q = [] := by rw [hvars] at hV; exact trodVars_none hV
    obtain ⟨rfl, rfl⟩ := hV'
    rw [hvt] at hsz
    simp only [List.append_nil] at hsz
    rw [hts] at hA hsz
    have g : Given enc ts W base args.toList ds p := by
      refine ⟨fun j t v ht hv => hval j t v ?_ ?_, hA, hsz⟩
      · rw [← hts] at ht; rw [← Array.getElem?_toList]; exact ht
      · rw [← Array.getElem?_toList]; exact hv
    have hdl : ds.length = ts.length := by
      have : ∀ (ts : List TypeId) (vs : List Value) (ds : List (DataW H)) (ps : List MemPlace), DataW.TrodAll enc Tryd.prog W 0 (fun _ => true) true ts vs ds ps → ds.length = ts.length := by
        intro ts
        induction ts with
        | nil => intro vs ds ps h; obtain ⟨_, rfl, _⟩ := trodAll_nil h; rfl
        | cons t ts ih => intro vs ds ps h; obtain ⟨_, _, _, _, _, _, _, rfl, _, _, h2⟩ := trodAll_cons h; simp [ih _ _ _ h2]
      exact this _ _ _ _ hA
    have hk' : Rows.uptoBulkAll ds ≤ 1048576 := by
      have : Rows.uptoBulkAll (ds ++ []) ≤ 1048576 := of_decide_eq_true hk
      simpa using this
    have hargs : args = args.toList.toArray := by simp
    have hw := walk W base args.toList ds p g hk'
    rw [← hargs] at hw
    refine hw.mono fun e W' ⟨he, bel⟩ => ?_
    subst he
    have hlt : ∀ x ∈ p, x.block < W.heap.size := fun x hx => hW'.lt x (by simp [hx])
    have e1 := hs ds hdl
    have hR : DataW.TrodAll enc Tryd.prog W' W.heap.size (fun _ => false) false fn.resultTypes.toList ((Value.bool true).resultList fn.resultTypes.size) (s.fn H (ds ++ [])).results [] := by
      rw [e1, hres]; exact trodAll_mk1 (shut_bool Tryd.underlying4 _)
    have hAr : DataW.TrodAll enc Tryd.prog W' 0 (fun b => decide (b < W.heap.size)) true fn.params.toList args.toList (s.fn H (ds ++ [])).args p := by
      rw [e1, hts]; exact trodAll_below bel _ _ _ _ hrec hA hlt
    refine ⟨_, rfl, _, _, _, [], _, [], hW', hR, hAr, ?_, bel.frame _, fun h => by cases h⟩
    show DataW.TrodVars enc Tryd.checked.prog W' (fun b => decide (b < W.heap.size)) s.vars (s.fn H (ds ++ [])).vars []
    rw [e1, hvars]; rfl
  refine returnsInHanded_of_calls own_knob started noInit witness ?_
  intro w tape i _ _ _ hok hpre hholds
  obtain ⟨_, _, _, fn', hfn', _, _, _, _, hval⟩ := hok
  have e : fn' = fn := Option.some.inj (hfn'.symm.trans hfn)
  subst e
  obtain ⟨⟨hp1, hX⟩, hz⟩ := hpre
  obtain ⟨ds, gs, before, hw0, hc, hk⟩ := (OpenSpec.pre_some (s := Rows.OpenSpec.upto s) (k := Rows.uptoSmall) rfl [] false _ _).1 hp1
  have hwW := DataW.Whole.of_heap (w' := w.forCall tape i) (by rfl) hw0
  refine (core (w.forCall tape i) w.heap.size i.args ds gs before hval hwW hk (hz.weights hw0)).mono fun e W' ⟨v, he, hp⟩ => ?_
  subst he
  exact ChangeSpec.post_blind hp

section
variable {H : Type} {enc : TypeId × Value → H} {W : World} {base : Nat}
/-- an argument, and the bound of its bulk -/
theorem Given.nextUpto {t : TypeId} {ts : List TypeId} {args : List Value} {ds : List (DataW H)} {p : List MemPlace} {B : Nat} (g : Given enc (t :: ts) W base args ds p) (hb : Rows.uptoBulkAll ds ≤ B) :
    ∃ v vs d ds' p1 p2, args = v :: vs ∧ Value.okWide Tryd.prog W .any base t v ∧ DataW.Trod enc Tryd.prog W 0 (fun _ => true) true t v d p1 ∧ (DataW.weightsEach Tryd.prog [t] [d]).all (· ≤ reachBytes) = true ∧ Capped B d ∧ Rows.uptoBulkAll ds' ≤ B ∧ Given enc ts W base vs ds' p2 := by
  have val := g.val
  have trod := g.trod
  have room := g.room
  obtain ⟨v, vs, d, ds', p1, p2, rfl, rfl, rfl, h1, h2⟩ := trodAll_cons trod
  have hr : (DataW.weightsEach Tryd.prog [t] [d]).all (· ≤ reachBytes) = true ∧ (DataW.weightsEach Tryd.prog ts ds').all (· ≤ reachBytes) = true := by
    simp only [DataW.weightsEach, List.all_append, Bool.and_eq_true, List.append_nil] at room ⊢
    exact room
  simp only [Rows.uptoBulkAll] at hb
  exact ⟨v, vs, d, ds', p1, p2, rfl, val 0 t v rfl rfl, h1, hr.1, .inr ⟨_, bulky, by omega⟩, by omega, fun j t' v' ht hv => val (j + 1) t' v' (by simpa using ht) (by simpa using hv), h2, hr.2⟩
end
end Go.Proofs.YtcokifdgbfbonaaDoor
