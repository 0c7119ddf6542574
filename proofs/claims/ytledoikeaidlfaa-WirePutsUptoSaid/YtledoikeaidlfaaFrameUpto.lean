/- The frame of a law's narrowed row ('Upto'): the walk is given the bound of the bulk. -/
import Derived.Test.YtledoikeaidlfaaFrame
import Derived.Deep.CondSized
import Derived.Test.YtledoikeaidlfaaLaxOpen
namespace Go.Proofs.Ytledoikeaidlfaa
set_option linter.unusedVariables false
open Go.ChangeShapes Go.WideShapes Go.ChangeAt Go.RowKit

theorem bulk_one {H : Type} (d : DataW H) : 1 ≤ Rows.uptoBulk d := by
  cases d with
  | lit l => cases l <;> simp [Rows.uptoBulk]
  | _ => simp [Rows.uptoBulk]
theorem bulk_part {H : Type} {d : DataW H} {l : List (DataW H)} (h : d ∈ l) : Rows.uptoBulk d ≤ Rows.uptoBulkAll l := by
  induction l with
  | nil => cases h
  | cons x r ih =>
    simp only [Rows.uptoBulkAll]
    cases List.mem_cons.1 h with
    | inl e => subst e; omega
    | inr e => have := ih e; omega
theorem bulk_length {H : Type} (l : List (DataW H)) : l.length ≤ Rows.uptoBulkAll l := by
  induction l with
  | nil => simp [Rows.uptoBulkAll]
  | cons x r ih => have := bulk_one x; simp only [Rows.uptoBulkAll, List.length_cons]; omega
theorem bulky {H : Type} : Bulky (H := H) Rows.uptoBulk :=
  ⟨fun l => by simp [Rows.uptoBulk], fun a b => by have := bulk_length a; simp only [Rows.uptoBulk]; omega, fun a b d h => by have := bulk_part h; simp only [Rows.uptoBulk]; omega,
    fun a d h => by have := bulk_part h; simp only [Rows.uptoBulk]; omega⟩

set_option maxRecDepth 100000 in
theorem law_lift_upto {f : FuncId} {fn : Func} {s : ChangeSpec} (ts : List TypeId) (os : Os) (started : os.Started) (H : Type) (enc : TypeId × Value → H)
    (noInit : Try.prog.inits.idxOf? f = none) (hfn : Try.prog.funcs[f]? = some fn) (hts : fn.params.toList = ts) (hres : fn.resultTypes = #[4]) (hvars : s.vars = [])
    (hrec : ts.all (fun t => Try.prog.readableRec t && decide (t < Try.prog.types.size)) = true)
    (hs : ∀ ds : List (DataW H), ds.length = ts.length → s.fn H (ds ++ []) = { results := [.lit (.bool true)], args := ds })
    {F : Stop.Interp} (witness : ∃ (w : World) (tape : Tape) (i : Input), w.os = os ∧ (w.forCall tape i).Shaped Try.checked.prog ∧ i.vars = [] ∧ Input.okWide Try.checked.prog (w.forCall tape i) .any w.heap.size f i ∧
      (Rows.OpenSpec.upto s).pre6 enc Try.checked.prog fn [] false (w.forCall tape i).memory i.args ∧ ({} : Assume).holds Try.checked.prog (lone (Frame.enter Try.checked.prog f i.args .normal) [] (w.forCall tape i)))
    (walk : ∀ (W : World) (base : Nat) (args : List Value) (ds : List (DataW H)) (p : List MemPlace), Given enc ts W base args ds p → Rows.uptoBulkAll ds ≤ 1048576 →
      Calls Try.prog f args.toArray W fun e W' => e = .returned (.bool true) ∧ Below W.heap.size W W') :
    ReturnsInHanded {} Try.checked os f .any ((Rows.OpenSpec.upto s).pre6 enc Try.checked.prog fn [] false) (((Rows.OpenSpec.upto s).at F).post enc Try.checked.prog fn false true false false) := by
  refine returnsInHanded_of_cond_sized (C := Try.checked) (s := Rows.OpenSpec.upto s) (k := Rows.uptoSmall) rfl own_knob started noInit hfn witness ?_
  intro W base args ds gs before hval0 hW hcnd hk hsz0 _
  have hval : ∀ (j : Nat) t v, fn.params[j]? = some t → args[j]? = some v → Value.okWide Try.prog W .any base t v := hval0
  replace hW : DataW.Whole enc Try.checked.prog fn.params.toList s.vars false W args.toList ds gs before := hW
  have hlen : args.toList.length = args.size := by simp
  have hW' := hW
  obtain ⟨p, q, hA0, hV, rfl, hfz, hnd⟩ := hW
  have hA : DataW.TrodAll enc Try.prog W 0 (fun _ => true) true fn.params.toList args.toList ds p := hA0
  have hsz : (DataW.weightsEach Try.prog (fn.params.toList ++ s.plain.varTypes Try.prog) (ds ++ gs)).all (· ≤ reachBytes) = true := hsz0
  have hvt : s.plain.varTypes Try.prog = [] := by simp [DataSpec.varTypes, ChangeSpec.plain, hvars]
  have hV' : gs = [] ∧ q = [] := by rw [hvars] at hV; exact trodVars_none hV
  obtain ⟨rfl, rfl⟩ := hV'
  rw [hvt] at hsz
  simp only [List.append_nil] at hsz
  rw [hts] at hA hsz
  have g : Given enc ts W base args.toList ds p := by
    refine ⟨fun j t v ht hv => hval j t v ?_ ?_, hA, hsz⟩
    · rw [← hts] at ht; rw [← Array.getElem?_toList]; exact ht
    · rw [← Array.getElem?_toList]; exact hv
  have hdl : ds.length = ts.length := by
    have : ∀ (ts : List TypeId) (vs : List Value) (ds : List (DataW H)) (ps : List MemPlace), DataW.TrodAll enc Try.prog W 0 (fun _ => true) true ts vs ds ps → ds.length = ts.length := by
      intro ts
      induction ts with
      | nil => intro vs ds ps h; obtain ⟨_, rfl, _⟩ := trodAll_nil h; rfl
      | cons t ts ih => intro vs ds ps h; obtain ⟨_, _, _, _, _, _, _, rfl, _, _, h2⟩ := trodAll_cons h; simp [ih _ _ _ h2]
    exact this _ _ _ _ hA
  have hk' : Rows.uptoBulkAll ds ≤ 1048576 := by
    have : Rows.uptoBulkAll (ds ++ []) ≤ 1048576 := of_decide_eq_true hk
    simpa using this
  have hargs : args = args.toList.toArray := by simp
  have hw := walk W base args.toList ds p g hk'
  rw [← hargs] at hw
  refine hw.mono fun e W' ⟨he, bel⟩ => ?_
  subst he
  have hlt : ∀ x ∈ p, x.block < W.heap.size := fun x hx => hW'.lt x (by simp [hx])
  have e1 := hs ds hdl
  have hR : DataW.TrodAll enc Try.prog W' W.heap.size (fun _ => false) false fn.resultTypes.toList ((Value.bool true).resultList fn.resultTypes.size) (s.fn H (ds ++ [])).results [] := by
    rw [e1, hres]; exact trodAll_mk1 (shut_bool Try.underlying4 _)
  have hAr : DataW.TrodAll enc Try.prog W' 0 (fun b => decide (b < W.heap.size)) true fn.params.toList args.toList (s.fn H (ds ++ [])).args p := by
    rw [e1, hts]; exact trodAll_below bel _ _ _ _ hrec hA hlt
  refine ⟨_, rfl, _, _, _, [], _, [], hW', hR, hAr, ?_, bel.frame _, fun h => by cases h⟩
  show DataW.TrodVars enc Try.checked.prog W' (fun b => decide (b < W.heap.size)) s.vars (s.fn H (ds ++ [])).vars []
  rw [e1, hvars]; rfl

section
variable {H : Type} {enc : TypeId × Value → H} {W : World} {base : Nat}
/-- an argument, and the bound of its bulk -/
theorem Given.nextUpto {t : TypeId} {ts : List TypeId} {args : List Value} {ds : List (DataW H)} {p : List MemPlace} {B : Nat} (g : Given enc (t :: ts) W base args ds p) (hb : Rows.uptoBulkAll ds ≤ B) :
    ∃ v vs d ds' p1 p2, args = v :: vs ∧ Value.okWide Try.prog W .any base t v ∧ DataW.Trod enc Try.prog W 0 (fun _ => true) true t v d p1 ∧ (DataW.weightsEach Try.prog [t] [d]).all (· ≤ reachBytes) = true ∧ Capped B d ∧ Rows.uptoBulkAll ds' ≤ B ∧ Given enc ts W base vs ds' p2 := by
  obtain ⟨val, trod, room⟩ := g
  obtain ⟨v, vs, d, ds', p1, p2, rfl, rfl, rfl, h1, h2⟩ := trodAll_cons trod
  have hr : (DataW.weightsEach Try.prog [t] [d]).all (· ≤ reachBytes) = true ∧ (DataW.weightsEach Try.prog ts ds').all (· ≤ reachBytes) = true := by
    simp only [DataW.weightsEach, List.all_append, Bool.and_eq_true, List.append_nil] at room ⊢
    exact room
  simp only [Rows.uptoBulkAll] at hb
  exact ⟨v, vs, d, ds', p1, p2, rfl, val 0 t v rfl rfl, h1, hr.1, .inr ⟨_, bulky, by omega⟩, by omega, fun j t' v' ht hv => val (j + 1) t' v' (by simpa using ht) (by simpa using hv), h2, hr.2⟩
end
end Go.Proofs.Ytledoikeaidlfaa
