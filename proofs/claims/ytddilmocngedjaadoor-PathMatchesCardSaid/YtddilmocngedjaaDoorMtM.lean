/- The hand-made contracts of paths' patterns, by content. -/
import Derived.Test.YtddilmocngedjaaDoorMtI
import Derived.Test.YtddilmocngedjaaDoorLaxPkMr
import Derived.Test.YtddilmocngedjaaDoorPrefix
namespace Go.Proofs.YtddilmocngedjaaDoor
set_option linter.unusedVariables false
set_option linter.unusedSimpArgs false
open Go Go.Proofs Go.RowKit Go.Lib
def lpartsF : Con
  | [.val (.str s)] => some (s.length ≤ 1000, ⟨.sl (strsAV (segs s)) .no, none, none⟩)
  | _ => none
theorem meetsLparts : Meets Tryd.prog 19 lpartsF := by
  refine meets_plain Tryd.call19 ?_
  intro args q r hF hq
  unfold lpartsF at hF
  split at hF
  · rename_i s
    cases hF
    refine ⟨[.str s], rfl, rfl, fun x hx => (by simp at hx; subst hx; rfl), rfl, rfl, rfl, ?_⟩
    intro us w S hs h
    obtain ⟨u, rfl, hu⟩ := one_arg hs h
    obtain ⟨rfl, _⟩ := repV_str hu
    refine (lparts_any s hq w).mono ?_
    rintro e w' ⟨v, rfl, hb, hm⟩
    exact ⟨v, rfl, hb, (strs_rep hm (fun g o hg => Or.inr hg) (segs_lens (by omega)) : RepP w' (More S w) (.sl (strsAV (segs s)) .no) v)⟩
  · cases hF
def pathPartsF : Con
  | [.val (.str s)] => some (s.length ≤ 1000000, ⟨.sl (strsAV (partsV s)) .no, none, none⟩)
  | _ => none
theorem partsV_lens {s : List UInt8} (hs : s.length ≤ 1000000) : ∀ x ∈ partsV s, x.length ≤ 9223372036854775807 := by
  intro x hx
  unfold partsV at hx
  split at hx
  · exact segs_lens hs x hx
  · cases hx
theorem meetsPathParts : Meets Tryd.prog 35 pathPartsF := by
  refine meets_plain Tryd.call35 ?_
  intro args q r hF hq
  unfold pathPartsF at hF
  split at hF
  · rename_i s
    cases hF
    refine ⟨[.str s], rfl, rfl, fun x hx => (by simp at hx; subst hx; rfl), rfl, rfl, rfl, ?_⟩
    intro us w S hs h
    obtain ⟨u, rfl, hu⟩ := one_arg hs h
    obtain ⟨rfl, _⟩ := repV_str hu
    refine (parts_any s hq w).mono ?_
    rintro e w' ⟨v, rfl, hb, hm⟩
    exact ⟨v, rfl, hb, (strs_rep hm (fun g o hg => Or.inr hg) (partsV_lens hq) : RepP w' (More S w) (.sl (strsAV (partsV s)) .no) v)⟩
  · cases hF
def matchF : Con
  | [.val (.str s), .val (.str p)] => some (s.length ≤ 1000000 ∧ p.length ≤ 1000000, ⟨.bool (matchP s p), none, none⟩)
  | _ => none
theorem meetsMatch : Meets Tryd.prog 16 matchF := by
  refine meets_plain Tryd.call16 ?_
  intro args q r hF hq
  unfold matchF at hF
  split at hF
  · rename_i s p
    cases hF
    refine ⟨[.str s, .str p], rfl, rfl, fun x hx => (by simp at hx; rcases hx with rfl | rfl <;> rfl), rfl, rfl, rfl, ?_⟩
    intro us w S hs h
    obtain ⟨u, u', rfl, hu, hu'⟩ := two_args hs h
    obtain ⟨rfl, _⟩ := repV_str hu
    obtain ⟨rfl, _⟩ := repV_str hu'
    refine (match_any s p hq.1 hq.2 w).mono ?_
    rintro e w' ⟨rfl, hb⟩
    exact ⟨_, rfl, hb, (RepP.bool _ : RepP _ _ _ _)⟩
  · cases hF
def patternF : Con
  | [.val (.str s)] => some (s.length ≤ 1000000, ⟨.tup [.sl (strsAV (patV s)) .no, .bool (patOk s)], none, none⟩)
  | _ => none
theorem patV_lens {s : List UInt8} (hs : s.length ≤ 1000000) : ∀ x ∈ patV s, x.length ≤ 9223372036854775807 := by
  intro x hx
  unfold patV at hx
  split at hx
  · exact segs_lens hs x hx
  · cases hx
theorem meetsPattern : Meets Tryd.prog 33 patternF := by
  refine meets_plain Tryd.call33 ?_
  intro args q r hF hq
  unfold patternF at hF
  split at hF
  · rename_i s
    cases hF
    refine ⟨[.str s], rfl, rfl, fun x hx => (by simp at hx; subst hx; rfl), rfl, rfl, rfl, ?_⟩
    intro us w S hs h
    obtain ⟨u, rfl, hu⟩ := one_arg hs h
    obtain ⟨rfl, _⟩ := repV_str hu
    refine (pattern_any s hq w).mono ?_
    rintro e w' ⟨v, rfl, hb, hm⟩
    refine ⟨_, rfl, hb, _, rfl, rfl, fun i c hc => ?_⟩
    match i, hc with
    | 0, hc =>
      simp at hc; subst hc
      exact ⟨v, rfl, strs_rep hm (fun g o hg => Or.inr hg) (patV_lens hq)⟩
    | 1, hc =>
      simp at hc; subst hc
      exact ⟨_, rfl, RepP.bool _⟩
    | i + 2, hc => simp at hc
  · cases hF
end Go.Proofs.YtddilmocngedjaaDoor
