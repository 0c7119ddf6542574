/- A function that gives back bytes of its own: a slice over a new box. -/
import Derived.Test.YtfoabkkkdcicgaaGreatDoorLm3
namespace Go.Proofs.YtfoabkkkdcicgaaGreatDoor
set_option linter.unusedVariables false
set_option linter.unusedSimpArgs false
open Go.RowKit

section
variable {P : Program}
theorem lenBytes0 (l : List UInt8) : (bytesAV l).length = l.length := by simp [bytesAV]
theorem valsNB {args : List Arg} (h : ∀ x ∈ args, ∃ v, x = .val v) : (∀ s, (entrySt args).boxes s = none) ∧ ∀ x y, (entrySt args).rows x y = .free := by
  have hb : boxOf args = [] := by
    induction args with
    | nil => rfl
    | cons x l ih =>
      obtain ⟨v, rfl⟩ := h x (by simp)
      exact ih (fun y hy => h y (by simp [hy]))
  refine ⟨fun s => ?_, fun x y => ?_⟩
  · simp only [entrySt]
    cases hs : args[s]? with
    | none => rfl
    | some x =>
      obtain ⟨v, rfl⟩ := h x (List.mem_of_getElem? hs)
      rfl
  · simp only [entrySt, hb]
    rfl
/-- a value that tells no address -/
def AV.scal : AV → Bool
  | .int _ _ => true
  | .bool _ => true
  | _ => false
theorem scal_rep {st st' : St} {G G' : Gh} {w w' : World} {v : AV} {r : Value} (hv : v.scal = true) (h : RepA P st G w v r) : RepA P st' G' w' v r := by
  cases v with
  | int k i =>
    have h1 : RepP w (stable P st G) (.int k i) r := h
    cases h1 with
    | int k i a b => exact (RepP.int k i a b : RepP w' (stable P st' G') (.int k i) (.int k i))
  | bool b =>
    have h1 : RepP w (stable P st G) (.bool b) r := h
    cases h1 with
    | bool b => exact (RepP.bool b : RepP w' (stable P st' G') (.bool b) (.bool b))
  | _ => cases hv
theorem scal_cells {v : AV} (hv : v.scal = true) : v.cells = [v] ∧ rowOf v = none ∧ ∀ (site : Option (Nat × Nat)) (d n : Nat), retVal1 site d n v = v := by
  cases v with
  | int k i => exact ⟨rfl, rfl, fun _ _ _ => rfl⟩
  | bool b => exact ⟨rfl, rfl, fun _ _ _ => rfl⟩
  | _ => cases hv
theorem retVals_scal {site : Option (Nat × Nat)} {d : Nat} : ∀ {vs : List AV} {n : Nat}, vs.all AV.scal = true → retVals site d n vs = vs
  | [], _, _ => rfl
  | v :: vs, n, h => by
    simp only [List.all_cons, Bool.and_eq_true] at h
    obtain ⟨h1, h2, h3⟩ := scal_cells h.1
    simp only [retVals, h3, retVals_scal h.2]
theorem tells_scal : ∀ {vs : List AV} {y : Nat}, vs.all AV.scal = true → tells (vs.flatMap AV.cells) y = none
  | [], y, _ => by simp [tells]
  | v :: vs, y, h => by
    simp only [List.all_cons, Bool.and_eq_true] at h
    obtain ⟨h1, h2, h3⟩ := scal_cells h.1
    rw [List.flatMap_cons, h1]
    cases y with
    | zero => simp [tells, h2]
    | succ y =>
      have := tells_scal (y := y) h.2
      simpa [tells] using this
/-- a told value with a slice at its head -/
def headV (x : AV) (rest : Option (List AV)) : AV := match rest with | none => x | some r => .tup (x :: r)
theorem vec_back {args : List Arg} {us : Array Value} {w w' : World} {GE GX : Gh} {own : OwnP} {d e : Nat} {l : List UInt8} {rest : Option (List AV)} {v : Value} (hc : Came P args us w GE own) (ha : ∀ x ∈ args, ∃ v, x = .val v) (he : tsize P e = 1) (hl : l ≠ [])
    (hr : ∀ r, rest = some r → r.all AV.scal = true) (hb : Back P w own GE d none ⟨headV (.sl (bytesAV l) (.row 0 0 e)) rest, none, none⟩ GX v w') :
    ∃ GY, Back P w own GE d none ⟨headV (.vec 2000 0 l.length false) rest, none, some [AV.sl (bytesAV l) .no]⟩ GY v w' := by
  obtain ⟨hm, hv, hbx, hp, hob, hor, hbad, hrb⟩ := hb
  obtain ⟨stX, hX⟩ : ∃ s, s = exitSt d none ⟨headV (.sl (bytesAV l) (.row 0 0 e)) rest, none, none⟩ := ⟨_, rfl⟩
  rw [← hX] at hm hv hob hor hrb
  have hrow : stX.rows d 0 = .live l.length := by
    rw [hX]
    simp only [exitSt]
    rw [retRows_at]
    have : tells (⟨headV (.sl (bytesAV l) (.row 0 0 e)) rest, none, none⟩ : Res).outs 0 = some (l.length, e) := by
      cases rest <;> simp [tells, Res.outs, headV, AV.cellsT, AV.cells, rowOf, lenBytes0]
    simp [this]
  -- the slice
  obtain ⟨v0, hv0, hv1⟩ : ∃ v0, Rep1 P stX GX w' (.sl (bytesAV l) (.row d 0 e)) v0 ∧ ((rest = none ∧ v = v0) ∨ ∃ r vs, rest = some r ∧ v = .tuple (#[v0] ++ vs) ∧ vs.size = r.length ∧ ∀ (i : Nat) c, r[i]? = some c → ∃ u, vs[i]? = some u ∧ RepA P stX GX w' c u) := by
    cases rest with
    | none => exact ⟨v, hv, .inl ⟨rfl, rfl⟩⟩
    | some r =>
      have hv' : Rep P stX GX w' (.tup (retVals none d 0 (.sl (bytesAV l) (.row 0 0 e) :: r))) v := hv
      simp only [retVals, retVals_scal (hr r rfl)] at hv'
      obtain ⟨us, h1, h2, h3⟩ := hv'
      obtain ⟨u0, h4, h5⟩ := h3 0 _ rfl
      refine ⟨u0, h5, .inr ⟨r, us.extract 1 us.size, rfl, ?_, ?_, ?_⟩⟩
      · rw [h1]
        congr 1
        apply Array.ext'
        have hu : us.toList = u0 :: us.toList.drop 1 := by
          cases hq : us.toList with
          | nil =>
            have : us.size = 0 := by rw [← Array.length_toList, hq]; rfl
            simp [this] at h2
          | cons x xs =>
            have h6 : us.toList[0]? = some u0 := by simpa using h4
            rw [hq] at h6
            simp at h6
            rw [h6]; rfl
        simp only [Array.toList_append, Array.toList_extract]
        rw [hu]
        simp only [List.drop_one, List.cons_append, List.nil_append, List.tail_cons]
        simp
        exact (List.take_of_length_le (by simp)).symm
      · simp [h2]
      · intro i c hc
        obtain ⟨u, h6, h7⟩ := h3 (i + 1) c (by simpa using hc)
        refine ⟨u, ?_, h7⟩
        have hlt := (Array.getElem?_eq_some_iff.1 h6).1
        rw [Array.getElem?_extract, if_pos (by omega), Nat.add_comm]
        exact h6
  obtain ⟨q1, q2⟩ := hv0
  rw [hrow] at q2
  obtain ⟨q3, q4, q5⟩ := q2
  have q6 := q5 (lenBytes0 l)
  obtain ⟨q7, zs, q8⟩ := hm.row d 0 _ hrow
  rw [← q6, ← q3, he] at q8
  obtain ⟨g, cap, cur, rfl, _, hg, hcap, hmax, hsz, hcur⟩ : ∃ g cap cur, v0 = .slice (some ⟨g, 0, none⟩) l.length cap ∧ 0 ≤ g ∧ w'.heap[g]? = some (.cells cur e (0, 0)) ∧ l.length ≤ cap ∧ cap ≤ maxLen ∧ cur.size = cap * 1 ∧ cur.toList.take (l.length * 1) = zs := by
    rcases q8.2 with ⟨_, h⟩ | h
    · exact absurd (List.length_eq_zero_iff.1 h) hl
    · exact h
  have hblk : (GX.cv d 0).ownBlock = some g := by rw [← q6]; rfl
  have hnb : ∀ o, ¬ GX.bad g o := fun o => hrb d 0 _ g o hrow hblk
  have hfresh : w.heap.size ≤ g := by
    rcases hor d 0 _ g hrow hblk with h | ⟨t, h, _⟩
    · exact h
    · obtain ⟨hnb, hnr⟩ := valsNB ha
      rcases hc.own.only g t h with ⟨s, cs, h1, _⟩ | ⟨x, y, tip, h1, _⟩
      · rw [hnb] at h1; cases h1
      · rw [hnr] at h1; cases h1
  have hcells : ∀ (i : Nat) (b : UInt8), l[i]? = some b → cur[i]? = some (.int .u8 (b.toNat : Int)) := by
    intro i b hi
    have hne : bytesAV l ≠ [] := by intro h; exact hl (by simpa [bytesAV] using h)
    have hlt : i < l.length := (List.getElem?_eq_some_iff.1 hi).1
    generalize hx : bytesAV l = xs at q1 hne
    have hxi : xs[i]? = some (byteAV b) := by rw [← hx]; simp [bytesAV, hi]
    have hgen : ∀ r, RepP w' (stable P stX GX) (.sl xs .no) r → r = .slice (some ⟨g, 0, none⟩) l.length cap → cur[i]? = some (.int .u8 (b.toNat : Int)) := by
      intro r hr he'
      cases hr with
      | slnil _ a c h => exact absurd rfl hne
      | sl _ _ b' off c' size uu hc' hm' hsz' hS' hr' =>
        injection he' with h1 h2 h3
        cases h1
        have h4 := hsz' i _ hxi
        have h5 : size = 1 := by rw [← h4]; rfl
        subst h5
        obtain ⟨_, h6, _⟩ := hS' i _ 0 (byteAV b) hxi rfl
        have h7 := hr' i _ 0 (byteAV b) hxi rfl
        have h8 : uu i 0 = .int .u8 (b.toNat : Int) := by
          unfold byteAV at h7
          generalize uu i 0 = z at h7
          cases h7; rfl
        rw [h8] at h6
        have h9 : (⟨g, 0 + i * 1 + 0, none⟩ : Addr) = ⟨g, i, none⟩ := by congr 1; omega
        rw [h9] at h6
        have hlt' : i < cur.size := by omega
        simpa [World.cell?, hg, hlt'] using h6
    exact hgen _ q1 rfl
  obtain ⟨GY, hGY⟩ : ∃ G : Gh, G = { GX with bx := fun _ => g } := ⟨_, rfl⟩
  obtain ⟨stY, hY⟩ : ∃ s, s = exitSt d none ⟨headV (.vec 2000 0 l.length false) rest, none, some [AV.sl (bytesAV l) .no]⟩ := ⟨_, rfl⟩
  have hret : ∀ k, newC (headV (.vec 2000 0 l.length false) rest) d k [.sl (bytesAV l) .no] = bytesAV l := by
    intro k
    cases rest <;> rfl
  have hYb : ∀ x c, stY.boxes x = some c → x = d ∧ c = bytesAV l := by
    intro x c h
    rw [hY] at h
    simp only [exitSt, Option.map_some, hret] at h
    split at h
    · rename_i e; cases h; exact ⟨e, rfl⟩
    · cases h
  have hYd : stY.boxes d = some (bytesAV l) := by
    rw [hY]
    simp only [exitSt, Option.map_some, hret, if_true]
  have htY : ∀ y, tells (⟨headV (.vec 2000 0 l.length false) rest, none, some [AV.sl (bytesAV l) .no]⟩ : Res).outs y = none := by
    have hb : ∀ (l : List UInt8) (y : Nat), tells [AV.sl (bytesAV l) .no] y = none := by
      intro l y
      cases y <;> simp [tells, rowOf]
    have hap : ∀ (A B : List AV), (∀ y, tells A y = none) → (∀ y, tells B y = none) → ∀ y, tells (A ++ B) y = none := by
      intro A B hA hB y
      unfold tells at hA hB ⊢
      by_cases h : y < A.length
      · rw [List.getElem?_append_left h]; exact hA y
      · rw [List.getElem?_append_right (by omega)]; exact hB _
    intro y
    have hone : ∀ y, tells [AV.vec 2000 0 l.length false] y = none := by
      intro y
      cases y <;> simp [tells, rowOf]
    cases rest with
    | none => exact hap _ _ (hap [] [AV.sl (bytesAV l) .no] (fun y => by simp [tells]) (hb l)) hone y
    | some r => exact hap _ _ (hap [] [AV.sl (bytesAV l) .no] (fun y => by simp [tells]) (hb l)) (hap [_] _ hone (fun y => tells_scal (hr r rfl))) y
  have hYr : ∀ x y, stY.rows x y = .free := by
    intro x y
    rw [hY]
    simp only [exitSt]
    rw [retRows_at, htY]
    simp
  have hrv : Rep1 P stY GY w' (.vec d 0 l.length false) (.slice (some ⟨g, 0, none⟩) l.length cap) :=
    ⟨⟨_, hYd⟩, fun o => by rw [hGY]; exact hnb o, cap, hcap, hmax, by rw [hGY]⟩
  have hlenb := lenBytes0 l
  refine ⟨GY, ?_⟩
  rw [hY] at hYd hrv hYr
  refine ⟨⟨fun x c h => ?_, fun x c x' c' h h' _ => ?_, fun x y tip h => (by rw [hYr] at h; cases h), fun x y tip x' y' tip' g h => (by rw [hYr] at h; cases h), fun x c y z tip _ h => (by rw [hYr] at h; cases h)⟩, ?_, fun i s h => (by cases h), hp, fun x c h => ?_, fun x y tip g h => (by rw [hYr] at h; cases h), by rw [hGY]; exact hbad, fun x y tip g o h => (by rw [hYr] at h; cases h)⟩
  · obtain ⟨rfl, rfl⟩ := hYb x c (by rw [hY]; exact h)
    refine ⟨cur, e, by rw [hGY]; exact hg, by rw [hlenb]; omega, fun i c hc => ?_⟩
    simp only [bytesAV, List.getElem?_map, Option.map_eq_some_iff] at hc
    obtain ⟨b, hb, rfl⟩ := hc
    refine ⟨rfl, _, hcells i b hb, ?_⟩
    have hbl := b.toNat_lt
    have m0 : IntKind.u8.min = 0 := by decide
    have m1 : IntKind.u8.max = 255 := by decide
    exact (RepP.int .u8 (b.toNat : Int) (by rw [m0]; omega) (by rw [m1]; omega) : RepP w' _ (byteAV b) _)
  · obtain ⟨rfl, _⟩ := hYb x c (by rw [hY]; exact h)
    obtain ⟨rfl, _⟩ := hYb x' c' (by rw [hY]; exact h')
    rfl
  · rcases hv1 with ⟨rfl, rfl⟩ | ⟨r, vs, rfl, rfl, h2, h3⟩
    · exact Rep.of1 hrv
    · have hrv2 : retVals none d 2 r = r := retVals_scal (hr r rfl)
      have hh : retVal none d ((Option.getD (none : Option (List AV)) []).length + ((some [AV.sl (bytesAV l) .no]).getD []).length) (headV (.vec 2000 0 l.length false) (some r)) = .tup (.vec d 0 l.length false :: r) := by
        show AV.tup (retVals none d _ (.vec 2000 0 l.length false :: r)) = _
        simp only [retVals, retVals_scal (hr r rfl)]
        rfl
      show Rep P _ GY w' (retVal none d ((Option.getD (none : Option (List AV)) []).length + ((some [AV.sl (bytesAV l) .no]).getD []).length) (headV (.vec 2000 0 l.length false) (some r))) _
      rw [hh]
      refine ⟨#[.slice (some ⟨g, 0, none⟩) l.length cap] ++ vs, rfl, by simp [h2]; omega, fun i c hc => ?_⟩
      cases i with
      | zero =>
        simp at hc
        subst hc
        exact ⟨.slice (some ⟨g, 0, none⟩) l.length cap, (by rw [Array.getElem?_append_left (by show 0 < 1; omega)]; rfl), hrv⟩
      | succ i =>
        have hc' : r[i]? = some c := by simpa using hc
        obtain ⟨u, h4, h5⟩ := h3 i c hc'
        have hs := hr r rfl
        rw [List.all_eq_true] at hs
        refine ⟨u, ?_, scal_rep (hs c (List.mem_of_getElem? hc')) h5⟩
        rw [Array.getElem?_append_right (by simp)]
        simpa using h4
  · obtain ⟨rfl, rfl⟩ := hYb x c (by rw [hY]; exact h)
    rw [hGY]; exact .inl hfresh
theorem Meets.vec {f : Nat} {F F' : Con} (m : Meets P f F) (h : ∀ args q r, F' args = some (q, r) → q → (∀ x ∈ args, ∃ v, x = .val v) ∧ ∃ q0 l e rest, q0 ∧ tsize P e = 1 ∧ l ≠ [] ∧ (∀ r, rest = some r → r.all AV.scal = true) ∧ F args = some (q0, ⟨headV (.sl (bytesAV l) (.row 0 0 e)) rest, none, none⟩) ∧ r = ⟨headV (.vec 2000 0 l.length false) rest, none, some [AV.sl (bytesAV l) .no]⟩) : Meets P f F' := by
  refine ⟨m.enters, fun args us w GE own d site q r hF hq hc hsite hs => ?_⟩
  obtain ⟨ha, q0, l, e, rest, h1, h2, h3, h4, h5, rfl⟩ := h args q r hF hq
  obtain rfl : site = none := by
    cases site with
    | none => rfl
    | some _ => cases hsite
  refine (m.calls args us w GE own d none q0 _ h5 h1 hc rfl (fun i s h => by cases h)).mono ?_
  rintro en w' ⟨GX, v, rfl, hb⟩
  obtain ⟨GY, hb'⟩ := vec_back hc ha h2 h3 h4 hb
  exact ⟨GY, v, rfl, hb'⟩
end
end Go.Proofs.YtfoabkkkdcicgaaGreatDoor
