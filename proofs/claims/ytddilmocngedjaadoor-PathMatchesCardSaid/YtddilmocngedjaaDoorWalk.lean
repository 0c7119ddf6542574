/- path.walk: a text's parts, taken one by one. -/
import Derived.Test.YtddilmocngedjaaDoorSplitSeq
import Derived.Test.YtddilmocngedjaaDoorPathA
import Derived.Maps.AppendAt
namespace Go.Proofs.YtddilmocngedjaaDoor
set_option linter.unusedVariables false
set_option linter.unusedSimpArgs false
open Go Go.Proofs Go.RowKit Go.Lib

attribute [local go_sem] Oper.semAt_some

theorem info_str : (Tryd.prog.info? 9).map (fun i => (i.zero, i.size, i.bytes)) = some (some (.string ByteArray.empty), 1, 16) := by kernel_rfl
def encS (l : List UInt8) : Value := .string (strB l)
/-- between two parts -/
def WalkI (w : World) (pre : List (List UInt8)) (W : World) : Prop :=
  (∃ o v, walkP [] pre = some o ∧ Boxed W (w.heap.size + 2) 43 v ∧ W.ownsRow (w.heap.size + 6) 9 1 v o.length (o.map encS)) ∧
  Boxed W w.heap.size 43 (.slice none 0 0) ∧ Boxed W (w.heap.size + 1) 67 (.int .i64 0) ∧ Below w.heap.size w W ∧ w.heap.size + 6 ≤ W.heap.size
/-- a part was refused -/
def WalkX (w : World) (pre : List (List UInt8)) (W : World) : Prop :=
  walkP [] pre = none ∧ Boxed W w.heap.size 43 (.slice none 0 0) ∧ Boxed W (w.heap.size + 1) 67 (.int .i64 30) ∧ Below w.heap.size w W

theorem row_cells {W : World} {base e size k : Nat} {v : Value} {xs : List Value} (h : W.ownsRow base e size v k xs) {g : Nat} (hg : v.ownBlock = some g) : base ≤ g ∧ ∃ o : Obj, W.heap[g]? = some o ∧ o.isCells = true := by
  rcases h.2 with ⟨rfl, _⟩ | ⟨g', cap, cur, rfl, hb, hgb, _⟩
  · simp [Value.ownBlock] at hg
  · obtain rfl : g' = g := by simpa [Value.ownBlock] using hg
    exact ⟨hb, _, hgb, rfl⟩
theorem walkI_bides (w : World) : Bides (w.heap.size + 6) (w.heap.size + 3) (WalkI w) := by
  rintro s A B row ⟨⟨o, v, h1, h2, h3⟩, h4, h5, h6, h7⟩ hg hr
  have ne : ∀ k, k < w.heap.size + 3 → some k ≠ row := by
    intro k hk e
    rcases hr k e.symm with h | ⟨h, _⟩ <;> omega
  refine ⟨⟨o, v, h1, h2.kept hg (ne _ (by omega)), h3.kept hg ?_⟩, h4.kept hg (ne _ (by omega)), h5.kept hg (ne _ (by omega)), h6.grown hg h6.size fun k e => ?_, by have := hg.size; omega⟩
  · cases hv : v.ownBlock with
    | none => exact .inl rfl
    | some g =>
      refine .inr fun e => ?_
      obtain ⟨q1, o', q2, q3⟩ := row_cells h3 hv
      rcases hr g e.symm with h | ⟨_, o'', h9, h8⟩
      · omega
      · rw [q2] at h9; cases h9; rw [q3] at h8; cases h8
  · rcases hr k e with h | ⟨h, _⟩ <;> omega
theorem walkX_bides (w : World) : Bides (w.heap.size + 6) (w.heap.size + 3) (WalkX w) := by
  rintro s A B row ⟨h1, h4, h5, h6⟩ hg hr
  have ne : ∀ k, k < w.heap.size + 3 → some k ≠ row := by
    intro k hk e
    rcases hr k e.symm with h | ⟨h, _⟩ <;> omega
  refine ⟨h1, h4.kept hg (ne _ (by omega)), h5.kept hg (ne _ (by omega)), h6.grown hg h6.size fun k e => ?_⟩
  rcases hr k e with h | ⟨h, _⟩ <;> omega

theorem row_form {W : World} {base e k : Nat} {v : Value} {xs : List Value} (h : W.ownsRow base e 1 v k xs) : ∃ A c, v = .slice A k c ∧ k ≤ c ∧ c ≤ 9223372036854775807 ∧ (0 < k → ∃ g, A = some ⟨g, 0, none⟩) := by
  rcases h.2 with ⟨rfl, rfl⟩ | ⟨g, cap, cur, rfl, _, _, h1, h2, _⟩
  · exact ⟨none, 0, rfl, Nat.le_refl _, by omega, fun h => by omega⟩
  · exact ⟨_, cap, rfl, h1, h2, fun _ => ⟨g, rfl⟩⟩
theorem row_less {W : World} {base e k c : Nat} {g : Nat} {xs : List Value} (h : W.ownsRow base e 1 (.slice (some ⟨g, 0, none⟩) (k + 1) c) (k + 1) xs) : W.ownsRow base e 1 (.slice (some ⟨g, 0, none⟩) k c) k xs.dropLast := by
  obtain ⟨h1, h2⟩ := h
  refine ⟨by simp at h1 ⊢; omega, ?_⟩
  rcases h2 with ⟨h3, _⟩ | ⟨g', cap, cur, h3, h4, h5, h6, h7, h8, h9⟩
  · cases h3
  · cases h3
    refine .inr ⟨g, c, cur, rfl, h4, h5, by omega, h7, h8, ?_⟩
    rw [← h9, Nat.mul_one, Nat.mul_one, List.dropLast_eq_take, List.length_take, List.take_take]
    congr 1
    simp; omega
theorem row_below {W W' : World} {base e size k : Nat} {v : Value} {xs : List Value} (h : W.ownsRow base e size v k xs) (hb : Below W.heap.size W W') : W'.ownsRow base e size v k xs := by
  obtain ⟨h1, h2⟩ := h
  refine ⟨h1, ?_⟩
  rcases h2 with h3 | ⟨g, cap, cur, h3, h4, h5, h6⟩
  · exact .inl h3
  · exact .inr ⟨g, cap, cur, h3, h4, (hb.block g (Array.getElem?_eq_some_iff.1 h5).1).trans h5, h6⟩
theorem Boxed.below {W W' : World} {B : Nat} {t : TypeId} {v : Value} (h : Boxed W B t v) (hb : Below W.heap.size W W') : Boxed W' B t v := (hb.block B h.lt).trans h
theorem keepsOthers_below {W W' : World} (hb : Below W.heap.size W W') : KeepsOthers W W' := ⟨hb.size, fun k o hk _ => (hb.block k (Array.getElem?_eq_some_iff.1 hk).1).trans hk⟩
theorem two_cells {fn : Func} {t u : Tmp} {T U : TypeId} (h : fn.results = #[.cell t T, .cell u U]) (tmps : Array Value) (w : World) {b b' : Nat} {v v' : Value} (ht : tmps.getD t undef = .pointer (some ⟨b, 0, none⟩)) (hu : tmps.getD u undef = .pointer (some ⟨b', 0, none⟩))
    (a1 : (isAgg T).run Tryd.prog w = .ok false w) (a2 : (isAgg U).run Tryd.prog w = .ok false w) (h1 : w.cell? ⟨b, 0, none⟩ = some v) (h2 : w.cell? ⟨b', 0, none⟩ = some v') : (results fn tmps).run Tryd.prog w = .ok (.tuple #[v, v']) w := by
  have ht' : tmps[t]?.getD undef = .pointer (some ⟨b, 0, none⟩) := by simpa using ht
  have hu' : tmps[u]?.getD undef = .pointer (some ⟨b', 0, none⟩) := by simpa using hu
  have e1 : (loadVar T ⟨b, 0, none⟩).run Tryd.prog w = .ok v w := by simp [loadVar, Sem.run_bind, a1, go_sem, h1]
  have e2 : (loadVar U ⟨b', 0, none⟩).run Tryd.prog w = .ok v' w := by simp [loadVar, Sem.run_bind, a2, go_sem, h2]
  simp [results, h, ht', hu', asAddr, e1, e2, Sem.run_bind]
/-- what path.walk gives back -/
def WalkEnds (s : List UInt8) (w : World) (e : Ending) (w' : World) : Prop :=
  ∃ v, e = .returned (.tuple #[v, .int .i64 (if partsP s = none then 30 else 0)]) ∧ Below w.heap.size w w' ∧
    (match partsP s with | none => v = .slice none 0 0 | some o => w'.ownsRow w.heap.size 9 1 v o.length (o.map encS))
set_option maxHeartbeats 8000000 in
set_option maxRecDepth 100000 in
theorem walk_any (s : List UInt8) (hs : s.length ≤ 1000000) (w : World) :
    Calls Tryd.prog 62 #[.string (strB s)] w (WalkEnds s w) := by
  refine (callsIn_wide (n := 3)).1 ?_
  obtain ⟨i0, hi, hz0, hz1, hz2⟩ := info_parts info_str
  refine callsIn_of_wp_marks Tryd.func62 rfl trivial ?_ rfl
  simp only [Tryd.ntmps62, List.size_toArray, List.length_cons, List.length_nil, Nat.reduceAdd, Nat.reduceSub, Array.replicate_succ, Array.replicate_zero, List.push_toArray, List.append_toArray, List.nil_append, List.cons_append]
  gi_wp2_with (refine ⟨trivial, ?_⟩; gi_at_call 84; refine (callsIn_wide.2 (splitSeq_any s _)).mono ?_; rintro e w' ⟨rfl, rfl⟩)
  simp only [Nat.add_assoc, Nat.reduceAdd]
  obtain ⟨V, hV⟩ : ∃ V, V = ((((((w.alloc (.cells #[.slice none 0 0] 43)).alloc (.cells #[.int .i64 0] 67)).alloc (.cells #[.slice none 0 0] 43)).alloc (.cells #[.string (strB s)] 9)).alloc (.cells #[.string ⟨#[47]⟩] 9)).alloc (.cells #[.int .i64 0] 3)) := ⟨_, rfl⟩
  have vS : V.heap.size = w.heap.size + 6 := by rw [hV]; simp
  have vB : Below w.heap.size w V := by
    rw [hV]
    exact ((((((Below.refl _ w).alloc (Nat.le_refl _) _).alloc (by simp) _).alloc (by simp; omega) _).alloc (by simp; omega) _).alloc (by simp; omega) _).alloc (by simp; omega) _
  have x0 : Boxed V w.heap.size 43 (.slice none 0 0) := by
    rw [hV]; exact (((((Boxed.new w _ _).alloc _).alloc _).alloc _).alloc _).alloc _
  have x1 : Boxed V (w.heap.size + 1) 67 (.int .i64 0) := by
    rw [hV]
    have := Boxed.new (w.alloc (.cells #[.slice none 0 0] 43)) 67 (.int .i64 0)
    rw [World.size_alloc] at this
    exact (((this.alloc _).alloc _).alloc _).alloc _
  have x2 : Boxed V (w.heap.size + 2) 43 (.slice none 0 0) := by
    rw [hV]
    have := Boxed.new ((w.alloc (.cells #[.slice none 0 0] 43)).alloc (.cells #[.int .i64 0] 67)) 43 (.slice none 0 0)
    rw [World.size_alloc, World.size_alloc] at this
    exact ((this.alloc _).alloc _).alloc _
  have x3 : Boxed V (w.heap.size + 3) 9 (.string (strB s)) := by
    rw [hV]
    have := Boxed.new (((w.alloc (.cells #[.slice none 0 0] 43)).alloc (.cells #[.int .i64 0] 67)).alloc (.cells #[.slice none 0 0] 43)) 9 (.string (strB s))
    rw [World.size_alloc, World.size_alloc, World.size_alloc] at this
    exact (this.alloc _).alloc _
  have x4 : Boxed V (w.heap.size + 4) 9 (.string ⟨#[47]⟩) := by
    rw [hV]
    have := Boxed.new ((((w.alloc (.cells #[.slice none 0 0] 43)).alloc (.cells #[.int .i64 0] 67)).alloc (.cells #[.slice none 0 0] 43)).alloc (.cells #[.string (strB s)] 9)) 9 (.string ⟨#[47]⟩)
    rw [World.size_alloc, World.size_alloc, World.size_alloc, World.size_alloc] at this
    exact this.alloc _
  have x5 : Boxed V (w.heap.size + 5) 3 (.int .i64 0) := by
    rw [hV]
    have := Boxed.new (((((w.alloc (.cells #[.slice none 0 0] 43)).alloc (.cells #[.int .i64 0] 67)).alloc (.cells #[.slice none 0 0] 43)).alloc (.cells #[.string (strB s)] 9)).alloc (.cells #[.string ⟨#[47]⟩] 9)) 3 (.int .i64 0)
    rw [World.size_alloc, World.size_alloc, World.size_alloc, World.size_alloc, World.size_alloc] at this
    exact this
  rw [← hV]
  have hseq := seq_yields (w.heap.size + 3) s hs V (by omega) x3 x4 x5
  clear hV
  refine rangeS (gf := 118) (lb := #[.pointer (some ⟨w.heap.size + 3 + 1, 0, none⟩), .pointer (some ⟨w.heap.size + 3, 0, none⟩), .pointer (some ⟨w.heap.size + 3 + 2, 0, none⟩)]) (w0 := V) rfl (by omega) rfl trivial (enters_of Tryd.func118 (by kernel_rfl) rfl) hseq (Below.refl _ _) (by omega) (fun h k => Keep3.trans h k)
    (fun W l o o' hl ho hc => ?keep) (WalkI w) (WalkX w) (by rw [vS]; exact walkI_bides w) (by rw [vS]; exact walkX_bides w)
    ⟨⟨[], _, rfl, x2, World.ownsRow_nil _ _ _ _⟩, x0, x1, vB, by omega⟩
    (fun x => { tmps := #[.string (strB s), undef, .pointer (some ⟨w.heap.size, 0, none⟩), .pointer (some ⟨w.heap.size + 1, 0, none⟩), .pointer (some ⟨w.heap.size + 2, 0, none⟩), .string (strB x), .string (strB s), .func (.func 118) #[] #[.pointer (some ⟨w.heap.size + 4, 0, none⟩), .pointer (some ⟨w.heap.size + 3, 0, none⟩), .pointer (some ⟨w.heap.size + 5, 0, none⟩)], .string (strB x), undef, undef, undef, undef, undef, undef, undef, undef, undef, undef, undef, undef, undef, undef, undef, undef, undef, undef, undef, undef, undef, undef, undef, undef, undef, undef, undef, undef, undef, undef, undef, undef], defers := [] }) ?assign ?body ?done ?stop
  case keep =>
    have e : ∀ j, j < l → (W.putObj l o').heap[j]? = W.heap[j]? := fun j hj => World.putObj_heap_other (by omega)
    exact ⟨e _ (by omega), e _ (by omega), e _ (by omega)⟩
  case assign =>
    intro l x W K hK
    gi_wp2
    exact hK
  case body =>
    rintro l pre x W ⟨⟨o, v, hwk, hv, hrow⟩, hn, he, hB, hsz⟩ hpx
    have cv := hv.cell
    have fv := hv.frozen
    have cn := hn.cell
    have fn := hn.frozen
    have ce := he.cell
    have fe := he.frozen
    have hxl : x.length ≤ 1000000 := by
      have : x ∈ segs s := by obtain ⟨t, ht⟩ := hpx; rw [← ht]; simp
      have := segs_elem_len this
      omega
    have hol : o.length ≤ 1000001 := by
      have h1 := walkP_len hwk
      obtain ⟨t, ht⟩ := hpx
      have h2 := segs_len s
      have h3 : (pre ++ [x] ++ t).length = (segs s).length := by rw [ht]
      simp at h1 h3
      omega
    obtain ⟨A, c, rfl, hkc, hc63, hA⟩ := row_form hrow
    have go_on : stepP o x = some o → ∀ a : Act, roundEnds (Keep3 (w.heap.size + 3)) (WalkI w) (WalkX w) (pre ++ [x]) W Exit.normal a W := by
      intro h a
      exact ⟨KeepsOthers.refl W, ⟨rfl, rfl, rfl⟩, ⟨o, _, by rw [walkP_snoc, hwk]; exact h, hv, hrow⟩, hn, he, hB, hsz⟩
    have keep3 : ∀ W' : World, (∀ j, w.heap.size + 2 < j → j < w.heap.size + 6 → W'.heap[j]? = W.heap[j]?) → Keep3 (w.heap.size + 3) W W' := fun W' h => ⟨h _ (by omega) (by omega), h _ (by omega) (by omega), h _ (by omega) (by omega)⟩
    have refused : stepP o x = none → ∀ U : World, Boxed U w.heap.size 43 (.slice none 0 0) → Boxed U (w.heap.size + 1) 67 (.int .i64 0) → Below w.heap.size w U → WalkX w (pre ++ [x]) ((U.setCell ⟨w.heap.size, 0, none⟩ (.slice none 0 0)).setCell ⟨w.heap.size + 1, 0, none⟩ (.int .i64 30)) := by
      intro h U hn he hB
      refine ⟨by rw [walkP_snoc, hwk]; exact h, (hn.set _).kept (grownBy_setCell' _ _ _) (by simp), (he.kept (grownBy_setCell' _ _ _) (by simp)).set _, ?_⟩
      exact (hB.setCell (p := ⟨w.heap.size, 0, none⟩) (Nat.le_refl _) _).setCell (p := ⟨w.heap.size + 1, 0, none⟩) (by simp) _
    have others : KeepsOthers W ((W.setCell ⟨w.heap.size, 0, none⟩ (.slice none 0 0)).setCell ⟨w.heap.size + 1, 0, none⟩ (.int .i64 30)) := (KeepsOthers.setCell _ _ _).trans (KeepsOthers.setCell _ _ _)
    have tl : (strB x).toList = x := by rw [Lib.toList_data, strB_data]
    have go_on := Lib.hid go_on
    have refused := Lib.hid refused
    have keep3 := Lib.hid keep3
    have others := Lib.hid others
    by_cases q0 : x = []
    · have t0 : (strB x).toList = [] := by rw [tl, q0]
      have z := go_on.out (by simp [stepP, q0])
      clear tl q0
      gi_wp2
      exact z _
    have t0 : ¬ (strB x).toList = [] := by rw [tl]; exact q0
    by_cases q1 : x = [46]
    · have t1 : (strB x).toList = [46] := by rw [tl, q1]
      have z := go_on.out (by simp [stepP, q1])
      clear tl q0 q1
      gi_wp2
      exact z _
    have t1 : ¬ (strB x).toList = [46] := by rw [tl]; exact q1
    by_cases q2 : x = [46, 46]
    · have t2 : (strB x).toList = [46, 46] := by rw [tl, q2]
      have q2' := Lib.hid q2
      clear tl q0 q1 q2
      by_cases q3 : o = []
      · have ol : o.length = 0 := by rw [q3]; rfl
        have z := refused.out (by simp [stepP, q2'.out, q3]) W hn he hB
        rw [ol] at cv
        clear q3 ol
        gi_wp2
        exact ⟨others.out, z⟩
      · have ol : o.length ≠ 0 := by simpa using q3
        obtain ⟨k, hk⟩ : ∃ k, o.length = k + 1 := ⟨o.length - 1, by omega⟩
        obtain ⟨g, rfl⟩ := hA (by omega)
        rw [hk] at hrow cv hv hkc
        have q3' := Lib.hid q3
        have hk' := Lib.hid hk
        have hk1 : k ≤ c := by omega
        have hk2 : k ≤ 1000001 := by omega
        clear q3 ol hk hA hol hkc hc63
        have wk : wrap64 (((k + 1 : Nat) : Int) - 1) = (k : Int) := by unfold wrap64; omega
        gi_wp2
        refine ⟨KeepsOthers.setCell _ _ _, keep3.out _ fun j h1 h2 => Below.heap_setCell _ _ _ j (by simp; omega), ⟨o.dropLast, _, ?_, hv.set _, ?_⟩, hn.kept (grownBy_setCell' _ _ _) (by simp), he.kept (grownBy_setCell' _ _ _) (by simp), hB.setCell (p := ⟨w.heap.size + 2, 0, none⟩) (by simp) _, by have := (grownBy_setCell' W (w.heap.size + 2) (.slice (some ⟨g, 0, none⟩) k c)).size; omega⟩
        · rw [walkP_snoc, hwk]; simp [stepP, q2'.out, q3'.out]
        · have h1 := (row_less hrow).kept (grownBy_setCell' W (w.heap.size + 2) (.slice (some ⟨g, 0, none⟩) k c)) (.inr (by
            have := (row_cells hrow (g := g) rfl).1
            simp [Value.ownBlock]; omega))
          rw [List.length_dropLast, hk'.out, Nat.add_sub_cancel, List.map_dropLast]
          exact h1
    have e0 : (strB x).toList.isEmpty = false := by rw [tl]; simp [q0]
    have e1 : ((strB x).toList == [46]) = false := by rw [tl]; simp [q1]
    have e2 : ((strB x).toList == [46, 46]) = false := by rw [tl]; simp [q2]
    have t2 : ¬ (strB x).toList = [46, 46] := by rw [tl]; exact q2
    have hpl := part_any (strB x)
    simp only [strB_data] at hpl
    have hxs : (strB x).size ≤ 9223372036854775807 := by rw [strB_size]; omega
    by_cases q4 : okPart x = true
    · have q5 : stepP o x = some (o ++ [x]) := by simp [stepP, q0, q1, q2, q4]
      have q5 := Lib.hid q5
      rw [q4] at hpl
      clear tl q0 q1 q2 go_on refused others q4
      gi_wp2_with (first
        | (refine ⟨trivial, ?_⟩; gi_at_call 66; refine (CallsIn.inRound l (callsIn_wide.2 (hpl _ hxs))).mono ?_; rintro e w' ⟨rfl, hb⟩; have hv2 := Boxed.below hv hb; have cv2 := hv2.cell; have fv2 := hv2.frozen; have hrow2 := row_below hrow hb)
        | (gi_at_builtin; refine wpListIn_append_own _ rfl _ _ 43 rfl (w.heap.size + 6) 9 i0 (.string ByteArray.empty) 1 16 Tryd.underlying43 hi hz0 hz1 hz2 rfl (by decide) _ _ _ rfl (hrow2.alloc _) ⟨_, 0, none⟩ 1 1 [.string (strB x)] rfl rfl (cell_one_new _ _ _) (by simp [Value.oneCell']) (by unfold maxLen; omega) (by omega) (by have := hb.size; simp; omega) ?_; intro v' w1 hown' hgrow _; obtain ⟨g', cap', rfl⟩ := ownsRow_succ hown'; have hv1 := (hv2.alloc (.cells #[.string (strB x)] 9)).kept hgrow (hv2.not_row (by decide) hrow2); have hc1 := hv1.cell; have hf1 := hv1.frozen))
      have rc := fun j (e : (Value.slice A o.length c).ownBlock = some j) => row_cells hrow2 e
      have sz1 := hb.size
      have sz2 := hgrow.size
      have sz3 : (w'.alloc (.cells #[.string (strB x)] 9)).heap.size = w'.heap.size + 1 := by simp
      refine ⟨?_, keep3.out _ fun j h1 h2 => ?_, ⟨o ++ [x], _, by rw [walkP_snoc, hwk]; exact q5.out, hv1.set _, ?_⟩, ?_, ?_, ?_, ?_⟩
      · exact (keepsOthers_below hb).trans ((KeepsOthers.alloc w' _).trans ((KeepsOthers.of_grownBy hgrow fun j u ej hj => by
          obtain ⟨_, u', q1, q2⟩ := row_cells (hrow2.alloc (.cells #[.string (strB x)] 9)) ej
          rw [q1] at hj; cases hj; exact q2).trans (KeepsOthers.setCell _ _ _)))
      · refine (Below.heap_setCell _ _ _ j (by simp; omega)).trans ((hgrow.block j (by omega) fun e => ?_).trans ((Below.heap_alloc w' _ j (by omega)).trans (hb.block j (by omega))))
        have := (rc j e.symm).1
        omega
      · have h1 := hown'.kept (grownBy_setCell' w1 (w.heap.size + 2) (.slice (some ⟨g', 0, none⟩) (o.length + 1) cap')) (.inr (hv1.not_row (by decide) hown').symm)
        rw [List.map_append, List.length_append]
        exact h1
      · refine (((Boxed.below hn hb).alloc _).kept hgrow fun e => ?_).kept (grownBy_setCell' _ _ _) (by simp)
        have := (rc _ e.symm).1
        omega
      · refine (((Boxed.below he hb).alloc _).kept hgrow fun e => ?_).kept (grownBy_setCell' _ _ _) (by simp)
        have := (rc _ e.symm).1
        omega
      · exact (((hB.trans (hb.mono hB.size)).alloc (by omega) _).grown hgrow (by omega) fun k e => by have := (rc k e).1; omega).setCell (p := ⟨w.heap.size + 2, 0, none⟩) (by simp) _
      · have := (grownBy_setCell' w1 (w.heap.size + 2) (.slice (some ⟨g', 0, none⟩) (o.length + 1) cap')).size
        omega
    · have q4' : okPart x = false := by simpa using q4
      rw [q4'] at hpl
      have z := refused.out (by simp [stepP, q0, q1, q2, q4'])
      have z := Lib.hid z
      clear tl q0 q1 q2 go_on refused q4 q4'
      gi_wp2_with (refine ⟨trivial, ?_⟩; gi_at_call 66; refine (CallsIn.inRound l (callsIn_wide.2 (hpl _ hxs))).mono ?_; rintro e w' ⟨rfl, hb⟩; have hn2 := Boxed.below hn hb; have cn2 := hn2.cell; have fn2 := hn2.frozen; have he2 := Boxed.below he hb; have ce2 := he2.cell; have fe2 := he2.frozen)
      exact ⟨((keepsOthers_below hb).trans (KeepsOthers.setCell _ _ _)).trans (KeepsOthers.setCell _ _ _), z.out w' hn2 he2 (hB.trans (hb.mono hB.size))⟩
  case done =>
    rintro D W hD ⟨⟨o, v, hwk, hv, hrow⟩, hn, he, hB, hsz⟩ hK
    have cv := hv.cell
    have cn := hn.cell
    have fn := hn.frozen
    have ce := he.cell
    have fe := he.frozen
    have hp : partsP s = some o := hwk
    obtain ⟨A, c, rfl, hkc, hc63, hA⟩ := row_form hrow
    clear hA
    have hp := Lib.hid hp
    clear hwk
    gi_wp2
    have hK2 := ((KeepsOthers.setCell W ⟨w.heap.size, 0, none⟩ (.slice A o.length c)).trans (KeepsOthers.setCell _ ⟨w.heap.size + 1, 0, none⟩ (.int .i64 0))).same D _ hK rfl
    obtain ⟨U, hU⟩ : ∃ U, U = (W.setCell ⟨w.heap.size, 0, none⟩ (.slice A o.length c)).setCell ⟨w.heap.size + 1, 0, none⟩ (.int .i64 0) := ⟨_, rfl⟩
    have u0 : Boxed U w.heap.size 43 (.slice A o.length c) := by rw [hU]; exact (hn.set _).kept (grownBy_setCell' _ _ _) (by simp)
    have u1 : Boxed U (w.heap.size + 1) 67 (.int .i64 0) := by rw [hU]; exact (he.kept (grownBy_setCell' _ _ _) (by simp)).set _
    have uB : Below w.heap.size w U := by rw [hU]; exact (hB.setCell (p := ⟨w.heap.size, 0, none⟩) (Nat.le_refl _) _).setCell (p := ⟨w.heap.size + 1, 0, none⟩) (by simp) _
    have ur : U.ownsRow (w.heap.size + 6) 9 1 (.slice A o.length c) o.length (o.map encS) := by
      rw [hU]
      have ne : ∀ k, k < w.heap.size + 6 → (Value.slice A o.length c).ownBlock = none ∨ (Value.slice A o.length c).ownBlock ≠ some k := fun k hk => .inr fun e => by have := (row_cells hrow e).1; omega
      exact (hrow.kept (grownBy_setCell' _ _ _) (ne _ (by omega))).kept (grownBy_setCell' _ _ _) (ne _ (by omega))
    rw [← hU] at hK2 ⊢
    clear hU
    have gr := grownBy_putObj' U D (.deferred none)
    have neD : ∀ k, k < w.heap.size + 6 → some k ≠ some D := fun k hk e => by cases e; omega
    refine ⟨by simp, .inl ⟨_, _, rfl, run_takeDeferred hK2, ?_⟩⟩
    refine ⟨_, two_cells rfl _ _ rfl rfl (by simp [go_sem]) (by simp [go_sem]) ((u0.kept gr (neD _ (by omega))).cell) ((u1.kept gr (neD _ (by omega))).cell), ?_⟩
    refine ⟨_, by rw [hp.out]; rfl, uB.grown gr uB.size (fun k e => by cases e; omega), ?_⟩
    rw [hp.out]
    have h9 := ownsRow_putObj ur (.deferred none) hK2 rfl
    exact ⟨h9.1, h9.2.imp id fun ⟨g, cap, cur, q1, q2, q3⟩ => ⟨g, cap, cur, q1, by omega, q3⟩⟩
  case stop =>
    rintro D pre W hD hpx ⟨hwk, hn, he, hB⟩ hK
    have hp : partsP s = none := by
      obtain ⟨t, ht⟩ := hpx
      unfold partsP
      rw [← ht, walkP_append, hwk]; rfl
    have hp := Lib.hid hp
    clear hwk
    gi_wp2
    have gr := grownBy_putObj' W D (.deferred none)
    have neD : ∀ k, k < w.heap.size + 6 → some k ≠ some D := fun k hk e => by cases e; omega
    refine ⟨by simp, .inl ⟨_, _, rfl, run_takeDeferred hK, ?_⟩⟩
    refine ⟨_, two_cells rfl _ _ rfl rfl (by simp [go_sem]) (by simp [go_sem]) ((hn.kept gr (neD _ (by omega))).cell) ((he.kept gr (neD _ (by omega))).cell), ?_⟩
    refine ⟨_, by rw [hp.out]; rfl, hB.grown gr hB.size (fun k e => by cases e; omega), ?_⟩
    rw [hp.out]
end Go.Proofs.YtddilmocngedjaaDoor
