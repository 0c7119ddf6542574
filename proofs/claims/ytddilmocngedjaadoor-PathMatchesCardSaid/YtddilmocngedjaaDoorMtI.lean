/- path.Match: by hand. -/
import Derived.Test.YtddilmocngedjaaDoorMtH
import Derived.Laws.AppendOwnNone
namespace Go.Proofs.YtddilmocngedjaaDoor
set_option linter.unusedVariables false
set_option linter.unusedSimpArgs false
open Go Go.Proofs Go.RowKit Go.Lib
def stepL (l : List (List UInt8)) (zs : List Nat) (x : List UInt8) : List Nat := zs.flatMap fun k => nextP l k x
def reachL (l ps : List (List UInt8)) : List Nat := ps.foldl (stepL l) [0]
def matchB (l ps : List (List UInt8)) : Bool := (reachL l ps).any (endsP l)
def matchP (s p : List UInt8) : Bool := patOk s && !(partsV p).isEmpty && matchB (segs s) (partsV p)
theorem reachL_next {l ps : List (List UInt8)} {i : Nat} {x : List UInt8} (h : ps[i]? = some x) : reachL l (ps.take (i + 1)) = stepL l (reachL l (ps.take i)) x := by
  unfold reachL
  rw [List.take_add_one, h, List.foldl_append]; rfl
/-- the places, as they lie in a world -/
def PlAt (w : World) (base : Nat) (v : Value) (zs : List Nat) : Prop :=
  ∃ A C, v = .slice A zs.length C ∧ zs.length ≤ C ∧ C ≤ 9223372036854775807 ∧ (0 < zs.length → ∃ B, A = some ⟨B, 0, none⟩ ∧ base ≤ B ∧ B < w.heap.size ∧ ∀ (j : Nat) x, zs[j]? = some x → w.cell? ⟨B, 0 + j, none⟩ = some (.int .i64 (x : Int)))
theorem PlAt.below {w w' : World} {base : Nat} {v : Value} {zs : List Nat} (h : PlAt w base v zs) (hb : Below w.heap.size w w') : PlAt w' base v zs := by
  obtain ⟨A, C, h1, h2, h3, h4⟩ := h
  refine ⟨A, C, h1, h2, h3, fun h => ?_⟩
  obtain ⟨B, h5, h6, h7, h8⟩ := h4 h
  exact ⟨B, h5, h6, Nat.lt_of_lt_of_le h7 hb.size, fun j x hx => by rw [hb.cell (p := ⟨B, 0 + j, none⟩) h7]; exact h8 j x hx⟩
theorem patOk_facts {s : List UInt8} (h : patOk s = true) : (segs s).length ≤ 8 := by
  unfold patOk at h
  simp only [Bool.and_eq_true, decide_eq_true_eq] at h
  exact h.1.2
def MInv (l ps : List (List UInt8)) (w2 : World) (k : Nat) (v : Value) (wr : World) : Prop :=
  ∃ zs, PlAt wr w2.heap.size v zs ∧ (∀ y, y ∈ zs ↔ y ∈ reachL l (ps.take k)) ∧ (∀ y ∈ zs, y ≤ l.length) ∧ zs.length ≤ 8 ^ k ∧ Below w2.heap.size w2 wr
theorem minv_start (l ps : List (List UInt8)) (w2 : World) : MInv l ps w2 0 (.slice (some ⟨w2.heap.size, 0, none⟩) 1 1) (w2.alloc (.cells #[.int .i64 0] 3)) := by
  refine ⟨[0], ⟨_, 1, rfl, by simp, by omega, fun _ => ⟨w2.heap.size, rfl, Nat.le_refl _, by simp, fun j x hx => ?_⟩⟩, fun y => Iff.rfl, by simp, by simp, (Below.refl _ _).alloc (Nat.le_refl _) _⟩
  match j, hx with
  | 0, hx =>
    obtain rfl : 0 = x := by simpa using hx
    simp
  | j + 1, hx => simp at hx
theorem nextP_len {l : List (List UInt8)} (h8 : l.length ≤ 8) (k : Nat) (x : List UInt8) : (nextP l k x).length ≤ 8 := by
  unfold nextP
  have := nextQ_len (l.drop k) k x
  simp at this
  omega
theorem stepL_next {zs : List Nat} {j y : Nat} (l : List (List UInt8)) (x : List UInt8) (h : zs[j]? = some y) : stepL l (zs.take (j + 1)) x = stepL l (zs.take j) x ++ nextP l y x := by
  unfold stepL
  rw [List.take_add_one, h, List.flatMap_append]
  simp
theorem stepL_len {l : List (List UInt8)} (h8 : l.length ≤ 8) (x : List UInt8) : ∀ zs : List Nat, (stepL l zs x).length ≤ 8 * zs.length
  | [] => by simp [stepL]
  | y :: r => by
    have h1 := stepL_len h8 x r
    have h2 := nextP_len h8 y x
    unfold stepL at *
    rw [List.flatMap_cons, List.length_append, List.length_cons]
    omega
theorem nextQ_le : ∀ (r : List (List UInt8)) (k : Nat) (x : List UInt8), ∀ y ∈ nextQ r k x, y ≤ k + r.length
  | [], k, x, y, h => by simp [nextQ] at h
  | p :: r, k, x, y, h => by
    unfold nextQ at h
    split at h
    · rcases List.mem_append.1 h with h | h
      · have := nextQ_le r (k + 1) x y h
        simp; omega
      · have := List.mem_singleton.1 h
        simp; omega
    · split at h
      · have := List.mem_singleton.1 h
        simp; omega
      · cases h
theorem nextP_le {l : List (List UInt8)} {k y : Nat} {x : List UInt8} (hk : k ≤ l.length) (h : y ∈ nextP l k x) : y ≤ l.length := by
  have := nextQ_le (l.drop k) k x y h
  simp at this
  omega
theorem step_set {l ps : List (List UInt8)} {k : Nat} {x : List UInt8} {zs : List Nat} (hx : ps[k]? = some x) (hs : ∀ y, y ∈ zs ↔ y ∈ reachL l (ps.take k)) (y : Nat) : y ∈ stepL l zs x ↔ y ∈ reachL l (ps.take (k + 1)) := by
  rw [reachL_next hx]
  unfold stepL
  rw [List.mem_flatMap, List.mem_flatMap]
  exact ⟨fun ⟨a, h, h'⟩ => ⟨a, (hs a).1 h, h'⟩, fun ⟨a, h, h'⟩ => ⟨a, (hs a).2 h, h'⟩⟩
theorem step_le {l : List (List UInt8)} {x : List UInt8} {zs : List Nat} (hz : ∀ y ∈ zs, y ≤ l.length) : ∀ y ∈ stepL l zs x, y ≤ l.length := by
  intro y hy
  unfold stepL at hy
  obtain ⟨k, hk, h⟩ := List.mem_flatMap.1 hy
  exact nextP_le (hz k hk) h
def intsOf (ns : List Nat) : List Int := ns.map fun n : Nat => (n : Int)
def sortedOf (ns : List Nat) : List Int := (intsOf ns).mergeSort fun x y => decide (x ≤ y)
theorem sortedOf_len (ns : List Nat) : (sortedOf ns).length = ns.length := by simp [sortedOf, intsOf]
theorem sortedOf_mem (ns : List Nat) (i : Int) : i ∈ Lib.compact (sortedOf ns) ↔ ∃ n ∈ ns, (n : Int) = i := by
  rw [compact_mem]
  unfold sortedOf intsOf
  rw [List.mem_mergeSort, List.mem_map]
theorem minv_step {l ps : List (List UInt8)} {w2 w' : World} {k g3 c : Nat} {x : List UInt8} {zs ns : List Nat} (h8 : l.length ≤ 8) (hx : ps[k]? = some x) (hs : ∀ y, y ∈ zs ↔ y ∈ reachL l (ps.take k)) (hz : ∀ y ∈ zs, y ≤ l.length) (hlen : zs.length ≤ 8 ^ k) (hns : stepL l zs x = ns)
    (hb : Below w2.heap.size w2 w') (hc : ns.length ≤ c) (hc2 : c ≤ 9223372036854775807) (hg : w2.heap.size ≤ g3) (hg2 : g3 < w'.heap.size) (hcell : ∀ (j : Nat) i, (Lib.compact (sortedOf ns))[j]? = some i → w'.cell? ⟨g3, 0 + j, none⟩ = some (.int .i64 i)) :
    MInv l ps w2 (k + 1) (.slice (some ⟨g3, 0, none⟩) (Lib.compact (sortedOf ns)).length c) w' := by
  have hl1 := compact_len (sortedOf ns)
  rw [sortedOf_len] at hl1
  have hmem : ∀ y, y ∈ (Lib.compact (sortedOf ns)).map Int.toNat ↔ y ∈ ns := by
    intro y
    rw [List.mem_map]
    constructor
    · rintro ⟨i, hi, rfl⟩
      obtain ⟨n, hn, rfl⟩ := (sortedOf_mem ns i).1 hi
      simpa using hn
    · intro hy
      exact ⟨(y : Int), (sortedOf_mem ns y).2 ⟨y, hy, rfl⟩, by simp⟩
  have hl2 := stepL_len h8 x zs
  rw [hns] at hl2
  refine ⟨(Lib.compact (sortedOf ns)).map Int.toNat, ⟨_, c, by rw [List.length_map], by rw [List.length_map]; omega, hc2, fun _ => ⟨g3, rfl, hg, hg2, fun j y hy => ?_⟩⟩, fun y => ?_, fun y hy => ?_, ?_, hb⟩
  · rw [List.getElem?_map, Option.map_eq_some_iff] at hy
    obtain ⟨i, hi, rfl⟩ := hy
    obtain ⟨n, hn, rfl⟩ := (sortedOf_mem ns i).1 (List.mem_of_getElem? hi)
    rw [hcell j _ hi]; simp
  · rw [hmem, ← hns]; exact step_set hx hs y
  · rw [hmem, ← hns] at hy; exact step_le hz y hy
  · rw [List.length_map, Nat.pow_succ]; omega
theorem minv_none {l ps : List (List UInt8)} {w2 w' : World} {k c : Nat} {x : List UInt8} {zs : List Nat} {A : Option Addr} (hx : ps[k]? = some x) (hs : ∀ y, y ∈ zs ↔ y ∈ reachL l (ps.take k)) (hns : stepL l zs x = [])
    (hb : Below w2.heap.size w2 w') (hc2 : c ≤ 9223372036854775807) : MInv l ps w2 (k + 1) (.slice A 0 c) w' := by
  refine ⟨[], ⟨A, c, rfl, by simp, hc2, fun h => absurd h (by simp)⟩, fun y => ?_, fun y hy => (by cases hy), by simp, hb⟩
  rw [← hns]; exact step_set hx hs y
theorem partsV_len (p : List UInt8) : (partsV p).length ≤ 8 := by
  unfold partsV
  split
  · rename_i h
    obtain ⟨l, hl⟩ := (rightP_iff p).1 h
    rw [hl.segs]
    exact hl.few
  · simp
set_option maxHeartbeats 4000000 in
set_option maxRecDepth 100000 in
theorem match_any (s p : List UInt8) (hs : s.length ≤ 1000000) (hp : p.length ≤ 1000000) (w : World) :
    Calls Tryd.prog 16 #[.string (strB s), .string (strB p)] w fun e w' => e = .returned (.bool (matchP s p)) ∧ Below w.heap.size w w' := by
  have mixed : Tryd.prog.follows .mixedOrders = true := by kernel_rfl
  obtain ⟨i0, hi, hz0, hz1, hz2⟩ := info_parts info_int
  have t22 := Tryd.underlying31
  have HPat := Lib.hid (pattern_any s hs)
  have HPar := Lib.hid (parts_any p hp)
  obtain ⟨M, hM⟩ : ∃ M, M = matchP s p := ⟨_, rfl⟩
  rw [← hM]
  unfold matchP at hM
  have HM := Lib.hid hM
  clear hM
  go_enter Tryd.func16, Tryd.ntmps16
  go_wp2_with fail
  refine (HPat.out _).mono ?_
  rintro e w1 ⟨v, rfl, hb1, ho1⟩
  cases hok : patOk s with
  | false =>
    have HO := Lib.hid hok
    have HV : patV s = [] := by unfold patV; rw [hok]; rfl
    rw [HV] at ho1
    obtain ⟨A, cap, rfl, h7, hcap, hA⟩ := row_form ho1
    have HB1 := Lib.hid hb1
    clear hok hb1 ho1 HV hA
    go_wp2_with fail
    refine (HPar.out _).mono ?_
    rintro e w2 ⟨v2, rfl, hb2, ho2⟩
    obtain ⟨A2, cap2, rfl, _⟩ := row_form ho2
    have HB2 := Lib.hid hb2
    clear hb2 ho2
    go_wp2
    go_ret
    refine ⟨by rw [HM.out, HO.out]; rfl, ?_⟩
    exact (HB1.out.alloc HB1.out.size _).trans (HB2.out.mono (by have := HB1.out.size; simp; omega))
  | true =>
    have HV : patV s = segs s := by unfold patV; rw [if_pos hok]
    rw [HV] at ho1
    have h8 := patOk_facts hok
    have hl0 := List.length_pos_iff.2 (segs_ne s)
    rw [hok] at HM
    have hp8 := partsV_len p
    generalize segs s = l at *
    generalize partsV p = ps at *
    obtain ⟨A, cap, rfl, h7, hcap, hA⟩ := row_form ho1
    obtain ⟨g, rfl⟩ := hA hl0
    have HB1 := Lib.hid hb1
    have HO1 := Lib.hid ho1
    clear hok hb1 ho1 HV hA
    go_wp2_with fail
    refine (HPar.out _).mono ?_
    rintro e w2 ⟨v2, rfl, hb2, ho2⟩
    obtain ⟨A2, cap2, rfl, h72, hcap2, hA2⟩ := row_form ho2
    have HP : Hid (PatAt w2 l w1.heap.size g 0 cap) := by
      have h1 : PatAt (w1.alloc (.cells #[.slice (some ⟨g, 0, none⟩) l.length cap] 43)) l w1.heap.size g 0 cap := by
        refine ⟨by simp, by simp, by have := (HO1.out.lt g rfl).2; simp; omega, by omega, h7, hcap, fun j x hx => ?_⟩
        have hj := (List.getElem?_eq_some_iff.1 hx).1
        rw [Nat.zero_add, World.ownsRow.cellAt (HO1.out.alloc _) j (by omega), List.getElem?_map, hx]; rfl
      exact h1.below hb2
    have HB2 : Hid (Below w.heap.size w w2) := (HB1.out.alloc HB1.out.size _).trans (hb2.mono (by have := HB1.out.size; simp; omega))
    have HO2 := Lib.hid ho2
    clear ho2 hb2 HB1 HO1 h7 HPat HPar
    by_cases hz : ps.length = 0
    · have hz' : ps = [] := List.length_eq_zero_iff.1 hz
      go_wp2
      go_ret
      refine ⟨by rw [HM.out, hz']; rfl, HB2.out⟩
    · obtain ⟨g2, rfl⟩ := hA2 (by omega)
      have hgl := Lib.hid (HO2.out.lt g2 rfl)
      have hz2' : ((ps.length : Int) == 0) = false := by
        rw [beq_eq_false_iff_ne]; omega
      clear hA2
      go_wp2
      go_loopg [8, 31] ps.length (fun gg s8 s31 wr => ∃ k : Nat, s31 = .int .i64 (k : Int) ∧ k ≤ ps.length ∧ ps.length - k ≤ gg ∧ Hid (MInv l ps w2 k s8 wr))
      case atStart => exact ⟨0, rfl, by omega, by omega, (minv_start l ps w2 : _)⟩
      case round =>
        obtain ⟨k, rfl, hk, hg, hI⟩ := hrel
        by_cases hlt : k < ps.length
        · obtain ⟨x, hx⟩ : ∃ x, ps[k]? = some x := ⟨_, List.getElem?_eq_getElem hlt⟩
          generalize wr = wo at *
          obtain ⟨zs, hPl, hset, hle, hlen, hbe⟩ := hI.out
          have ci : wo.cell? ⟨g2, k, none⟩ = some (.string (strB x)) := by
            rw [hbe.cell (p := ⟨g2, k, none⟩) hgl.out.2, World.ownsRow.cellAt HO2.out k (by omega), List.getElem?_map, hx]; rfl
          have hPw := Lib.hid (HP.out.below hbe)
          have hPl' := hPl
          obtain ⟨A8, C8, rfl, h81, h82, h83⟩ := hPl
          have HPl := Lib.hid hPl'
          have H83 := Lib.hid h83
          have HX := Lib.hid hx
          have HS := Lib.hid hset
          have HL := Lib.hid hle
          have HBE := Lib.hid hbe
          have hzl : zs.length ≤ 16777216 := by
            have : 8 ^ k ≤ 8 ^ 8 := Nat.pow_le_pow_right (by omega) (by omega)
            simp at this; omega
          have HLN := Lib.hid hlen
          clear hPl' h83 hx hset hle hbe hlen hI
          have hW := hgl.out.2
          go_wp2
          go_loopg [11, 37] zs.length (fun gg s11 s37 wr => ∃ j : Nat, s37 = .int .i64 (j : Int) ∧ j ≤ zs.length ∧ zs.length - j ≤ gg ∧ Hid (wr.ownsRow wo.heap.size 3 1 s11 (stepL l (zs.take j) x).length ((stepL l (zs.take j) x).map encN) ∧ Below wo.heap.size wo wr))
          case atStart => exact ⟨0, rfl, by omega, by omega, (⟨World.ownsRow_nil _ _ _ _, Below.refl _ _⟩ : _)⟩
          case round =>
            obtain ⟨j, rfl, hj, hgj, hI⟩ := hrel
            by_cases hlj : j < zs.length
            · obtain ⟨y, hy⟩ : ∃ y, zs[j]? = some y := ⟨_, List.getElem?_eq_getElem hlj⟩
              obtain ⟨B, rfl, hB1, hB2, hB3⟩ := H83.out (by omega)
              have cj : wr.cell? ⟨B, j, none⟩ = some (.int .i64 (y : Int)) := by
                rw [hI.out.2.cell (p := ⟨B, j, none⟩) hB2]; have := hB3 j y hy; rwa [Nat.zero_add] at this
              have hPi := hPw.out.below hI.out.2
              have cb : wr.cell? ⟨w1.heap.size, 0, none⟩ = some (.slice (some ⟨g, 0, none⟩) l.length cap) := hPi.2.1
              have HN := Lib.hid (next_any l x (by omega) l.length y (by omega) (HL.out y (List.mem_of_getElem? hy)) wr g 0 cap hPi.2.2.2.2.2.2 hPi.2.2.1)
              have hms : (nextP l y x).length ≤ 8 := nextP_len h8 y x
              have hst := stepL_next l x hy
              have hsl := stepL_len h8 x (zs.take j)
              rw [List.length_take] at hsl
              have HST := Lib.hid hst
              clear hB3 hPi hst hy
              generalize nextP l y x = ms at *
              generalize hNS : stepL l (zs.take j) x = ns at *
              have HNS := Lib.hid hNS
              clear hNS
              have hsz := Lib.hid hI.out.2.size
              go_wp2_with fail
              refine HN.out.mono ?_
              rintro e w4 ⟨v', rfl, hb4, ho4⟩
              have hO := row_below hI.out.1 hb4
              have HB4 : Hid (Below wo.heap.size wo w4) := hI.out.2.trans (hb4.mono hsz.out)
              have hwi := Lib.hid hb4.size
              rcases ho4.2 with ⟨rfl, hm0⟩ | ⟨g', c', cur, rfl, _⟩
              · have hm00 : ms = [] := List.length_eq_zero_iff.1 hm0
                have hO1 := Lib.hid hO
                have hM0 := Lib.hid hm00
                clear hb4 ho4 hO hI hm00 hm0
                go_wp2_with (at_builtin; refine wpList_append_own_none rfl _ _ 31 rfl wo.heap.size 3 i0 1 t22 hi _ ns.length (ns.map encN) rfl hO1.out rfl ?_)
                go_roundg (zs.length - (j + 1))
                case measure => omega
                case rel =>
                  have e : stepL l (zs.take (j + 1)) x = ns := by rw [HST.out, hM0.out, List.append_nil]
                  refine ⟨j + 1, by go_num, by omega, by omega, ?_⟩
                  rw [e]
                  exact (⟨hO1.out, HB4.out⟩ : _ ∧ _)
              · 
                have hcl : ∀ j u, (ms.map encN)[j]? = some u → w4.cell? ((⟨g', 0, none⟩ : Addr).add j) = some u := World.ownsRow.cells ho4 rfl
                have h1c : ∀ u ∈ ms.map encN, u.oneCell' = true := by
                  intro u hu
                  obtain ⟨q, _, rfl⟩ := List.mem_map.1 hu
                  rfl
                have hO1 := Lib.hid hO
                clear hb4 ho4 hI hO
                go_wp2_with (at_builtin; refine wpList_append_own _ rfl _ _ 31 rfl wo.heap.size 3 i0 (.int .i64 0) 1 8 t22 hi hz0 hz1 hz2 rfl (by decide) _ ns.length (ns.map encN) rfl hO1.out ⟨g', 0, none⟩ ms.length c' (ms.map encN) rfl ?qc1 hcl h1c ?qc4 ?qc5 ?qc6 ?_)
                case qc1 => simp
                case qc4 => unfold maxLen; omega
                case qc5 => omega
                case qc6 => have := hwi.out; have := hsz.out; omega
                intro v' w5 hown hgrow hnil
                have e : stepL l (zs.take (j + 1)) x = ns ++ ms := HST.out
                have hown : w5.ownsRow wo.heap.size 3 1 v' (stepL l (zs.take (j + 1)) x).length ((stepL l (zs.take (j + 1)) x).map encN) := by
                  rw [e, List.length_append, List.map_append]; exact hown
                have HO := Lib.hid hown
                have HB : Hid (Below wo.heap.size wo w5) := HB4.out.grown hgrow (by have := hwi.out; have := hsz.out; omega) (by intro q hq; exact (hO1.out.lt q hq).1)
                clear hown hgrow hnil hcl h1c e
                go_wp2
                go_roundg (zs.length - (j + 1))
                case measure => omega
                case rel => exact ⟨j + 1, by go_num, by omega, by omega, (⟨HO.out, HB.out⟩ : _ ∧ _)⟩
            · obtain rfl : j = zs.length := by omega
              obtain ⟨ho, hbi⟩ := hI.out
              rw [List.take_length] at ho
              generalize hNS : stepL l zs x = ns at *
              have hsl := stepL_len h8 x zs
              rw [hNS] at hsl
              have HNS := Lib.hid hNS
              have HBI := Lib.hid hbi
              obtain ⟨A11, c11, rfl, h11, h12, h13⟩ := row_form ho
              have hBW : Below w2.heap.size w2 wr := HBE.out.trans (hbi.mono HBE.out.size)
              clear hNS hI
              by_cases h0 : ns.length = 0
              · obtain rfl : ns = [] := List.length_eq_zero_iff.1 h0
                have HBW := Lib.hid hBW
                clear hBW ho hbi h13 hsl h0
                go_wp2_with (first
                  | (go_at_call 37; refine (Tryd.slices_Sort_int_none A11 c11 _).mono ?_; rintro e w6 ⟨rfl, rfl⟩)
                  | (go_at_call 38; refine (Tryd.slices_Compact_int_empty A11 c11 _).mono ?_; rintro e w7 ⟨rfl, rfl⟩))
                go_roundg (ps.length - (k + 1))
                case measure => omega
                case rel => exact ⟨k + 1, by go_num, by omega, by omega, (minv_none HX.out HS.out HNS.out HBW.out h12 : _)⟩
              · obtain ⟨g3, rfl⟩ := h13 (by omega)
                obtain ⟨hg3, hg4⟩ := ho.lt g3 rfl
                have hH := own_holds (zs := intsOf ns) (by rw [intsOf, List.map_map]; exact ho) (by simp [intsOf])
                have hS := sort_own wo.heap.size g3 c11 (intsOf ns) wr hg3 hg4 hH (by simp [intsOf]; omega)
                rw [show (intsOf ns).length = ns.length from by simp [intsOf]] at hS
                have HSo := Lib.hid hS
                have HBW := Lib.hid hBW
                have HG := Lib.hid (And.intro hg3 hg4)
                clear hBW ho hbi h13 hS hH hg3 hg4
                go_wp2_with fail
                refine HSo.out.mono ?_
                rintro e w6 ⟨rfl, hb6, hH6⟩
                have hC := compact_own wo.heap.size g3 c11 (sortedOf ns) w6 HG.out.1 hH6 (by rw [sortedOf_len]; omega) (by rw [sortedOf_len]; omega)
                have hcl := compact_len (sortedOf ns)
                rw [sortedOf_len] at hC hcl
                have HCo := Lib.hid hC
                have HB6 := Lib.hid hb6
                clear hC hb6 hH6
                go_wp2_with fail
                refine HCo.out.mono ?_
                rintro e w7 ⟨rfl, hb7, hcell⟩
                have HF : Hid (MInv l ps w2 (k + 1) (.slice (some ⟨g3, 0, none⟩) (Lib.compact (sortedOf ns)).length c11) w7) := by
                  have hsz2 : wo.heap.size ≥ w2.heap.size := HBE.out.size
                  have hsw := HB6.out.size
                  have hsw7 := hb7.size
                  exact minv_step h8 HX.out HS.out HL.out HLN.out HNS.out ((HBW.out.trans (HB6.out.mono hsz2)).trans (hb7.mono hsz2)) h11 h12 (by have := HG.out.1; omega) (by have := HG.out.2; omega) hcell
                clear hb7 hcell
                generalize (Lib.compact (sortedOf ns)).length = nn at *
                go_wp2
                go_roundg (ps.length - (k + 1))
                case measure => omega
                case rel => exact ⟨k + 1, by go_num, by omega, by omega, HF⟩
        · obtain rfl : k = ps.length := by omega
          obtain ⟨zs, hPl, hset, hle, hlen, hbe⟩ := hI.out
          have hPw := HP.out.below hbe
          obtain ⟨A8, C8, rfl, h81, h82, h83⟩ := hPl
          rw [List.take_length] at hset
          have HQ : Hid (M = zs.any (endsP l)) := by
            show M = zs.any (endsP l)
            have hne : ps.isEmpty = false := by cases ps with
              | nil => exact absurd rfl hz
              | cons a b => rfl
            rw [HM.out, hne]
            show matchB l ps = _
            unfold matchB
            rw [Bool.eq_iff_iff, List.any_eq_true, List.any_eq_true]
            exact ⟨fun ⟨y, h, h'⟩ => ⟨y, (hset y).2 h, h'⟩, fun ⟨y, h, h'⟩ => ⟨y, (hset y).1 h, h'⟩⟩
          have hzl : zs.length ≤ 16777216 := by
            have : 8 ^ ps.length ≤ 8 ^ 8 := Nat.pow_le_pow_right (by omega) (by omega)
            simp at this; omega
          have HC : Hid (Calls Tryd.prog 72 #[.slice A8 zs.length C8, .func (.func 40) #[] #[.pointer (some ⟨w1.heap.size, 0, none⟩)]] wr
              fun e w' => Below wr.heap.size wr w' ∧ ∃ r : Int, e = .returned (.int .i64 r) ∧ decide (0 ≤ r) = zs.any (endsP l)) := by
            by_cases h0 : 0 < zs.length
            · obtain ⟨B, rfl, hB1, hB2, hB3⟩ := h83 h0
              exact idxI_any l zs hle w1.heap.size g 0 cap wr hPw B 0 zs.length C8 rfl (by omega) hB2 hB3 _ (fun _ => rfl)
            · exact idxI_any l zs hle w1.heap.size g 0 cap wr hPw 0 0 zs.length C8 rfl (by omega) (by have := hPw.1; omega) (fun j x hx => by have := (List.getElem?_eq_some_iff.1 hx).1; omega) _ (fun h => absurd h h0)
          rw [← HQ.out] at HC
          have HBE := Lib.hid hbe
          clear hPw hset hle hbe h83 hI hlen HQ
          go_wp2_with fail
          refine (containsI_any _ _ M wr HC.out).mono ?_
          rintro e w3 ⟨rfl, hb3⟩
          go_wp2
          go_ret
          exact ⟨rfl, HB2.out.trans ((HBE.out.trans (hb3.mono HBE.out.size)).mono HB2.out.size)⟩
end Go.Proofs.YtddilmocngedjaaDoor
