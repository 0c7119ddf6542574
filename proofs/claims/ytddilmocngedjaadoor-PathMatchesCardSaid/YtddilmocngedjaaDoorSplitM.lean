/- strings.Split at a slash, by content. -/
import Derived.Test.YtddilmocngedjaaDoorPthM
import Derived.Shelf.Strings.SplitCore
import Derived.Lib.SplitLaws
namespace Go.Proofs.YtddilmocngedjaaDoor
set_option linter.unusedVariables false
set_option linter.unusedSimpArgs false
open Go Go.Proofs Go.RowKit Go.Lib
theorem idx_count {s : List UInt8} {c : UInt8} {i : Nat} (h : indexByte s c = (i : Int)) : s.count c = (s.drop (i + 1)).count c + 1 := by
  induction s generalizing i with
  | nil => simp [indexByte] at h
  | cons x r ih =>
    unfold indexByte at h
    split at h
    · rename_i hx
      obtain rfl : i = 0 := by omega
      have : x = c := by simpa using hx
      subst this
      simp
    · rename_i hx
      split at h
      · omega
      · rename_i h2
        have h2' : indexByte r c ≠ -1 := by simpa using h2
        have h3 := indexByte_ge r c
        obtain ⟨j, rfl⟩ : ∃ j, i = j + 1 := ⟨i - 1, by omega⟩
        have := ih (i := j) (by omega)
        have hx' : x ≠ c := by simpa using hx
        rw [List.count_cons_of_ne hx', this]
        simp
theorem idx_none {s : List UInt8} {c : UInt8} (h : indexByte s c = -1) : s.count c = 0 := by
  induction s with
  | nil => rfl
  | cons x r ih =>
    unfold indexByte at h
    split at h
    · omega
    · rename_i hx
      split at h
      · rename_i h2
        have hx' : x ≠ c := by simpa using hx
        rw [List.count_cons_of_ne hx', ih (by simpa using h2)]
      · rename_i h2
        have := indexByte_ge r c
        have : indexByte r c ≠ -1 := by simpa using h2
        omega
theorem splitK_segs : ∀ (k : Nat) (s : List UInt8), s.count 47 = k → splitK [47] 0 k s = segs s
  | 0, s, h => by
    have hm : indexByte s 47 = -1 := by
      have hg := indexByte_ge s 47
      by_cases hm : indexByte s 47 = -1
      · exact hm
      · obtain ⟨i, hi⟩ : ∃ i : Nat, indexByte s 47 = i := ⟨(indexByte s 47).toNat, by omega⟩
        have := idx_count hi
        omega
    rw [segs_none hm]; rfl
  | k + 1, s, h => by
    have hg := indexByte_ge s 47
    by_cases hm : indexByte s 47 = -1
    · have := idx_none hm; omega
    · obtain ⟨i, hi⟩ : ∃ i : Nat, indexByte s 47 = i := ⟨(indexByte s 47).toNat, by omega⟩
      have hc := idx_count hi
      unfold splitK
      rw [index_one, hi, if_neg (by simp), segs_hit hi, ← splitK_segs k (s.drop (i + 1)) (by omega)]
      simp

theorem split_any (s : List UInt8) (hs : s.length ≤ 1000000) (w : World) :
    Calls Tryd.prog 65 #[.string (strB s), .string ⟨#[47]⟩] w fun e w' => ∃ v, e = .returned v ∧ Below w.heap.size w w' ∧ w'.ownsRow w.heap.size 9 1 v (segs s).length ((segs s).map encS) := by
  have hz : (strB s).size = s.length := strB_size s
  have hcb : countB (strB s) ⟨#[47]⟩ = s.count 47 := by
    show count (strB s).data.toList [47] = _
    rw [strB_data, count_one]
  have hle := Lib.countB_le ⟨#[47]⟩ (by decide) (strB s).size (strB s) (Nat.le_refl _)
  have hlen := Lib.splitB_all ⟨#[47]⟩ (by decide) 0 _ (strB s) rfl
  have c := Any.strings_genSplit_core Tryd.lays221 (by kernel_rfl) (strB s) ⟨#[47]⟩ 0 (-1) (countB (strB s) ⟨#[47]⟩ + 1) w (by omega) (by decide) (by decide)
    (fun x c hx => by
      have := Tryd.strings_Index_one x 47 (w.alloc (.cells c 9))
      refine this.mono ?_
      rintro e w' ⟨rfl, rfl⟩
      exact ⟨by rw [show Lib.indexB x ⟨#[47]⟩ = Lib.index x.data.toList [47] from rfl, index_one], rfl⟩)
    (by
      refine (Tryd.strings_Count_one (strB s) 47 w).mono ?_
      rintro e w' ⟨rfl, rfl⟩
      refine ⟨?_, rfl⟩
      rw [hcb, strB_data]; rfl)
    (by decide) (by decide) (by rw [if_pos (by decide)]; omega)
  rw [Nat.add_sub_cancel] at c
  have e2 : Lib.cellsOf (Lib.splitB ⟨#[47]⟩ 0 (Lib.countB (strB s) ⟨#[47]⟩) (strB s)) (Lib.countB (strB s) ⟨#[47]⟩ + 1) = ((Lib.splitB ⟨#[47]⟩ 0 (Lib.countB (strB s) ⟨#[47]⟩) (strB s)).map Value.string).toArray := by rw [← hlen]; exact Lib.cellsOf_full _
  have e3 : (Lib.splitB ⟨#[47]⟩ 0 (Lib.countB (strB s) ⟨#[47]⟩) (strB s)).map Value.string = (segs s).map encS := by
    have h1 := splitB_data ⟨#[47]⟩ 0 (Lib.countB (strB s) ⟨#[47]⟩) (strB s)
    rw [hcb, strB_data] at h1
    have h2 := splitK_segs (s.count 47) s rfl
    rw [show (ByteArray.mk #[47]).data.toList = [47] from rfl, h2] at h1
    rw [hcb, ← h1, List.map_map]
    refine List.map_congr_left fun x _ => ?_
    simp [encS, strB_of]
  have e4 : countB (strB s) ⟨#[47]⟩ + 1 = (segs s).length := by
    rw [← hlen, ← List.length_map (f := Value.string), e3, List.length_map]
  rw [hlen, e2, e3, e4] at c
  have c := Lib.hid c
  clear e2 e3 e4 hcb hlen hle hz
  go_enter Tryd.func65, Tryd.ntmps65
  go_wp2_with (go_at_call 89; refine c.out.mono ?_; rintro e w' ⟨rfl, hw⟩; rw [hw])
  go_ret
  have hn := segs_len s
  refine ⟨_, rfl, (Below.refl _ w).alloc (Nat.le_refl _) _, by simp, .inr ⟨w.heap.size, _, _, rfl, Nat.le_refl _, World.alloc_heap_new w _, Nat.le_refl _, by unfold maxLen; omega, by simp, ?_⟩⟩
  rw [Nat.mul_one, List.take_of_length_le (by simp)]

def splitF : Con
  | [.val (.str s), .val (.str p)] => some (s.length ≤ 1000000 ∧ p = [47], ⟨.sl (strsAV (segs s)) .no, none, none⟩)
  | _ => none
theorem meetsSplit : Meets Tryd.prog 65 splitF := by
  refine meets_plain Tryd.call65 ?_
  intro args q r hF hq
  unfold splitF at hF
  split at hF
  · rename_i s p
    cases hF
    obtain ⟨hl, rfl⟩ := hq
    refine ⟨[.str s, .str [47]], rfl, rfl, fun x hx => (by simp at hx; rcases hx with rfl | rfl <;> rfl), rfl, rfl, rfl, ?_⟩
    intro us w S hs h
    obtain ⟨u, u', rfl, hu, hu'⟩ := two_args hs h
    obtain ⟨rfl, _⟩ := repV_str hu
    obtain ⟨rfl, _⟩ := repV_str hu'
    refine (split_any s hl w).mono ?_
    rintro e w' ⟨v, rfl, hb, hm⟩
    exact ⟨v, rfl, hb, (strs_rep hm (fun g o hg => Or.inr hg) (segs_lens hl) : RepP w' (More S w) (.sl (strsAV (segs s)) .no) v)⟩
  · cases hF
end Go.Proofs.YtddilmocngedjaaDoor
