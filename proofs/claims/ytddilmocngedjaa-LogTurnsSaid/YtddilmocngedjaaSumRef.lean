/- The document's sum: bits in a row of 32 cells. -/
import Derived.Test.YtddilmocngedjaaSum
import Derived.Deep.MidRow
import Derived.Deep.Cut
namespace Go.Proofs.Ytddilmocngedjaa
set_option linter.unusedVariables false
set_option linter.unusedSimpArgs false
open Go.RowKit

/-- 32 cells of numbers -/
def fc (f : Nat → Int) : List Value := (List.range 32).map fun k => .int .i64 (f k)
theorem fc_length (f : Nat → Int) : (fc f).length = 32 := by simp [fc]
theorem fc_get (f : Nat → Int) (k : Nat) (h : k < 32) : (fc f)[k]? = some (.int .i64 (f k)) := by
  unfold fc; rw [List.getElem?_map, List.getElem?_range h]; rfl
theorem fc_set (f : Nat → Int) (k : Nat) (v : Int) (h : k < 32) : (fc f).set k (.int .i64 v) = fc (fun j => if j = k then v else f j) := by
  apply List.ext_getElem?
  intro i
  rw [List.getElem?_set]
  by_cases hi : i < 32
  · have e : (fc fun j => if j = k then v else f j)[i]? = some (.int .i64 (if i = k then v else f i)) := fc_get _ i hi
    rw [e]
    by_cases hk : k = i
    · subst hk; simp [fc_length, hi]
    · rw [if_neg hk, fc_get f i hi, if_neg (Ne.symm hk)]
  · have h1 : (fc fun j => if j = k then v else f j)[i]? = none := by rw [List.getElem?_eq_none_iff, fc_length]; omega
    have h2 : (fc f)[i]? = none := by rw [List.getElem?_eq_none_iff, fc_length]; omega
    have hk : k ≠ i := by omega
    rw [h1, if_neg hk, h2]
theorem fc_congr {f g : Nat → Int} (h : ∀ k, k < 32 → f k = g k) : fc f = fc g := by
  unfold fc
  refine List.map_congr_left fun k hk => ?_
  rw [h k (List.mem_range.1 hk)]
theorem fc_one (f : Nat → Int) : ∀ v ∈ fc f, v.oneCell' = true := by
  intro v hv
  obtain ⟨k, _, rfl⟩ := List.mem_map.1 hv
  rfl

/-- a block's cells, as a list -/
def Row (w : World) (g : Nat) (t : TypeId) (xs : List Value) : Prop := Blk w g t xs.toArray
theorem Row.cell {w : World} {g : Nat} {t : TypeId} {xs : List Value} (h : Row w g t xs) (i : Nat) {v : Value} (hv : xs[i]? = some v) : w.cell? ⟨g, i, none⟩ = some v := Blk.cell h i (by simpa using hv)
theorem Row.put {w : World} {g : Nat} {t : TypeId} {xs : List Value} (h : Row w g t xs) (i : Nat) (u : Value) : Row (w.setCell ⟨g, i, none⟩ u) g t (xs.set i u) := by
  have := Blk.put h i u
  simpa [Row] using this
theorem setCells_row {g : Nat} {t : TypeId} : ∀ (vs xs : List Value) (o : Nat) (w : World), Row w g t xs → o + vs.length ≤ xs.length → Row (w.setCells g o vs) g t (xs.take o ++ vs ++ xs.drop (o + vs.length))
  | [], xs, o, w, h, _ => by simpa [World.setCells] using h
  | v :: r, xs, o, w, h, hl => by
    have hl' : o + (r.length + 1) ≤ xs.length := by simpa using hl
    have := setCells_row r (xs.set o v) (o + 1) (w.setCell ⟨g, o, none⟩ v) (h.put o v) (by simp; omega)
    have e : (xs.set o v).take (o + 1) ++ r ++ (xs.set o v).drop (o + 1 + r.length) = xs.take o ++ (v :: r) ++ xs.drop (o + (v :: r).length) := by
      have h1 : (xs.set o v).take (o + 1) = xs.take o ++ [v] := by
        rw [List.take_succ_eq_append_getElem (by simp; omega), List.take_set_of_le (Nat.le_refl _)]; simp
      have h2 : (xs.set o v).drop (o + 1 + r.length) = xs.drop (o + (v :: r).length) := by
        rw [List.drop_set_of_lt (by omega)]; congr 1; simp; omega
      rw [h1, h2]; simp
    rw [e] at this
    exact this
theorem setCells_below {B g : Nat} (hg : B ≤ g) : ∀ (vs : List Value) (o : Nat) (a w : World), Below B a w → Below B a (w.setCells g o vs)
  | [], _, _, _, h => h
  | v :: r, o, a, w, h => setCells_below hg r (o + 1) a _ (h.setCell (p := ⟨g, o, none⟩) hg v)
theorem Row.range {w : World} {g : Nat} {t : TypeId} {xs : List Value} (h : Row w g t xs) : w.rangeAt g 0 xs := fun j v hv => by rw [Nat.zero_add]; exact h.cell j hv
theorem Row.there {w : World} {g : Nat} {t : TypeId} {xs : List Value} (h : Row w g t xs) {n : Nat} (hn : n ≤ xs.length) : w.there g 0 n := fun j hj => by
  rw [Nat.zero_add]
  refine ⟨?_, Blk.free h j⟩
  rw [h.cell j (List.getElem?_eq_getElem (by omega : j < xs.length))]; rfl

/-- the number behind k halvings, and its bit -/
theorem poly_bit (k : Nat) : ((poly.toNat / 2 ^ k : Nat) : Int) % 2 = if poly.getLsbD k then 1 else 0 := by
  have h : poly.getLsbD k = decide (poly.toNat / 2 ^ k % 2 = 1) := by rw [BitVec.getLsbD, Nat.testBit_eq_decide_div_mod_eq]
  rw [h]
  have := Nat.mod_two_eq_zero_or_one (poly.toNat / 2 ^ k)
  by_cases hx : poly.toNat / 2 ^ k % 2 = 1
  · rw [if_pos (by simpa using hx)]; omega
  · rw [if_neg (by simpa using hx)]; omega

set_option maxRecDepth 20000 in
theorem word_any (w : World) : Calls Try.prog 60 #[] w fun e w' => e = .returned (.agg (fc fun k => if poly.getLsbD k then 1 else 0).toArray) ∧ Below w.heap.size w w' := by
  go_enter Try.func60, Try.ntmps60
  go_wp2_with (fail)
  obtain ⟨W, hW, B1, B2, hb, hs⟩ := box2 w 94 94 (fc fun _ => 0).toArray (fc fun _ => 0).toArray
  have e0 : (fc fun _ => 0).toArray = Array.replicate 32 (Value.int .i64 0) := by rfl
  rw [e0] at hW
  first | rw [← hW] | (simp [Array.replicate] at hW; rw [← hW])
  clear hW e0
  go_loopw [1, 3] (fun p i wr => ∃ (k : Nat), k ≤ 32 ∧ i = .int .i64 k ∧ p = .int .i64 ((poly.toNat / 2 ^ k : Nat) : Int) ∧ Row wr (w.heap.size + 1) 94 (fc fun j => if j < k then (if poly.getLsbD j then 1 else 0) else 0) ∧ Blk wr w.heap.size 94 (fc fun _ => 0).toArray ∧ Below w.heap.size w wr)
    (fun _ i _ => 32 - (intOf i).toNat)
  case atStart => exact ⟨0, by omega, rfl, by rw [Nat.pow_zero, Nat.div_one]; rfl, B2, B1, hb⟩
  case round =>
    obtain ⟨k, hk, rfl, rfl, hR, hB, hbr⟩ := hrel
    obtain ⟨q, hq⟩ : ∃ q : Nat, q = poly.toNat / 2 ^ k := ⟨_, rfl⟩
    have Hbit : Hid ((q : Int) % 2 = if poly.getLsbD k then 1 else 0) := by show _ = _; rw [hq]; exact poly_bit k
    have Hnext : Hid (q / 2 = poly.toNat / 2 ^ (k + 1)) := by show _ = _; rw [hq, Nat.div_div_eq_div_mul, Nat.pow_succ]
    have hql : q < 4294967296 := by rw [hq]; exact Nat.lt_of_le_of_lt (Nat.div_le_self _ _) poly.isLt
    rw [← hq]
    clear hq
    by_cases hlt : k < 32
    · have hc := hR.cell k (fc_get _ k hlt)
      have hf : wr.frozen? ⟨w.heap.size + 1, k, none⟩ = false := Blk.free hR k
      have HR := Lib.hid (hR.put k (.int .i64 ((q : Int) % 2)))
      have HB := Lib.hid (hB.far (p := ⟨w.heap.size + 1, k, none⟩) (by simp) (.int .i64 ((q : Int) % 2)))
      have Hb := Lib.hid (hbr.setCell (p := ⟨w.heap.size + 1, k, none⟩) (by simp) (.int .i64 ((q : Int) % 2)))
      have e1 : ((fc fun j => if j < k then (if poly.getLsbD j then 1 else 0) else 0).set k (.int .i64 ((q : Int) % 2))) = fc fun j => if j < k + 1 then (if poly.getLsbD j then 1 else 0) else 0 := by
        rw [fc_set _ _ _ hlt]
        refine fc_congr fun j _ => ?_
        by_cases hj : j = k
        · rw [if_pos hj, if_pos (show j < k + 1 by omega), hj]; exact Hbit.out
        · rw [if_neg hj]; by_cases hjk : j < k
          · rw [if_pos hjk, if_pos (show j < k + 1 by omega)]
          · rw [if_neg hjk, if_neg (show ¬ j < k + 1 by omega)]
      have HR2 : Hid (Row (wr.setCell ⟨w.heap.size + 1, k, none⟩ (.int .i64 ((q : Int) % 2))) (w.heap.size + 1) 94 (fc fun j => if j < k + 1 then (if poly.getLsbD j then 1 else 0) else 0)) := by show Row _ _ _ _; rw [← e1]; exact HR.out
      clear e1
      clear hR hB hbr
      go_wp2
      go_roundw
      case rel => exact ⟨k + 1, by omega, by go_num, by rw [← Hnext.out]; rfl, HR2.out, HB.out, Hb.out⟩
      case measure => simp [intOf]; omega
    · obtain rfl : k = 32 := by omega
      have e1 : (fc fun j => if j < 32 then (if poly.getLsbD j then 1 else 0) else 0) = fc fun j => if poly.getLsbD j then 1 else 0 := fc_congr fun j hj => by rw [if_pos hj]
      rw [e1] at hR
      obtain ⟨xs, hxs⟩ : ∃ xs, xs = fc fun j => if poly.getLsbD j then 1 else 0 := ⟨_, rfl⟩
      rw [← hxs] at hR
      have hx1 : ∀ v ∈ xs, v.oneCell' = true := by rw [hxs]; exact fc_one _
      have hxl : xs.length = 32 := by rw [hxs]; exact fc_length _
      have HX := Lib.hid hxs
      clear hxs e1
      have hi : (Try.prog.info? 94).map (·.size) = some xs.length := by rw [hxl]; kernel_rfl
      have hi' : (Try.prog.info? 94).map (·.size) = some xs.toArray.size := by rw [hi]; simp
      go_upto_region 8 with fail
      refine wp_region_lit ?_
      refine wpList_load_mid rfl 94 _ rfl (w.heap.size + 1) 0 rfl xs _ (Row.range hR) Try.underlying94 rfl hi ?_
      simp only [Act.put, List.setIfInBounds_toArray, List.set_cons_zero, List.set_cons_succ]
      refine wpList_store_mid rfl 94 _ _ rfl w.heap.size 0 xs.toArray rfl rfl (Row.there (xs := fc fun _ => 0) hB (by simp [hxl, fc_length])) hi' (all_oneCell_toArray hx1) ?_
      simp only [Act.put, List.setIfInBounds_toArray, List.set_cons_zero, List.set_cons_succ, List.toList_toArray]
      have S := setCells_row xs (fc fun _ => 0) 0 wr hB (by rw [hxl, fc_length]; omega)
      have S2 := setCells_below (Nat.le_refl w.heap.size) xs 0 w wr hbr
      rw [List.take_zero, List.nil_append, List.drop_eq_nil_of_le (by rw [hxl, fc_length]; omega), List.append_nil] at S
      obtain ⟨W2, hW2⟩ : ∃ W2, W2 = wr.setCells w.heap.size 0 xs := ⟨_, rfl⟩
      rw [← hW2] at S S2 ⊢
      clear hW2 hR hB hbr
      refine wpList_nil ?_
      go_step
      go_step
      refine wp_ret ?_
      refine ⟨rfl, .agg xs.toArray, ?_, ?_, S2⟩
      · exact results_cell_row (p := 0) (ty := 94) rfl _ W2 w.heap.size 94 xs.toArray (0, 0) _ rfl S Try.underlying94 rfl hi'
      · rw [HX.out]
end Go.Proofs.Ytddilmocngedjaa
