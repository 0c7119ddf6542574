/- The contract of moothillref02.Of. -/
import Derived.Test.YtddilmocngedjaaSumRef2
namespace Go.Proofs.Ytddilmocngedjaa
set_option linter.unusedVariables false
set_option linter.unusedSimpArgs false
open Go.RowKit

theorem fc_step (f f' : Nat → Int) (m : Nat) (h : m < 32) (v : Int) (hv : v = f m) : ((fc fun j => if j < m then f j else f' j).set m (.int .i64 v)) = fc fun j => if j < m + 1 then f j else f' j := by
  rw [fc_set _ _ _ h]
  refine fc_congr fun j _ => ?_
  by_cases hj : j = m
  · rw [if_pos hj, if_pos (show j < m + 1 by omega), hj]; exact hv
  · rw [if_neg hj]; by_cases hjk : j < m
    · rw [if_pos hjk, if_pos (show j < m + 1 by omega)]
    · rw [if_neg hjk, if_neg (show ¬ j < m + 1 by omega)]
theorem fc_start (f f' : Nat → Int) : (fc fun j => if j < 0 then f j else f' j) = fc f' := fc_congr fun j _ => by rw [if_neg (by omega)]
theorem fc_end (f f' : Nat → Int) {n : Nat} (h : ∀ j, n ≤ j → j < 32 → f j = f' j) : (fc fun j => if j < n then f j else f' j) = fc f := fc_congr fun j hj => by
  by_cases hn : j < n
  · rw [if_pos hn]
  · rw [if_neg hn]; exact (h j (by omega) hj).symm

set_option maxRecDepth 20000 in
set_option maxHeartbeats 8000000 in
theorem refOf_any (l : List UInt8) (N c B : Nat) (A : Option Addr) (w : World) (hN : N = l.length) (hr : Rd w B A (l.map bv)) (hB : B ≤ w.heap.size) (hN' : N ≤ 9223372036854775807) :
    Calls Try.prog 58 #[.slice A N c] w fun e w' => e = .returned (.int .u32 ((crc l).toNat : Int)) ∧ Below w.heap.size w w' := by
  have HN := Lib.hid hN
  clear hN
  go_enter Try.func58, Try.ntmps58
  go_wp2_with (fail)
  obtain ⟨W, hW, B1, hb, hs⟩ := box1 w 94 (fc fun _ => 0).toArray
  have e0 : (fc fun _ => 0).toArray = Array.replicate 32 (Value.int .i64 0) := by rfl
  rw [e0] at hW
  first | rw [← hW] | (simp [Array.replicate] at hW; rw [← hW])
  clear hW e0
  go_loopw [4] (fun i wr => ∃ (k : Nat), k ≤ 32 ∧ i = .int .i64 k ∧ Row wr w.heap.size 94 (fc fun j => if j < k then 1 else 0) ∧ Below w.heap.size w wr)
    (fun i _ => 32 - (intOf i).toNat)
  case atStart => exact ⟨0, by omega, rfl, B1, hb⟩
  case round =>
    obtain ⟨k, hk, rfl, hR, hbr⟩ := hrel
    by_cases hlt : k < 32
    · have hc := hR.cell k (fc_get _ k hlt)
      have hf : wr.frozen? ⟨w.heap.size, k, none⟩ = false := Blk.free hR k
      have HR := hR.put k (.int .i64 1)
      have Hb := Lib.hid (hbr.setCell (p := ⟨w.heap.size, k, none⟩) (Nat.le_refl _) (.int .i64 1))
      have e1 : ((fc fun j => if j < k then 1 else 0).set k (.int .i64 1)) = fc fun j => if j < k + 1 then 1 else 0 := by
        rw [fc_set _ _ _ hlt]
        refine fc_congr fun j _ => ?_
        by_cases hj : j = k
        · rw [if_pos hj, if_pos (show j < k + 1 by omega)]
        · rw [if_neg hj]; by_cases hjk : j < k
          · rw [if_pos hjk, if_pos (show j < k + 1 by omega)]
          · rw [if_neg hjk, if_neg (show ¬ j < k + 1 by omega)]
      rw [e1] at HR
      have HR2 := Lib.hid HR
      clear e1 hR hbr HR
      go_wp2
      go_roundw
      case rel => exact ⟨k + 1, by omega, by go_num, HR2.out, Hb.out⟩
      case measure => simp [intOf]; omega
    · obtain rfl : k = 32 := by omega
      go_upto_region 6 with fail
      refine wp_region_lit ?_
      go_step
      go_step
      refine (word_any _).mono ?_; rintro e w2 ⟨rfl, hb2⟩
      simp only []
      go_step
      go_step
      go_step
      have hb2' := bel_next hbr hb2
      obtain ⟨W3, hW3, P3, hb3, hb3', hs3⟩ := boxOn hb2' 94 (fc fun _ => 0).toArray
      have e0 : (fc fun _ => 0).toArray = Array.replicate 32 (Value.int .i64 0) := by rfl
      rw [e0] at hW3
      first | rw [← hW3] | (simp [Array.replicate] at hW3; rw [← hW3])
      clear hW3 e0
      have hR3 : Row W3 w.heap.size 94 (fc (bitI (BitVec.allOnes 32))) := by
        have e1 : (fc fun j => if j < 32 then 1 else 0) = fc (bitI (BitVec.allOnes 32)) := fc_congr fun j hj => by
          unfold bitI; rw [BitVec.getLsbD_allOnes]; simp [hj]
        rw [← e1]
        exact (Blk.below hR hb2 (Blk.lt hR)).below hb3 (Nat.lt_of_lt_of_le (Blk.lt hR) hb2.size)
      obtain ⟨xs, hxs⟩ : ∃ xs, xs = fc (bitI poly) := ⟨_, rfl⟩
      have hx0 : (fc fun k => if poly.getLsbD k = true then 1 else 0) = xs := hxs.symm
      rw [hx0]
      have hx1 : ∀ v ∈ xs, v.oneCell' = true := by rw [hxs]; exact fc_one _
      have hxl : xs.length = 32 := by rw [hxs]; exact fc_length _
      have HX := Lib.hid hxs
      have hi' : (Try.prog.info? 94).map (·.size) = some xs.toArray.size := by rw [List.size_toArray, hxl]; kernel_rfl
      clear hxs hx0
      go_step
      refine wpList_store_mid rfl 94 _ _ rfl w2.heap.size 0 xs.toArray rfl rfl (Row.there (xs := fc fun _ => 0) P3 (by simp [hxl, fc_length])) hi' (all_oneCell_toArray hx1) ?_
      simp only [Act.put, List.setIfInBounds_toArray, List.set_cons_zero, List.set_cons_succ, List.toList_toArray]
      have S := setCells_row xs (fc fun _ => 0) 0 W3 P3 (by rw [hxl, fc_length]; omega)
      rw [List.take_zero, List.nil_append, List.drop_eq_nil_of_le (by rw [hxl, fc_length]; omega), List.append_nil] at S
      have S2 := setCells_below hb2'.size xs 0 w W3 hb3'
      have S3 : Row (W3.setCells w2.heap.size 0 xs) w.heap.size 94 (fc (bitI (BitVec.allOnes 32))) :=
        Blk.below (B := w2.heap.size) hR3 (setCells_below (Nat.le_refl _) xs 0 W3 W3 (Below.refl _ _)) (Nat.lt_of_lt_of_le (Blk.lt hR) hb2.size)
      obtain ⟨W4, hW4⟩ : ∃ W4, W4 = W3.setCells w2.heap.size 0 xs := ⟨_, rfl⟩
      rw [← hW4] at S S2 S3 ⊢
      have hgne : w.heap.size < w2.heap.size := Nat.lt_of_lt_of_le (Blk.lt hR) hb2.size
      rw [HX.out] at S
      obtain ⟨g, hg⟩ : ∃ g, g = w.heap.size := ⟨_, rfl⟩
      obtain ⟨p, hp⟩ : ∃ p, p = w2.heap.size := ⟨_, rfl⟩
      have hgp : g < p := by omega
      have hgB : B ≤ g := by omega
      rw [← hg] at S3
      rw [← hp] at S
      rw [← hg, ← hp]
      have HG := Lib.hid hg
      clear hW4 hR3 P3 hb3 hb3' hs3 hb2' hb2 hR hbr hi' hx1 hxl HX hgne hg hp
      refine wpList_nil ?_
      go_upto_region 8 with fail
      go_loopw [6] (fun i wr => ∃ (k : Nat) (y : BitVec 32), k ≤ N ∧ i = .int .i64 k ∧ Hid (y = crcFrom (BitVec.allOnes 32) (l.take k)) ∧ Row wr g 94 (fc (bitI y)) ∧ Row wr p 94 (fc (bitI poly)) ∧ Below w.heap.size w wr)
        (fun i _ => N - (intOf i).toNat)
      case atStart => exact ⟨0, BitVec.allOnes 32, by omega, rfl, (rfl : _ = _), S3, S, S2⟩
      case round =>
        obtain ⟨k, y, hk, rfl, hy, hR, hP, hbr⟩ := hrel
        by_cases hlt : k < N
        · obtain ⟨b2, off2, rfl, hbb2, hcell2⟩ := (hr.below hbr hB).open_ (by rw [List.length_map, ← HN.out]; omega)
          have hkl : k < l.length := by rw [← HN.out]; exact hlt
          have hc2 : wr.cell? ⟨b2, off2 + k, none⟩ = some (.int .u8 (l[k].toNat : Int)) := by rw [hcell2 k (by simpa using hkl), List.getElem_map]; rfl
          obtain ⟨x, hx⟩ : ∃ x, x = l[k] := ⟨_, rfl⟩
          rw [← hx] at hc2
          have HZ : Hid (cstep y x = crcFrom (BitVec.allOnes 32) (l.take (k + 1))) := by
            show _ = _
            rw [List.take_succ_eq_append_getElem hkl, crcFrom_append, ← hy.out, hx]; rfl
          have hx8 := x.toNat_lt
          clear hcell2 hx hkl hy
          go_upto_region 12 with fail
          obtain ⟨y', hy'⟩ : ∃ y', y' = y ^^^ BitVec.ofNat 32 x.toNat := ⟨_, rfl⟩
          have HZ' : Hid (cbits 8 y' = crcFrom (BitVec.allOnes 32) (l.take (k + 1))) := by show _ = _; rw [hy']; exact HZ.out
          have HB : Hid (∀ m, m < 32 → (bitI y m + ((x.toNat / 2 ^ m : Nat) : Int)) % 2 = bitI y' m) := by intro m hm; rw [hy']; exact bit_xor y x m hm
          have HT : Hid (∀ j, 8 ≤ j → j < 32 → bitI y' j = bitI y j) := by intro j hj _; rw [hy']; exact bit_high y x j hj
          clear hy' HZ
          go_loopw [7, 8] (fun q i wx => ∃ (m : Nat), m ≤ 8 ∧ i = .int .i64 m ∧ q = .int .i64 ((x.toNat / 2 ^ m : Nat) : Int) ∧ Row wx g 94 (fc fun j => if j < m then bitI y' j else bitI y j) ∧ Row wx p 94 (fc (bitI poly)) ∧ Below w.heap.size w wx)
            (fun _ i _ => 8 - (intOf i).toNat)
          case atStart => exact ⟨0, by omega, rfl, by rw [Nat.pow_zero, Nat.div_one], by rw [fc_start]; exact hR, hP, hbr⟩
          case round =>
            obtain ⟨m, hm, rfl, rfl, hR2, hP2, hbr2⟩ := hrel
            by_cases hmt : m < 8
            · obtain ⟨q, hq⟩ : ∃ q : Nat, q = x.toNat / 2 ^ m := ⟨_, rfl⟩
              have Hnext : Hid (q / 2 = x.toNat / 2 ^ (m + 1)) := by show _ = _; rw [hq, Nat.div_div_eq_div_mul, Nat.pow_succ]
              have hql : q < 256 := by rw [hq]; exact Nat.lt_of_le_of_lt (Nat.div_le_self _ _) hx8
              have hbit := HB.out m (by omega)
              rw [← hq] at hbit ⊢
              have h01 := bitI_range y m
              have hc3 := hR2.cell m (fc_get _ m (by omega))
              rw [if_neg (Nat.lt_irrefl m)] at hc3
              obtain ⟨t, ht⟩ : ∃ t : Nat, bitI y m = t := ⟨(bitI y m).toNat, by omega⟩
              rw [ht] at hc3 hbit h01
              obtain ⟨v, hv⟩ : ∃ v, v = bitI y' m := ⟨_, rfl⟩
              rw [← hv] at hbit
              have hbit2 : ((t : Int) + (q : Int)).tmod 2 = v := by rw [Int.tmod_eq_emod_of_nonneg (by omega)]; exact hbit
              have hf : wr.frozen? ⟨g, m, none⟩ = false := Blk.free hR2 m
              have HR := hR2.put m (.int .i64 v)
              rw [fc_step _ _ m (by omega) v hv] at HR
              have HR3 := Lib.hid HR
              have HP3 := Lib.hid (Blk.far hP2 (p := ⟨g, m, none⟩) (by simp; omega) (.int .i64 v))
              have Hb3 := Lib.hid (hbr2.setCell (p := ⟨g, m, none⟩) (by simp; rw [HG.out]; exact Nat.le_refl _) (.int .i64 v))
              clear hR2 hP2 hbr2 HR hq ht hv
              go_wp2
              go_roundw
              case rel => exact ⟨m + 1, by omega, by go_num, by rw [← Hnext.out]; rfl, HR3.out, HP3.out, Hb3.out⟩
              case measure => simp [intOf]; omega
            · obtain rfl : m = 8 := by omega
              rw [fc_end _ _ HT.out] at hR2
              go_upto_region 17 with fail
              go_loopw [9] (fun i wx => ∃ (m : Nat), m ≤ 8 ∧ i = .int .i64 m ∧ Row wx g 94 (fc (bitI (cbits m y'))) ∧ Row wx p 94 (fc (bitI poly)) ∧ Below w.heap.size w wx)
                (fun i _ => 8 - (intOf i).toNat)
              case atStart => exact ⟨0, by omega, rfl, hR2, hP2, hbr2⟩
              case round =>
                clear hR2 hP2 hbr2
                obtain ⟨m, hm, rfl, hR2, hP2, hbr2⟩ := hrel
                by_cases hmt : m < 8
                · obtain ⟨z, hz⟩ : ∃ z, z = cbits m y' := ⟨_, rfl⟩
                  have Hz : Hid (cbit z = cbits (m + 1) y') := by show _ = _; rw [hz]; rfl
                  rw [← hz] at hR2
                  clear hz
                  have hc0 := hR2.cell 0 (fc_get _ 0 (by omega))
                  have h01 := bitI_range z 0
                  obtain ⟨o, ho⟩ : ∃ o : Nat, bitI z 0 = o := ⟨(bitI z 0).toNat, by omega⟩
                  have HO := Lib.hid ho
                  rw [ho] at hc0 h01
                  clear ho
                  go_upto_region 21 with fail
                  go_loopw [11] (fun i wx => ∃ (j : Nat), j ≤ 31 ∧ i = .int .i64 j ∧ Row wx g 94 (fc fun a => if a < j then bitI (z >>> 1) a else bitI z a) ∧ Row wx p 94 (fc (bitI poly)) ∧ Below w.heap.size w wx)
                    (fun i _ => 31 - (intOf i).toNat)
                  case atStart => exact ⟨0, by omega, rfl, by rw [fc_start]; exact hR2, hP2, hbr2⟩
                  case round =>
                    clear hR2 hP2 hbr2 hc0
                    obtain ⟨j, hj, rfl, hR2, hP2, hbr2⟩ := hrel
                    by_cases hjt : j < 31
                    · have hc3 := hR2.cell (j + 1) (fc_get _ (j + 1) (by omega))
                      rw [if_neg (show ¬ j + 1 < j by omega), ← bit_shift] at hc3
                      obtain ⟨v, hv⟩ : ∃ v, v = bitI (z >>> 1) j := ⟨_, rfl⟩
                      rw [← hv] at hc3
                      have hc4 := hR2.cell j (fc_get _ j (by omega))
                      have hf : wr.frozen? ⟨g, j, none⟩ = false := Blk.free hR2 j
                      have HR := hR2.put j (.int .i64 v)
                      rw [fc_step _ _ j (by omega) v hv] at HR
                      have HR3 := Lib.hid HR
                      have HP3 := Lib.hid (Blk.far hP2 (p := ⟨g, j, none⟩) (by simp; omega) (.int .i64 v))
                      have Hb3 := Lib.hid (hbr2.setCell (p := ⟨g, j, none⟩) (by simp; rw [HG.out]; exact Nat.le_refl _) (.int .i64 v))
                      clear hR2 hP2 hbr2 HR hv
                      go_wp2
                      go_roundw
                      case rel => exact ⟨j + 1, by omega, by go_num, HR3.out, HP3.out, Hb3.out⟩
                      case measure => simp [intOf]; omega
                    · obtain rfl : j = 31 := by omega
                      have hc4 := hR2.cell 31 (fc_get _ 31 (by omega))
                      have hf : wr.frozen? ⟨g, 31, none⟩ = false := Blk.free hR2 31
                      have HR := hR2.put 31 (.int .i64 0)
                      rw [fc_step _ _ 31 (by omega) 0 (by rw [bit_shift, bit_top _ _ (Nat.le_refl _)]), fc_end _ _ (fun a h h' => by omega)] at HR
                      have HR3 := Lib.hid HR
                      have HP3 := Lib.hid (Blk.far hP2 (p := ⟨g, 31, none⟩) (by simp; omega) (.int .i64 0))
                      have Hb3 := Lib.hid (hbr2.setCell (p := ⟨g, 31, none⟩) (by simp; rw [HG.out]; exact Nat.le_refl _) (.int .i64 0))
                      clear hR2 hP2 hbr2 HR
                      go_upto_region 26 with fail
                      go_loopw [12] (fun i wx => ∃ (j : Nat), j ≤ 32 ∧ i = .int .i64 j ∧ Row wx g 94 (fc fun a => if a < j then bitI (cbit z) a else bitI (z >>> 1) a) ∧ Row wx p 94 (fc (bitI poly)) ∧ Below w.heap.size w wx)
                        (fun i _ => 32 - (intOf i).toNat)
                      case atStart => exact ⟨0, by omega, rfl, by rw [fc_start]; exact HR3.out, HP3.out, Hb3.out⟩
                      case round =>
                        clear HR3 HP3 Hb3 hc4 hf
                        obtain ⟨j, hj, rfl, hR2, hP2, hbr2⟩ := hrel
                        by_cases hjt : j < 32
                        · have hcs := hR2.cell j (fc_get _ j hjt)
                          rw [if_neg (Nat.lt_irrefl j)] at hcs
                          have hcp := hP2.cell j (fc_get _ j hjt)
                          have hv0 := bit_cbit z j
                          have r1 := bitI_range (z >>> 1) j
                          have r2 := bitI_range poly j
                          obtain ⟨t, ht⟩ : ∃ t : Nat, bitI (z >>> 1) j = t := ⟨(bitI (z >>> 1) j).toNat, by omega⟩
                          obtain ⟨u, hu⟩ : ∃ u : Nat, bitI poly j = u := ⟨(bitI poly j).toNat, by omega⟩
                          obtain ⟨v, hv⟩ : ∃ v, v = bitI (cbit z) j := ⟨_, rfl⟩
                          rw [ht] at hcs hv0 r1
                          rw [hu] at hcp hv0 r2
                          rw [HO.out, ← hv] at hv0
                          obtain ⟨e, he⟩ : ∃ e : Nat, (o : Int) * (u : Int) = e := ⟨o * u, by simp⟩
                          have re : e ≤ 1 := by
                            have h1 : o = 0 ∨ o = 1 := by omega
                            rcases h1 with h1 | h1
                            · subst h1; simp at he; omega
                            · subst h1; simp at he; omega
                          rw [he] at hv0
                          have hv1 : ((t : Int) + (e : Int)).tmod 2 = v := by rw [Int.tmod_eq_emod_of_nonneg (by omega)]; exact hv0
                          have hf : wr.frozen? ⟨g, j, none⟩ = false := Blk.free hR2 j
                          have HR := hR2.put j (.int .i64 v)
                          rw [fc_step _ _ j hjt v hv] at HR
                          have HR3 := Lib.hid HR
                          have HP3 := Lib.hid (Blk.far hP2 (p := ⟨g, j, none⟩) (by simp; omega) (.int .i64 v))
                          have Hb3 := Lib.hid (hbr2.setCell (p := ⟨g, j, none⟩) (by simp; rw [HG.out]; exact Nat.le_refl _) (.int .i64 v))
                          clear hR2 hP2 hbr2 HR hv ht hu
                          go_wp2
                          go_region
                          go_wp2
                          go_roundw
                          case rel => exact ⟨j + 1, by omega, by go_num, HR3.out, HP3.out, (by first | exact Hb3.out | exact Hb3.out.drew | exact (Hb3.out).drewN 1)⟩
                          case measure => simp [intOf]; omega
                        · obtain rfl : j = 32 := by omega
                          rw [fc_end _ _ (fun a h h' => by omega)] at hR2
                          rw [Hz.out] at hR2
                          go_wp2
                          go_roundw
                          case rel => exact ⟨m + 1, by omega, by go_num, hR2, hP2, hbr2⟩
                          case measure => simp [intOf]; omega
                · obtain rfl : m = 8 := by omega
                  rw [HZ'.out] at hR2
                  go_wp2
                  go_roundw
                  case rel => exact ⟨k + 1, _, by omega, by go_num, (rfl : _ = _), hR2, hP2, hbr2⟩
                  case measure => simp [intOf]; omega
        · obtain rfl : N = k := by omega
          have HC : Hid (~~~ y = crc l) := by show _ = _; rw [hy.out, HN.out, List.take_length]; rfl
          have hn0 : (~~~ y).toNat / 2 ^ 32 = 0 := Nat.div_eq_of_lt (~~~ y).isLt
          go_upto_region 31 with fail
          go_loopw [13, 14] (fun v i wx => ∃ (m : Nat), m ≤ 32 ∧ i = .int .i64 ((m : Int) - 1) ∧ v = .int .u32 (((~~~ y).toNat / 2 ^ m : Nat) : Int) ∧ Row wx g 94 (fc (bitI y)) ∧ Below w.heap.size w wx)
            (fun _ i _ => (intOf i + 1).toNat)
          case atStart => exact ⟨32, by omega, rfl, by rw [hn0]; rfl, hR, hbr⟩
          case round =>
            clear hR hP hbr
            obtain ⟨m, hm, rfl, rfl, hR, hbr⟩ := hrel
            cases m with
            | zero =>
              rw [Nat.pow_zero, Nat.div_one, HC.out]
              have ez : (((0 : Nat) : Int) - 1) = -1 := rfl
              rw [ez]
              clear ez
              go_wp2
              go_ret
              exact ⟨rfl, hbr⟩
            | succ m =>
              have hnot := bit_not y m (by omega)
              have r1 := bitI_range y m
              have hc3 := hR.cell m (fc_get _ m (by omega))
              obtain ⟨t, ht⟩ : ∃ t : Nat, bitI y m = t := ⟨(bitI y m).toNat, by omega⟩
              obtain ⟨q, hq⟩ : ∃ q, q = (~~~ y).toNat / 2 ^ (m + 1) := ⟨_, rfl⟩
              obtain ⟨q', hq'⟩ : ∃ q', q' = (~~~ y).toNat / 2 ^ m := ⟨_, rfl⟩
              have hql : q' < 4294967296 := by rw [hq']; exact Nat.lt_of_le_of_lt (Nat.div_le_self _ _) (~~~ y).isLt
              have HQ := Lib.hid hq'
              rw [ht] at hc3 hnot r1
              rw [← hq, ← hq'] at hnot
              rw [← hq]
              have ei : (((m + 1 : Nat) : Int) - 1) = (m : Int) := by omega
              rw [ei]
              clear ei hq hq' ht
              go_wp2
              go_roundw
              case rel => exact ⟨m, by omega, by go_num, by rw [← HQ.out], hR, hbr⟩
              case measure => simp [intOf]
end Go.Proofs.Ytddilmocngedjaa
