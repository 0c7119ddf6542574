/- The law's parts: a text between slashes, by a row of one's own whose last element grows. -/
import Derived.Test.YtddilmocngedjaaDoorSplitM
import Derived.Test.YtddilmocngedjaaDoorPathQ
import Derived.Lib.LazyBuf
import Derived.Laws.OwnMore
import Derived.Shelf.RegionOpenPlain
namespace Go.Proofs.YtddilmocngedjaaDoor
set_option linter.unusedVariables false
set_option linter.unusedSimpArgs false
open Go Go.Proofs Go.RowKit Go.Lib
theorem segs_take_next {s : List UInt8} {k : Nat} (hk : k < s.length) : s.take (k + 1) = s.take k ++ [s.getD k 0] := by
  rw [List.take_add_one, List.getElem?_eq_getElem hk]
  simp [List.getD, List.getElem?_eq_getElem hk]
theorem segs_last (a : List UInt8) : ∃ init p, segs a = init ++ [p] := by
  have h := segs_ne a
  exact ⟨(segs a).dropLast, (segs a).getLast h, (List.dropLast_concat_getLast h).symm⟩
theorem strB_getD {s : List UInt8} {k : Nat} (h : k < (strB s).size) : (strB s)[k] = s.getD k 0 := by
  have h' : k < s.length := by simpa [strB_size] using h
  rw [show (strB s)[k] = s[k] from by simp [strB, ByteArray.getElem_eq_getElem_data]]
  simp [List.getD, List.getElem?_eq_getElem h']
set_option maxHeartbeats 4000000 in
set_option maxRecDepth 100000 in
theorem lparts_any (s : List UInt8) (hs : s.length ≤ 1000) (w : World) :
    Calls Tryd.prog 19 #[.string (strB s)] w fun e w' => ∃ v, e = .returned v ∧ Below w.heap.size w w' ∧ w'.ownsRow w.heap.size 9 1 v (segs s).length ((segs s).map encS) := by
  have mixed : Tryd.prog.follows .mixedOrders = true := by kernel_rfl
  have hz : (strB s).size = s.length := strB_size s
  obtain ⟨i0, hi, hz0, hz1, hz2⟩ := info_parts info_str
  have t22 := Tryd.underlying43
  go_enter Tryd.func19, Tryd.ntmps19
  go_wp2
  go_loopg [3, 4, 8] s.length (fun gg s3 _ s8 wr => ∃ k : Nat, s8 = .int .i64 (k : Int) ∧ k ≤ s.length ∧ s.length - k ≤ gg ∧ Hid (wr.ownsRow w.heap.size 9 1 s3 (segs (s.take k)).length ((segs (s.take k)).map encS) ∧ Below w.heap.size w wr))
  case atStart =>
    refine ⟨0, rfl, by omega, by omega, ⟨?_, (Below.refl _ w).alloc (Nat.le_refl _) _⟩⟩
    refine ⟨by simp, .inr ⟨w.heap.size, 1, _, rfl, Nat.le_refl _, World.alloc_heap_new w _, by simp [segs], by unfold maxLen; omega, by simp, ?_⟩⟩
    simp [segs, encS]
    try rfl
  case round =>
    obtain ⟨k, rfl, hk, hg, hI⟩ := hrel
    by_cases hlt : k < s.length
    · have hx : s[k]? = some (s.getD k 0) := by simp [List.getD, List.getElem?_eq_getElem hlt]
      by_cases hc : s.getD k 0 = 47
      · have hb : ((((strB s)[k]'(by omega)).toNat : Int) == 47) = true := by
          rw [strB_getD, hc]; rfl
        have hal := fun o => hI.out.1.alloc o
        go_wp2_with (at_builtin; refine wpList_append_own _ rfl _ _ 43 rfl w.heap.size 9 i0 (.string ⟨#[]⟩) 1 16 t22 hi hz0 hz1 hz2 rfl (by decide) _ (segs (s.take k)).length ((segs (s.take k)).map encS) rfl (hal _) ⟨wr.heap.size, 0, none⟩ 1 1 [.string ⟨#[]⟩] rfl ?qc1 ?qc2 ?qc3 ?qc4 ?qc5 ?qc6 ?_)
        case qc1 => rfl
        case qc2 =>
          intro j u hj
          match j, hj with
          | 0, hj =>
            obtain rfl : Value.string ⟨#[]⟩ = u := by simpa using hj
            simp [Addr.add]
          | j + 1, hj => simp at hj
        case qc3 => intro u hu; simp at hu; subst hu; rfl
        case qc4 => have := segs_len (s.take k); simp at this; unfold maxLen; omega
        case qc5 => have := segs_len (s.take k); simp at this; omega
        case qc6 => have := hI.out.2.size; simp; omega
        · intro v' w1 hown hgrow hnil
          have e : (segs (s.take k)).map encS ++ [.string ⟨#[]⟩] = (segs (s.take (k + 1))).map encS := by
            rw [segs_take_next hlt, hc, segs_snoc_slash, List.map_append]; rfl
          have e1 : (segs (s.take k)).length + 1 = (segs (s.take (k + 1))).length := by rw [segs_take_next hlt, hc, segs_snoc_slash]; simp
          rw [e, e1] at hown
          have HO := Lib.hid hown
          have HB : Hid (Below w.heap.size w w1) := (hI.out.2.alloc hI.out.2.size _).grown hgrow (by have := hI.out.2.size; simp; omega) (by intro q hq; exact (hI.out.1.lt q hq).1)
          clear hown hgrow hnil hal e e1
          go_wp2
          go_roundg (s.length - (k + 1))
          case measure => omega
          case rel => exact ⟨k + 1, by go_num, by omega, by omega, (⟨HO.out, HB.out⟩ : _)⟩
      · have hb : ((((strB s)[k]'(by omega)).toNat : Int) == 47) = false := by
          rw [strB_getD]
          have : (s.getD k 0).toNat ≠ 47 := fun h => hc (UInt8.toNat_inj.mp h)
          have h2 : ((s.getD k 0).toNat : Int) ≠ 47 := by omega
          simpa using h2
        obtain ⟨init, p, hp⟩ := segs_last (s.take k)
        have hp1 : segs (s.take (k + 1)) = init ++ [p ++ [s.getD k 0]] := by rw [segs_take_next hlt]; exact segs_snoc hc hp
        have hx2 : (strB s).extract k (k + 1) = strB [s.getD k 0] := by
          rw [strB_cut, segs_take_next hlt, List.drop_append_of_le_length (by simp; omega), List.drop_of_length_le (by simp; omega)]; rfl
        clear hx hc
        generalize s.getD k 0 = c at *
        have HI := hI
        rw [hp] at HI
        obtain ⟨A, cap, rfl, h7, hcap, hA⟩ := row_form HI.out.1
        obtain ⟨g, rfl⟩ := hA (by simp)
        obtain ⟨hg1, hg2⟩ := HI.out.1.lt g rfl
        have hn : (init ++ [p]).length = init.length + 1 := by simp
        rw [hn] at HI ⊢
        have ci : wr.cell? ⟨g, init.length, none⟩ = some (.string (strB p)) := by
          rw [World.ownsRow.cellAt HI.out.1 init.length (by omega)]; simp [encS]
        have fi := World.ownsRow.frozenAt HI.out.1 init.length
        have hz3 : (strB [c]).size = 1 := strB_size _
        have hz4 : (strB p).size = p.length := strB_size _
        have hz5 : p.length ≤ 1000 := by
          have h1 := segs_elem_len (s := s.take k) (p := p) (by rw [hp]; simp)
          simp at h1; omega
        have hx3 : strB p ++ strB [c] = strB (p ++ [c]) := by
          unfold strB; apply ByteArray.ext; simp
        have hs2 := HI.out.1.stored init.length (encS (p ++ [c]))
        have e : ((init ++ [p]).map encS).set init.length (encS (p ++ [c])) = (segs (s.take (k + 1))).map encS := by
          rw [hp1, List.map_append, List.map_append, List.set_append_right _ _ (by simp)]; simp
        have e1 : init.length + 1 = (segs (s.take (k + 1))).length := by rw [hp1]; simp
        rw [e, e1] at hs2
        have HO := Lib.hid hs2.1
        have HB : Hid (Below w.heap.size w (wr.setCell ⟨g, init.length, none⟩ (encS (p ++ [c])))) := HI.out.2.setCell (p := ⟨g, init.length, none⟩) hg1 _
        have HE := Lib.hid e1
        have h8 : init.length < cap := by omega
        clear hp1 hp hI e e1 hs2 HI hA h7 hn
        go_wp2_with fail
        go_region_o
        go_wp2
        go_roundg (s.length - (k + 1))
        case measure => omega
        case rel =>
          refine ⟨k + 1, by go_num, by omega, by omega, ?_⟩
          have h1 := HO.out
          rw [← HE.out] at h1 ⊢
          exact (⟨h1, HB.out.drew⟩ : _ ∧ _)
    · obtain rfl : k = s.length := by omega
      have HI := hI
      go_wp2
      go_ret
      rw [List.take_length] at HI
      exact ⟨_, rfl, HI.out.2, HI.out.1⟩
end Go.Proofs.YtddilmocngedjaaDoor
