/- path.Right, path.Parts and path.pattern, by hand: contracts of real worlds. -/
import Derived.Test.YtddilmocngedjaaDoorMtA
import Derived.Test.YtddilmocngedjaaDoorLaxPkPth
namespace Go.Proofs.YtddilmocngedjaaDoor
set_option linter.unusedVariables false
set_option linter.unusedSimpArgs false
open Go Go.Proofs Go.RowKit Go.Lib
theorem right_any (s : List UInt8) (hs : s.length ≤ 1000000) (w : World) :
    Calls Tryd.prog 69 #[.string (strB s)] w fun e w' => e = .returned (.bool (rightP s)) ∧ Below w.heap.size w w' := by
  refine (meetsRight.calls (vals [.str s]) #[.string (strB s)] w noGh noOwn 0 none _ ⟨.bool (rightP s), none, none⟩ rfl hs (vals_came rfl ?_) rfl (fun i s h => by cases h)).mono ?_
  · intro i v hv
    match i, hv with
    | 0, hv =>
      obtain rfl : AV.str s = v := by simpa using hv
      exact ⟨_, rfl, RepP.str s (by omega)⟩
    | i + 1, hv => simp at hv
  · rintro e w' ⟨GX, v, rfl, hB⟩
    refine ⟨?_, ⟨hB.pres.os, hB.pres.tape, hB.pres.output, hB.pres.size, fun b hb => hB.pres.block b hb rfl⟩⟩
    have hv : Rep _ (exitSt 0 none ⟨.bool (rightP s), none, none⟩) GX w' (.bool (rightP s)) v := hB.val
    rw [hv.inv_bool]
theorem row_base {W : World} {b b' e size k : Nat} {v : Value} {xs : List Value} (h : W.ownsRow b e size v k xs) (hb : b' ≤ b) : W.ownsRow b' e size v k xs := by
  obtain ⟨h1, h2⟩ := h
  refine ⟨h1, ?_⟩
  rcases h2 with h | ⟨g, cap, cur, h3, h4, h5⟩
  · exact .inl h
  · exact .inr ⟨g, cap, cur, h3, Nat.le_trans hb h4, h5⟩
set_option maxRecDepth 100000 in
theorem parts_any (s : List UInt8) (hs : s.length ≤ 1000000) (w : World) :
    Calls Tryd.prog 35 #[.string (strB s)] w fun e w' => ∃ v, e = .returned v ∧ Below w.heap.size w w' ∧ w'.ownsRow w.heap.size 9 1 v (partsV s).length ((partsV s).map encS) := by
  have HR := right_any s hs
  have HP := split_any s hs
  unfold partsV
  generalize rightP s = R at *
  go_enter Tryd.func35, Tryd.ntmps35
  go_wp2_with fail
  refine (HR _).mono ?_
  rintro e w1 ⟨rfl, hb⟩
  cases R with
  | false =>
    go_wp2
    go_ret
    exact ⟨_, rfl, hb, World.ownsRow_nil _ _ _ _⟩
  | true =>
    go_wp2_with fail
    refine (HP _).mono ?_
    rintro e w2 ⟨v, rfl, hb2, ho⟩
    go_wp2
    go_ret
    exact ⟨v, rfl, hb.trans (hb2.mono hb.size), row_base ho hb.size⟩
def okPat (p : List UInt8) : Bool := decide (p = [42]) || decide (p = [42, 42]) || okPart p
def patOk (s : List UInt8) : Bool := decide (s.length ≤ 64) && decide ((segs s).length ≤ 8) && (segs s).all okPat
def patV (s : List UInt8) : List (List UInt8) := if patOk s then segs s else []
theorem okPat_eq (p : List UInt8) : okPat p = (decide (p = [42]) || decide (p = [42, 42]) || okPart (strB p).data.toList) := by rw [strB_data]; rfl
set_option maxHeartbeats 4000000 in
set_option maxRecDepth 100000 in
theorem pattern_any (s : List UInt8) (hs : s.length ≤ 1000000) (w : World) :
    Calls Tryd.prog 33 #[.string (strB s)] w fun e w' => ∃ v, e = .returned (.tuple #[v, .bool (patOk s)]) ∧ Below w.heap.size w w' ∧ w'.ownsRow w.heap.size 9 1 v (patV s).length ((patV s).map encS) := by
  have HP := split_any s hs
  have hz : (strB s).size = s.length := strB_size s
  go_enter Tryd.func33, Tryd.ntmps33
  go_wp2_with fail
  refine (HP _).mono ?_
  rintro e w1 ⟨v, rfl, hb, ho⟩
  obtain ⟨A, cap, rfl, h7, hcap, hA⟩ := row_form ho
  have HO := Lib.hid ho
  clear ho HP
  by_cases h64 : s.length ≤ 64 ∧ (segs s).length ≤ 8
  · obtain ⟨g, rfl⟩ := hA (List.length_pos_iff.2 (segs_ne s))
    obtain ⟨hl1, hl2⟩ := h64
    have hz2 : (segs s).length ≤ cap := h7
    have HB := Lib.hid hb
    have hgl := (HO.out.lt g rfl).2
    clear hb hA h7
    go_wp2
    go_loopg [6, 19] (segs s).length (fun gg _ s19 wr => ∃ k : Nat, s19 = .int .i64 (k : Int) ∧ k ≤ (segs s).length ∧ (segs s).length - k ≤ gg ∧ Hid (Below w1.heap.size w1 wr) ∧ Hid (((segs s).take k).all okPat = true))
    case atStart => exact ⟨0, rfl, by omega, by omega, (Below.refl _ _ : _), (rfl : _)⟩
    case round =>
      obtain ⟨k, rfl, hk, hg, hB, hall⟩ := hrel
      by_cases hlt : k < (segs s).length
      · obtain ⟨x, hx⟩ : ∃ x, (segs s)[k]? = some x := ⟨_, List.getElem?_eq_getElem hlt⟩
        have hxl := segs_elem_len (List.mem_of_getElem? hx)
        have ci : wr.cell? ⟨g, k, none⟩ = some (.string (strB x)) := by
          rw [hB.out.cell (p := ⟨g, k, none⟩) hgl, World.ownsRow.cellAt HO.out k (by omega)]; simp [hx, encS]
        have HX := Lib.hid hx
        have HPt := part_any (strB x)
        have hzx : (strB x).size = x.length := strB_size x
        have hxd : (strB x).toList = x := by rw [Go.Lib.toList_data, strB_data]
        have next : okPat x = true → Hid (((segs s).take (k + 1)).all okPat = true) := by
          intro h
          show ((segs s).take (k + 1)).all okPat = true
          rw [List.take_add_one, HX.out, List.all_append, hall.out]; simp [h]
        clear hx
        go_wp2_with fail
        · rename_i h
          go_roundg ((segs s).length - (k + 1))
          case measure => omega
          case rel => exact ⟨k + 1, by go_num, by omega, by omega, hB, next (by unfold okPat; simp [h])⟩
        · rename_i h
          go_roundg ((segs s).length - (k + 1))
          case measure => omega
          case rel => exact ⟨k + 1, by go_num, by omega, by omega, hB, next (by unfold okPat; simp [h])⟩
        · rename_i h1 h2 K hK
          have HP2 := HPt wr (by omega)
          rw [strB_data] at HP2
          have okp : okPat x = okPart x := by unfold okPat; simp [h1, h2]
          rw [okp] at next
          have HN : okPart x = false → Hid (patOk s = false) := by
            intro h
            show patOk s = false
            have h3 : (segs s).all okPat = false := by
              rw [List.all_eq_false]
              exact ⟨x, List.mem_of_getElem? HX.out, by rw [okp, h]; simp⟩
            unfold patOk; simp [h3]
          clear okp
          generalize okPart x = B at *
          refine HP2.mono ?_
          rintro e w2 ⟨rfl, hb2⟩
          clear HP2 HPt
          cases B with
          | true =>
            have hn := next rfl
            clear HN next
            go_wp2
            go_roundg ((segs s).length - (k + 1))
            case measure => omega
            case rel => exact ⟨k + 1, by go_num, by omega, by omega, (hB.out.trans (hb2.mono hB.out.size) : _), hn⟩
          | false =>
            have hn := HN rfl
            clear HN next
            have q1 : (x == [42]) = false := by simpa using h1
            have q2 : (x == [42, 42]) = false := by simpa using h2
            go_wp2
            go_ret2
            have hv : patV s = [] := by unfold patV; rw [hn.out]; rfl
            rw [hn.out, hv]
            exact ⟨_, rfl, HB.out.trans ((hB.out.trans (hb2.mono hB.out.size)).mono HB.out.size), World.ownsRow_nil _ _ _ _⟩
      · obtain rfl : k = (segs s).length := by omega
        go_wp2
        go_ret2
        have ha := hall.out
        rw [List.take_length] at ha
        have hok : patOk s = true := by unfold patOk; simp [hl1, hl2, ha]
        have hv : patV s = segs s := by unfold patV; rw [if_pos hok]
        rw [hok, hv]
        exact ⟨_, rfl, HB.out.trans (hB.out.mono HB.out.size), row_below HO.out hB.out⟩
  · have hno : patOk s = false := by
      unfold patOk
      by_cases h1 : s.length ≤ 64
      · have h2 : ¬ (segs s).length ≤ 8 := fun h => h64 ⟨h1, h⟩
        simp [h2]
      · simp [h1]
    have hv : patV s = [] := by unfold patV; rw [hno]; rfl
    have HB := Lib.hid hb
    have HN := Lib.hid (And.intro hno hv)
    clear hno hv hb
    by_cases h1 : s.length ≤ 64
    · have h2 : ¬ (segs s).length ≤ 8 := fun h => h64 ⟨h1, h⟩
      go_wp2
      go_ret2
      rw [HN.out.1, HN.out.2]
      exact ⟨_, rfl, HB.out, World.ownsRow_nil _ _ _ _⟩
    · go_wp2
      go_ret2
      rw [HN.out.1, HN.out.2]
      exact ⟨_, rfl, HB.out, World.ownsRow_nil _ _ _ _⟩
end Go.Proofs.YtddilmocngedjaaDoor
