/- The contracts of path.letter and path.part. -/
import Derived.Test.YtddilmocngedjaaDoorKit
import Derived.Test.YtddilmocngedjaaDoorPathP
import Derived.Lib.OthersKept
import Derived.Lib.Strings
namespace Go.Proofs.YtddilmocngedjaaDoor
set_option linter.unusedVariables false
set_option linter.unusedSimpArgs false
open Go.RowKit

def okRune (r : Int) : Bool := (decide (97 ≤ r) && decide (r ≤ 122)) || (decide (48 ≤ r) && decide (r ≤ 57)) || decide (r = 45) || decide (r = 95)
set_option maxHeartbeats 2000000 in
theorem letter_any (r : Int) (w : World) :
    Calls Tryd.prog 90 #[.int .i32 r] w fun e w' => e = .returned (.bool (okRune r)) ∧ w' = w := by
  go_enter Tryd.func90, Tryd.ntmps90
  go_wp2
  all_goals (go_ret; refine ⟨?_, rfl⟩; show Ending.returned (Value.bool _) = Ending.returned (Value.bool _); refine congrArg (fun b => Ending.returned (Value.bool b)) ?_; rw [Bool.eq_iff_iff]; simp [okRune]; try omega)

theorem okRune_byte (b : UInt8) : okRune (b.toNat : Int) = okLetter b := by
  unfold okRune okLetter
  have e1 : decide ((97 : Int) ≤ (b.toNat : Int)) = decide (97 ≤ b.toNat) := by rw [decide_eq_decide]; omega
  have e2 : decide ((b.toNat : Int) ≤ 122) = decide (b.toNat ≤ 122) := by rw [decide_eq_decide]; omega
  have e3 : decide ((48 : Int) ≤ (b.toNat : Int)) = decide (48 ≤ b.toNat) := by rw [decide_eq_decide]; omega
  have e4 : decide ((b.toNat : Int) ≤ 57) = decide (b.toNat ≤ 57) := by rw [decide_eq_decide]; omega
  have e5 : decide ((b.toNat : Int) = 45) = decide (b.toNat = 45) := by rw [decide_eq_decide]; omega
  have e6 : decide ((b.toNat : Int) = 95) = decide (b.toNat = 95) := by rw [decide_eq_decide]; omega
  rw [e1, e2, e3, e4, e5, e6]
theorem okRune_high (r : Int) (h : 128 ≤ r) : okRune r = false := by
  simp [okRune]; omega
theorem okLetter_high (b : UInt8) (h : 128 ≤ b.toNat) : okLetter b = false := by
  simp [okLetter]; omega
theorem data_at (s : ByteArray) (pos : Nat) (h : pos < s.size) : s.data.toList[pos]? = some (s[pos]'h) := by
  have : pos < s.data.size := h
  rw [List.getElem?_eq_getElem (by simpa using this)]
  rfl
set_option maxHeartbeats 4000000 in
set_option maxRecDepth 1000000 in
theorem part_any (s : ByteArray) (w : World) (hs : s.size ≤ 9223372036854775807) :
    Calls Tryd.prog 66 #[.string s] w fun e w' => e = .returned (.bool (okPart s.data.toList)) ∧ Below w.heap.size w w' := by
  go_enter Tryd.func66, Tryd.ntmps66
  go_wp2
  go_loopw [] (fun wr => ∃ (pos : Nat), wr.heap[w.heap.size]? = some (.stringIter s pos) ∧ Below w.heap.size w wr ∧ ((s.data.toList.take pos).all okLetter = true) ∧ pos ≤ s.size) (fun wr => s.size - wr.iterPos w.heap.size)
  case atStart =>
    refine ⟨0, World.iter_heap w s 0, (Below.refl _ w).alloc (Nat.le_refl _) _, by simp, by omega⟩
  case round =>
    obtain ⟨pos, hit, hbw, hall, hps⟩ := hrel
    by_cases hp : pos < s.size
    · have hd1 := decode_le s pos
      have hit2 := Lib.iterAt_heap wr w.heap.size s pos (pos + (Utf8.decode s pos).2) hit
      have hbw2 := Lib.below_iterAt hbw (k := w.heap.size) (by omega) s (pos + (Utf8.decode s pos).2)
      have hb := data_at s pos hp
      by_cases hlo : (s[pos]'hp).toNat < 128
      · have hnx : ∀ ty, (Instr.next (.pointer (some ⟨w.heap.size, 0, none⟩)) true ty).run Tryd.prog wr = _ := fun ty => Lib.run_next_ascii_at wr w.heap.size s pos ty hit hp hlo
        rw [decode_ascii s pos hp hlo] at hit2 hbw2
        obtain ⟨b, hbb⟩ : ∃ b, b = s[pos]'hp := ⟨_, rfl⟩
        rw [← hbb] at hnx hb hlo
        clear hbb
        have hkr := okRune_byte b
        by_cases hk : okLetter b = true
        · rw [hk] at hkr
          go_wp2_with (go_at_call 90; refine (letter_any _ _).mono ?_; rintro e w' ⟨rfl, rfl⟩; rw [hkr])
          go_roundw
          case rel =>
            refine ⟨pos + 1, hit2, hbw2, ?_, by omega⟩
            rw [List.take_add_one, hb]; simp [hall, hk]
          case measure =>
            simp only [World.iterPos, hit2, hit]
            omega
        · have hk' : okLetter b = false := by simpa using hk
          rw [hk'] at hkr
          go_wp2_with (go_at_call 90; refine (letter_any _ _).mono ?_; rintro e w' ⟨rfl, rfl⟩; rw [hkr])
          go_ret
          refine ⟨?_, hbw2⟩
          have : okPart s.data.toList = false := by
            unfold okPart
            rw [Bool.and_eq_false_iff]; right
            rw [List.all_eq_false]
            exact ⟨b, List.mem_of_getElem? hb, by simp [hk']⟩
          rw [this]; rfl
      · obtain ⟨h1, h2⟩ := decode_high s pos hp (by omega)
        have hnx : ∀ ty, (Instr.next (.pointer (some ⟨w.heap.size, 0, none⟩)) true ty).run Tryd.prog wr = _ := fun ty => Lib.run_next_any_at wr w.heap.size s pos ty hit hp
        obtain ⟨D, hD⟩ : ∃ D, D = Utf8.decode s pos := ⟨_, rfl⟩
        rw [← hD] at hnx hd1 hit2 hbw2 h1 h2
        clear hD
        have hkr := okRune_high (D.1 : Int) (by omega)
        go_wp2_with (go_at_call 90; refine (letter_any _ _).mono ?_; rintro e w' ⟨rfl, rfl⟩; rw [hkr])
        go_ret
        refine ⟨?_, hbw2⟩
        have : okPart s.data.toList = false := by
          unfold okPart
          rw [Bool.and_eq_false_iff]; right
          rw [List.all_eq_false]
          exact ⟨_, List.mem_of_getElem? hb, by simp [okLetter_high _ (show 128 ≤ (s[pos]'hp).toNat by omega)]⟩
        rw [this]; rfl
    · have hnx : ∀ ty, (Instr.next (.pointer (some ⟨w.heap.size, 0, none⟩)) true ty).run Tryd.prog wr = _ := fun ty => Lib.run_next_end_at wr w.heap.size s pos ty hit hp
      go_wp2
      go_ret
      refine ⟨?_, hbw⟩
      have he : okPart s.data.toList = !s.toList.isEmpty := by
        unfold okPart
        rw [Lib.toList_data]
        rw [List.take_of_length_le (by rw [← Lib.size_eq]; omega)] at hall
        rw [hall, Bool.and_true]
      rw [he]; rfl
end Go.Proofs.YtddilmocngedjaaDoor
