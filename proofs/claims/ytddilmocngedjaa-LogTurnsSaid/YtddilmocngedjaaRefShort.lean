/- The contract of the reference's Short. -/
import Derived.Test.YtddilmocngedjaaShort
namespace Go.Proofs.Ytddilmocngedjaa
set_option linter.unusedVariables false
open Go.RowKit

theorem refShort_any (v : Int) (w : World) (h0 : 0 ≤ v) (h1 : v ≤ 18446744073709551615) :
    Calls Try.prog 57 #[.int .u64 v] w fun e w' => ∃ x, e = .returned x ∧ OwnB w' w.heap.size x (short v.toNat) ∧ Below w.heap.size w w' := by
  obtain ⟨i0, hi0, hz0, hz1, hz2⟩ := info_parts info_u8
  go_enter Try.func57, Try.ntmps57
  go_wp2
  go_loopw [0, 3] (fun n out wr => ∃ (m : Int) (l : List UInt8), 0 ≤ m ∧ m ≤ 18446744073709551615 ∧ n = .int .u64 m ∧ OwnB wr w.heap.size out l ∧ Hid (l ++ short m.toNat = short v.toNat) ∧ Below w.heap.size w wr)
    (fun n _ _ => (intOf n).toNat)
  case atStart => exact ⟨v, [], h0, h1, rfl, OwnB.nil _ _, (by rfl : [] ++ short v.toNat = short v.toNat), Below.refl _ _⟩
  case round =>
    obtain ⟨m, l, hm0, hm1, rfl, hown, hl, hb⟩ := hrel
    have hlv := short_len64 v.toNat (by omega)
    have hlp := short_pos m.toNat
    have hll : l.length + (short m.toNat).length ≤ 10 := by rw [← List.length_append, hl.out]; exact hlv
    by_cases hge : 128 ≤ m
    · have hb1 : Hid (bv (hi7 m.toNat) = .int .u8 (128 + m % 128)) := by
        show _ = _
        unfold bv hi7; rw [UInt8.toNat_ofNat']; congr 1; omega
      go_wp2_with (at_builtin; refine wpList_apB _ rfl _ _ rfl w.heap.size _ l rfl (hown.alloc _) (wr.heap.size + 1) _ 1 1 [hi7 m.toNat] rfl ?c1 rfl ?c2 ?c3 ?_)
      case c1 => rw [List.map_cons, List.map_nil, hb1.out]; exact Rd.one _ _ _
      case c2 => omega
      case c3 => have := hb.size; simp; omega
      intro v' w' hown' hg hb'
      have hb2 : Below w.heap.size w w' := (hb.alloc hb.size _).trans hb'
      clear hg hb' hown hb
      go_wp2
      go_roundw
      case rel =>
        refine ⟨m / 128, l ++ [hi7 m.toNat], by omega, by omega, by go_num, hown', ?_, hb2⟩
        have e : (m / 128).toNat = m.toNat / 128 := by omega
        have h2 := short_big m.toNat (by omega)
        show _ = _
        rw [e, ← hl.out, h2]; simp
      case measure => simp [intOf]; omega
    · have hb1 : Hid (bv (lo7 m.toNat) = .int .u8 m) := by
        show _ = _
        unfold bv; rw [← last_byte m hm0 (by omega)]; simp [IntKind.wrap_u8']; omega
      go_wp2_with (at_builtin; refine wpList_apB _ rfl _ _ rfl w.heap.size _ l rfl (hown.alloc _) (wr.heap.size + 1) _ 1 1 [lo7 m.toNat] rfl ?c1 rfl ?c2 ?c3 ?_)
      case c1 => rw [hb1.out]; exact Rd.one _ _ _
      case c2 => omega
      case c3 => have := hb.size; omega
      intro v' w' hown' hg hb'
      have hb2 : Below w.heap.size w w' := (hb.alloc hb.size _).trans hb'
      have hfin : Hid (l ++ [lo7 m.toNat] = short v.toNat) := by
        show _ = _
        rw [← hl.out, short_small m.toNat (by omega)]
      clear hg hb' hown hb
      go_wp2
      go_ret
      exact ⟨_, rfl, by rw [← hfin.out]; exact hown', hb2⟩
end Go.Proofs.Ytddilmocngedjaa
