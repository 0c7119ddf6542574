/- Short numbers: the plain function, and the contract of num.Short. -/
import Derived.Test.YtddilmocngedjaaKit
import Derived.Laws.BitsAllLaws
namespace Go.Proofs.Ytddilmocngedjaa
set_option linter.unusedVariables false
open Go.RowKit

def hi7 (v : Nat) : UInt8 := UInt8.ofNat (128 + v % 128)
def lo7 (v : Nat) : UInt8 := UInt8.ofNat v
/-- A short number's bytes. -/
def short (v : Nat) : List UInt8 := if v < 128 then [lo7 v] else hi7 v :: short (v / 128)
termination_by v
decreasing_by omega

theorem short_small (v : Nat) (h : v < 128) : short v = [lo7 v] := by rw [short, if_pos h]
theorem short_big (v : Nat) (h : 128 ≤ v) : short v = hi7 v :: short (v / 128) := by rw [short, if_neg (by omega)]
theorem short_len (k : Nat) : ∀ v : Nat, v < 128 ^ (k + 1) → (short v).length ≤ k + 1 := by
  induction k with
  | zero => intro v h; rw [short_small v (by simpa using h)]; simp
  | succ k ih =>
    intro v h
    by_cases h1 : v < 128
    · rw [short_small v h1]; simp
    · rw [short_big v (by omega), List.length_cons]
      have := ih (v / 128) (by rw [Nat.div_lt_iff_lt_mul (by omega)]; rw [Nat.pow_succ] at h; exact h)
      omega
theorem pow10 : 18446744073709551616 ≤ 128 ^ (9 + 1) := by decide +kernel
theorem short_len64 (v : Nat) (h : v < 18446744073709551616) : (short v).length ≤ 10 := short_len 9 v (Nat.lt_of_lt_of_le h pow10)
theorem short_pos (v : Nat) : 0 < (short v).length := by
  by_cases h : v < 128
  · rw [short_small v h]; simp
  · rw [short_big v (by omega)]; simp

theorem or128 (n : Nat) (h : n < 256) : n ||| 128 = 128 + n % 128 := by
  have e := (by decide +kernel : ∀ m : Fin 256, m.val ||| 128 = 128 + m.val % 128) ⟨n, h⟩
  exact e
theorem short_byte (v : Int) (h0 : 0 ≤ v) : bits BinOp.or IntKind.u8 (IntKind.u8.wrap v) 128 = ((hi7 v.toNat).toNat : Int) := by
  unfold hi7
  rw [IntKind.wrap_u8', u8_or _ _ (by omega) (by omega) (by omega) (by omega)]
  have e1 : ((128 : Int)).toNat = 128 := rfl
  rw [e1, or128 _ (by omega)]
  have e2 : (v % 256).toNat % 128 = v.toNat % 128 := by omega
  rw [e2]
  simp only [UInt8.toNat_ofNat']
  omega
theorem last_byte (v : Int) (h0 : 0 ≤ v) (h1 : v < 128) : IntKind.u8.wrap v = ((lo7 v.toNat).toNat : Int) := by
  unfold lo7
  rw [IntKind.wrap_u8', UInt8.toNat_ofNat']; omega

theorem short_any (v : Int) (w : World) (h0 : 0 ≤ v) (h1 : v ≤ 18446744073709551615) :
    Calls Try.prog 50 #[.int .u64 v] w fun e w' => ∃ x, e = .returned x ∧ OwnB w' w.heap.size x (short v.toNat) ∧ Below w.heap.size w w' := by
  obtain ⟨i0, hi0, hz0, hz1, hz2⟩ := info_parts info_u8
  go_enter Try.func50, Try.ntmps50
  go_wp2
  go_loopw [0, 3] (fun n out wr => ∃ (m : Int) (l : List UInt8), 0 ≤ m ∧ m ≤ 18446744073709551615 ∧ n = .int .u64 m ∧ OwnB wr w.heap.size out l ∧ Hid (l ++ short m.toNat = short v.toNat) ∧ Below w.heap.size w wr)
    (fun n _ _ => (intOf n).toNat)
  case atStart => exact ⟨v, [], h0, h1, rfl, OwnB.nil _ _, (by rfl : [] ++ short v.toNat = short v.toNat), Below.refl _ _⟩
  case round =>
    obtain ⟨m, l, hm0, hm1, rfl, hown, hl, hb⟩ := hrel
    have hlv := short_len64 v.toNat (by omega)
    have hlp := short_pos m.toNat
    have hll : l.length + (short m.toNat).length ≤ 10 := by rw [← List.length_append, hl.out]; exact hlv
    by_cases hge : 128 ≤ m
    · have hb1 : Hid (bv (hi7 m.toNat) = .int .u8 (bits BinOp.or IntKind.u8 (m % 256) 128)) := by
        show _ = _
        unfold bv; rw [← short_byte m hm0, IntKind.wrap_u8']
      go_wp2_with (at_builtin; refine wpList_apB _ rfl _ _ rfl w.heap.size _ l rfl (hown.alloc _) (wr.heap.size + 1) _ 1 1 [hi7 m.toNat] rfl ?c1 rfl ?c2 ?c3 ?_)
      case c1 => rw [List.map_cons, List.map_nil, hb1.out]; exact Rd.one _ _ _
      case c2 => omega
      case c3 => have := hb.size; simp; omega
      intro v' w' hown' hg hb'
      have hb2 : Below w.heap.size w w' := (hb.alloc hb.size _).trans hb'
      clear hg hb' hown hb
      go_wp2
      go_roundw
      case rel =>
        refine ⟨m / 128, l ++ [hi7 m.toNat], by omega, by omega, by go_num, hown', ?_, hb2⟩
        have e : (m / 128).toNat = m.toNat / 128 := by omega
        have h2 := short_big m.toNat (by omega)
        show _ = _
        rw [e, ← hl.out, h2]; simp
      case measure => simp [intOf]; omega
    · have hb1 : Hid (bv (lo7 m.toNat) = .int .u8 m) := by
        show _ = _
        unfold bv; rw [← last_byte m hm0 (by omega)]; simp [IntKind.wrap_u8']; omega
      go_wp2_with (at_builtin; refine wpList_apB _ rfl _ _ rfl w.heap.size _ l rfl (hown.alloc _) (wr.heap.size + 1) _ 1 1 [lo7 m.toNat] rfl ?c1 rfl ?c2 ?c3 ?_)
      case c1 => rw [hb1.out]; exact Rd.one _ _ _
      case c2 => omega
      case c3 => have := hb.size; omega
      intro v' w' hown' hg hb'
      have hb2 : Below w.heap.size w w' := (hb.alloc hb.size _).trans hb'
      have hfin : Hid (l ++ [lo7 m.toNat] = short v.toNat) := by
        show _ = _
        rw [← hl.out, short_small m.toNat (by omega)]
      clear hg hb' hown hb
      go_wp2
      go_ret
      exact ⟨_, rfl, by rw [← hfin.out]; exact hown', hb2⟩
end Go.Proofs.Ytddilmocngedjaa
