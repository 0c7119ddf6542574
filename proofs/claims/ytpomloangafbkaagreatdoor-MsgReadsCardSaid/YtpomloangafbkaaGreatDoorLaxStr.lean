/- The library's numbers and texts, by content: Itoa, Atoi, Cut. -/
import Derived.Test.YtpomloangafbkaaGreatDoorLaxLibT
import Derived.Test.YtpomloangafbkaaGreatDoorLaxArgs
import Derived.Test.YtpomloangafbkaaGreatDoorShelf
import Derived.Lib.AppendIntMem
namespace Go.Proofs.YtpomloangafbkaaGreatDoor
set_option linter.unusedVariables false
set_option linter.unusedSimpArgs false
open Go.RowKit

theorem decDigits_len : ∀ (k n : Nat), n < 10 ^ k → (Lib.decDigits n).length ≤ k + 1 := by
  intro k
  induction k with
  | zero =>
    intro n h
    have : n = 0 := by omega
    subst this
    unfold Lib.decDigits; simp
  | succ k ih =>
    intro n h
    unfold Lib.decDigits
    split
    · simp
    · have := ih (n / 10) (by rw [Nat.pow_succ] at h; omega)
      simp; omega
theorem itoa_len (n : Int) (h0 : -9223372036854775808 ≤ n) (h1 : n ≤ 9223372036854775807) : (Lib.itoa n).length ≤ 22 := by
  unfold Lib.itoa
  split
  · have := decDigits_len 19 n.natAbs (by omega)
    simp; omega
  · have := decDigits_len 19 n.toNat (by omega)
    omega
def itoaF : Con
  | [.val (.int .i64 n)] => some (True, ⟨.str (Lib.itoa n), none, none⟩)
  | _ => none
theorem meetsItoa : Meets Tryz.prog 50 itoaF := by
  refine meets_plainT Tryz.call50 ?_
  intro args q r hF hq
  unfold itoaF at hF
  split at hF
  · rename_i n
    cases hF
    refine ⟨[.int .i64 n], rfl, rfl, fun x hx => (by simp at hx; subst hx; rfl), rfl, rfl, rfl, ?_⟩
    intro us w S ht hs h
    obtain ⟨o, ob, ht⟩ := ht
    obtain ⟨u, rfl, hu⟩ := one_arg hs h
    obtain ⟨rfl, h0, h1⟩ := repV_i64 hu
    refine (Tryz.strconv_Itoa n h0 h1 w ht.facts.pow).mono ?_
    rintro e w' ⟨rfl, k, os, rfl⟩
    have := itoa_len n h0 h1
    exact ⟨_, rfl, Lib.below_grow _ _ (Nat.le_refl _) _ _, (RepP.str _ (by omega) : RepP _ _ _ _)⟩
  · cases hF
def cutSF : Con
  | [.val (.str s), .val (.str sep)] => some (s.length < 4294967281, ⟨.tup [.str (Lib.cut s sep).1, .str (Lib.cut s sep).2.1, .bool (Lib.cut s sep).2.2], none, none⟩)
  | _ => none
def atoiV (s : List UInt8) : Int := match Lib.atoiAll s with
  | .ok v => v
  | .range => Lib.atoiSat s
  | _ => 0
def atoiF : Con
  | [.val (.str s)] => some (s.length ≤ 281474976710656, ⟨.tup [.int .i64 (atoiV s), .any], none, none⟩)
  | _ => none
theorem cut_len (s sep : List UInt8) : (Lib.cut s sep).1.length ≤ s.length ∧ (Lib.cut s sep).2.1.length ≤ s.length := by
  unfold Lib.cut
  split
  · simp; omega
  · simp
theorem atoiV_range (s : List UInt8) : -9223372036854775808 ≤ atoiV s ∧ atoiV s ≤ 9223372036854775807 := by
  unfold atoiV
  split
  · rename_i v h; exact Lib.atoiAll_bounds h
  · unfold Lib.atoiSat; split <;> omega
  · omega
theorem meetsCutS : Meets Tryz.prog 54 cutSF := by
  refine meets_plainT Tryz.call54 ?_
  intro args q r hF hq
  unfold cutSF at hF
  split at hF
  · rename_i s sep
    cases hF
    refine ⟨[.str s, .str sep], rfl, rfl, fun x hx => (by simp at hx; rcases hx with rfl | rfl <;> rfl), rfl, rfl, rfl, ?_⟩
    intro us w S ht hs h
    obtain ⟨o, ob, ht⟩ := ht
    obtain ⟨u, u', rfl, hu, hu'⟩ := two_args hs h
    obtain ⟨rfl, h0⟩ := repV_str hu
    obtain ⟨rfl, h0'⟩ := repV_str hu'
    obtain ⟨m, hm⟩ := ht.facts.max 1 (by kernel_rfl)
    refine (Tryz.strings_Cut ⟨s.toArray⟩ ⟨sep.toArray⟩ m w (by simpa [ByteArray.size] using hq) hm).mono ?_
    rintro e w' ⟨rfl, n, rfl⟩
    have hl := cut_len s sep
    refine ⟨_, rfl, ⟨rfl, rfl, rfl, Nat.le_refl _, fun _ _ => rfl⟩, _, rfl, rfl, fun i c hc => ?_⟩
    match i, hc with
    | 0, hc => simp at hc; subst hc; exact ⟨_, rfl, (RepP.str _ (by omega) : RepP _ _ _ _)⟩
    | 1, hc => simp at hc; subst hc; exact ⟨_, rfl, (RepP.str _ (by omega) : RepP _ _ _ _)⟩
    | 2, hc => simp at hc; subst hc; exact ⟨_, rfl, (RepP.bool _ : RepP _ _ _ _)⟩
    | i + 3, hc => simp at hc
  · cases hF
theorem atoi_rep {w : World} {S : Nat → Nat → Prop} {n : Int} {v : Value} (h : -9223372036854775808 ≤ n ∧ n ≤ 9223372036854775807) : RepV w S (.tup [.int .i64 n, .any]) (.tuple #[.int .i64 n, v]) := by
  have := k_i64
  refine ⟨_, rfl, rfl, fun i c hc => ?_⟩
  match i, hc with
  | 0, hc => simp at hc; subst hc; exact ⟨_, rfl, (RepP.int _ _ (by omega) (by omega) : RepP w S _ _)⟩
  | 1, hc => simp at hc; subst hc; exact ⟨_, rfl, (RepP.any _ : RepP w S _ _)⟩
  | i + 2, hc => simp at hc
theorem meetsAtoi : Meets Tryz.prog 55 atoiF := by
  refine meets_plainT Tryz.call55 ?_
  intro args q r hF hq
  unfold atoiF at hF
  split at hF
  · rename_i s
    cases hF
    refine ⟨[.str s], rfl, rfl, fun x hx => (by simp at hx; subst hx; rfl), rfl, rfl, rfl, ?_⟩
    intro us w S ht hs h
    obtain ⟨o, ob, ht⟩ := ht
    obtain ⟨u, rfl, hu⟩ := one_arg hs h
    obtain ⟨rfl, h0⟩ := repV_str hu
    have hr := atoiV_range s
    have hsz : (⟨s.toArray⟩ : ByteArray).size = s.length := by simp [ByteArray.size]
    obtain ⟨ev, hv, hev⟩ := ht.facts.syn 2 (by kernel_rfl)
    obtain ⟨ev', hv', hev'⟩ := ht.facts.rng 3 (by kernel_rfl)
    have go : ∀ (e : Ending) (w' : World), (∃ x, e = .returned (.tuple #[.int .i64 (atoiV s), x])) ∧ Below w.heap.size w w' → ∃ v, e = .returned v ∧ Below w.heap.size w w' ∧ RepV w' (More S w) (.tup [.int .i64 (atoiV s), .any]) v := by
      rintro e w' ⟨⟨x, rfl⟩, hb⟩
      exact ⟨_, rfl, hb, atoi_rep hr⟩
    refine Calls.mono (R := fun e w' => (∃ x, e = .returned (.tuple #[.int .i64 (atoiV s), x])) ∧ Below w.heap.size w w') ?_ go
    clear go
    cases ha : Lib.atoiAll s with
    | ok v =>
      have ee : atoiV s = v := by unfold atoiV; rw [ha]
      rw [ee]
      refine (Tryz.strconv_Atoi_ok ⟨s.toArray⟩ (by rw [hsz]; omega) v ha w).mono ?_
      rintro e w' ⟨rfl, hw⟩
      refine ⟨⟨_, rfl⟩, ?_⟩
      rcases hw with rfl | ⟨t, rfl⟩
      · exact Below.refl _ _
      · exact Lib.bytesWorld_below _ _ _
    | range =>
      have ee : atoiV s = Lib.atoiSat s := by unfold atoiV; rw [ha]
      rw [ee]
      refine (Tryz.strconv_Atoi_range ⟨s.toArray⟩ (by rw [hsz]; omega) ha ev' w hv' hev').mono ?_
      rintro e w' ⟨N, rfl, _, _, hb⟩
      exact ⟨⟨_, rfl⟩, hb⟩
    | _ =>
      have ee : atoiV s = 0 := by unfold atoiV; rw [ha]
      rw [ee]
      refine (Tryz.strconv_Atoi_syntax ⟨s.toArray⟩ (by rw [hsz]; omega) ha ev w hv hev).mono ?_
      rintro e w' ⟨N, rfl, _, _, hb⟩
      exact ⟨⟨_, rfl⟩, hb⟩
  · cases hF
end Go.Proofs.YtpomloangafbkaaGreatDoor
