/- strconv.FormatUint at base 10: a number's digits. -/
import Derived.Test.YtpomloangafbkaaGreatDoorLaxStr
import Derived.Lib.ItoaMem
import Derived.Lib.ParseIntBCases
import Derived.BigCall
import Derived.BigGuard
namespace Go.Proofs.YtpomloangafbkaaGreatDoor
set_option linter.unusedVariables false
set_option linter.unusedSimpArgs false
open Go Go.Proofs Go.RowKit Go.Lib Go.Sort

set_option maxHeartbeats 6400000 in
set_option maxRecDepth 100000 in
theorem fmt_u (u : Nat) (hu64 : u < 18446744073709551616) (w : World) (htab : Lib.TabIs Tryz.prog w "internal/strconv.uint64pow10" .u64 Lib.pow10Tab) :
    Calls Tryz.prog 103 #[.int .u64 u, .int .i64 10] w fun e w' => e = .returned (.string ⟨(Lib.decDigits u).toArray⟩) ∧ ∃ k os, w' = grow (w.drewN k) os := by
  have t171 := Tryz.underlying172
  have t5 := Tryz.underlying5
  have t37 := Tryz.underlying62
  have t9 := Tryz.underlying9
  by_cases hs : u < 100
  · go_enter Tryz.func103, Tryz.ntmps103
    go_wp2_with (fail)
    refine (Tryz.internal_strconv_small u hs _).mono ?_
    rintro e w' ⟨rfl, rfl⟩
    go_wp2
    go_ret
    exact ⟨rfl, 0, #[], by simp [World.drewN_zero]⟩
  · have hu1 : 1 ≤ u := by omega
    have hnd20 : Lib.nDigits u ≤ 20 := by have := Lib.numDigits_eq u hu1 hu64; split at this <;> omega
    have hb3 : Lib.nDigits u ≤ 23 := by omega
    have hal : Tryz.prog.arrayLen 172 = 24 := by simp [Program.arrayLen, t171]
    have hsl : ∀ W, (Instr.sliceAt 172 (.pointer (some ⟨w.heap.size, 0, none⟩)) none (some (.int .i64 (Lib.nDigits u : Int))) none).run Tryz.prog W = .ok (.slice (some ⟨w.heap.size, 0, none⟩) (Lib.nDigits u) 24) W := fun W => by
      rw [run_sliceAt_array_h W 172 ⟨w.heap.size, 0, none⟩ (by simp [Program.arrayLen, Program.elem, t171]) .i64 (Lib.nDigits u : Int) (by omega) (by rw [hal]; omega)]
      go_simp
    have hH0 : Holds (fun (b : UInt8) => Value.int .u8 (b.toNat : Int)) (w.alloc (.cells Lib.zeros24 172)) w.heap.size 0 (Array.replicate (Lib.nDigits u) (0 : UInt8)) := fun j hj => by
      have hj' : j < Lib.nDigits u := by simpa using hj
      refine ⟨?_, World.frozen?_alloc_new _ _ _ _⟩
      rw [World.cell?_alloc_new, Lib.zeros24_at _ (by omega), getElem!_pos _ j hj]
      simp
    have hfmt := Tryz.internal_strconv_formatBase10 w.heap.size 0 24 u (Array.replicate (Lib.nDigits u) 0) (w.alloc (.cells Lib.zeros24 172)) hH0 (by rw [Array.size_replicate]; exact Lib.lt_pow_nDigits u) hu64 (by rw [Array.size_replicate]; omega)
    rw [Array.size_replicate] at hfmt
    have HH0 := Lib.hid hH0
    clear hH0 hal
    go_enter Tryz.func103, Tryz.ntmps103
    go_wp2_with (fail)
    refine (Tryz.internal_strconv_numDigits u hu1 hu64 _ (Lib.tabIs_alloc htab _)).mono ?_
    rintro e w' ⟨rfl, rfl⟩
    go_wp2_with (fail)
    refine hfmt.mono ?_
    rintro e w' ⟨rfl, k, v', dk, rfl, hF⟩
    have hcv : (convert 62 9 (.slice (some ⟨w.heap.size, 0, none⟩) (Lib.nDigits u) 24)).run Tryz.prog ((putRow (fun (b : UInt8) => Value.int .u8 (b.toNat : Int)) (w.alloc (.cells Lib.zeros24 172)) w.heap.size 0 dk).drewN k) = .ok (.string ⟨(Lib.decDigits u).toArray⟩) ((putRow (fun (b : UInt8) => Value.int .u8 (b.toNat : Int)) (w.alloc (.cells Lib.zeros24 172)) w.heap.size 0 dk).drewN k) := by
      have h := run_convert_bytes_back (P := Tryz.prog) ((putRow (fun (b : UInt8) => Value.int .u8 (b.toNat : Int)) (w.alloc (.cells Lib.zeros24 172)) w.heap.size 0 dk).drewN k) 62 9 5 ⟨w.heap.size, 0, none⟩ 24 (Lib.decDigits u) t37 t5 t9 (fun j hj => by
        rw [Lib.row_is_numeral hF j hj, Lib.add_plain, World.cell?_drewN]
        exact cell?_putRow (fun (b : UInt8) => Value.int .u8 (b.toNat : Int)) _ w.heap.size 0 _ dk HH0.out (by rw [hF.size, Array.size_replicate]) j (by rw [hF.size]; rw [Lib.decDigits_length] at hj; exact hj))
      rw [Lib.decDigits_length] at h
      exact h
    go_wp2
    go_ret
    refine ⟨rfl, k, ?_⟩
    rw [alloc_eq_grow]
    obtain ⟨os', _, e⟩ := putRow_grow_new (fun (b : UInt8) => Value.int .u8 (b.toNat : Int)) w #[.cells Lib.zeros24 172] w.heap.size 0 dk (Nat.le_refl _)
    exact ⟨os', by rw [e]; rfl⟩
set_option maxHeartbeats 1000000 in
set_option maxRecDepth 100000 in
theorem fmt_uint (u : Nat) (hu64 : u < 18446744073709551616) (w : World) (htab : Lib.TabIs Tryz.prog w "internal/strconv.uint64pow10" .u64 Lib.pow10Tab) :
    Calls Tryz.prog 73 #[.int .u64 u, .int .i64 10] w fun e w' => e = .returned (.string ⟨(Lib.decDigits u).toArray⟩) ∧ ∃ k os, w' = grow (w.drewN k) os := by
  have h := fmt_u u hu64 w htab
  go_enter Tryz.func73, Tryz.ntmps73
  go_wp2_with (fail)
  refine h.mono ?_
  rintro e w' ⟨rfl, k, os, rfl⟩
  go_wp2
  go_ret
  exact ⟨rfl, k, os, rfl⟩
def fmtF : Con
  | [.val (.int .u64 n), .val (.int .i64 b)] => some (b = 10, ⟨.str (Lib.decDigits n.toNat), none, none⟩)
  | _ => none
theorem meetsFmt : Meets Tryz.prog 73 fmtF := by
  refine meets_plainT Tryz.call73 ?_
  intro args q r hF hq
  unfold fmtF at hF
  split at hF
  · rename_i n b
    cases hF
    obtain rfl : b = 10 := hq
    refine ⟨[.int .u64 n, .int .i64 10], rfl, rfl, fun x hx => (by simp at hx; rcases hx with rfl | rfl <;> rfl), rfl, rfl, rfl, ?_⟩
    intro us w S ht hs h
    obtain ⟨o, ob, ht⟩ := ht
    obtain ⟨u, u', rfl, hu, hu'⟩ := two_args hs h
    obtain ⟨rfl, h0, h1⟩ := repV_u64 hu
    obtain ⟨rfl, _, _⟩ := repV_i64 hu'
    obtain ⟨m, rfl⟩ : ∃ m : Nat, n = m := ⟨n.toNat, by omega⟩
    refine (fmt_uint m (by omega) w ht.facts.pow).mono ?_
    rintro e w' ⟨rfl, k, os, rfl⟩
    have := decDigits_len 20 m (by omega)
    exact ⟨_, rfl, Lib.below_grow _ _ (Nat.le_refl _) _ _, (RepP.str _ (by simp; omega) : RepP _ _ _ _)⟩
  · cases hF
/-- what ParseUint reads, and whether it fails -/
def puV (s : List UInt8) : Int := match Lib.parseUintB 64 s with
  | .ok v => (v : Int)
  | .range => 18446744073709551615
  | _ => 0
def puK (s : List UInt8) : Bool := match Lib.parseUintB 64 s with
  | .ok _ => true
  | _ => false
def puF : Con
  | [.val (.str s), .val (.int .i64 a), .val (.int .i64 b)] => some (a = 10 ∧ b = 64 ∧ s.length ≤ 281474976710656, ⟨.tup [.int .u64 (puV s), .errv (puK s)], none, none⟩)
  | _ => none
theorem puV_range (s : List UInt8) : 0 ≤ puV s ∧ puV s ≤ 18446744073709551615 := by
  unfold puV
  split
  · rename_i v h
    have := Lib.parseUintB_le h
    omega
  · omega
  · omega
theorem three_args {us : Array Value} {v v' v2 : AV} {w : World} {S : Nat → Nat → Prop} (hs : us.size = 3) (h : ∀ (i : Nat) x, [v, v', v2][i]? = some x → ∃ u, us[i]? = some u ∧ RepV w S x u) : ∃ u u' u2, us = #[u, u', u2] ∧ RepV w S v u ∧ RepV w S v' u' ∧ RepV w S v2 u2 := by
  obtain ⟨u, h1, h2⟩ := h 0 v rfl
  obtain ⟨u', h3, h4⟩ := h 1 v' rfl
  obtain ⟨u2, h5, h6⟩ := h 2 v2 rfl
  refine ⟨u, u', u2, ?_, h2, h4, h6⟩
  apply Array.ext
  · simp [hs]
  · intro i hi hi'
    match i with
    | 0 => rw [Array.getElem?_eq_getElem hi] at h1; simpa using h1
    | 1 => rw [Array.getElem?_eq_getElem hi] at h3; simpa using h3
    | 2 => rw [Array.getElem?_eq_getElem hi] at h5; simpa using h5
    | i + 3 => omega
theorem pu_rep {w : World} {S : Nat → Nat → Prop} {n : Int} {b : Bool} {v : Value} (h : 0 ≤ n ∧ n ≤ 18446744073709551615) (hv : (b = true ∧ v = .nilIface) ∨ (b = false ∧ ∃ t p, v = .iface t p)) : RepV w S (.tup [.int .u64 n, .errv b]) (.tuple #[.int .u64 n, v]) := by
  have := k_u64
  refine ⟨_, rfl, rfl, fun i c hc => ?_⟩
  match i, hc with
  | 0, hc => simp at hc; subst hc; exact ⟨_, rfl, (RepP.int _ _ (by omega) (by omega) : RepP w S _ _)⟩
  | 1, hc => simp at hc; subst hc; exact ⟨_, rfl, (RepP.errv _ _ hv : RepP w S _ _)⟩
  | i + 2, hc => simp at hc
theorem meetsPu : Meets Tryz.prog 107 puF := by
  refine meets_plainT Tryz.call107 ?_
  intro args q r hF hq
  unfold puF at hF
  split at hF
  · rename_i s x y
    cases hF
    obtain ⟨rfl, rfl, q3⟩ := hq
    refine ⟨[.str s, .int .i64 10, .int .i64 64], rfl, rfl, fun x hx => (by simp at hx; rcases hx with rfl | rfl | rfl <;> rfl), rfl, rfl, rfl, ?_⟩
    intro us w S ht hs h
    obtain ⟨o, ob, ht⟩ := ht
    obtain ⟨u, u', u2, rfl, hu, hu', hu2⟩ := three_args hs h
    obtain ⟨rfl, h0⟩ := repV_str hu
    obtain ⟨rfl, _, _⟩ := repV_i64 hu'
    obtain ⟨rfl, _, _⟩ := repV_i64 hu2
    have hr := puV_range s
    have hsz : (⟨s.toArray⟩ : ByteArray).size = s.length := by simp [ByteArray.size]
    obtain ⟨ev, hv, hev⟩ := ht.facts.syn 2 (by kernel_rfl)
    obtain ⟨ev', hv', hev'⟩ := ht.facts.rng 3 (by kernel_rfl)
    cases ha : Lib.parseUintB 64 s with
    | ok v =>
      have e1 : puV s = (v : Int) := by unfold puV; rw [ha]
      have e2 : puK s = true := by unfold puK; rw [ha]
      refine (Tryz.strconv_ParseUint_10_at64_ok ⟨s.toArray⟩ (by rw [hsz]; omega) v ha w).mono ?_
      rintro e w' ⟨rfl, hw⟩
      refine ⟨_, rfl, ?_, by rw [← e1, e2]; exact pu_rep hr (.inl ⟨rfl, rfl⟩)⟩
      rcases hw with rfl | rfl
      · exact Below.refl _ _
      · exact Lib.bytesWorld_below _ _ _
    | range =>
      have e1 : puV s = 18446744073709551615 := by unfold puV; rw [ha]
      have e2 : puK s = false := by unfold puK; rw [ha]
      refine (Tryz.strconv_ParseUint_10_at64_range ⟨s.toArray⟩ (by rw [hsz]; omega) ha ev' w hv' hev').mono ?_
      rintro e w' ⟨N, rfl, _, _, hb⟩
      exact ⟨_, rfl, hb, by rw [← e1, e2]; exact pu_rep hr (.inr ⟨rfl, _, _, rfl⟩)⟩
    | _ =>
      have e1 : puV s = 0 := by unfold puV; rw [ha]
      have e2 : puK s = false := by unfold puK; rw [ha]
      refine (Tryz.strconv_ParseUint_10_at64_syntax ⟨s.toArray⟩ (by rw [hsz]; omega) ha ev w hv hev).mono ?_
      rintro e w' ⟨N, rfl, _, _, hb⟩
      exact ⟨_, rfl, hb, by rw [← e1, e2]; exact pu_rep hr (.inr ⟨rfl, _, _, rfl⟩)⟩
  · cases hF
end Go.Proofs.YtpomloangafbkaaGreatDoor
