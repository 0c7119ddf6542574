/- NumChains: the law's walk. -/
import Derived.Test.YtnhfjdbnkpbbkaaNumZigs
import Derived.Test.YtnhfjdbnkpbbkaaReadR
namespace Go.Proofs.Ytnhfjdbnkpbbkaa
set_option linter.unusedVariables false
open Go.RowKit

/-- short numbers, one behind the other -/
def chain (l : List Int) : List UInt8 := (l.map fun z => short z.toNat).flatten
theorem chain_append (a b : List Int) : chain (a ++ b) = chain a ++ chain b := by unfold chain; rw [List.map_append, List.flatten_append]
theorem chain_cons (z : Int) (b : List Int) : chain (z :: b) = short z.toNat ++ chain b := by simp [chain]
theorem chain_snoc (l : List Int) (z : Int) : chain (l ++ [z]) = chain l ++ short z.toNat := by simp [chain]
theorem chain_len (l : List Int) (h : ∀ z ∈ l, 0 ≤ z ∧ z ≤ 18446744073709551615) : (chain l).length ≤ 10 * l.length := by
  induction l with
  | nil => simp [chain]
  | cons z l ih =>
    have h1 := short_len64 z.toNat (by have := h z (by simp); omega)
    have h2 := ih (fun y hy => h y (by simp [hy]))
    have e : chain (z :: l) = short z.toNat ++ chain l := by simp [chain]
    rw [e, List.length_append, List.length_cons]; omega
theorem chain_drop (l : List Int) (k : Nat) (hk : k < l.length) : (chain l).drop (chain (l.take k)).length = short l[k].toNat ++ chain (l.drop (k + 1)) := by
  have e : l = l.take k ++ l[k] :: l.drop (k + 1) := by rw [← List.drop_eq_getElem_cons hk, List.take_append_drop]
  have e2 : chain l = chain (l.take k) ++ (short l[k].toNat ++ chain (l.drop (k + 1))) := by
    conv => lhs; rw [e]
    rw [chain_append, chain_cons]
  rw [e2, List.drop_left]
theorem chain_take_succ (l : List Int) (k : Nat) (hk : k < l.length) : chain (l.take (k + 1)) = chain (l.take k) ++ short l[k].toNat := by
  rw [List.take_succ_eq_append_getElem hk, chain_snoc]
theorem chain_take_le (l : List Int) (k : Nat) : (chain (l.take k)).length ≤ (chain l).length := by
  have e2 : chain l = chain (l.take k) ++ chain (l.drop k) := by
    conv => lhs; rw [← List.take_append_drop k l]
    rw [chain_append]
  rw [e2, List.length_append]; omega

set_option maxRecDepth 20000 in
set_option maxHeartbeats 1600000 in
theorem chains_walk (A : Option Addr) (c : Nat) (l : List Int) (w : World) (hr : Rd w w.heap.size A (l.map (Value.int .u64))) (hlc : l.length ≤ c) (hc : c ≤ 140737488351232) (hz : ∀ z ∈ l, 0 ≤ z ∧ z ≤ 18446744073709551615) :
    Calls Try.prog 14 #[.slice A l.length c] w fun e w' => e = .returned (.bool true) ∧ Below w.heap.size w w' := by
  obtain ⟨N, hN⟩ : ∃ N, N = l.length := ⟨_, rfl⟩
  rw [← hN] at hlc ⊢
  have HN := Lib.hid hN
  have HZ := Lib.hid hz
  clear hN hz
  by_cases h40 : 40 < N
  · go_enter Try.func14, Try.ntmps14
    go_wp2_with (fail)
    refine (anchor01 _).mono ?_; rintro e w1 ⟨rfl, hb1⟩
    go_wp2
    go_ret
    exact ⟨rfl, hb1⟩
  · go_enter Try.func14, Try.ntmps14
    go_wp2_with (fail)
    refine (anchor01 _).mono ?_; rintro e w1 ⟨rfl, hb1⟩
    go_wp2_with (fail)
    go_loopw [3, 5, 22] (fun out _ i wr => ∃ k : Nat, k ≤ N ∧ i = .int .i64 k ∧ OwnB wr w.heap.size out (chain (l.take k)) ∧ Below w.heap.size w wr) (fun _ _ i _ => N - (intOf i).toNat)
    case atStart => exact ⟨0, by omega, rfl, OwnB.nil _ _, hb1⟩
    case round =>
      obtain ⟨k, hk, rfl, hown, hb⟩ := hrel
      by_cases hlt : k < N
      · have hkl : k < l.length := by rw [← HN.out]; exact hlt
        obtain ⟨b, off, rfl, hbb, hcell⟩ := (hr.below hb (Nat.le_refl _)).open_ (by simp; omega)
        obtain ⟨z, hzk⟩ : ∃ z, z = l[k] := ⟨_, rfl⟩
        have hc1 : wr.cell? ⟨b, off + k, none⟩ = some (.int .u64 z) := by rw [hcell k (by simpa using hkl), hzk, List.getElem_map]
        have hzr : 0 ≤ z ∧ z ≤ 18446744073709551615 := by rw [hzk]; exact HZ.out _ (List.getElem_mem hkl)
        have HK : Hid (chain (l.take (k + 1)) = chain (l.take k) ++ short z.toNat) := by show _ = _; rw [hzk]; exact chain_take_succ l k hkl
        have hl1 : (chain (l.take k)).length ≤ 400 := by
          have := chain_len (l.take k) (fun y hy => HZ.out y (List.mem_of_mem_take hy))
          rw [List.length_take] at this; omega
        have hl2 := short_len64 z.toNat (by omega)
        have hs := hb.size
        clear hcell hzk
        go_wp2_with (fail)
        refine (short_any _ _ hzr.1 hzr.2).mono ?_; rintro e w2 ⟨x, rfl, hx, hb2⟩
        obtain ⟨A1, n1, c1, rfl, hn1, hr1, hlc1, hcm1⟩ := hx.formN
        have HN1 := Lib.hid hn1
        have hown2 := hown.below hb2
        have hs2 := hb2.size
        clear hn1 hx hown
        go_wp2_with (at_builtin; refine wpList_apB _ rfl (.tmp 26) (.tmp 28) rfl w.heap.size _ (chain (l.take k)) rfl hown2 w2.heap.size A1 _ _ (short z.toNat) rfl hr1 HN1.out.symm ?e2 ?e3 ?_)
        case e2 => rw [HN1.out]; omega
        case e3 => omega
        intro v' w3 hown3 hg3 hb3
        have hb4 := (hb.trans (hb2.mono hs)).trans hb3
        rw [← HK.out] at hown3
        clear hg3 hb3 hown2
        go_wp2
        go_roundw
        case rel => exact ⟨k + 1, by omega, by go_num, hown3, hb4⟩
        case measure => simp [intOf]; omega
      · obtain rfl : N = k := by omega
        rw [HN.out, List.take_length] at hown
        have hl1 : (chain l).length ≤ 400 := by
          have := chain_len l HZ.out
          rw [← HN.out] at this; omega
        obtain ⟨A1, M, c1, rfl, hM, hr1, hlc1, hcm1⟩ := hown.formN
        have HM := Lib.hid hM
        have hM4 : M ≤ 400 := by omega
        clear hown hM
        go_wp2_with (fail)
        go_loop [6, 33] (fun a i => ∃ k P : Nat, k ≤ N ∧ i = .int .i64 k ∧ a = .int .i64 P ∧ P ≤ M ∧ Hid (P = (chain (l.take k)).length)) (fun _ i => N - (intOf i).toNat)
        case atStart => exact ⟨0, 0, by omega, rfl, rfl, by omega, (rfl : _ = _)⟩
        case round =>
          obtain ⟨k, P, hk, rfl, rfl, hPM, hP⟩ := hrel
          by_cases hlt : k < N
          · have hkl : k < l.length := by rw [← HN.out]; exact hlt
            obtain ⟨b, off, rfl, hbb, hcell⟩ := (hr.below hb (Nat.le_refl _)).open_ (by simp; omega)
            obtain ⟨z, hzk⟩ : ∃ z, z = l[k] := ⟨_, rfl⟩
            have hc1 : wr.cell? ⟨b, off + k, none⟩ = some (.int .u64 z) := by rw [hcell k (by simpa using hkl), hzk, List.getElem_map]
            have hzr : 0 ≤ z ∧ z ≤ 18446744073709551615 := by rw [hzk]; exact HZ.out _ (List.getElem_mem hkl)
            have hrest : (chain l).drop P = short z.toNat ++ chain (l.drop (k + 1)) := by rw [hP.out, hzk]; exact chain_drop l k hkl
            have HR : Hid (rShort ((chain l).drop P) = (z.toNat, (short z.toNat).length, 0)) := by show _ = _; rw [hrest]; exact rShort_short _ _ (by omega)
            obtain ⟨S, hS⟩ : ∃ S, S = (short z.toNat).length := ⟨_, rfl⟩
            have hS1 : 1 ≤ S := by rw [hS]; exact short_pos _
            have hS10 : S ≤ 10 := by rw [hS]; exact short_len64 _ (by omega)
            have hPS : P + S ≤ M := by
              have := congrArg List.length hrest
              rw [List.length_drop, List.length_append, ← HM.out, ← hS] at this; omega
            have HP2 : Hid (P + S = (chain (l.take (k + 1))).length) := by
              show _ = _
              rw [chain_take_succ l k hkl, List.length_append, ← hzk, ← hS, hP.out]
            have hlen : M - P = ((chain l).drop P).length := by rw [List.length_drop, HM.out]
            have HL := Lib.hid hlen
            have HS := Lib.hid hS
            have hzz : ((z.toNat : Nat) : Int) = z := by omega
            have hcut := Rd.cut (cap := c1) hr1 (by rw [List.length_map]; exact HM.out.symm) hPM hlc1
            rw [← List.map_drop, if_neg (by omega)] at hcut
            clear hcell hzk hrest hlen hS hP
            go_wp2_with (fail)
            refine (readShort_n _ _ _ _ _ _ HL.out hcut (by omega) (by omega)).mono ?_; rintro e w7 ⟨rfl, rfl⟩
            rw [HR.out]
            unfold rsVal
            simp only [hzz, ← HS.out]
            clear hzz hcut
            go_wp2
            go_round
            case rel => exact ⟨k + 1, P + S, by omega, by go_num, by go_num, hPS, HP2⟩
            case measure => simp [intOf]; omega
          · obtain rfl : N = k := by omega
            have hPe : P = M := by rw [hP.out, HM.out, HN.out, List.take_length]
            obtain rfl := hPe
            have HE : Hid (rShort [] = (0, 0, 20)) := (rfl : _ = _)
            have hsb := hb.size
            have HF : Hid (decide (short (0 : Int).toNat = []) = false) := by
              show _ = _
              have := short_pos (0 : Int).toNat
              simp only [decide_eq_false_iff_not]
              intro h; rw [h] at this; simp at this
            go_wp2_with (fail)
            all_goals
              refine (readShort_n [] 0 _ _ 0 _ rfl Rd.nil (by omega) (by omega)).mono ?_; rintro e w7 ⟨rfl, rfl⟩
              rw [HE.out]
              unfold rsVal
              go_wp2_with (fail)
              refine (short_any _ _ (by omega) (by omega)).mono ?_; rintro e w2 ⟨x, rfl, hx, hb2⟩
              obtain ⟨A2, n2, c2, rfl, hn2, hr2, hlc2, hcm2⟩ := hx.formN
              have HN2 := Lib.hid hn2
              have hb4 := hb.trans (hb2.mono hsb)
              clear hn2 hx hb2
              go_wp2_with (fail)
              refine (same_n _ [] _ 0 _ _ _ _ _ 0 _ HN2.out rfl hr2 Rd.nil (by omega) (by omega)).mono ?_; rintro e w4 ⟨rfl, n4, rfl⟩
              rw [HF.out]
              go_wp2
              go_ret
              exact ⟨rfl, bel_drewN hb4 _⟩
end Go.Proofs.Ytnhfjdbnkpbbkaa
