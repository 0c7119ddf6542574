/- Contracts by content, their conditions, and that they are met: InstV. -/
import Derived.Test.YtpomloangafbkaaGreatDoorLaxPkInstU
import Derived.Test.YtpomloangafbkaaGreatDoorInstTP
/- Contracts by content, and the conditions that their code must meet. -/
namespace Go.Proofs.YtpomloangafbkaaGreatDoor
set_option linter.unusedVariables false
set_option linter.unusedSimpArgs false
open Go.RowKit
def ireadF : Con
  | [.val (.str t)] => (some (t.length ≤ 700000, ⟨.tup [.agg (instL (ireadX t)), .int .i64 (ireadE t)], none, none⟩))
  | _ => none
def gamIread : List (Nat × Con) := [(39, splitNF.orNil), (40, readIDF.orNil), (41, readBalF.orNil), (42, istatusF.orNil), (43, attReadF.orNil), (44, creadF.orNil), (9, ishowF.orNil)]
def lpIread0 (t : List UInt8) : Nat → Option LoopPlan := fun _ => none
def inIread0 (t : List UInt8) : Prop := awp [] (lpIread0 t) (lookΓ gamIread) Tryz.prog Tryz.f14.ntmps 0 (Tryz.f14.body.getD .skip) (entrySt [.val (.str t)]) (exitQ Tryz.prog Tryz.f14.results.toList [] ⟨.tup [.agg (instL (ireadX t)), .int .i64 (ireadE t)], none, none⟩)
def OkIread0 : Prop := ∀ (t : List UInt8), t.length ≤ 700000 → inIread0 t
end Go.Proofs.YtpomloangafbkaaGreatDoor
/- What the verification conditions come to: printed by a program of ours (wip/lax/ex/Norm.lean). -/
namespace Go.Proofs.YtpomloangafbkaaGreatDoor
set_option linter.unusedVariables false
open Go.RowKit
set_option maxRecDepth 100000
theorem vcIread0 (t : (List UInt8)) (h : let q0 := (ireadX t); let w1_x := (q0.r = 0 ∧ q0.sl = 0 ∧ q0.st = 0 ∧ q0.bal = 0 ∧ q0.vote = 0 ∧ q0.same = false ∧ q0.c.k = 0 ∧ q0.c.num = 0 ∧ q0.c.foot = [] ∧ q0.c.rq = 0 ∧ q0.c.path = [] ∧ q0.c.mode = 0 ∧ q0.c.n = 0 ∧ q0.c.time = 0 ∧ q0.a.s = 0 ∧ q0.a.d0 = 0 ∧ q0.a.d1 = 0 ∧ q0.a.d2 = 0 ∧ q0.a.d3 = 0 ∧ q0.a.d4 = 0 ∧ q0.a.d5 = 0 ∧ q0.a.d6 = 0 ∧ (ireadE t) = 10 ∧ True); let w8_x := (tt ∧ tt ∧ T1 ∧ tt ∧ T1 ∧ tt ∧ tt ∧ w1_x ∧ tt); let w9_x := (tt ∧ T1 ∧ tt ∧ T1 ∧ tt ∧ tt ∧ w1_x ∧ tt); let w10_x := [(AV.str []), (AV.str []), (AV.str []), (AV.str []), (AV.str []), (AV.str []), (AV.str [])]; (tt ∧ T1 ∧ T1 ∧ tt ∧ T1 ∧ (T1 ∧ (List.length t) < 4294967281 ∧ 1 ≤ 1 ∧ (1 : Int) ≤ (7 : Int) ∧ (7 : Int) ≤ (1000000 : Int)) ∧ ∀ v0 : (List AV), let w0_0 := (@catL AV v0 w10_x); let w3_0 := (readC (rdStr (elemAt w0_0 6) 0)); let w4_0 := (@BEq.beq.{0} (List UInt8) (@List.instBEq.{0} UInt8 (@instBEqOfDecidableEq.{0} UInt8 instDecidableEqUInt8)) (rdStr (elemAt w0_0 4) 0) [(115 : UInt8), 97, 109, 101]); let w5_0 := (rdStr (elemAt w0_0 5) 0); let w7_0 := ((List.length w0_0) : Int); let w11_0 := (rdStr (elemAt w0_0 0) 0); (v0 = (strsAV (splitM t [(32 : UInt8)] 7))) → ∀ v2 : Nat, (v2 = (List.length (strsAV (splitM t [(32 : UInt8)] 7)))) → (v2 = (List.length v0) ∧ (((List.length v0) + 7) * 16) ≤ 140737488355328 ∧ ((List.length v0) + 7) ≤ 9223372036854775807 ∧ (okWidth 1 v0) ∧ (okWidth 1 w10_x)) ∧ T1 ∧ tt ∧ T1 ∧ tt ∧ T1 ∧ ((0 : Int) ≤ (0 : Int) ∧ (0 : Int) < w7_0 ∧ (okElem 1 w0_0 0)) ∧ (okRead [Kd.str] (elemAt w0_0 0) 0) ∧ (T1 ∧ (List.length w11_0) ≤ 100000000) ∧ ∀ v4 : Int, (v4 = (ridR w11_0)) → ∀ v6 : Int, (v6 = (ridS w11_0)) → ∀ v8 : Int, (v8 = (ridE w11_0)) → T1 ∧ T1 ∧ T1 ∧ T1 ∧ tt ∧ tt ∧ T1 ∧ ((0 : Int) ≤ (1 : Int) ∧ (1 : Int) < w7_0 ∧ (okElem 1 w0_0 1)) ∧ (okRead [Kd.str] (elemAt w0_0 1) 0) ∧ (T1 ∧ (List.length (rdStr (elemAt w0_0 1) 0)) ≤ 100000000) ∧ ∀ v10 : Int, (v10 = (rbalV (rdStr (elemAt w0_0 1) 0))) → ∀ v12 : Int, (v12 = (rbalE (rdStr (elemAt w0_0 1) 0))) → T1 ∧ T1 ∧ T1 ∧ T1 ∧ tt ∧ tt ∧ T1 ∧ ((0 : Int) ≤ (2 : Int) ∧ (2 : Int) < w7_0 ∧ (okElem 1 w0_0 2)) ∧ (okRead [Kd.str] (elemAt w0_0 2) 0) ∧ (T1 ∧ True) ∧ ∀ v14 : Int, let w6_14 := (InstP.mk v4 v6 v14 v10 0 false (CmdP.mk 0 0 [] 0 [] 0 0 0) (AttP.mk 0 0 0 0 0 0 0 0)); (v14 = (statusN (rdStr (elemAt w0_0 2) 0))) → T1 ∧ tt ∧ tt ∧ T1 ∧ tt ∧ T1 ∧ (bif (v14 != 0) then (tt ∧ T1 ∧ ((0 : Int) ≤ (3 : Int) ∧ (3 : Int) < w7_0 ∧ (okElem 1 w0_0 3)) ∧ (okRead [Kd.str] (elemAt w0_0 3) 0) ∧ (T1 ∧ (List.length (rdStr (elemAt w0_0 3) 0)) ≤ 100000000) ∧ ∀ v16 : Int, (v16 = (rbalV (rdStr (elemAt w0_0 3) 0))) → ∀ v18 : Int, (v18 = (rbalE (rdStr (elemAt w0_0 3) 0))) → T1 ∧ T1 ∧ T1 ∧ T1 ∧ tt ∧ tt ∧ T1 ∧ ((0 : Int) ≤ (4 : Int) ∧ (4 : Int) < w7_0 ∧ (okElem 1 w0_0 4)) ∧ (okRead [Kd.str] (elemAt w0_0 4) 0) ∧ T1 ∧ T1 ∧ tt ∧ tt ∧ T1 ∧ ((0 : Int) ≤ (5 : Int) ∧ (5 : Int) < w7_0 ∧ (okElem 1 w0_0 5)) ∧ (okRead [Kd.str] (elemAt w0_0 5) 0) ∧ (T1 ∧ (List.length w5_0) ≤ 100000000) ∧ ∀ v20 : Int, (v20 = (raS w5_0)) → ∀ v22 : Int, (v22 = (raD w5_0 0)) → ∀ v24 : Int, (v24 = (raD w5_0 1)) → ∀ v26 : Int, (v26 = (raD w5_0 2)) → ∀ v28 : Int, (v28 = (raD w5_0 3)) → ∀ v30 : Int, (v30 = (raD w5_0 4)) → ∀ v32 : Int, (v32 = (raD w5_0 5)) → ∀ v34 : Int, (v34 = (raD w5_0 6)) → ∀ v36 : Int, (v36 = (raE w5_0)) → T1 ∧ T1 ∧ T1 ∧ T1 ∧ tt ∧ tt ∧ T1 ∧ ((0 : Int) ≤ (6 : Int) ∧ (6 : Int) < w7_0 ∧ (okElem 1 w0_0 6)) ∧ (okRead [Kd.str] (elemAt w0_0 6) 0) ∧ (T1 ∧ (List.length (rdStr (elemAt w0_0 6) 0)) ≤ 800000) ∧ ∀ v38 : Int, (v38 = w3_0.k) → ∀ v40 : Int, (v40 = w3_0.num) → ∀ v42 : (List UInt8), (v42 = w3_0.foot) → ∀ v44 : Int, (v44 = w3_0.rq) → ∀ v46 : (List UInt8), (v46 = w3_0.path) → ∀ v48 : Int, (v48 = w3_0.mode) → ∀ v50 : Int, (v50 = w3_0.n) → ∀ v52 : Int, let w2_52 := (InstP.mk v4 v6 v14 v10 v16 w4_0 (CmdP.mk v38 v40 v42 v44 v46 v48 v50 v52) (AttP.mk v20 v22 v24 v26 v28 v30 v32 v34)); (v52 = w3_0.time) → ∀ v54 : Int, (v54 = (readE (rdStr (elemAt w0_0 6) 0))) → T1 ∧ T1 ∧ T1 ∧ T1 ∧ tt ∧ tt ∧ tt ∧ (T1 ∧ (smallX w2_52)) ∧ ∀ v56 : (List UInt8), (v56 = (ishowV w2_52)) → ∀ v58 : Int, (v58 = (ishowE w2_52)) → T1 ∧ T1 ∧ T1 ∧ T1 ∧ T1 ∧ tt ∧ T1 ∧ T1 ∧ T1 ∧ (bif (v58 != 0) then w8_x else (T1 ∧ T1 ∧ T1 ∧ T1 ∧ (bif (Bool.not (@BEq.beq.{0} (List UInt8) (@List.instBEq.{0} UInt8 (@instBEqOfDecidableEq.{0} UInt8 instDecidableEqUInt8)) v56 t)) then w9_x else (tt ∧ tt ∧ tt ∧ T1 ∧ tt ∧ tt ∧ (q0.r = v4 ∧ q0.sl = v6 ∧ q0.st = v14 ∧ q0.bal = v10 ∧ q0.vote = v16 ∧ q0.same = w4_0 ∧ q0.c.k = v38 ∧ q0.c.num = v40 ∧ q0.c.foot = v42 ∧ q0.c.rq = v44 ∧ q0.c.path = v46 ∧ q0.c.mode = v48 ∧ q0.c.n = v50 ∧ q0.c.time = v52 ∧ q0.a.s = v20 ∧ q0.a.d0 = v22 ∧ q0.a.d1 = v24 ∧ q0.a.d2 = v26 ∧ q0.a.d3 = v28 ∧ q0.a.d4 = v30 ∧ q0.a.d5 = v32 ∧ q0.a.d6 = v34 ∧ (ireadE t) = 0 ∧ True) ∧ tt))))) else (tt ∧ tt ∧ (T1 ∧ (smallX w6_14)) ∧ ∀ v16 : (List UInt8), (v16 = (ishowV w6_14)) → ∀ v18 : Int, (v18 = (ishowE w6_14)) → T1 ∧ T1 ∧ T1 ∧ T1 ∧ T1 ∧ tt ∧ T1 ∧ T1 ∧ T1 ∧ (bif (v18 != 0) then w8_x else (T1 ∧ T1 ∧ T1 ∧ T1 ∧ (bif (Bool.not (@BEq.beq.{0} (List UInt8) (@List.instBEq.{0} UInt8 (@instBEqOfDecidableEq.{0} UInt8 instDecidableEqUInt8)) v16 t)) then w9_x else (tt ∧ tt ∧ tt ∧ T1 ∧ tt ∧ tt ∧ (q0.r = v4 ∧ q0.sl = v6 ∧ q0.st = v14 ∧ q0.bal = v10 ∧ q0.vote = 0 ∧ q0.same = false ∧ q0.c.k = 0 ∧ q0.c.num = 0 ∧ q0.c.foot = [] ∧ q0.c.rq = 0 ∧ q0.c.path = [] ∧ q0.c.mode = 0 ∧ q0.c.n = 0 ∧ q0.c.time = 0 ∧ q0.a.s = 0 ∧ q0.a.d0 = 0 ∧ q0.a.d1 = 0 ∧ q0.a.d2 = 0 ∧ q0.a.d3 = 0 ∧ q0.a.d4 = 0 ∧ q0.a.d5 = 0 ∧ q0.a.d6 = 0 ∧ (ireadE t) = 0 ∧ True) ∧ tt)))))))) : inIread0 t :=
  Eq.mp (show _ = _ by kernel_rfl) h
end Go.Proofs.YtpomloangafbkaaGreatDoor
/- States' texts: the law's conditions hold. -/
namespace Go.Proofs.YtpomloangafbkaaGreatDoor
set_option linter.unusedVariables false
set_option linter.unusedSimpArgs false
open Go.RowKit
set_option maxRecDepth 100000
theorem getD_pad (l : List (List UInt8)) (n i : Nat) : (l ++ List.replicate n []).getD i [] = l.getD i [] := by
  simp only [List.getD_eq_getElem?_getD]
  by_cases h : i < l.length
  · rw [List.getElem?_append_left h]
  · rw [List.getElem?_append_right (by omega), List.getElem?_eq_none (l := l) (by omega), List.getElem?_replicate]
    split <;> rfl
theorem pad_strs (l : List (List UInt8)) : catL (strsAV l) [AV.str [], AV.str [], AV.str [], AV.str [], AV.str [], AV.str [], AV.str []] = strsAV (l ++ List.replicate 7 []) := by
  simp [catL, strsAV, List.replicate]
theorem iread_no {t : List UInt8} (h : rightI (ixR t) = false ∨ ishowV (ixR t) ≠ t) : ireadX t = zI ∧ ireadE t = 10 := by
  have hk : iokR t = false := by
    unfold iokR
    rcases h with h | h
    · rw [h]; rfl
    · have : (ishowV (ixR t) == t) = false := by simpa using h
      rw [this]; simp
  unfold ireadX ireadE
  rw [hk]; exact ⟨rfl, rfl⟩
theorem iread_yes {t : List UInt8} (h1 : rightI (ixR t) = true) (h2 : ishowV (ixR t) = t) : ireadX t = ixR t ∧ ireadE t = 0 := by
  have hk : iokR t = true := by unfold iokR; rw [h1, h2]; simp
  unfold ireadX ireadE
  rw [hk]; exact ⟨rfl, rfl⟩
theorem showE_right {x : InstP} (h : (ishowE x != 0) = true) : rightI x = false := by
  cases hr : rightI x with
  | false => rfl
  | true => simp [ishowE, hr] at h
theorem showE_right' {x : InstP} (h : (ishowE x != 0) = false) : rightI x = true := by
  cases hr : rightI x with
  | true => rfl
  | false => simp [ishowE, hr] at h
theorem readC_lens (t : List UInt8) : (readC t).foot.length ≤ t.length ∧ (readC t).path.length ≤ t.length := by
  unfold readC
  split
  · exact rdN_lens t _
  · exact ⟨Nat.zero_le _, Nat.zero_le _⟩
set_option maxHeartbeats 4000000 in
theorem okIread0 : OkIread0 := by
  intro t hq
  have hq' : t.length ≤ 700000 := hq
  refine vcIread0 t ?_
  have hl := splitM_len t [32] 7 (by omega)
  have hL : ((splitM t [32] 7) ++ List.replicate 7 ([] : List UInt8)).length = (splitM t [32] 7).length + 7 := by simp
  have hw : ∀ i, i < 7 → rdStr (elemAt (strsAV (splitM t [32] 7 ++ List.replicate 7 [])) i) 0 = wdX t i := fun i h => by
    rw [rdStr_strs (by omega), getD_pad]; rfl
  have ho : ∀ i, i < 7 → okElem 1 (strsAV (splitM t [32] 7 ++ List.replicate 7 [])) i := fun i h => okElem_strs (by omega)
  have hr : ∀ i, i < 7 → okRead [Kd.str] (elemAt (strsAV (splitM t [32] 7 ++ List.replicate 7 [])) i) 0 := fun i h => okRead_strs (by omega)
  have hn : ∀ i, (wdX t i).length ≤ 700000 := fun i => by have := wdX_len t i; omega
  have hn1 : ∀ i, (wdX t i).length ≤ 100000000 := fun i => by have := hn i; omega
  have hn6 : (wdX t 6).length ≤ 800000 := by have := hn 6; omega
  have hc := readC_lens (wdX t 6)
  have h6 := hn 6
  simp only [true_and, and_true, forall_eq, eq_self, pad_strs, hw 0 (by omega), hw 1 (by omega), hw 2 (by omega), hw 3 (by omega), hw 4 (by omega), hw 5 (by omega), hw 6 (by omega), ho 0 (by omega), ho 1 (by omega), ho 2 (by omega), ho 3 (by omega), ho 4 (by omega), ho 5 (by omega), ho 6 (by omega), hr 0 (by omega), hr 1 (by omega), hr 2 (by omega), hr 3 (by omega), hr 4 (by omega), hr 5 (by omega), hr 6 (by omega), hn1, hn6, length_strsAV, hL, okWidth_strs]
  refine ⟨by omega, ⟨by omega, by omega, okWidth_strs [[], [], [], [], [], [], []]⟩, by omega, by omega, by omega, cond_prop (fun h => ?_) fun h => ?_⟩
  · have h' : statusN (wdX t 2) ≠ 0 := by simpa using h
    have hx : ixR t = InstP.mk (ridR (wdX t 0)) (ridS (wdX t 0)) (statusN (wdX t 2)) (rbalV (wdX t 1)) (rbalV (wdX t 3)) (wdX t 4 == [115, 97, 109, 101]) (CmdP.mk (readC (wdX t 6)).k (readC (wdX t 6)).num (readC (wdX t 6)).foot (readC (wdX t 6)).rq (readC (wdX t 6)).path (readC (wdX t 6)).mode (readC (wdX t 6)).n (readC (wdX t 6)).time) (AttP.mk (raS (wdX t 5)) (raD (wdX t 5) 0) (raD (wdX t 5) 1) (raD (wdX t 5) 2) (raD (wdX t 5) 3) (raD (wdX t 5) 4) (raD (wdX t 5) 5) (raD (wdX t 5) 6)) := if_neg h'
    have hs : smallX (ixR t) := by rw [hx]; exact ⟨by show (readC (wdX t 6)).foot.length ≤ 900000; omega, by show (readC (wdX t 6)).path.length ≤ 900000; omega⟩
    rw [← hx]
    refine ⟨by omega, by omega, by omega, by omega, hs, cond_prop (fun g => ?_) fun g => cond_prop (fun g2 => ?_) fun g2 => ?_⟩
    · obtain ⟨r1, r2⟩ := iread_no (.inl (showE_right g))
      rw [r1, r2]; and_intros <;> rfl
    · obtain ⟨r1, r2⟩ := iread_no (t := t) (.inr (by simpa using g2))
      rw [r1, r2]; and_intros <;> rfl
    · obtain ⟨r1, r2⟩ := iread_yes (showE_right' g) (by simpa using g2)
      rw [r1, r2, hx]; and_intros <;> rfl
  · have h' : statusN (wdX t 2) = 0 := by simpa using h
    have hx : ixR t = InstP.mk (ridR (wdX t 0)) (ridS (wdX t 0)) (statusN (wdX t 2)) (rbalV (wdX t 1)) 0 false (CmdP.mk 0 0 [] 0 [] 0 0 0) (AttP.mk 0 0 0 0 0 0 0 0) := by rw [h']; exact if_pos h'
    have hs : smallX (ixR t) := by rw [hx]; exact ⟨by show ([] : List UInt8).length ≤ 900000; simp, by show ([] : List UInt8).length ≤ 900000; simp⟩
    rw [← hx]
    refine ⟨hs, cond_prop (fun g => ?_) fun g => cond_prop (fun g2 => ?_) fun g2 => ?_⟩
    · obtain ⟨r1, r2⟩ := iread_no (.inl (showE_right g))
      rw [r1, r2]; and_intros <;> rfl
    · obtain ⟨r1, r2⟩ := iread_no (t := t) (.inr (by simpa using g2))
      rw [r1, r2]; and_intros <;> rfl
    · obtain ⟨r1, r2⟩ := iread_yes (showE_right' g) (by simpa using g2)
      rw [r1, r2, hx]; and_intros <;> rfl
theorem smallB_small {x : InstP} (h : (!smallB x 200) = false) : smallX x := by
  simp [smallB] at h
  exact ⟨by omega, by omega⟩
theorem rbal_range (s : List UInt8) : 0 ≤ rbalV s ∧ rbalV s ≤ 4294967295 := by
  unfold rbalV
  split
  · rename_i h
    unfold rbalE at h
    split at h
    · split at h
      · omega
      · omega
    · omega
  · omega
theorem ix_small (t : List UInt8) (h : t.length ≤ 700000) : smallX (ixR t) := by
  have h6 := wdX_len t 6
  have hc := readC_lens (wdX t 6)
  unfold ixR
  split
  · exact ⟨by show ([] : List UInt8).length ≤ 900000; simp, by show ([] : List UInt8).length ≤ 900000; simp⟩
  · exact ⟨by show (readC (wdX t 6)).foot.length ≤ 900000; omega, by show (readC (wdX t 6)).path.length ≤ 900000; omega⟩
end Go.Proofs.YtpomloangafbkaaGreatDoor
/- The contracts are met. -/
namespace Go.Proofs.YtpomloangafbkaaGreatDoor
set_option linter.unusedVariables false
set_option linter.unusedSimpArgs false
open Go.RowKit
theorem sndIread : Sound Tryz.prog (lookΓ gamIread) := sound_of _ fun p hp => by
  simp only [gamIread, List.mem_cons, List.not_mem_nil, or_false] at hp
  rcases hp with rfl | rfl | rfl | rfl | rfl | rfl | rfl
  · exact meetsSplitN.orNil
  · exact meetsReadID.orNil
  · exact meetsReadBal.orNil
  · exact meetsIstatus.orNil
  · exact meetsAttRead.orNil
  · exact meetsCread.orNil
  · exact meetsIshow.orNil
set_option maxHeartbeats 4000000 in
theorem meetsIread : Meets Tryz.prog 14 ireadF := by
  refine meets_of_awp (Γ := lookΓ gamIread) (L := fun _ _ => none) sndIread mixedOrders Tryz.func14 rfl Tryz.call14 ?_
  intro args q r hF hq ho
  unfold ireadF at hF
  split at hF
  · cases hF
    exact ⟨by simp only [List.length_cons, List.length_nil]; decide, okIread0 _ hq⟩
  · cases hF
end Go.Proofs.YtpomloangafbkaaGreatDoor
