/- A message's frame is opened as it: plain laws. -/
import Derived.Test.YtfoabkkkdcicgaaGreatDoorLaxPkMsgW
import Derived.Test.YtfoabkkkdcicgaaGreatDoorLaxInstRd
namespace Go.Proofs.YtfoabkkkdcicgaaGreatDoor
set_option linter.unusedVariables false
set_option linter.unusedSimpArgs false
open Go.RowKit
set_option maxRecDepth 100000

theorem eqI_zI {x : InstP} (h : eqI x zI = true) : x = zI := by
  obtain ⟨r, sl, st, bal, vote, same, ⟨k, num, foot, rq, path, mode, n, time⟩, ⟨s, d0, d1, d2, d3, d4, d5, d6⟩⟩ := x
  simp [eqI, zI, zC, zA0, instL, sameCells, AV.same] at h ⊢
  obtain ⟨h1, h2, h3, h4, h5, h6, h7, h8, h9, h10, h11, h12, h13, h14, h15⟩ := h
  exact ⟨h1, h2, h3, h4, h5, h6, ⟨h7, h8, h9, h10, h11, h12, h13, h14⟩, h15⟩
theorem body_taken {m : MsgP} (h : rightM m = true) (hb : rangeM m) : mtV (bodyM m) 0 = m ∧ mt7 (bodyM m) 0 = ([], 0) := by
  obtain ⟨a1, a2, a3, a4, a5, a6, a7, a8, a9⟩ := rightM_parts h
  have r1 : 0 ≤ m.src ∧ m.src < 7 := by simpa [repOK] using a3
  have r2 : 0 ≤ m.dst ∧ m.dst < 7 := by simpa [repOK] using a4
  obtain ⟨L6, h6⟩ : ∃ L, L = (if m.k = 6 then [] else encI m.x) := ⟨_, rfl⟩
  obtain ⟨L5, h5⟩ : ∃ L, L = encTruth m.ok ++ L6 := ⟨_, rfl⟩
  obtain ⟨L4, h4⟩ : ∃ L, L = short m.b.toNat ++ L5 := ⟨_, rfl⟩
  obtain ⟨L3, h3⟩ : ∃ L, L = encID m.r m.s ++ L4 := ⟨_, rfl⟩
  obtain ⟨L2, h2⟩ : ∃ L, L = encByte m.dst ++ L3 := ⟨_, rfl⟩
  obtain ⟨L1, h1⟩ : ∃ L, L = encByte m.src ++ L2 := ⟨_, rfl⟩
  obtain ⟨B, hB⟩ : ∃ B, B = bodyM m := ⟨_, rfl⟩
  have w1 : IntKind.u8.wrap m.k = m.k := wrap_u8 (by omega) (by omega)
  have w2 : IntKind.u8.wrap m.src = m.src := wrap_u8 (by omega) (by omega)
  have w3 : IntKind.u8.wrap m.dst = m.dst := wrap_u8 (by omega) (by omega)
  have eB : B = encByte m.k ++ L1 := by
    rw [hB, h1, h2, h3, h4, h5, h6]
    unfold bodyM catL
    rw [w1, w2, w3]
  rw [← hB]
  obtain ⟨k1, k2, k3⟩ := byte_taken (b := m.k) L1 (by omega) (by omega)
  rw [← eB] at k1 k2 k3
  have m1 : mt1 B 0 = (L1, 0) := by unfold mt1; rw [k1, k2, k3, if_pos (by simp [kOK]; omega)]
  obtain ⟨s1, s2, s3⟩ := byte_taken (b := m.src) L2 (by omega) (by omega)
  rw [← h1] at s1 s2 s3
  have m2 : mt2 B 0 = (L2, 0) := by unfold mt2; rw [m1]; simp only []; rw [s2, s3]
  have mF : mtF B 0 = m.src := by unfold mtF; rw [m1]; exact s1
  obtain ⟨d1, d2, d3⟩ := byte_taken (b := m.dst) L3 (by omega) (by omega)
  rw [← h2] at d1 d2 d3
  have mT : mtT B 0 = m.dst := by unfold mtT; rw [m2]; exact d1
  have m3 : mt3 B 0 = (L3, 0) := by unfold mt3; rw [m2, mF, mT]; simp only []; rw [d2, d3, a3, a4]; rfl
  obtain ⟨i1, i2, i3, i4⟩ := encID_taken L4 a6
  have e3 : catL (encID m.r m.s) L4 = L3 := h3.symm
  rw [e3] at i1 i2 i3 i4
  have m4 : mt4 B 0 = (L4, 0) := by unfold mt4; rw [m3]; simp only []; rw [i3, i4]
  obtain ⟨b1, b2, b3⟩ := bal_taken L5 a7 hb.1.1 hb.1.2
  have e4 : catL (short m.b.toNat) L5 = L4 := h4.symm
  rw [e4] at b1 b2 b3
  have m5 : mt5 B 0 = (L5, 0) := by unfold mt5; rw [m4]; simp only []; rw [b2, b3]
  obtain ⟨t1, t2, t3⟩ := truth_taken m.ok L6
  rw [← h5] at t1 t2 t3
  have m6 : mt6 B 0 = (L6, 0) := by unfold mt6; rw [m5]; simp only []; rw [t2, t3]
  by_cases hk : m.k = 6
  · have hz := eqI_zI (a8 hk).2
    have hn : L6 = [] := by rw [h6, if_pos hk]
    rw [mt7_no B 0 (by rw [k1]; exact hk), mtV_no B 0 (by rw [k1]; exact hk), m6, m3, m4, m5, mF, mT, k1, hn]
    refine ⟨?_, rfl⟩
    simp only []
    rw [i1, i2, b1, t1, ← hz]
  · have hn : L6 = encI m.x := by rw [h6, if_neg hk]
    obtain ⟨x1, x2, x3⟩ := itake_enc (a9 hk).1 hb.2 []
    rw [List.append_nil, ← hn] at x1 x2 x3
    rw [mt7_st B 0 (by rw [k1]; exact hk), mtV_st B 0 (by rw [k1]; exact hk), m6, m3, m4, m5, mF, mT, k1]
    simp only []
    rw [i1, i2, b1, t1, x1, x2, x3]
    exact ⟨rfl, rfl⟩
theorem openOK_seal (l : List UInt8) : openOK (sealL l) = true ∧ openV (sealL l) = l := by
  have hl := seal_len l
  have hb : bodyL (sealL l) = l := by
    unfold bodyL
    rw [hl, show l.length + 4 - 4 = l.length by omega]
    unfold sealL
    simp
  have ho : openOK (sealL l) = true := by
    unfold openOK
    rw [hb, hl]
    rw [show l.length + 4 - 4 = l.length by omega]
    unfold sealL
    simp
  exact ⟨ho, by unfold openV; rw [if_pos ho, hb]⟩
theorem rightC_lens {c : CmdP} (h : rightC c = true) : c.foot.length ≤ 64 ∧ c.path.length ≤ 64 := by
  obtain ⟨_, b2, _, b4, _, _, _, b8, b9, _⟩ := rightC_facts h
  constructor
  · rcases b2 with b2 | b2
    · rcases b8 with b8 | b8
      · rw [b2] at b8; cases b8
      · exact right_len b8
    · rw [b2.2]; exact Nat.zero_le _
  · rcases b4 with b4 | b4
    · rcases b9 with b9 | b9
      · rw [b4] at b9; cases b9
      · exact right_len b9
    · rw [b4]; exact Nat.zero_le _
theorem frame_opens {m : MsgP} (hs : smallX m.x) (h : rightM m = true) (hb : rangeM m) : mopenE (frameM m) = 0 ∧ mopenX (frameM m) = m ∧ (frameM m).length ≤ 512 := by
  obtain ⟨o1, o2⟩ := openOK_seal (bodyM m)
  obtain ⟨t1, t2⟩ := body_taken h hb
  obtain ⟨a1, a2, a3, a4, a5, a6, a7, a8, a9⟩ := rightM_parts h
  have hl : (frameM m).length ≤ 512 := by
    unfold frameM
    rw [seal_len]
    have s1 := short10 (u64_range m.s)
    have s2 : (short m.b.toNat).length ≤ 10 := short_le10 hb.1.1 (by omega)
    have : (if m.k = 6 then [] else encI m.x).length ≤ 428 := by
      split
      · simp
      · rename_i h6
        have hx := (a9 h6).1
        have hL : m.x.c.foot.length ≤ 64 ∧ m.x.c.path.length ≤ 64 := by
          by_cases h0 : m.x.st = 0
          · have := (rightI_parts hx).2.2.2.1 h0
            rw [this]; exact ⟨Nat.zero_le _, Nat.zero_le _⟩
          · exact rightC_lens ((rightI_parts hx).2.2.2.2 h0).2.2.1
        have := encI_len hs (good_of hx) hb.2
        omega
    unfold bodyM
    simp only [catL_length, encByte_len, encTruth_len, encID]
    omega
  have e0 : openE (frameM m) = 0 := by
    unfold openE frameM
    rw [if_neg (by rw [seal_len]; omega), if_pos o1]
  have hE : mopenE (frameM m) = 0 := by
    unfold mopenE
    rw [if_neg (by omega), if_neg (by rw [e0]; simp)]
    have ov : openV (frameM m) = bodyM m := o2
    rw [ov, t2, t1, h]
    rfl
  refine ⟨hE, ?_, hl⟩
  unfold mopenX
  rw [if_pos hE]
  have ov : openV (frameM m) = bodyM m := o2
  rw [ov, t1]
end Go.Proofs.YtfoabkkkdcicgaaGreatDoor
