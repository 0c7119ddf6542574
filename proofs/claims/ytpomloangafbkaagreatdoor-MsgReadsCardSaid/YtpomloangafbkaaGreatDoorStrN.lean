/- strings.SplitN, by content. -/
import Derived.Test.YtpomloangafbkaaGreatDoorStrs
namespace Go.Proofs.YtpomloangafbkaaGreatDoor
set_option linter.unusedVariables false
set_option linter.unusedSimpArgs false
open Go.RowKit

section
variable {P : Program}
theorem meets_rowT {f : Nat} {F : Con} (hent : ∀ args w, (callFunc f args).run P w = .ok (.enter f args) w)
    (h : ∀ args q r, F args = some (q, r) → q → ∃ (l : List AV) (xs : List AV) (e : Nat), args = vals l ∧ l.all AV.plain = true ∧ (∀ v ∈ l, v.drop = v) ∧ r = ⟨.sl xs (.row 0 0 e), none, none⟩ ∧ 0 < tsize P e ∧ (∀ x ∈ xs, x.cells.all AV.flatCell = true) ∧
      ∀ (us : Array Value) (w : World) (S : Nat → Nat → Prop), (∃ o b, TT P w o b) → us.size = l.length → (∀ (i : Nat) v, l[i]? = some v → ∃ u, us[i]? = some u ∧ RepV w S v u) →
        Calls P f us w fun en w' => ∃ v, en = .returned v ∧ Below w.heap.size w w' ∧ ∃ zs, w'.ownsRow w.heap.size e (tsize P e) v xs.length zs ∧ FL w' (More S w) (tsize P e) xs zs) : Meets P f F := by
  refine ⟨hent, ?_⟩
  intro args us w GE own d site q r hF hq hc hsite hs
  obtain ⟨l, xs, e, rfl, hpl, hdr, rfl, hpos, hflat, hcall⟩ := h args q r hF hq
  obtain rfl : site = none := by
    cases site with
    | none => rfl
    | some _ => cases hsite
  have hsz : us.size = l.length := by simpa [vals] using hc.size
  refine (hcall us w (stable P (entrySt (vals l)) GE) ⟨own.of, _, hc.tt⟩ hsz (fun i v hv => ?_)).mono ?_
  · have hi := (List.getElem?_eq_some_iff.1 hv).1
    have e : (entrySt (vals l)).tmps i = v := by simp [entrySt, vals_get, hv]
    have h1 := hc.tmps i
    rw [e] at h1
    rw [List.all_eq_true] at hpl
    have h2 := repV_of h1 (hpl v (List.mem_of_getElem? hv))
    rw [hdr v (List.mem_of_getElem? hv)] at h2
    refine ⟨us.getD i undef, ?_, h2⟩
    have hi' : i < us.size := by omega
    simp [Array.getD_eq_getD_getElem?, hi']
  · rintro en w' ⟨v, rfl, hb, zs, hown, hfl⟩
    have hxr : ∀ x y, (exitSt d none ⟨.sl xs (.row 0 0 e), none, none⟩).rows x y = if x = d ∧ y = 0 then .live xs.length else .free := by
      intro x y
      have ho : (⟨.sl xs (.row 0 0 e), none, none⟩ : Res).outs = [.sl xs (.row 0 0 e)] := rfl
      simp only [exitSt]
      rw [retRows_at, ho]
      simp only [Nat.zero_le, and_true, Nat.sub_zero]
      cases y with
      | zero =>
        have : tells [AV.sl xs (.row 0 0 e)] 0 = some (xs.length, e) := rfl
        simp only [this, and_true]
      | succ y =>
        have : tells [AV.sl xs (.row 0 0 e)] (y + 1) = none := by simp [tells]
        simp [this]
    have hxl : ∀ {x y tip}, (exitSt d none ⟨.sl xs (.row 0 0 e), none, none⟩).rows x y = .live tip → x = d ∧ y = 0 ∧ tip = xs.length := by
      intro x y tip h
      rw [hxr] at h
      split at h
      · rename_i h1; cases h; exact ⟨h1.1, h1.2, rfl⟩
      · cases h
    have hxb : ∀ x, (exitSt d none ⟨.sl xs (.row 0 0 e), none, none⟩).boxes x = none := by
      intro x
      simp [exitSt]
    have hown0 : w'.ownsRow 0 e (tsize P e) v xs.length zs := ⟨hown.1, by
      rcases hown.2 with h1 | ⟨g, cap, cur, h1, h2, h3⟩
      · exact .inl h1
      · exact .inr ⟨g, cap, cur, h1, Nat.zero_le _, h3⟩⟩
    refine ⟨⟨fun _ => 0, fun _ _ => v, fun _ _ => e, GE.bad⟩, v, rfl, ⟨fun s cs h => (by rw [hxb] at h; cases h), fun s cs s' cs' h => (by rw [hxb] at h; cases h), fun x y tip h => ?_, fun x y tip x' y' tip' g h h' _ _ => ?_, fun s cs x y tip h => (by rw [hxb] at h; cases h)⟩, ?_, fun i s h => (by cases h), pres_below hb, fun s cs h => (by rw [hxb] at h; cases h), fun x y tip g h hg => .inl (hown.lt g hg).1, rfl, fun x y tip g o h hg => ?_⟩
    · obtain ⟨_, _, rfl⟩ := hxl h
      exact ⟨hpos, zs, hown0⟩
    · obtain ⟨rfl, rfl, _⟩ := hxl h
      obtain ⟨rfl, rfl, _⟩ := hxl h'
      exact ⟨rfl, rfl⟩
    · refine (⟨?_, ?_⟩ : Rep1 P _ _ w' (.sl xs (.row d 0 e)) v)
      · refine FL.row (S := stable P _ _) hown0 rfl ?_ ?_
        · -- the elements' own slices lie outside the new block, or in it ahead of its end
          refine ⟨hfl.1, fun i x hx => ⟨(hfl.2 i x hx).1, fun j c hcj => ?_⟩⟩
          obtain ⟨h1, u, h2, h3⟩ := (hfl.2 i x hx).2 j c hcj
          refine ⟨h1, u, h2, ?_⟩
          have hf := hflat x (List.mem_of_getElem? hx)
          rw [List.all_eq_true] at hf
          exact h3.flat (hf c (List.mem_of_getElem? hcj))
        · intro g o hg ho
          refine ⟨?_, fun s cs h => (by rw [hxb] at h; cases h), fun x y tip h hg' => ?_⟩
          · intro hbad
            have := hc.bad g o hbad
            have := (hown.lt g hg).1
            omega
          · obtain ⟨_, _, rfl⟩ := hxl h
            exact ho
      · have := hxr d 0
        rw [if_pos ⟨rfl, rfl⟩] at this
        rw [this]
        exact ⟨rfl, Nat.le_refl _, fun _ => rfl⟩
    · intro hbad
      have := hc.bad g o hbad
      have := (hown.lt g hg).1
      omega

end
/-- a text's words, the last of which is all that is left -/
def splitM (s sep : List UInt8) (n : Nat) : List (List UInt8) := Lib.splitK sep 0 (min n (s.length + 1) - 1) s
theorem splitK_count (sep : List UInt8) : ∀ (k : Nat) (s : List UInt8), (Lib.splitK sep 0 k s).length ≤ k + 1
  | 0, s => by simp [Lib.splitK]
  | k + 1, s => by
    unfold Lib.splitK
    split
    · simp
    · have := splitK_count sep k
      simp only [List.length_cons]
      have h := this (s.drop ((Lib.index s sep).toNat + sep.length))
      omega
theorem splitM_len (s sep : List UInt8) (n : Nat) (h : 1 ≤ n) : (splitM s sep n).length ≤ n ∧ (splitM s sep n).length ≤ s.length + 1 := by
  have := splitK_count sep (min n (s.length + 1) - 1) s
  unfold splitM
  omega
theorem splitM_mem (s sep : List UInt8) (n : Nat) : ∀ x ∈ splitM s sep n, x.length ≤ s.length := splitK_len sep _ s
theorem ts_str : tsize Tryz.prog 9 = 1 := by kernel_rfl
theorem flat_strs (l : List (List UInt8)) : ∀ x ∈ strsAV l, x.cells.all AV.flatCell = true := by
  intro x hx
  obtain ⟨b, _, rfl⟩ := List.mem_map.1 hx
  rfl
theorem FL_strs {w : World} {S : Nat → Nat → Prop} (l : List (List UInt8)) (hl : ∀ x ∈ l, x.length ≤ 9223372036854775807) : FL w S 1 (strsAV l) (l.map strV) := by
  refine ⟨by simp [strsAV], fun i x hx => ?_⟩
  simp only [strsAV, List.getElem?_map, Option.map_eq_some_iff] at hx
  obtain ⟨b, hb, rfl⟩ := hx
  refine ⟨rfl, fun j c hc => ?_⟩
  match j, hc with
  | 0, hc =>
    simp [AV.cells] at hc
    subst hc
    exact ⟨rfl, strV b, by simp [hb], RepP.str b (hl b (List.mem_of_getElem? hb))⟩
  | j + 1, hc => simp [AV.cells] at hc
theorem splitB_mapK (s sep : List UInt8) (k : Nat) : Lib.splitB ⟨sep.toArray⟩ 0 k ⟨s.toArray⟩ = (Lib.splitK sep 0 k s).map fun x => (⟨x.toArray⟩ : ByteArray) := by
  have h := Lib.splitB_data ⟨sep.toArray⟩ 0 k ⟨s.toArray⟩
  simp only [] at h
  rw [← h, List.map_map]
  conv => lhs; rw [← List.map_id (Lib.splitB _ _ _ _)]
  exact List.map_congr_left fun x _ => by simp
def genSF : Con
  | [.val (.str s), .val (.str sep), .val (.int .i64 sv), .val (.int .i64 n)] => some (s.length < 4294967281 ∧ 1 ≤ sep.length ∧ sv = 0 ∧ 1 ≤ n ∧ n ≤ 1000000, ⟨.sl (strsAV (splitM s sep n.toNat)) (.row 0 0 9), none, none⟩)
  | _ => none
theorem four_args {w : World} {S : Nat → Nat → Prop} {a b c d : AV} {us : Array Value} (hs : us.size = [a, b, c, d].length) (h : ∀ (i : Nat) v, [a, b, c, d][i]? = some v → ∃ u, us[i]? = some u ∧ RepV w S v u) : ∃ u1 u2 u3 u4, us = #[u1, u2, u3, u4] ∧ RepV w S a u1 ∧ RepV w S b u2 ∧ RepV w S c u3 ∧ RepV w S d u4 := by
  obtain ⟨u1, e1, r1⟩ := h 0 a rfl
  obtain ⟨u2, e2, r2⟩ := h 1 b rfl
  obtain ⟨u3, e3, r3⟩ := h 2 c rfl
  obtain ⟨u4, e4, r4⟩ := h 3 d rfl
  refine ⟨u1, u2, u3, u4, ?_, r1, r2, r3, r4⟩
  apply Array.ext
  · simpa using hs
  · intro i h1 h2
    have h3 : i < 4 := by simpa using h2
    match i, h3 with
    | 0, _ => simpa [Array.getElem?_eq_getElem h1] using e1
    | 1, _ => simpa [Array.getElem?_eq_getElem h1] using e2
    | 2, _ => simpa [Array.getElem?_eq_getElem h1] using e3
    | 3, _ => simpa [Array.getElem?_eq_getElem h1] using e4
set_option maxRecDepth 100000 in
theorem meetsGenS : Meets Tryz.prog 74 genSF := by
  refine meets_rowT Tryz.call74 ?_
  intro args q r hF hq
  unfold genSF at hF
  split at hF
  · rename_i s sep sv n
    cases hF
    obtain ⟨q1, q2, rfl, q3, q4⟩ := hq
    refine ⟨[.str s, .str sep, .int .i64 0, .int .i64 n], _, _, rfl, rfl, fun x hx => (by simp at hx; rcases hx with rfl | rfl | rfl | rfl <;> rfl), rfl, by rw [ts_str]; omega, flat_strs _, ?_⟩
    intro us w S ht hs h
    obtain ⟨o, ob, ht⟩ := ht
    obtain ⟨u1, u2, u3, u4, rfl, r1, r2, r3, r4⟩ := four_args hs h
    obtain ⟨rfl, h0⟩ := repV_str r1
    obtain ⟨rfl, h0'⟩ := repV_str r2
    cases r3
    cases r4
    obtain ⟨m, hm⟩ := ht.facts.max 1 (by kernel_rfl)
    have hN : ((min n.toNat (s.length + 1) : Nat) : Int) = min (if n < 0 then (Lib.countB ⟨s.toArray⟩ ⟨sep.toArray⟩ : Int) + 1 else n) (((⟨s.toArray⟩ : ByteArray).size : Int) + 1) := by
      rw [if_neg (by omega)]
      simp [ByteArray.size]
      omega
    refine (Tryz.strings_genSplit ⟨s.toArray⟩ ⟨sep.toArray⟩ 0 n (min n.toNat (s.length + 1)) m w (by simpa [ByteArray.size] using q1) hm (by simpa [ByteArray.size] using q2) (Nat.zero_le _) (by omega) (by omega) hN).mono ?_
    rintro e w' ⟨rfl, rfl⟩
    rw [splitB_mapK, ts_str]
    have hc := splitM_len s sep n.toNat (by omega)
    have hle : (splitM s sep n.toNat).length ≤ min n.toNat (s.length + 1) := by omega
    have e0 : Lib.splitK sep 0 (min n.toNat (s.length + 1) - 1) s = splitM s sep n.toNat := rfl
    rw [e0, List.length_map]
    refine ⟨_, rfl, (Below.refl _ w).alloc (Nat.le_refl _) _, (splitM s sep n.toNat).map strV, ⟨by simp [strsAV], .inr ⟨w.heap.size, min n.toNat (s.length + 1), _, by rw [length_strsAV], Nat.le_refl _, World.alloc_heap_new w _, by rw [length_strsAV]; exact hle, by unfold maxLen; omega, by rw [Lib.cellsOf_size (by rw [List.length_map]; exact hle)]; omega, ?_⟩⟩, FL_strs _ fun x hx => by have := splitM_mem s sep _ x hx; omega⟩
    unfold Lib.cellsOf
    rw [length_strsAV, Nat.mul_one, List.map_map]
    simp
  · cases hF
end Go.Proofs.YtpomloangafbkaaGreatDoor
