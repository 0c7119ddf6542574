/- The conditions of SumSeals hold. -/
import Derived.Test.YtnhfjdbnkpbbkabLaxSealsVc
namespace Go.Proofs.Ytnhfjdbnkpbbkab
set_option linter.unusedVariables false
set_option linter.unusedSimpArgs false
open Go.RowKit
set_option maxRecDepth 100000

theorem okSame0 : OkSame0 := by
  intro xs ys hq
  refine vcSame0 xs ys ?_
  obtain ⟨hb, hl, rfl⟩ := hq
  obtain ⟨l, rfl⟩ := hb.get
  simp only [true_and, and_true, forall_eq, eq_self, bytesL_bytesAV, isBytes_bytesAV, length_bytesAV] at hl ⊢
  refine cond_prop (fun h => by simp at h) fun _ => ⟨⟨(0 : Nat), rfl, Nat.zero_le _⟩, fun i hi => cond_prop (fun h => ?_) fun _ => trivial⟩
  have h' : i < l.length := by simpa using h
  have oe : okElem 1 (bytesAV l) ((i : Int)).toNat := okElem_bytes (by omega)
  have ore : okRead [Kd.int .u8] (elemAt (bytesAV l) ((i : Int)).toNat) 0 := okRead_bytes (by omega)
  refine ⟨⟨by omega, by omega, oe⟩, ore, ⟨by omega, by omega, oe⟩, ore, cond_prop (fun h => by simp at h) fun _ => ⟨i + 1, ?_, h', by omega⟩⟩
  have : IntKind.i64.wrap ((i : Int) + 1) = (i : Int) + 1 := by rw [IntKind.wrap_i64]; omega
  rw [this]; rfl
theorem okEqual0 : OkEqual0 := by
  intro xs ys hq
  refine vcEqual0 xs ys ?_
  simp only [true_and, and_true, forall_eq, eq_self]
  exact ⟨hq.1, hq.2, by by_cases h : bytesL xs = bytesL ys <;> simp [h]⟩
theorem flat_one (l : List UInt8) : flatL [AV.sl (bytesAV l) Own.no] = l := by
  have : partL (AV.sl (bytesAV l) Own.no) = l := bytesL_bytesAV l
  simp [flatL, this]
theorem parts_one (l : List UInt8) : isParts [AV.sl (bytesAV l) Own.no] := by
  intro x hx; simp at hx; subst hx; exact ⟨l, _, rfl⟩
theorem tailL_len (v : Int) : (tailL v).length = 4 := rfl
theorem okSeal0 : OkSeal0 := by
  intro xs hq
  refine vcSeal0 xs ?_
  obtain ⟨hb, hl⟩ := hq
  obtain ⟨l, rfl⟩ := hb.get
  simp only [true_and, and_true, forall_eq, eq_self, bytesL_bytesAV, isBytes_bytesAV, length_bytesAV, flat_one, tailL_len] at hl ⊢
  exact ⟨by omega, parts_one l, ⟨by omega, by omega, by first | exact ⟨okWidth_bytes _, okWidth_bytes _⟩ | exact okWidth_bytes _⟩, by rw [catL_bytes]; rfl⟩
theorem cutS (l : List UInt8) (a b : Nat) : cutL (bytesAV l) a b = bytesAV (cutL l a b) := by simp [cutL, bytesAV]
theorem okOpen0 : OkOpen0 := by
  intro xs hq
  refine vcOpen0 xs ?_
  obtain ⟨hb, hl, ho⟩ := hq
  obtain ⟨l, rfl⟩ := hb.get
  simp only [true_and, and_true, forall_eq, eq_self, bytesL_bytesAV, isBytes_bytesAV, length_bytesAV, cutS, flat_one] at hl ho ⊢
  obtain ⟨h4, he⟩ := ho
  have ew : IntKind.i64.wrap ((l.length : Int) - 4) = (l.length : Int) - 4 := by rw [IntKind.wrap_i64]; omega
  rw [ew]
  have et : ((l.length : Int) - 4).toNat = l.length - 4 := by omega
  rw [et]
  have c1 : cutL l 0 (l.length - 4) = bodyL l := by simp [cutL, bodyL]
  have c2 : cutL l (l.length - 4) l.length = l.drop (l.length - 4) := by simp [cutL]
  have hbl : (bodyL l).length ≤ l.length := by simp [bodyL]
  rw [c1, c2, he]
  refine cond_prop (fun h => by simp at h; omega) fun _ => ⟨⟨⟨by omega, by omega⟩, okWidth_bytes _⟩, ⟨⟨by omega, by omega⟩, okWidth_bytes _⟩, parts_one _, cond_prop (fun h => by simp at h) fun _ => ⟨⟨⟨by omega, by omega⟩, okWidth_bytes _⟩, by omega, rfl⟩⟩
theorem seal_len (l : List UInt8) : (sealL l).length = l.length + 4 := by simp [sealL, tailL_len]
theorem body_seal (l : List UInt8) : bodyL (sealL l) = l := by
  unfold bodyL
  rw [seal_len]
  simp [sealL]
theorem open_seal (l : List UInt8) : openOK (sealL l) := by
  refine ⟨by rw [seal_len]; omega, ?_⟩
  rw [body_seal, seal_len]
  simp [sealL]
theorem okLawSeals0 : OkLawSeals0 := by
  intro xs hq
  refine vcLawSeals0 xs ?_
  obtain ⟨hb, hl⟩ := hq
  obtain ⟨l, rfl⟩ := hb.get
  simp only [true_and, and_true, forall_eq, eq_self, bytesL_bytesAV, isBytes_bytesAV, length_bytesAV, body_seal, seal_len] at hl ⊢
  have ew : IntKind.i64.wrap ((l.length : Int) + 4) = (l.length : Int) + 4 := by rw [IntKind.wrap_i64]; omega
  rw [ew]
  refine ⟨by omega, ⟨by omega, open_seal l⟩, cond_prop (fun _ => ⟨by omega, ?_⟩) fun h => by simp at h⟩
  simp
end Go.Proofs.Ytnhfjdbnkpbbkab
