/- Sums: the plain function and its linearity; the contracts of sum.step and sum.Of. -/
import Derived.Test.YtfoabkkkdcicgaaGreatDoorKit
import Derived.Laws.BitsAllLaws
import Derived.Lib.SlBytesConst
namespace Go.Proofs.YtfoabkkkdcicgaaGreatDoor
set_option linter.unusedVariables false
open Go.RowKit

def poly : BitVec 32 := 0xedb88320#32
/-- one bit more -/
def cbit (s : BitVec 32) : BitVec 32 := (s >>> 1) ^^^ (if s.getLsbD 0 then poly else 0#32)
def cbits : Nat → BitVec 32 → BitVec 32
  | 0, s => s
  | n + 1, s => cbit (cbits n s)
/-- one byte more -/
def cstep (s : BitVec 32) (b : UInt8) : BitVec 32 := cbits 8 (s ^^^ BitVec.ofNat 32 b.toNat)
def crcFrom (s : BitVec 32) (l : List UInt8) : BitVec 32 := l.foldl cstep s
/-- the sum -/
def crc (l : List UInt8) : BitVec 32 := ~~~ (crcFrom (BitVec.allOnes 32) l)

theorem xor_mid (a b p q : BitVec 32) : (a ^^^ b) ^^^ (p ^^^ q) = (a ^^^ p) ^^^ (b ^^^ q) := by ac_rfl
theorem cbit_xor (a b : BitVec 32) : cbit (a ^^^ b) = cbit a ^^^ cbit b := by
  unfold cbit
  rw [BitVec.ushiftRight_xor_distrib, BitVec.getLsbD_xor, ← xor_mid]
  congr 1
  cases a.getLsbD 0 <;> cases b.getLsbD 0 <;> simp
theorem cbits_xor (n : Nat) (a b : BitVec 32) : cbits n (a ^^^ b) = cbits n a ^^^ cbits n b := by
  induction n with
  | zero => rfl
  | succ n ih => simp only [cbits]; rw [ih, cbit_xor]

theorem u32v (a : BitVec 32) : (a.toNat : Int) ≤ 4294967295 := by have := a.isLt; omega
theorem xor32 (a b : BitVec 32) : bits BinOp.xor IntKind.u32 (a.toNat : Int) (b.toNat : Int) = ((a ^^^ b).toNat : Int) := by
  rw [u32_xor_nat _ _ (by have := a.isLt; omega) (by have := b.isLt; omega), BitVec.toNat_xor]
theorem shr1 (a : BitVec 32) : ((a >>> 1).toNat : Int) = (a.toNat : Int) / 2 := by
  rw [BitVec.toNat_ushiftRight, Nat.shiftRight_eq_div_pow]; simp
theorem lsb_mod (a : BitVec 32) : a.getLsbD 0 = decide (a.toNat % 2 = 1) := by
  rw [BitVec.getLsbD]; simp [Nat.testBit_zero]
theorem and1_32 (a : BitVec 32) : bits BinOp.and IntKind.u32 (a.toNat : Int) 1 = ((a.toNat % 2 : Nat) : Int) := by
  have h := u32_and (a.toNat : Int) 1 (by omega) (by have := a.isLt; omega) (by omega) (by omega)
  rw [h]
  have e : (1 : Int).toNat = 1 := rfl
  rw [e, nat_mask1]; rfl

set_option maxRecDepth 20000 in
theorem step_any (s : BitVec 32) (b : UInt8) (w : World) :
    Calls Tryz.prog 96 #[.int .u32 (s.toNat : Int), .int .u8 (b.toNat : Int)] w fun e w' => e = .returned (.int .u32 ((cstep s b).toNat : Int)) ∧ w = w' := by
  have hb : (b.toNat : Int) ≤ 255 := by have := b.toNat_lt; omega
  have h0 : bits BinOp.xor IntKind.u32 (s.toNat : Int) (b.toNat : Int) = ((s ^^^ BitVec.ofNat 32 b.toNat).toNat : Int) := by
    have h := xor32 s (BitVec.ofNat 32 b.toNat)
    have e : (BitVec.ofNat 32 b.toNat).toNat = b.toNat := by rw [BitVec.toNat_ofNat]; have := b.toNat_lt; omega
    rw [e] at h; exact h
  have hs0 := u32v s
  obtain ⟨x, hx⟩ : ∃ x, x = s ^^^ BitVec.ofNat 32 b.toNat := ⟨_, rfl⟩
  rw [← hx] at h0
  have HF : Hid (cbits 8 x = cstep s b) := by show _ = _; rw [hx]; rfl
  clear hx
  go_enter Tryz.func96, Tryz.ntmps96
  go_wp2
  go_loop [0, 10] (fun v i => ∃ (k : Nat) (y : BitVec 32), k ≤ 8 ∧ i = .int .i64 k ∧ v = .int .u32 (y.toNat : Int) ∧ Hid (y = cbits k x)) (fun _ i => 8 - (intOf i).toNat)
  case atStart => exact ⟨0, x, by omega, rfl, rfl, (rfl : _ = _)⟩
  case round =>
    obtain ⟨k, y, hk, rfl, rfl, hy⟩ := hrel
    have hy1 := u32v y
    by_cases hlt : k < 8
    · have ha := and1_32 y
      have hsh := (shr1 y).symm
      have hsr := u32v (y >>> 1)
      have hl := lsb_mod y
      by_cases hodd : y.toNat % 2 = 1
      · have HN : Hid ((y >>> 1) ^^^ poly = cbits (k + 1) x) := by show _ = _; rw [cbits, ← hy.out]; unfold cbit; rw [hl]; simp [hodd]
        have hx2 : bits BinOp.xor IntKind.u32 ((y >>> 1).toNat : Int) 3988292384 = (((y >>> 1) ^^^ poly).toNat : Int) := xor32 (y >>> 1) poly
        rw [hodd] at ha
        obtain ⟨z, hz⟩ : ∃ z, z = y >>> 1 := ⟨_, rfl⟩
        rw [← hz] at HN hx2 hsh hsr
        clear hz hl hodd hy
        obtain ⟨z', hz'⟩ : ∃ z', z' = z ^^^ poly := ⟨_, rfl⟩
        rw [← hz'] at HN hx2
        clear hz'
        go_wp2
        go_round
        case rel => exact ⟨k + 1, z', by omega, by go_num, rfl, HN⟩
        case measure => simp [intOf]; omega
      · have HN : Hid (y >>> 1 = cbits (k + 1) x) := by show _ = _; rw [cbits, ← hy.out]; unfold cbit; rw [hl]; simp [hodd]
        have hm0 : y.toNat % 2 = 0 := by omega
        rw [hm0] at ha
        obtain ⟨z, hz⟩ : ∃ z, z = y >>> 1 := ⟨_, rfl⟩
        rw [← hz] at HN hsh hsr
        clear hz hl hodd hy hm0
        go_wp2
        go_round
        case rel => exact ⟨k + 1, z, by omega, by go_num, rfl, HN⟩
        case measure => simp [intOf]; omega
    · obtain rfl : k = 8 := by omega
      go_wp2
      go_ret
      exact ⟨by rw [← HF.out, ← hy.out]; rfl, rfl⟩

/-- Parts of a message, each a slice of bytes. -/
def RdParts (w : World) (B : Nat) (A : Option Addr) (ps : List (List UInt8)) : Prop :=
  ∃ vs : List Value, vs.length = ps.length ∧ Rd w B A vs ∧ ∀ i (h : i < ps.length), ∃ A' c, vs[i]? = some (.slice A' ps[i].length c) ∧ Rd w B A' (ps[i].map bv) ∧ ps[i].length ≤ 9223372036854775807
theorem RdParts.nil (w : World) (B : Nat) (A : Option Addr) : RdParts w B A [] := ⟨[], rfl, Rd.nil, fun i h => by simp at h⟩
theorem crcFrom_append (s : BitVec 32) (a b : List UInt8) : crcFrom s (a ++ b) = crcFrom (crcFrom s a) b := by unfold crcFrom; rw [List.foldl_append]
theorem not32 (y : BitVec 32) : bits BinOp.xor IntKind.u32 4294967295 (y.toNat : Int) = ((~~~ y).toNat : Int) := by
  have h := xor32 (BitVec.allOnes 32) y
  have e : ((BitVec.allOnes 32).toNat : Int) = 4294967295 := by decide +kernel
  rw [e] at h
  rw [h, BitVec.xor_comm, BitVec.xor_allOnes]

set_option maxRecDepth 20000 in
theorem of_any (ps : List (List UInt8)) (N c B : Nat) (A : Option Addr) (w : World) (hN : N = ps.length) (hr : RdParts w B A ps) (hN' : N ≤ 9223372036854775807) :
    Calls Tryz.prog 77 #[.slice A N c] w fun e w' => e = .returned (.int .u32 ((crc ps.flatten).toNat : Int)) ∧ w = w' := by
  have HN := Lib.hid hN
  clear hN
  obtain ⟨vs, hvl, hrv, hparts⟩ := hr
  have HV := Lib.hid hvl
  have HP := Lib.hid hparts
  clear hvl hparts
  have e1 : Hid ((4294967295 : Int) = ((BitVec.allOnes 32).toNat : Int)) := by show _ = _; decide +kernel
  go_enter Tryz.func77, Tryz.ntmps77
  go_wp2
  go_loop [3, 10] (fun v i => ∃ (k : Nat) (y : BitVec 32), k ≤ N ∧ i = .int .i64 k ∧ v = .int .u32 (y.toNat : Int) ∧ Hid (y = crcFrom (BitVec.allOnes 32) (ps.take k).flatten)) (fun _ i => N - (intOf i).toNat)
  case atStart => exact ⟨0, BitVec.allOnes 32, by omega, rfl, by rw [← e1.out], (rfl : _ = _)⟩
  case round =>
    obtain ⟨k, y, hk, rfl, rfl, hy⟩ := hrel
    by_cases hlt : k < N
    · have hkl : k < ps.length := by rw [← HN.out]; exact hlt
      obtain ⟨A', c', hv, hr', hlen⟩ := HP.out k hkl
      obtain ⟨M, hM⟩ : ∃ M, M = ps[k].length := ⟨_, rfl⟩
      rw [← hM] at hv hlen
      have HM := Lib.hid hM
      obtain ⟨b, off, rfl, hbb, hcell⟩ := hrv.open_ (by rw [HV.out]; omega)
      have hc1 : w.cell? ⟨b, off + k, none⟩ = some (.slice A' M c') := by
        rw [hcell k (by rw [HV.out]; exact hkl)]
        rw [← hv]; exact (List.getElem?_eq_getElem _).symm
      have HL : Hid (ps.take (k + 1) = ps.take k ++ [ps[k]]) := List.take_succ_eq_append_getElem hkl
      obtain ⟨q, hq⟩ : ∃ q, q = ps[k] := ⟨_, rfl⟩
      rw [← hq] at HM HL hr'
      clear hcell hv hM hq hkl
      go_wp2
      go_loop [3, 16] (fun v i => ∃ (j : Nat) (z : BitVec 32), j ≤ M ∧ i = .int .i64 j ∧ v = .int .u32 (z.toNat : Int) ∧ Hid (z = crcFrom y (q.take j))) (fun _ i => M - (intOf i).toNat)
      case atStart => exact ⟨0, y, by omega, rfl, rfl, (rfl : _ = _)⟩
      case round =>
        obtain ⟨j, z, hj, rfl, rfl, hz⟩ := hrel
        by_cases hjt : j < M
        · have hjl : j < q.length := by rw [← HM.out]; exact hjt
          obtain ⟨b2, off2, rfl, hbb2, hcell2⟩ := hr'.open_ (by simp; omega)
          have hc2 : w.cell? ⟨b2, off2 + j, none⟩ = some (.int .u8 (q[j].toNat : Int)) := by rw [hcell2 j (by simpa using hjl), List.getElem_map]; rfl
          obtain ⟨x, hx⟩ : ∃ x, x = q[j] := ⟨_, rfl⟩
          rw [← hx] at hc2
          have HZ : Hid (cstep z x = crcFrom y (q.take (j + 1))) := by
            show _ = _
            rw [List.take_succ_eq_append_getElem hjl, crcFrom_append, ← hz.out, hx]; rfl
          clear hcell2 hx hjl
          go_wp2_with (go_at_call 96; refine (step_any _ _ _).mono ?_; rintro e w2 ⟨rfl, rfl⟩)
          go_round
          case rel => exact ⟨j + 1, cstep z x, by omega, by go_num, rfl, HZ⟩
          case measure => simp [intOf]; omega
        · obtain rfl : M = j := by omega
          have HZ : Hid (z = crcFrom (BitVec.allOnes 32) (ps.take (k + 1)).flatten) := by
            show _ = _
            rw [HL.out, List.flatten_append, crcFrom_append, ← hy.out, hz.out, HM.out, List.take_length]; simp
          go_wp2
          go_round
          case rel => exact ⟨k + 1, z, by omega, by go_num, rfl, HZ⟩
          case measure => simp [intOf]; omega
    · obtain rfl : N = k := by omega
      have hn := not32 y
      have HF : Hid (~~~ y = crc ps.flatten) := by
        show _ = _
        unfold crc
        rw [hy.out, HN.out, List.take_length]
      go_wp2
      go_ret
      exact ⟨by rw [← HF.out]; first | rfl | exact ret_int hn, rfl⟩

theorem RdParts.one {w : World} {B B' g n c : Nat} {A : Option Addr} {q : List UInt8} (hcell : w.cell? ⟨g, 0, none⟩ = some (.slice A n c)) (hg : g < B) (hn : n = q.length) (hq : Rd w B' A (q.map bv)) (hB : B' ≤ B) (hl : n ≤ 9223372036854775807) :
    RdParts w B (some ⟨g, 0, none⟩) [q] := by
  subst hn
  refine ⟨[.slice A q.length c], rfl, .inr ⟨g, 0, rfl, hg, fun j u hu => ?_⟩, fun i h => ?_⟩
  · match j, hu with
    | 0, hu => simp at hu; subst hu; simpa using hcell
  · match i, h with
    | 0, _ => exact ⟨A, c, rfl, hq.more hB, hl⟩
theorem of_one (q : List UInt8) (V : World) (B g n c : Nat) (A : Option Addr) (W : World) (hn : n = q.length) (hq : Rd V B A (q.map bv)) (hB : B ≤ V.heap.size) (hl : n ≤ 9223372036854775807) (hb : Below V.heap.size V W) (hcell : W.cell? ⟨g, 0, none⟩ = some (.slice A n c)) :
    Calls Tryz.prog 77 #[.slice (some ⟨g, 0, none⟩) 1 1] W fun e w' => e = .returned (.int .u32 ((crc q).toNat : Int)) ∧ W = w' := by
  have h := of_any [q] 1 1 (max B (g + 1)) (some ⟨g, 0, none⟩) W rfl (RdParts.one hcell (by omega) hn (hq.below hb hB) (by omega) hl) (by omega)
  simpa using h

theorem crc_check : ((crc [49, 50, 51, 52, 53, 54, 55, 56, 57]).toNat : Int) = 3421780262 := by decide +kernel
theorem crc_nil : ((crc []).toNat : Int) = 0 := by decide +kernel
theorem new_marked (w : World) (cs : Array Value) (t : TypeId) (fr : Nat × Nat) : ∃ V, V = w.alloc (.cells cs t fr) ∧ Rd V (w.heap.size + 1) (some ⟨w.heap.size, 0, none⟩) cs.toList ∧ Below w.heap.size w V := by
  refine ⟨_, rfl, .inr ⟨_, 0, rfl, by omega, fun j u hu => ?_⟩, (Below.refl _ _).alloc (Nat.le_refl _) _⟩
  rw [Nat.zero_add]
  exact (cell_of_row _ _ j cs t fr (heap_alloc_new w _)).trans (by simpa using hu)
end Go.Proofs.YtfoabkkkdcicgaaGreatDoor
