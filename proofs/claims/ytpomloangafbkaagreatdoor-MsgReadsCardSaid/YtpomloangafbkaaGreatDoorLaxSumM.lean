/- The sums, by content: contracts out of the walked ones. -/
import Derived.Test.YtpomloangafbkaaGreatDoorKit
import Derived.Laws.BitsAllLaws
import Derived.Lib.SlBytesConst
import Derived.Test.YtpomloangafbkaaGreatDoorLaxCloneS
namespace Go.Proofs.YtpomloangafbkaaGreatDoor
set_option linter.unusedVariables false
open Go.RowKit

def poly : BitVec 32 := 0xedb88320#32
/-- one bit more -/
def cbit (s : BitVec 32) : BitVec 32 := (s >>> 1) ^^^ (if s.getLsbD 0 then poly else 0#32)
def cbits : Nat → BitVec 32 → BitVec 32
  | 0, s => s
  | n + 1, s => cbit (cbits n s)
/-- one byte more -/
def cstep (s : BitVec 32) (b : UInt8) : BitVec 32 := cbits 8 (s ^^^ BitVec.ofNat 32 b.toNat)
def crcFrom (s : BitVec 32) (l : List UInt8) : BitVec 32 := l.foldl cstep s
/-- the sum -/
def crc (l : List UInt8) : BitVec 32 := ~~~ (crcFrom (BitVec.allOnes 32) l)

theorem u32v (a : BitVec 32) : (a.toNat : Int) ≤ 4294967295 := by have := a.isLt; omega
theorem xor32 (a b : BitVec 32) : bits BinOp.xor IntKind.u32 (a.toNat : Int) (b.toNat : Int) = ((a ^^^ b).toNat : Int) := by
  rw [u32_xor_nat _ _ (by have := a.isLt; omega) (by have := b.isLt; omega), BitVec.toNat_xor]
theorem shr1 (a : BitVec 32) : ((a >>> 1).toNat : Int) = (a.toNat : Int) / 2 := by
  rw [BitVec.toNat_ushiftRight, Nat.shiftRight_eq_div_pow]; simp
theorem lsb_mod (a : BitVec 32) : a.getLsbD 0 = decide (a.toNat % 2 = 1) := by
  rw [BitVec.getLsbD]; simp [Nat.testBit_zero]
theorem and1_32 (a : BitVec 32) : bits BinOp.and IntKind.u32 (a.toNat : Int) 1 = ((a.toNat % 2 : Nat) : Int) := by
  have h := u32_and (a.toNat : Int) 1 (by omega) (by have := a.isLt; omega) (by omega) (by omega)
  rw [h]
  have e : (1 : Int).toNat = 1 := rfl
  rw [e, nat_mask1]; rfl

set_option maxRecDepth 20000 in
theorem step_any (s : BitVec 32) (b : UInt8) (w : World) :
    Calls Tryz.prog 145 #[.int .u32 (s.toNat : Int), .int .u8 (b.toNat : Int)] w fun e w' => e = .returned (.int .u32 ((cstep s b).toNat : Int)) ∧ w = w' := by
  have hb : (b.toNat : Int) ≤ 255 := by have := b.toNat_lt; omega
  have h0 : bits BinOp.xor IntKind.u32 (s.toNat : Int) (b.toNat : Int) = ((s ^^^ BitVec.ofNat 32 b.toNat).toNat : Int) := by
    have h := xor32 s (BitVec.ofNat 32 b.toNat)
    have e : (BitVec.ofNat 32 b.toNat).toNat = b.toNat := by rw [BitVec.toNat_ofNat]; have := b.toNat_lt; omega
    rw [e] at h; exact h
  have hs0 := u32v s
  obtain ⟨x, hx⟩ : ∃ x, x = s ^^^ BitVec.ofNat 32 b.toNat := ⟨_, rfl⟩
  rw [← hx] at h0
  have HF : Hid (cbits 8 x = cstep s b) := by show _ = _; rw [hx]; rfl
  clear hx
  go_enter Tryz.func145, Tryz.ntmps145
  go_wp2
  go_loop [0, 10] (fun v i => ∃ (k : Nat) (y : BitVec 32), k ≤ 8 ∧ i = .int .i64 k ∧ v = .int .u32 (y.toNat : Int) ∧ Hid (y = cbits k x)) (fun _ i => 8 - (intOf i).toNat)
  case atStart => exact ⟨0, x, by omega, rfl, rfl, (rfl : _ = _)⟩
  case round =>
    obtain ⟨k, y, hk, rfl, rfl, hy⟩ := hrel
    have hy1 := u32v y
    by_cases hlt : k < 8
    · have ha := and1_32 y
      have hsh := (shr1 y).symm
      have hsr := u32v (y >>> 1)
      have hl := lsb_mod y
      by_cases hodd : y.toNat % 2 = 1
      · have HN : Hid ((y >>> 1) ^^^ poly = cbits (k + 1) x) := by show _ = _; rw [cbits, ← hy.out]; unfold cbit; rw [hl]; simp [hodd]
        have hx2 : bits BinOp.xor IntKind.u32 ((y >>> 1).toNat : Int) 3988292384 = (((y >>> 1) ^^^ poly).toNat : Int) := xor32 (y >>> 1) poly
        rw [hodd] at ha
        obtain ⟨z, hz⟩ : ∃ z, z = y >>> 1 := ⟨_, rfl⟩
        rw [← hz] at HN hx2 hsh hsr
        clear hz hl hodd hy
        obtain ⟨z', hz'⟩ : ∃ z', z' = z ^^^ poly := ⟨_, rfl⟩
        rw [← hz'] at HN hx2
        clear hz'
        go_wp2
        go_round
        case rel => exact ⟨k + 1, z', by omega, by go_num, rfl, HN⟩
        case measure => simp [intOf]; omega
      · have HN : Hid (y >>> 1 = cbits (k + 1) x) := by show _ = _; rw [cbits, ← hy.out]; unfold cbit; rw [hl]; simp [hodd]
        have hm0 : y.toNat % 2 = 0 := by omega
        rw [hm0] at ha
        obtain ⟨z, hz⟩ : ∃ z, z = y >>> 1 := ⟨_, rfl⟩
        rw [← hz] at HN hsh hsr
        clear hz hl hodd hy hm0
        go_wp2
        go_round
        case rel => exact ⟨k + 1, z, by omega, by go_num, rfl, HN⟩
        case measure => simp [intOf]; omega
    · obtain rfl : k = 8 := by omega
      go_wp2
      go_ret
      exact ⟨by rw [← HF.out, ← hy.out]; rfl, rfl⟩

/-- Parts of a message, each a slice of bytes. -/
def RdParts (w : World) (B : Nat) (A : Option Addr) (ps : List (List UInt8)) : Prop :=
  ∃ vs : List Value, vs.length = ps.length ∧ Rd w B A vs ∧ ∀ i (h : i < ps.length), ∃ A' c, vs[i]? = some (.slice A' ps[i].length c) ∧ Rd w B A' (ps[i].map bv) ∧ ps[i].length ≤ 9223372036854775807
theorem RdParts.nil (w : World) (B : Nat) (A : Option Addr) : RdParts w B A [] := ⟨[], rfl, Rd.nil, fun i h => by simp at h⟩
theorem crcFrom_append (s : BitVec 32) (a b : List UInt8) : crcFrom s (a ++ b) = crcFrom (crcFrom s a) b := by unfold crcFrom; rw [List.foldl_append]
theorem not32 (y : BitVec 32) : bits BinOp.xor IntKind.u32 4294967295 (y.toNat : Int) = ((~~~ y).toNat : Int) := by
  have h := xor32 (BitVec.allOnes 32) y
  have e : ((BitVec.allOnes 32).toNat : Int) = 4294967295 := by decide +kernel
  rw [e] at h
  rw [h, BitVec.xor_comm, BitVec.xor_allOnes]

set_option maxRecDepth 20000 in
theorem of_any (ps : List (List UInt8)) (N c B : Nat) (A : Option Addr) (w : World) (hN : N = ps.length) (hr : RdParts w B A ps) (hN' : N ≤ 9223372036854775807) :
    Calls Tryz.prog 111 #[.slice A N c] w fun e w' => e = .returned (.int .u32 ((crc ps.flatten).toNat : Int)) ∧ w = w' := by
  have HN := Lib.hid hN
  clear hN
  obtain ⟨vs, hvl, hrv, hparts⟩ := hr
  have HV := Lib.hid hvl
  have HP := Lib.hid hparts
  clear hvl hparts
  have e1 : Hid ((4294967295 : Int) = ((BitVec.allOnes 32).toNat : Int)) := by show _ = _; decide +kernel
  go_enter Tryz.func111, Tryz.ntmps111
  go_wp2
  go_loop [3, 10] (fun v i => ∃ (k : Nat) (y : BitVec 32), k ≤ N ∧ i = .int .i64 k ∧ v = .int .u32 (y.toNat : Int) ∧ Hid (y = crcFrom (BitVec.allOnes 32) (ps.take k).flatten)) (fun _ i => N - (intOf i).toNat)
  case atStart => exact ⟨0, BitVec.allOnes 32, by omega, rfl, by rw [← e1.out], (rfl : _ = _)⟩
  case round =>
    obtain ⟨k, y, hk, rfl, rfl, hy⟩ := hrel
    by_cases hlt : k < N
    · have hkl : k < ps.length := by rw [← HN.out]; exact hlt
      obtain ⟨A', c', hv, hr', hlen⟩ := HP.out k hkl
      obtain ⟨M, hM⟩ : ∃ M, M = ps[k].length := ⟨_, rfl⟩
      rw [← hM] at hv hlen
      have HM := Lib.hid hM
      obtain ⟨b, off, rfl, hbb, hcell⟩ := hrv.open_ (by rw [HV.out]; omega)
      have hc1 : w.cell? ⟨b, off + k, none⟩ = some (.slice A' M c') := by
        rw [hcell k (by rw [HV.out]; exact hkl)]
        rw [← hv]; exact (List.getElem?_eq_getElem _).symm
      have HL : Hid (ps.take (k + 1) = ps.take k ++ [ps[k]]) := List.take_succ_eq_append_getElem hkl
      obtain ⟨q, hq⟩ : ∃ q, q = ps[k] := ⟨_, rfl⟩
      rw [← hq] at HM HL hr'
      clear hcell hv hM hq hkl
      go_wp2
      go_loop [3, 16] (fun v i => ∃ (j : Nat) (z : BitVec 32), j ≤ M ∧ i = .int .i64 j ∧ v = .int .u32 (z.toNat : Int) ∧ Hid (z = crcFrom y (q.take j))) (fun _ i => M - (intOf i).toNat)
      case atStart => exact ⟨0, y, by omega, rfl, rfl, (rfl : _ = _)⟩
      case round =>
        obtain ⟨j, z, hj, rfl, rfl, hz⟩ := hrel
        by_cases hjt : j < M
        · have hjl : j < q.length := by rw [← HM.out]; exact hjt
          obtain ⟨b2, off2, rfl, hbb2, hcell2⟩ := hr'.open_ (by simp; omega)
          have hc2 : w.cell? ⟨b2, off2 + j, none⟩ = some (.int .u8 (q[j].toNat : Int)) := by rw [hcell2 j (by simpa using hjl), List.getElem_map]; rfl
          obtain ⟨x, hx⟩ : ∃ x, x = q[j] := ⟨_, rfl⟩
          rw [← hx] at hc2
          have HZ : Hid (cstep z x = crcFrom y (q.take (j + 1))) := by
            show _ = _
            rw [List.take_succ_eq_append_getElem hjl, crcFrom_append, ← hz.out, hx]; rfl
          clear hcell2 hx hjl
          go_wp2_with (go_at_call 145; refine (step_any _ _ _).mono ?_; rintro e w2 ⟨rfl, rfl⟩)
          go_round
          case rel => exact ⟨j + 1, cstep z x, by omega, by go_num, rfl, HZ⟩
          case measure => simp [intOf]; omega
        · obtain rfl : M = j := by omega
          have HZ : Hid (z = crcFrom (BitVec.allOnes 32) (ps.take (k + 1)).flatten) := by
            show _ = _
            rw [HL.out, List.flatten_append, crcFrom_append, ← hy.out, hz.out, HM.out, List.take_length]; simp
          go_wp2
          go_round
          case rel => exact ⟨k + 1, z, by omega, by go_num, rfl, HZ⟩
          case measure => simp [intOf]; omega
    · obtain rfl : N = k := by omega
      have hn := not32 y
      have HF : Hid (~~~ y = crc ps.flatten) := by
        show _ = _
        unfold crc
        rw [hy.out, HN.out, List.take_length]
      go_wp2
      go_ret
      exact ⟨by rw [← HF.out]; first | rfl | exact ret_int hn, rfl⟩

theorem RdParts.one {w : World} {B B' g n c : Nat} {A : Option Addr} {q : List UInt8} (hcell : w.cell? ⟨g, 0, none⟩ = some (.slice A n c)) (hg : g < B) (hn : n = q.length) (hq : Rd w B' A (q.map bv)) (hB : B' ≤ B) (hl : n ≤ 9223372036854775807) :
    RdParts w B (some ⟨g, 0, none⟩) [q] := by
  subst hn
  refine ⟨[.slice A q.length c], rfl, .inr ⟨g, 0, rfl, hg, fun j u hu => ?_⟩, fun i h => ?_⟩
  · match j, hu with
    | 0, hu => simp at hu; subst hu; simpa using hcell
  · match i, h with
    | 0, _ => exact ⟨A, c, rfl, hq.more hB, hl⟩
end Go.Proofs.YtpomloangafbkaaGreatDoor
namespace Go.Proofs.YtpomloangafbkaaGreatDoor
set_option linter.unusedVariables false
set_option linter.unusedSimpArgs false
open Go.RowKit

def crcI (l : List UInt8) : Int := ((crc l).toNat : Int)
/-- a message in parts -/
def partL (x : AV) : List UInt8 := bytesL x.theList
def flatL (xs : List AV) : List UInt8 := (xs.map partL).flatten
def isPart (x : AV) : Prop := ∃ l o, x = .sl (bytesAV l) o
def isParts (xs : List AV) : Prop := ∀ x ∈ xs, isPart x

theorem one_argS {us : Array Value} {v : AV} {w : World} {S : Nat → Nat → Prop} (hs : us.size = 1) (h : ∀ (i : Nat) x, [v][i]? = some x → ∃ u, us[i]? = some u ∧ RepV w S x u) : ∃ u, us = #[u] ∧ RepV w S v u := by
  obtain ⟨u, h1, h2⟩ := h 0 v rfl
  refine ⟨u, ?_, h2⟩
  apply Array.ext
  · simp [hs]
  · intro i h3 h4
    have : i = 0 := by simp at h4; exact h4
    subst this
    rw [Array.getElem?_eq_getElem h3] at h1
    simpa using h1
theorem crcRep (w : World) (S : Nat → Nat → Prop) (l : List UInt8) : RepV w S (.int .u32 (crcI l)) (.int .u32 ((crc l).toNat : Int)) := by
  have h := (crc l).isLt
  have m0 : IntKind.u32.min = 0 := by decide
  have m1 : IntKind.u32.max = 4294967295 := by decide
  exact (RepP.int _ _ (by rw [m0]; exact Int.natCast_nonneg _) (by rw [m1]; show ((crc l).toNat : Int) ≤ 4294967295; omega) : RepP w S (.int .u32 (crcI l)) _)
theorem parts_of {w : World} {S : Nat → Nat → Prop} {xs : List AV} {u : Value} (hp : isParts xs) (h : RepP w S (.sl xs .no) u) :
    ∃ A c, u = .slice A xs.length c ∧ xs.length ≤ 9223372036854775807 ∧ RdParts w w.heap.size A (xs.map partL) := by
  have hone : ∀ x ∈ xs, x.cells.length = 1 := fun x hx => by obtain ⟨l, o, rfl⟩ := hp x hx; rfl
  obtain ⟨us, ad, cap, e3, e4, e5⟩ := FL.of (size := 1) h hone
  obtain ⟨ad', cap', e6, e7, e8⟩ := h.form
  rw [e3] at e6
  cases e6
  refine ⟨ad, cap, e3, by unfold maxLen at e8; omega, ?_⟩
  rcases e5 with h0 | ⟨b, off, rfl, hc⟩
  · subst h0
    exact RdParts.nil _ _ _
  · by_cases hx : xs = []
    · subst hx; exact RdParts.nil _ _ _
    have h0 : 0 < xs.length := List.length_pos_iff.2 hx
    have hul : us.length = xs.length := by rw [e4.1, Nat.mul_one]
    have hu0 := hc 0 us[0] (List.getElem?_eq_getElem (by omega))
    refine ⟨us, by simp [hul], .inr ⟨b, off, rfl, World.block_lt_of_cell? w _ hu0, hc⟩, fun i hi => ?_⟩
    have hi' : i < xs.length := by simpa using hi
    obtain ⟨l, o, hl⟩ := hp xs[i] (List.getElem_mem hi')
    obtain ⟨_, f2⟩ := e4.2 i xs[i] (List.getElem?_eq_getElem hi')
    rw [hl] at f2
    obtain ⟨_, u, f3, f4⟩ := f2 0 (.sl (bytesAV l) o) rfl
    rw [Nat.mul_one, Nat.add_zero] at f3
    obtain ⟨A', c', rfl, g1, g2, g3⟩ := rd_of f4
    have hpi : (xs.map partL)[i] = l := by
      rw [List.getElem_map, hl]
      exact bytesL_bytesAV l
    rw [hpi]
    exact ⟨A', c', f3, g3, by omega⟩
def sumOfF : Con
  | [.val (.sl xs .no)] => some (isParts xs, ⟨.int .u32 (crcI (flatL xs)), none, none⟩)
  | _ => none
theorem meetsSumOf : Meets Tryz.prog 111 sumOfF := by
  refine meets_plain Tryz.call111 ?_
  intro args q r hF hq
  unfold sumOfF at hF
  split at hF
  · rename_i xs
    cases hF
    refine ⟨[.sl xs .no], rfl, rfl, fun x hx => (by simp at hx; subst hx; rfl), rfl, rfl, rfl, ?_⟩
    intro us w S hs h
    obtain ⟨u, rfl, hu⟩ := one_argS hs h
    obtain ⟨A, c, rfl, h2, h3⟩ := parts_of hq (hu : RepP w S (.sl xs .no) u)
    refine (of_any (xs.map partL) xs.length c w.heap.size A w (by simp) h3 h2).mono ?_
    rintro e w' ⟨rfl, rfl⟩
    exact ⟨_, rfl, Below.refl _ _, crcRep _ _ _⟩
  · cases hF
end Go.Proofs.YtpomloangafbkaaGreatDoor
