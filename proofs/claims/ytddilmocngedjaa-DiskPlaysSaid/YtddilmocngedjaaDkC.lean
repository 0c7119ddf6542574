/- disk.Crash: by hand. -/
import Derived.Test.YtddilmocngedjaaDkB
import Derived.Lib.LazyBuf
namespace Go.Proofs.Ytddilmocngedjaa
set_option linter.unusedVariables false
set_option linter.unusedSimpArgs false
open Go Go.Proofs Go.RowKit Go.Lib
theorem own_below {w w' : World} {base n : Nat} {v : Value} {xs : List Value} (h : w.ownsRow base 5 1 v n xs) (hb : Below w.heap.size w w') : w'.ownsRow base 5 1 v n xs := by
  refine ⟨h.1, ?_⟩
  rcases h.2 with h' | ⟨g, cap, cur, rfl, h1, h2, h3⟩
  · exact .inl h'
  · exact .inr ⟨g, cap, cur, rfl, h1, (hb.block g (Array.getElem?_eq_some_iff.1 h2).1).trans h2, h3⟩
theorem DiskAt.below {w w' : World} {D : Nat} {d : DV} {v0 v1 : Value} (h : DiskAt w D d v0 v1) (hb : Below w.heap.size w w') : DiskAt w' D d v0 v1 := by
  obtain ⟨us, t, ht, h8, hus⟩ := h.box
  exact ⟨⟨us, t, (hb.block D h.lt).trans ht, h8, hus⟩, own_below h.r0 hb, own_below h.r1 hb, h.a0, h.a1, h.a2, h.ok⟩
theorem Touch.of_below {w w' : World} {D : Nat} {v0 v1 : Value} (hb : Below w.heap.size w w') : Touch w D v0 v1 w' v0 v1 :=
  ⟨hb.os, hb.tape, hb.output, hb.size, fun b h _ _ _ => hb.block b h, fun g hg => .inr hg⟩
theorem Touch.trans {w w' w'' : World} {D : Nat} {v0 v1 v0' v1' v0'' v1'' : Value} (h : Touch w D v0 v1 w' v0' v1') (h' : Touch w' D v0' v1' w'' v0'' v1'') : Touch w D v0 v1 w'' v0'' v1'' := by
  refine ⟨h'.os.trans h.os, h'.tape.trans h.tape, h'.output.trans h.output, Nat.le_trans h.size h'.size, fun b hb h1 h2 h3 => ?_, fun g hg => ?_⟩
  · refine (h'.block b (Nat.lt_of_lt_of_le hb h.size) h1 (fun e => ?_) (fun e => ?_)).trans (h.block b hb h1 h2 h3)
    · rcases h.row b (.inl e) with h4 | h4 | h4
      · omega
      · exact h2 h4
      · exact h3 h4
    · rcases h.row b (.inr e) with h4 | h4 | h4
      · omega
      · exact h2 h4
      · exact h3 h4
  · rcases h'.row g hg with h4 | h4
    · exact .inl (Nat.le_trans h.size h4)
    · exact h.row g h4
theorem Touch.drew {w w' : World} {D : Nat} {v0 v1 v0' v1' : Value} (h : Touch w D v0 v1 w' v0' v1') : Touch w D v0 v1 w'.drew v0' v1' := h.trans (Touch.of_below ((Below.refl _ _).drew))
theorem DiskAt.drew {w : World} {D : Nat} {d : DV} {v0 v1 : Value} (h : DiskAt w D d v0 v1) : DiskAt w.drew D d v0 v1 := h.below ((Below.refl _ _).drew)
def cutS (s : Int) (n : Nat) (k : Int) : Int := s + min (max k 0) (n - s)
def DV.cut0 (d : DV) (k : Int) : DV := { d with s0 := cutS d.s0 d.x0.length k, x0 := d.x0.take (cutS d.s0 d.x0.length k).toNat }
def DV.cut1 (d : DV) (k : Int) : DV := { d with s1 := cutS d.s1 d.x1.length k, x1 := d.x1.take (cutS d.s1 d.x1.length k).toNat }
def DV.mid (d : DV) (k0 k1 : Int) : Nat → DV
  | 0 => d
  | 1 => d.cut0 k0
  | _ => (d.cut0 k0).cut1 k1
def DV.crash (d : DV) (k0 k1 : Int) : DV := { (d.cut0 k0).cut1 k1 with ar := false, un := 0, dn := false }
/-- a disk as disks are -/
def DV.fine (d : DV) : Prop := 0 ≤ d.s0 ∧ d.s0 ≤ d.x0.length ∧ 0 ≤ d.s1 ∧ d.s1 ≤ d.x1.length ∧ d.x0.length ≤ 16777216 ∧ d.x1.length ≤ 16777216
set_option maxHeartbeats 4000000 in
set_option maxRecDepth 100000 in
theorem crash_any (d : DV) (hd : d.fine) (k0 k1 : Int) (hk0 : i64ok k0) (hk1 : i64ok k1) (D : Nat) (v0 v1 : Value) (w : World) (h : DiskAt w D d v0 v1) :
    Calls Try.prog 18 #[.pointer (some ⟨D, 0, none⟩), .agg #[.int .i64 k0, .int .i64 k1]] w fun e w' => e = .returned (.tuple #[]) ∧ ∃ v0' v1', DiskAt w' D (d.crash k0 k1) v0' v1' ∧ Touch w D v0 v1 w' v0' v1' := by
  have mixed : Try.prog.follows .mixedOrders = true := by kernel_rfl
  have i0 : ∀ w, (Instr.index 32 (.agg #[.int .i64 k0, .int .i64 k1]) (.int .i64 0)).run Try.prog w = .ok (.int .i64 k0) w := fun _ => by kernel_rfl
  have i1 : ∀ w, (Instr.index 32 (.agg #[.int .i64 k0, .int .i64 k1]) (.int .i64 1)).run Try.prog w = .ok (.int .i64 k1) w := fun _ => by kernel_rfl
  have HD := Lib.hid h
  obtain ⟨f1, f2, f3, f4, f5, f6⟩ := hd
  clear h
  go_enter Try.func18, Try.ntmps18
  go_wp2
  go_loopg [4, 5, 6, 8] 2 (fun gg _ _ _ s8 wr => ∃ k : Nat, s8 = .int .i64 (k : Int) ∧ k ≤ 2 ∧ 2 - k ≤ gg ∧ Hid (∃ v0' v1', DiskAt wr D (d.mid k0 k1 k) v0' v1' ∧ Touch w D v0 v1 wr v0' v1'))
  case atStart =>
    have hb := (Below.refl w.heap.size w).alloc (Nat.le_refl _) (.cells #[.int .i64 k0, .int .i64 k1] 32)
    exact ⟨0, rfl, by omega, by omega, (⟨v0, v1, HD.out.below hb, Touch.of_below hb⟩ : _)⟩
  case round =>
    obtain ⟨k, rfl, hk, hg, hI⟩ := hrel
    have hk3 : k = 0 ∨ k = 1 ∨ k = 2 := by omega
    rcases hk3 with rfl | rfl | rfl
    · obtain ⟨u0, u1, hA, hT⟩ := hI.out
      have c1 := hA.cell (i := 1) rfl
      have c2 := hA.cell (i := 2) rfl
      have z1 := hA.frozen 1
      have z2 := hA.frozen 2
      obtain ⟨A, cap, rfl, h7, hcap, hAA⟩ : ∃ A c, u0 = .slice A d.x0.length c ∧ d.x0.length ≤ c ∧ c ≤ 9223372036854775807 ∧ True := by
        rcases hA.r0.2 with ⟨rfl, h0⟩ | ⟨g, cap, cur, rfl, _, _, h1, h2, _⟩
        · have h0' : d.x0.length = 0 := h0
          exact ⟨none, 0, by rw [h0'], by omega, by omega, trivial⟩
        · exact ⟨_, cap, rfl, h1, h2, trivial⟩
      have hA : DiskAt wr D d (.slice A d.x0.length cap) u1 := hA
      have HA := Lib.hid hA
      have HT := Lib.hid hT
      clear hA hT hI hAA
      simp only [DV.mid] at c1 c2
      obtain ⟨m, hm⟩ : ∃ m : Nat, cutS d.s0 d.x0.length k0 = (m : Int) := ⟨(cutS d.s0 d.x0.length k0).toNat, by unfold cutS; omega⟩
      have hmn : m ≤ d.x0.length := by unfold cutS at hm; omega
      have HM := Lib.hid hm
      unfold cutS at hm
      go_wp2_with fail
      go_region_o
      clear hm c1 c2 z1 z2
      obtain ⟨o1, o2, o3, o4⟩ := HA.out.ok
      have hset := HA.out.set (d' := { d with s0 := (m : Int) }) (v0' := .slice A d.x0.length cap) (v1' := u1) (i := 2) (u := .int .i64 (m : Int)) rfl (by decide) HA.out.r0 HA.out.r1 (.inr rfl) (.inr rfl) ⟨o1, (by show i64ok (m : Int); unfold i64ok; omega), o3, o4⟩
      have hA2 := hset.1.drew
      have hT2 := (HT.out.trans hset.2).drew
      clear hset HA HT
      generalize (wr.setCell ⟨D, 2, none⟩ (.int .i64 (m : Int))).drew = w2 at *
      have c1 := hA2.cell (i := 1) rfl
      have c2 := hA2.cell (i := 2) rfl
      have z1 := hA2.frozen 1
      have HA2 := Lib.hid hA2
      have HT2 := Lib.hid hT2
      clear hA2 hT2
      go_wp2_with fail
      go_region_o
      have hcut : w2.ownsRow 0 5 1 (.slice A m cap) (d.cut0 k0).x0.length ((d.cut0 k0).x0.map bv) := by
        have h1 := own_cut HA2.out.r0 hmn
        have e : (d.cut0 k0).x0 = d.x0.take m := by show d.x0.take (cutS d.s0 d.x0.length k0).toNat = _; rw [HM.out]; simp
        rw [e, List.length_take, Nat.min_eq_left hmn, List.map_take]; exact h1
      have hb0 : (Value.slice A m cap).ownBlock = none ∨ (Value.slice A m cap).ownBlock = (Value.slice A d.x0.length cap).ownBlock := by cases A with
        | none => exact .inl rfl
        | some a => exact .inr rfl
      have hset := HA2.out.set (d' := d.cut0 k0) (v0' := .slice A m cap) (v1' := u1) (i := 1) (u := .slice A m cap) (by show _ = _; simp only [DV.vals, DV.cut0]; rw [HM.out]; rfl) (by decide) hcut HA2.out.r1 hb0 (.inr rfl) ⟨o1, (by show i64ok (cutS d.s0 d.x0.length k0); rw [HM.out]; unfold i64ok; omega), o3, o4⟩
      have HF : Hid (∃ v0' v1', DiskAt (w2.setCell ⟨D, 1, none⟩ (.slice A m cap)).drew D (d.mid k0 k1 1) v0' v1' ∧ Touch w D v0 v1 (w2.setCell ⟨D, 1, none⟩ (.slice A m cap)).drew v0' v1') := ⟨_, u1, hset.1.drew, (HT2.out.trans hset.2).drew⟩
      clear hset hcut hb0 HA2 HT2 c1 c2 z1
      generalize (w2.setCell ⟨D, 1, none⟩ (.slice A m cap)).drew = w3 at *
      go_wp2
      go_roundg 1
      case measure => omega
      case rel => exact ⟨1, by go_num, by omega, by omega, HF⟩
    · obtain ⟨u0, u1, hA, hT⟩ := hI.out
      have c1 := hA.cell (i := 3) rfl
      have c2 := hA.cell (i := 4) rfl
      have z1 := hA.frozen 3
      have z2 := hA.frozen 4
      obtain ⟨A, cap, rfl, h7, hcap, hAA⟩ : ∃ A c, u1 = .slice A d.x1.length c ∧ d.x1.length ≤ c ∧ c ≤ 9223372036854775807 ∧ True := by
        rcases hA.r1.2 with ⟨rfl, h0⟩ | ⟨g, cap, cur, rfl, _, _, h1, h2, _⟩
        · have h0' : d.x1.length = 0 := h0
          exact ⟨none, 0, by rw [h0'], by omega, by omega, trivial⟩
        · exact ⟨_, cap, rfl, h1, h2, trivial⟩
      have hA : DiskAt wr D (d.cut0 k0) u0 (.slice A d.x1.length cap) := hA
      have HA := Lib.hid hA
      have HT := Lib.hid hT
      clear hA hT hI hAA
      simp only [DV.mid, DV.cut0] at c1 c2
      obtain ⟨m, hm⟩ : ∃ m : Nat, cutS d.s1 d.x1.length k1 = (m : Int) := ⟨(cutS d.s1 d.x1.length k1).toNat, by unfold cutS; omega⟩
      have hmn : m ≤ d.x1.length := by unfold cutS at hm; omega
      have HM := Lib.hid hm
      unfold cutS at hm
      go_wp2_with fail
      go_region_o
      clear hm c1 c2 z1 z2
      obtain ⟨o1, o2, o3, o4⟩ := HA.out.ok
      have hset := HA.out.set (d' := { d.cut0 k0 with s1 := (m : Int) }) (v0' := u0) (v1' := .slice A d.x1.length cap) (i := 4) (u := .int .i64 (m : Int)) rfl (by decide) HA.out.r0 HA.out.r1 (.inr rfl) (.inr rfl) ⟨o1, o2, (by show i64ok (m : Int); unfold i64ok; omega), o4⟩
      have hA2 := hset.1.drew
      have hT2 := (HT.out.trans hset.2).drew
      clear hset HA HT
      generalize (wr.setCell ⟨D, 4, none⟩ (.int .i64 (m : Int))).drew = w2 at *
      have c1 := hA2.cell (i := 3) rfl
      have c2 := hA2.cell (i := 4) rfl
      have z1 := hA2.frozen 3
      have HA2 := Lib.hid hA2
      have HT2 := Lib.hid hT2
      clear hA2 hT2
      go_wp2_with fail
      go_region_o
      have hcut : w2.ownsRow 0 5 1 (.slice A m cap) ((d.cut0 k0).cut1 k1).x1.length (((d.cut0 k0).cut1 k1).x1.map bv) := by
        have h1 := own_cut HA2.out.r1 hmn
        have e : ((d.cut0 k0).cut1 k1).x1 = d.x1.take m := by show d.x1.take (cutS d.s1 d.x1.length k1).toNat = _; rw [HM.out]; simp
        rw [e, List.length_take, Nat.min_eq_left hmn, List.map_take]; exact h1
      have hb0 : (Value.slice A m cap).ownBlock = none ∨ (Value.slice A m cap).ownBlock = (Value.slice A d.x1.length cap).ownBlock := by cases A with
        | none => exact .inl rfl
        | some a => exact .inr rfl
      have hset := HA2.out.set (d' := (d.cut0 k0).cut1 k1) (v0' := u0) (v1' := .slice A m cap) (i := 3) (u := .slice A m cap) (by show _ = _; simp only [DV.vals, DV.cut1, DV.cut0]; rw [HM.out]; rfl) (by decide) HA2.out.r0 hcut (.inr rfl) hb0 ⟨o1, o2, (by show i64ok (cutS d.s1 d.x1.length k1); rw [HM.out]; unfold i64ok; omega), o4⟩
      have HF : Hid (∃ v0' v1', DiskAt (w2.setCell ⟨D, 3, none⟩ (.slice A m cap)).drew D (d.mid k0 k1 2) v0' v1' ∧ Touch w D v0 v1 (w2.setCell ⟨D, 3, none⟩ (.slice A m cap)).drew v0' v1') := ⟨u0, _, hset.1.drew, (HT2.out.trans hset.2).drew⟩
      clear hset hcut hb0 HA2 HT2 c1 c2 z1
      generalize (w2.setCell ⟨D, 3, none⟩ (.slice A m cap)).drew = w3 at *
      go_wp2
      go_roundg 0
      case measure => omega
      case rel => exact ⟨2, by go_num, by omega, by omega, HF⟩
    · obtain ⟨u0, u1, hA, hT⟩ := hI.out
      have c5 := hA.cell (i := 5) rfl
      have c6 := hA.cell (i := 6) rfl
      have c7 := hA.cell (i := 7) rfl
      have z5 := hA.frozen 5
      have z6 := hA.frozen 6
      have z7 := hA.frozen 7
      have HA := Lib.hid hA
      have HT := Lib.hid hT
      clear hA hT hI
      go_wp2
      go_end0
      refine ⟨rfl, u0, u1, ?_⟩
      have ok := HA.out.ok
      have s1 := HA.out.set (d' := { (d.cut0 k0).cut1 k1 with ar := false }) (i := 5) (u := .bool false) rfl (by decide) HA.out.r0 HA.out.r1 (.inr rfl) (.inr rfl) ok
      have s2 := s1.1.set (d' := { (d.cut0 k0).cut1 k1 with ar := false, un := 0 }) (i := 6) (u := .int .i64 0) rfl (by decide) s1.1.r0 s1.1.r1 (.inr rfl) (.inr rfl) ⟨ok.1, ok.2.1, ok.2.2.1, by show i64ok 0; unfold i64ok; omega⟩
      have s3 := s2.1.set (d' := d.crash k0 k1) (i := 7) (u := .bool false) rfl (by decide) s2.1.r0 s2.1.r1 (.inr rfl) (.inr rfl) ⟨ok.1, ok.2.1, ok.2.2.1, by show i64ok 0; unfold i64ok; omega⟩
      exact ⟨s3.1, ((HT.out.trans s1.2).trans s2.2).trans s3.2⟩
end Go.Proofs.Ytddilmocngedjaa
