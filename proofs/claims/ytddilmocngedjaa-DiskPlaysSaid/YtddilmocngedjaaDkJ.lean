/- A step of both disks, by hand. -/
import Derived.Test.YtddilmocngedjaaDkI
import Derived.Deep.Cut
namespace Go.Proofs.Ytddilmocngedjaa
set_option linter.unusedVariables false
set_option linter.unusedSimpArgs false
open Go Go.Proofs Go.RowKit Go.Lib
def StepEnd (w : World) (D : Nat) (v0 v1 : Value) (L : List Nat) (e : Ending) (w' : World) : Prop :=
  ∃ d' v0' v1' xv, e = .returned (.tuple #[xv, .bool true]) ∧ d'.good ∧ DiskAt w' D d' v0' v1' ∧ Touch w D v0 v1 w' v0' v1' ∧ RepV1 w' (Apart D v0' v1' L) (.agg (refA d')) xv
theorem StepAt.done {w W : World} {D : Nat} {d : DV} {v0 v1 v0' v1' : Value} {L : List Nat} {xv : Value} {cs0 cs1 cs2 : Array Value} {e : Ending} (h : StepAt w W D d v0 v1 v0' v1' L d xv cs0 cs1 cs2) (hd : d.good) (he : e = .returned (.tuple #[xv, .bool true])) : StepEnd w D v0 v1 L e W :=
  ⟨d, v0', v1', xv, he, hd, h.at', h.touch, h.ref.mono fun b o u hb hu => ⟨⟨hb.1, hb.2.1, hb.2.2.1, fun hm => hb.2.2.2 (by simp [hm])⟩, hu⟩⟩
set_option maxHeartbeats 4000000 in
set_option maxRecDepth 100000 in
theorem step1 (d : DV) (hd : d.good) (f n : Int) (hf : i64ok f) (hn : i64ok n) (yb : List UInt8) (hy : yb.length ≤ 140737488355328) (D : Nat) (v0 v1 : Value) (L : List Nat) (w : World) (hL : ∀ x ∈ L, x < w.heap.size) (h : DiskAt w D d v0 v1) (xv : Value) (hx : RepV1 w (Apart D v0 v1 L) (.agg (refA d)) xv) (ov : Value) (ho : RepP w (Apart D v0 v1 L) (.sl (bytesAV yb) .no) ov) :
    Calls Try.prog 14 #[.pointer (some ⟨D, 0, none⟩), xv, .agg #[.int .i64 1, .int .i64 f, .int .i64 n, ov]] w fun e w' => StepEnd w D v0 v1 L e w' := by
    have mixed : Try.prog.follows .mixedOrders = true := by kernel_rfl
    obtain ⟨A0, A1, c0, c1, rfl, l0, l1, p0, p1⟩ := ref_open hx
    simp only [refC, refV] at hx ⊢
    obtain ⟨W, hW, B0, B1, B2, hb, hsz⟩ := box3 w 40 37 40 #[Value.int .i64 d.sz, Value.slice A0 d.x0.length c0, Value.slice A1 d.x1.length c1, Value.int .i64 d.s0, Value.int .i64 d.s1, Value.int .i64 (limD d.ar d.un), Value.bool d.dn] #[Value.int .i64 1, Value.int .i64 f, Value.int .i64 n, ov] #[Value.int .i64 0, Value.slice none 0 0, Value.slice none 0 0, Value.int .i64 0, Value.int .i64 0, Value.int .i64 0, Value.bool false]
    have S := StepAt.start (L := L) h hx hb B0 B1 B2
    have hoW : RepP W (Apart D v0 v1 (w.heap.size :: (w.heap.size + 1) :: (w.heap.size + 1 + 1) :: L)) (.sl (bytesAV yb) .no) ov := ho.mono fun b o u hbo hu => by
      have hlt := cell_lt hu
      refine ⟨⟨hbo.1, hbo.2.1, hbo.2.2.1, ?_⟩, (cell_same (hb.block b hlt)).trans hu⟩
      intro hm
      simp only [List.mem_cons] at hm
      rcases hm with e | e | e | e
      · omega
      · omega
      · omega
      · exact hbo.2.2.2 e
    have HWh := Lib.hid hW
    clear hW
    have HS := Lib.hid S
    have HO := Lib.hid hoW
    have HB := Lib.hid hb
    clear S hoW hx ho h B0 B1 B2 hb hsz p0 p1
    go_enter Try.func14, Try.ntmps14
    have hcl := Lib.hid (app_any d hd f hf yb D v0 v1 _ W HS.out.at' ov HO.out)
    go_wp2_with fail
    rw [← HWh.out]
    refine hcl.out.mono ?_
    rintro e w4 ⟨u0, u1, rfl, h4, ht4⟩
    have S4 := HS.out.disk h4 ht4
    have hd2 := after_good hd (k := 1) (f := f) (n := 0) (isBytes_bytesAV yb) (by omega)
    generalize hd2e : d.after 1 f 0 (bytesAV yb) = d2 at *
    have hO4 : RepP w4 (Apart D u0 u1 (w.heap.size :: (w.heap.size + 1) :: (w.heap.size + 1 + 1) :: L)) (.sl (bytesAV yb) .no) ov := HO.out.mono fun b o u hb hu => ht4.rep hb hu
    have r0 : w4.cell? ⟨w.heap.size + 1, 0, none⟩ = some (Value.int .i64 1) := S4.b1.cell 0 rfl
    have r1 : w4.cell? ⟨w.heap.size + 1, 1, none⟩ = some (Value.int .i64 f) := S4.b1.cell 1 rfl
    have r2 : w4.cell? ⟨w.heap.size + 1, 2, none⟩ = some (Value.int .i64 n) := S4.b1.cell 2 rfl
    have r3 : w4.cell? ⟨w.heap.size + 1, 3, none⟩ = some (ov) := S4.b1.cell 3 rfl
    have s0 : w4.cell? ⟨w.heap.size, 0, none⟩ = some (Value.int .i64 d.sz) := S4.b0.cell 0 rfl
    have s1 : w4.cell? ⟨w.heap.size, 1, none⟩ = some (Value.slice A0 d.x0.length c0) := S4.b0.cell 1 rfl
    have s2 : w4.cell? ⟨w.heap.size, 2, none⟩ = some (Value.slice A1 d.x1.length c1) := S4.b0.cell 2 rfl
    have s3 : w4.cell? ⟨w.heap.size, 3, none⟩ = some (Value.int .i64 d.s0) := S4.b0.cell 3 rfl
    have s4 : w4.cell? ⟨w.heap.size, 4, none⟩ = some (Value.int .i64 d.s1) := S4.b0.cell 4 rfl
    have s5 : w4.cell? ⟨w.heap.size, 5, none⟩ = some (Value.int .i64 (limD d.ar d.un)) := S4.b0.cell 5 rfl
    have s6 : w4.cell? ⟨w.heap.size, 6, none⟩ = some (Value.bool d.dn) := S4.b0.cell 6 rfl
    have hcr := rapp_any d hd f hf yb hy (StepBad w w4 D u0 u1 L) w4 (fun b o hb => hb.1) _ (S4.good_rep S4.ref) ov (hO4.mono fun b o u hb hu => ⟨fun hn => hn.2 hb, hu⟩)
    rw [hd2e] at hcr
    generalize pE 1 f 0 (bytesAV yb) d.sz (bytesAV d.x0) d.s0 (bytesAV d.x1) d.s1 d.ar d.un d.dn = er at *
    have HC := Lib.hid hcr
    have HS4 := Lib.hid S4
    clear S4 hO4 hcr h4 ht4 hcl HWh HS HO
    go_wp2_with fail
    refine HC.out.mono ?_
    rintro e w5 ⟨yv, rfl, hb5, hv5⟩
    have T := HS4.out.call (fun x hx => Nat.lt_of_lt_of_le (hL x hx) HS4.out.touch.size) hb5 hv5
    obtain ⟨B0, B1, e0, e1, rfl, l2, l3, _, _⟩ := ref_open hv5
    simp only [refC, refV] at T ⊢
    clear hb5 hv5 HC HS4 r0 r1 r2 r3 s0 s1 s2 s3 s4 s5 s6
    have ta0 : w5.cell? ⟨w.heap.size, 0, none⟩ = some (Value.int .i64 d.sz) := T.b0.cell 0 rfl
    have za0 : w5.frozen? ⟨w.heap.size, 0, none⟩ = false := T.b0.free 0
    obtain ⟨Wa0, hWa0⟩ : ∃ Wz, w5.setCell ⟨w.heap.size, 0, none⟩ (Value.int .i64 d2.sz) = Wz := ⟨_, rfl⟩
    have Sa0 : StepAt w Wa0 D d2 v0 v1 u0 u1 L d2 (.agg #[Value.int .i64 d2.sz, Value.slice B0 d2.x0.length e0, Value.slice B1 d2.x1.length e1, Value.int .i64 d2.s0, Value.int .i64 d2.s1, Value.int .i64 (limD d2.ar d2.un), Value.bool d2.dn]) #[Value.int .i64 d2.sz, Value.slice A0 d.x0.length c0, Value.slice A1 d.x1.length c1, Value.int .i64 d.s0, Value.int .i64 d.s1, Value.int .i64 (limD d.ar d.un), Value.bool d.dn] #[Value.int .i64 1, Value.int .i64 f, Value.int .i64 n, ov] #[Value.int .i64 0, Value.slice none 0 0, Value.slice none 0 0, Value.int .i64 0, Value.int .i64 0, Value.int .i64 0, Value.bool false] := by rw [← hWa0]; exact T.set0 0 _
    have ta1 : Wa0.cell? ⟨w.heap.size, 1, none⟩ = some (Value.slice A0 d.x0.length c0) := Sa0.b0.cell 1 rfl
    have za1 : Wa0.frozen? ⟨w.heap.size, 1, none⟩ = false := Sa0.b0.free 1
    obtain ⟨Wa1, hWa1⟩ : ∃ Wz, Wa0.setCell ⟨w.heap.size, 1, none⟩ (Value.slice B0 d2.x0.length e0) = Wz := ⟨_, rfl⟩
    have Sa1 : StepAt w Wa1 D d2 v0 v1 u0 u1 L d2 (.agg #[Value.int .i64 d2.sz, Value.slice B0 d2.x0.length e0, Value.slice B1 d2.x1.length e1, Value.int .i64 d2.s0, Value.int .i64 d2.s1, Value.int .i64 (limD d2.ar d2.un), Value.bool d2.dn]) #[Value.int .i64 d2.sz, Value.slice B0 d2.x0.length e0, Value.slice A1 d.x1.length c1, Value.int .i64 d.s0, Value.int .i64 d.s1, Value.int .i64 (limD d.ar d.un), Value.bool d.dn] #[Value.int .i64 1, Value.int .i64 f, Value.int .i64 n, ov] #[Value.int .i64 0, Value.slice none 0 0, Value.slice none 0 0, Value.int .i64 0, Value.int .i64 0, Value.int .i64 0, Value.bool false] := by rw [← hWa1]; exact Sa0.set0 1 _
    have ta2 : Wa1.cell? ⟨w.heap.size, 2, none⟩ = some (Value.slice A1 d.x1.length c1) := Sa1.b0.cell 2 rfl
    have za2 : Wa1.frozen? ⟨w.heap.size, 2, none⟩ = false := Sa1.b0.free 2
    obtain ⟨Wa2, hWa2⟩ : ∃ Wz, Wa1.setCell ⟨w.heap.size, 2, none⟩ (Value.slice B1 d2.x1.length e1) = Wz := ⟨_, rfl⟩
    have Sa2 : StepAt w Wa2 D d2 v0 v1 u0 u1 L d2 (.agg #[Value.int .i64 d2.sz, Value.slice B0 d2.x0.length e0, Value.slice B1 d2.x1.length e1, Value.int .i64 d2.s0, Value.int .i64 d2.s1, Value.int .i64 (limD d2.ar d2.un), Value.bool d2.dn]) #[Value.int .i64 d2.sz, Value.slice B0 d2.x0.length e0, Value.slice B1 d2.x1.length e1, Value.int .i64 d.s0, Value.int .i64 d.s1, Value.int .i64 (limD d.ar d.un), Value.bool d.dn] #[Value.int .i64 1, Value.int .i64 f, Value.int .i64 n, ov] #[Value.int .i64 0, Value.slice none 0 0, Value.slice none 0 0, Value.int .i64 0, Value.int .i64 0, Value.int .i64 0, Value.bool false] := by rw [← hWa2]; exact Sa1.set0 2 _
    have ta3 : Wa2.cell? ⟨w.heap.size, 3, none⟩ = some (Value.int .i64 d.s0) := Sa2.b0.cell 3 rfl
    have za3 : Wa2.frozen? ⟨w.heap.size, 3, none⟩ = false := Sa2.b0.free 3
    obtain ⟨Wa3, hWa3⟩ : ∃ Wz, Wa2.setCell ⟨w.heap.size, 3, none⟩ (Value.int .i64 d2.s0) = Wz := ⟨_, rfl⟩
    have Sa3 : StepAt w Wa3 D d2 v0 v1 u0 u1 L d2 (.agg #[Value.int .i64 d2.sz, Value.slice B0 d2.x0.length e0, Value.slice B1 d2.x1.length e1, Value.int .i64 d2.s0, Value.int .i64 d2.s1, Value.int .i64 (limD d2.ar d2.un), Value.bool d2.dn]) #[Value.int .i64 d2.sz, Value.slice B0 d2.x0.length e0, Value.slice B1 d2.x1.length e1, Value.int .i64 d2.s0, Value.int .i64 d.s1, Value.int .i64 (limD d.ar d.un), Value.bool d.dn] #[Value.int .i64 1, Value.int .i64 f, Value.int .i64 n, ov] #[Value.int .i64 0, Value.slice none 0 0, Value.slice none 0 0, Value.int .i64 0, Value.int .i64 0, Value.int .i64 0, Value.bool false] := by rw [← hWa3]; exact Sa2.set0 3 _
    have ta4 : Wa3.cell? ⟨w.heap.size, 4, none⟩ = some (Value.int .i64 d.s1) := Sa3.b0.cell 4 rfl
    have za4 : Wa3.frozen? ⟨w.heap.size, 4, none⟩ = false := Sa3.b0.free 4
    obtain ⟨Wa4, hWa4⟩ : ∃ Wz, Wa3.setCell ⟨w.heap.size, 4, none⟩ (Value.int .i64 d2.s1) = Wz := ⟨_, rfl⟩
    have Sa4 : StepAt w Wa4 D d2 v0 v1 u0 u1 L d2 (.agg #[Value.int .i64 d2.sz, Value.slice B0 d2.x0.length e0, Value.slice B1 d2.x1.length e1, Value.int .i64 d2.s0, Value.int .i64 d2.s1, Value.int .i64 (limD d2.ar d2.un), Value.bool d2.dn]) #[Value.int .i64 d2.sz, Value.slice B0 d2.x0.length e0, Value.slice B1 d2.x1.length e1, Value.int .i64 d2.s0, Value.int .i64 d2.s1, Value.int .i64 (limD d.ar d.un), Value.bool d.dn] #[Value.int .i64 1, Value.int .i64 f, Value.int .i64 n, ov] #[Value.int .i64 0, Value.slice none 0 0, Value.slice none 0 0, Value.int .i64 0, Value.int .i64 0, Value.int .i64 0, Value.bool false] := by rw [← hWa4]; exact Sa3.set0 4 _
    have ta5 : Wa4.cell? ⟨w.heap.size, 5, none⟩ = some (Value.int .i64 (limD d.ar d.un)) := Sa4.b0.cell 5 rfl
    have za5 : Wa4.frozen? ⟨w.heap.size, 5, none⟩ = false := Sa4.b0.free 5
    obtain ⟨Wa5, hWa5⟩ : ∃ Wz, Wa4.setCell ⟨w.heap.size, 5, none⟩ (Value.int .i64 (limD d2.ar d2.un)) = Wz := ⟨_, rfl⟩
    have Sa5 : StepAt w Wa5 D d2 v0 v1 u0 u1 L d2 (.agg #[Value.int .i64 d2.sz, Value.slice B0 d2.x0.length e0, Value.slice B1 d2.x1.length e1, Value.int .i64 d2.s0, Value.int .i64 d2.s1, Value.int .i64 (limD d2.ar d2.un), Value.bool d2.dn]) #[Value.int .i64 d2.sz, Value.slice B0 d2.x0.length e0, Value.slice B1 d2.x1.length e1, Value.int .i64 d2.s0, Value.int .i64 d2.s1, Value.int .i64 (limD d2.ar d2.un), Value.bool d.dn] #[Value.int .i64 1, Value.int .i64 f, Value.int .i64 n, ov] #[Value.int .i64 0, Value.slice none 0 0, Value.slice none 0 0, Value.int .i64 0, Value.int .i64 0, Value.int .i64 0, Value.bool false] := by rw [← hWa5]; exact Sa4.set0 5 _
    have ta6 : Wa5.cell? ⟨w.heap.size, 6, none⟩ = some (Value.bool d.dn) := Sa5.b0.cell 6 rfl
    have za6 : Wa5.frozen? ⟨w.heap.size, 6, none⟩ = false := Sa5.b0.free 6
    obtain ⟨Wa6, hWa6⟩ : ∃ Wz, Wa5.setCell ⟨w.heap.size, 6, none⟩ (Value.bool d2.dn) = Wz := ⟨_, rfl⟩
    have Sa6 : StepAt w Wa6 D d2 v0 v1 u0 u1 L d2 (.agg #[Value.int .i64 d2.sz, Value.slice B0 d2.x0.length e0, Value.slice B1 d2.x1.length e1, Value.int .i64 d2.s0, Value.int .i64 d2.s1, Value.int .i64 (limD d2.ar d2.un), Value.bool d2.dn]) #[Value.int .i64 d2.sz, Value.slice B0 d2.x0.length e0, Value.slice B1 d2.x1.length e1, Value.int .i64 d2.s0, Value.int .i64 d2.s1, Value.int .i64 (limD d2.ar d2.un), Value.bool d2.dn] #[Value.int .i64 1, Value.int .i64 f, Value.int .i64 n, ov] #[Value.int .i64 0, Value.slice none 0 0, Value.slice none 0 0, Value.int .i64 0, Value.int .i64 0, Value.int .i64 0, Value.bool false] := by rw [← hWa6]; exact Sa5.set0 6 _
    have g0 : Wa6.cell? ⟨w.heap.size, 0, none⟩ = some (Value.int .i64 d2.sz) := Sa6.b0.cell 0 rfl
    have g1 : Wa6.cell? ⟨w.heap.size, 1, none⟩ = some (Value.slice B0 d2.x0.length e0) := Sa6.b0.cell 1 rfl
    have g2 : Wa6.cell? ⟨w.heap.size, 2, none⟩ = some (Value.slice B1 d2.x1.length e1) := Sa6.b0.cell 2 rfl
    have g3 : Wa6.cell? ⟨w.heap.size, 3, none⟩ = some (Value.int .i64 d2.s0) := Sa6.b0.cell 3 rfl
    have g4 : Wa6.cell? ⟨w.heap.size, 4, none⟩ = some (Value.int .i64 d2.s1) := Sa6.b0.cell 4 rfl
    have g5 : Wa6.cell? ⟨w.heap.size, 5, none⟩ = some (Value.int .i64 (limD d2.ar d2.un)) := Sa6.b0.cell 5 rfl
    have g6 : Wa6.cell? ⟨w.heap.size, 6, none⟩ = some (Value.bool d2.dn) := Sa6.b0.cell 6 rfl
    have tb0 : Wa6.cell? ⟨w.heap.size + 1 + 1, 0, none⟩ = some (Value.int .i64 0) := Sa6.b2.cell 0 rfl
    have zb0 : Wa6.frozen? ⟨w.heap.size + 1 + 1, 0, none⟩ = false := Sa6.b2.free 0
    obtain ⟨Wb0, hWb0⟩ : ∃ Wz, Wa6.setCell ⟨w.heap.size + 1 + 1, 0, none⟩ (Value.int .i64 d2.sz) = Wz := ⟨_, rfl⟩
    have Sb0 : StepAt w Wb0 D d2 v0 v1 u0 u1 L d2 (.agg #[Value.int .i64 d2.sz, Value.slice B0 d2.x0.length e0, Value.slice B1 d2.x1.length e1, Value.int .i64 d2.s0, Value.int .i64 d2.s1, Value.int .i64 (limD d2.ar d2.un), Value.bool d2.dn]) #[Value.int .i64 d2.sz, Value.slice B0 d2.x0.length e0, Value.slice B1 d2.x1.length e1, Value.int .i64 d2.s0, Value.int .i64 d2.s1, Value.int .i64 (limD d2.ar d2.un), Value.bool d2.dn] #[Value.int .i64 1, Value.int .i64 f, Value.int .i64 n, ov] #[Value.int .i64 d2.sz, Value.slice none 0 0, Value.slice none 0 0, Value.int .i64 0, Value.int .i64 0, Value.int .i64 0, Value.bool false] := by rw [← hWb0]; exact Sa6.set2 0 _
    have tb1 : Wb0.cell? ⟨w.heap.size + 1 + 1, 1, none⟩ = some (Value.slice none 0 0) := Sb0.b2.cell 1 rfl
    have zb1 : Wb0.frozen? ⟨w.heap.size + 1 + 1, 1, none⟩ = false := Sb0.b2.free 1
    obtain ⟨Wb1, hWb1⟩ : ∃ Wz, Wb0.setCell ⟨w.heap.size + 1 + 1, 1, none⟩ (Value.slice B0 d2.x0.length e0) = Wz := ⟨_, rfl⟩
    have Sb1 : StepAt w Wb1 D d2 v0 v1 u0 u1 L d2 (.agg #[Value.int .i64 d2.sz, Value.slice B0 d2.x0.length e0, Value.slice B1 d2.x1.length e1, Value.int .i64 d2.s0, Value.int .i64 d2.s1, Value.int .i64 (limD d2.ar d2.un), Value.bool d2.dn]) #[Value.int .i64 d2.sz, Value.slice B0 d2.x0.length e0, Value.slice B1 d2.x1.length e1, Value.int .i64 d2.s0, Value.int .i64 d2.s1, Value.int .i64 (limD d2.ar d2.un), Value.bool d2.dn] #[Value.int .i64 1, Value.int .i64 f, Value.int .i64 n, ov] #[Value.int .i64 d2.sz, Value.slice B0 d2.x0.length e0, Value.slice none 0 0, Value.int .i64 0, Value.int .i64 0, Value.int .i64 0, Value.bool false] := by rw [← hWb1]; exact Sb0.set2 1 _
    have tb2 : Wb1.cell? ⟨w.heap.size + 1 + 1, 2, none⟩ = some (Value.slice none 0 0) := Sb1.b2.cell 2 rfl
    have zb2 : Wb1.frozen? ⟨w.heap.size + 1 + 1, 2, none⟩ = false := Sb1.b2.free 2
    obtain ⟨Wb2, hWb2⟩ : ∃ Wz, Wb1.setCell ⟨w.heap.size + 1 + 1, 2, none⟩ (Value.slice B1 d2.x1.length e1) = Wz := ⟨_, rfl⟩
    have Sb2 : StepAt w Wb2 D d2 v0 v1 u0 u1 L d2 (.agg #[Value.int .i64 d2.sz, Value.slice B0 d2.x0.length e0, Value.slice B1 d2.x1.length e1, Value.int .i64 d2.s0, Value.int .i64 d2.s1, Value.int .i64 (limD d2.ar d2.un), Value.bool d2.dn]) #[Value.int .i64 d2.sz, Value.slice B0 d2.x0.length e0, Value.slice B1 d2.x1.length e1, Value.int .i64 d2.s0, Value.int .i64 d2.s1, Value.int .i64 (limD d2.ar d2.un), Value.bool d2.dn] #[Value.int .i64 1, Value.int .i64 f, Value.int .i64 n, ov] #[Value.int .i64 d2.sz, Value.slice B0 d2.x0.length e0, Value.slice B1 d2.x1.length e1, Value.int .i64 0, Value.int .i64 0, Value.int .i64 0, Value.bool false] := by rw [← hWb2]; exact Sb1.set2 2 _
    have tb3 : Wb2.cell? ⟨w.heap.size + 1 + 1, 3, none⟩ = some (Value.int .i64 0) := Sb2.b2.cell 3 rfl
    have zb3 : Wb2.frozen? ⟨w.heap.size + 1 + 1, 3, none⟩ = false := Sb2.b2.free 3
    obtain ⟨Wb3, hWb3⟩ : ∃ Wz, Wb2.setCell ⟨w.heap.size + 1 + 1, 3, none⟩ (Value.int .i64 d2.s0) = Wz := ⟨_, rfl⟩
    have Sb3 : StepAt w Wb3 D d2 v0 v1 u0 u1 L d2 (.agg #[Value.int .i64 d2.sz, Value.slice B0 d2.x0.length e0, Value.slice B1 d2.x1.length e1, Value.int .i64 d2.s0, Value.int .i64 d2.s1, Value.int .i64 (limD d2.ar d2.un), Value.bool d2.dn]) #[Value.int .i64 d2.sz, Value.slice B0 d2.x0.length e0, Value.slice B1 d2.x1.length e1, Value.int .i64 d2.s0, Value.int .i64 d2.s1, Value.int .i64 (limD d2.ar d2.un), Value.bool d2.dn] #[Value.int .i64 1, Value.int .i64 f, Value.int .i64 n, ov] #[Value.int .i64 d2.sz, Value.slice B0 d2.x0.length e0, Value.slice B1 d2.x1.length e1, Value.int .i64 d2.s0, Value.int .i64 0, Value.int .i64 0, Value.bool false] := by rw [← hWb3]; exact Sb2.set2 3 _
    have tb4 : Wb3.cell? ⟨w.heap.size + 1 + 1, 4, none⟩ = some (Value.int .i64 0) := Sb3.b2.cell 4 rfl
    have zb4 : Wb3.frozen? ⟨w.heap.size + 1 + 1, 4, none⟩ = false := Sb3.b2.free 4
    obtain ⟨Wb4, hWb4⟩ : ∃ Wz, Wb3.setCell ⟨w.heap.size + 1 + 1, 4, none⟩ (Value.int .i64 d2.s1) = Wz := ⟨_, rfl⟩
    have Sb4 : StepAt w Wb4 D d2 v0 v1 u0 u1 L d2 (.agg #[Value.int .i64 d2.sz, Value.slice B0 d2.x0.length e0, Value.slice B1 d2.x1.length e1, Value.int .i64 d2.s0, Value.int .i64 d2.s1, Value.int .i64 (limD d2.ar d2.un), Value.bool d2.dn]) #[Value.int .i64 d2.sz, Value.slice B0 d2.x0.length e0, Value.slice B1 d2.x1.length e1, Value.int .i64 d2.s0, Value.int .i64 d2.s1, Value.int .i64 (limD d2.ar d2.un), Value.bool d2.dn] #[Value.int .i64 1, Value.int .i64 f, Value.int .i64 n, ov] #[Value.int .i64 d2.sz, Value.slice B0 d2.x0.length e0, Value.slice B1 d2.x1.length e1, Value.int .i64 d2.s0, Value.int .i64 d2.s1, Value.int .i64 0, Value.bool false] := by rw [← hWb4]; exact Sb3.set2 4 _
    have tb5 : Wb4.cell? ⟨w.heap.size + 1 + 1, 5, none⟩ = some (Value.int .i64 0) := Sb4.b2.cell 5 rfl
    have zb5 : Wb4.frozen? ⟨w.heap.size + 1 + 1, 5, none⟩ = false := Sb4.b2.free 5
    obtain ⟨Wb5, hWb5⟩ : ∃ Wz, Wb4.setCell ⟨w.heap.size + 1 + 1, 5, none⟩ (Value.int .i64 (limD d2.ar d2.un)) = Wz := ⟨_, rfl⟩
    have Sb5 : StepAt w Wb5 D d2 v0 v1 u0 u1 L d2 (.agg #[Value.int .i64 d2.sz, Value.slice B0 d2.x0.length e0, Value.slice B1 d2.x1.length e1, Value.int .i64 d2.s0, Value.int .i64 d2.s1, Value.int .i64 (limD d2.ar d2.un), Value.bool d2.dn]) #[Value.int .i64 d2.sz, Value.slice B0 d2.x0.length e0, Value.slice B1 d2.x1.length e1, Value.int .i64 d2.s0, Value.int .i64 d2.s1, Value.int .i64 (limD d2.ar d2.un), Value.bool d2.dn] #[Value.int .i64 1, Value.int .i64 f, Value.int .i64 n, ov] #[Value.int .i64 d2.sz, Value.slice B0 d2.x0.length e0, Value.slice B1 d2.x1.length e1, Value.int .i64 d2.s0, Value.int .i64 d2.s1, Value.int .i64 (limD d2.ar d2.un), Value.bool false] := by rw [← hWb5]; exact Sb4.set2 5 _
    have tb6 : Wb5.cell? ⟨w.heap.size + 1 + 1, 6, none⟩ = some (Value.bool false) := Sb5.b2.cell 6 rfl
    have zb6 : Wb5.frozen? ⟨w.heap.size + 1 + 1, 6, none⟩ = false := Sb5.b2.free 6
    obtain ⟨Wb6, hWb6⟩ : ∃ Wz, Wb5.setCell ⟨w.heap.size + 1 + 1, 6, none⟩ (Value.bool d2.dn) = Wz := ⟨_, rfl⟩
    have Sb6 : StepAt w Wb6 D d2 v0 v1 u0 u1 L d2 (.agg #[Value.int .i64 d2.sz, Value.slice B0 d2.x0.length e0, Value.slice B1 d2.x1.length e1, Value.int .i64 d2.s0, Value.int .i64 d2.s1, Value.int .i64 (limD d2.ar d2.un), Value.bool d2.dn]) #[Value.int .i64 d2.sz, Value.slice B0 d2.x0.length e0, Value.slice B1 d2.x1.length e1, Value.int .i64 d2.s0, Value.int .i64 d2.s1, Value.int .i64 (limD d2.ar d2.un), Value.bool d2.dn] #[Value.int .i64 1, Value.int .i64 f, Value.int .i64 n, ov] #[Value.int .i64 d2.sz, Value.slice B0 d2.x0.length e0, Value.slice B1 d2.x1.length e1, Value.int .i64 d2.s0, Value.int .i64 d2.s1, Value.int .i64 (limD d2.ar d2.un), Value.bool d2.dn] := by rw [← hWb6]; exact Sb5.set2 6 _
    have HE := Lib.hid Sb6
    clear T Sa0 Sa1 Sa2 Sa3 Sa4 Sa5 Sa6 Sb0 Sb1 Sb2 Sb3 Sb4 Sb5 Sb6
    go_wp2
    try simp only [Exit.inBlock, Exit.then]
    have hE := HE.out
    refine bodyPost_ret (results_cell_row_tmp (p := 6) (u := 7) (ty := 40) rfl _ Wb6 (w.heap.size + 1 + 1) 40 _ (0, 0) _ rfl hE.b2 Try.underlying40 rfl (by kernel_rfl)) rfl ?_
    exact hE.done hd2 rfl
set_option maxHeartbeats 4000000 in
set_option maxRecDepth 100000 in
theorem step2 (d : DV) (hd : d.good) (f n : Int) (hf : i64ok f) (hn : i64ok n) (yb : List UInt8) (hy : yb.length ≤ 140737488355328) (D : Nat) (v0 v1 : Value) (L : List Nat) (w : World) (hL : ∀ x ∈ L, x < w.heap.size) (h : DiskAt w D d v0 v1) (xv : Value) (hx : RepV1 w (Apart D v0 v1 L) (.agg (refA d)) xv) (ov : Value) (ho : RepP w (Apart D v0 v1 L) (.sl (bytesAV yb) .no) ov) :
    Calls Try.prog 14 #[.pointer (some ⟨D, 0, none⟩), xv, .agg #[.int .i64 2, .int .i64 f, .int .i64 n, ov]] w fun e w' => StepEnd w D v0 v1 L e w' := by
    have mixed : Try.prog.follows .mixedOrders = true := by kernel_rfl
    obtain ⟨A0, A1, c0, c1, rfl, l0, l1, p0, p1⟩ := ref_open hx
    simp only [refC, refV] at hx ⊢
    obtain ⟨W, hW, B0, B1, B2, hb, hsz⟩ := box3 w 40 37 40 #[Value.int .i64 d.sz, Value.slice A0 d.x0.length c0, Value.slice A1 d.x1.length c1, Value.int .i64 d.s0, Value.int .i64 d.s1, Value.int .i64 (limD d.ar d.un), Value.bool d.dn] #[Value.int .i64 2, Value.int .i64 f, Value.int .i64 n, ov] #[Value.int .i64 0, Value.slice none 0 0, Value.slice none 0 0, Value.int .i64 0, Value.int .i64 0, Value.int .i64 0, Value.bool false]
    have S := StepAt.start (L := L) h hx hb B0 B1 B2
    have hoW : RepP W (Apart D v0 v1 (w.heap.size :: (w.heap.size + 1) :: (w.heap.size + 1 + 1) :: L)) (.sl (bytesAV yb) .no) ov := ho.mono fun b o u hbo hu => by
      have hlt := cell_lt hu
      refine ⟨⟨hbo.1, hbo.2.1, hbo.2.2.1, ?_⟩, (cell_same (hb.block b hlt)).trans hu⟩
      intro hm
      simp only [List.mem_cons] at hm
      rcases hm with e | e | e | e
      · omega
      · omega
      · omega
      · exact hbo.2.2.2 e
    have HWh := Lib.hid hW
    clear hW
    have HS := Lib.hid S
    have HO := Lib.hid hoW
    have HB := Lib.hid hb
    clear S hoW hx ho h B0 B1 B2 hb hsz p0 p1
    go_enter Try.func14, Try.ntmps14
    have hcl := Lib.hid (sync_any d hd f hf D v0 v1 [] W HS.out.at')
    go_wp2_with fail
    rw [← HWh.out]
    refine hcl.out.mono ?_
    rintro e w4 ⟨u0, u1, rfl, h4, ht4⟩
    have S4 := HS.out.disk h4 ht4
    have hd2 := after_good hd (k := 2) (f := f) (n := 0) (ys := []) isBytes_nil (by omega)
    generalize hd2e : d.after 2 f 0 [] = d2 at *
    have hO4 : RepP w4 (Apart D u0 u1 (w.heap.size :: (w.heap.size + 1) :: (w.heap.size + 1 + 1) :: L)) (.sl (bytesAV yb) .no) ov := HO.out.mono fun b o u hb hu => ht4.rep hb hu
    have r0 : w4.cell? ⟨w.heap.size + 1, 0, none⟩ = some (Value.int .i64 2) := S4.b1.cell 0 rfl
    have r1 : w4.cell? ⟨w.heap.size + 1, 1, none⟩ = some (Value.int .i64 f) := S4.b1.cell 1 rfl
    have r2 : w4.cell? ⟨w.heap.size + 1, 2, none⟩ = some (Value.int .i64 n) := S4.b1.cell 2 rfl
    have r3 : w4.cell? ⟨w.heap.size + 1, 3, none⟩ = some (ov) := S4.b1.cell 3 rfl
    have s0 : w4.cell? ⟨w.heap.size, 0, none⟩ = some (Value.int .i64 d.sz) := S4.b0.cell 0 rfl
    have s1 : w4.cell? ⟨w.heap.size, 1, none⟩ = some (Value.slice A0 d.x0.length c0) := S4.b0.cell 1 rfl
    have s2 : w4.cell? ⟨w.heap.size, 2, none⟩ = some (Value.slice A1 d.x1.length c1) := S4.b0.cell 2 rfl
    have s3 : w4.cell? ⟨w.heap.size, 3, none⟩ = some (Value.int .i64 d.s0) := S4.b0.cell 3 rfl
    have s4 : w4.cell? ⟨w.heap.size, 4, none⟩ = some (Value.int .i64 d.s1) := S4.b0.cell 4 rfl
    have s5 : w4.cell? ⟨w.heap.size, 5, none⟩ = some (Value.int .i64 (limD d.ar d.un)) := S4.b0.cell 5 rfl
    have s6 : w4.cell? ⟨w.heap.size, 6, none⟩ = some (Value.bool d.dn) := S4.b0.cell 6 rfl
    have hcr := rsync_any d hd f 0 hf (by unfold i64ok; omega) (StepBad w w4 D u0 u1 L) w4 (fun b o hb => hb.1) _ (S4.good_rep S4.ref)
    rw [hd2e] at hcr
    generalize pE 2 f 0 [] d.sz (bytesAV d.x0) d.s0 (bytesAV d.x1) d.s1 d.ar d.un d.dn = er at *
    have HC := Lib.hid hcr
    have HS4 := Lib.hid S4
    clear S4 hO4 hcr h4 ht4 hcl HWh HS HO
    go_wp2_with fail
    refine HC.out.mono ?_
    rintro e w5 ⟨yv, rfl, hb5, hv5⟩
    have T := HS4.out.call (fun x hx => Nat.lt_of_lt_of_le (hL x hx) HS4.out.touch.size) hb5 hv5
    obtain ⟨B0, B1, e0, e1, rfl, l2, l3, _, _⟩ := ref_open hv5
    simp only [refC, refV] at T ⊢
    clear hb5 hv5 HC HS4 r0 r1 r2 r3 s0 s1 s2 s3 s4 s5 s6
    have ta0 : w5.cell? ⟨w.heap.size, 0, none⟩ = some (Value.int .i64 d.sz) := T.b0.cell 0 rfl
    have za0 : w5.frozen? ⟨w.heap.size, 0, none⟩ = false := T.b0.free 0
    obtain ⟨Wa0, hWa0⟩ : ∃ Wz, w5.setCell ⟨w.heap.size, 0, none⟩ (Value.int .i64 d2.sz) = Wz := ⟨_, rfl⟩
    have Sa0 : StepAt w Wa0 D d2 v0 v1 u0 u1 L d2 (.agg #[Value.int .i64 d2.sz, Value.slice B0 d2.x0.length e0, Value.slice B1 d2.x1.length e1, Value.int .i64 d2.s0, Value.int .i64 d2.s1, Value.int .i64 (limD d2.ar d2.un), Value.bool d2.dn]) #[Value.int .i64 d2.sz, Value.slice A0 d.x0.length c0, Value.slice A1 d.x1.length c1, Value.int .i64 d.s0, Value.int .i64 d.s1, Value.int .i64 (limD d.ar d.un), Value.bool d.dn] #[Value.int .i64 2, Value.int .i64 f, Value.int .i64 n, ov] #[Value.int .i64 0, Value.slice none 0 0, Value.slice none 0 0, Value.int .i64 0, Value.int .i64 0, Value.int .i64 0, Value.bool false] := by rw [← hWa0]; exact T.set0 0 _
    have ta1 : Wa0.cell? ⟨w.heap.size, 1, none⟩ = some (Value.slice A0 d.x0.length c0) := Sa0.b0.cell 1 rfl
    have za1 : Wa0.frozen? ⟨w.heap.size, 1, none⟩ = false := Sa0.b0.free 1
    obtain ⟨Wa1, hWa1⟩ : ∃ Wz, Wa0.setCell ⟨w.heap.size, 1, none⟩ (Value.slice B0 d2.x0.length e0) = Wz := ⟨_, rfl⟩
    have Sa1 : StepAt w Wa1 D d2 v0 v1 u0 u1 L d2 (.agg #[Value.int .i64 d2.sz, Value.slice B0 d2.x0.length e0, Value.slice B1 d2.x1.length e1, Value.int .i64 d2.s0, Value.int .i64 d2.s1, Value.int .i64 (limD d2.ar d2.un), Value.bool d2.dn]) #[Value.int .i64 d2.sz, Value.slice B0 d2.x0.length e0, Value.slice A1 d.x1.length c1, Value.int .i64 d.s0, Value.int .i64 d.s1, Value.int .i64 (limD d.ar d.un), Value.bool d.dn] #[Value.int .i64 2, Value.int .i64 f, Value.int .i64 n, ov] #[Value.int .i64 0, Value.slice none 0 0, Value.slice none 0 0, Value.int .i64 0, Value.int .i64 0, Value.int .i64 0, Value.bool false] := by rw [← hWa1]; exact Sa0.set0 1 _
    have ta2 : Wa1.cell? ⟨w.heap.size, 2, none⟩ = some (Value.slice A1 d.x1.length c1) := Sa1.b0.cell 2 rfl
    have za2 : Wa1.frozen? ⟨w.heap.size, 2, none⟩ = false := Sa1.b0.free 2
    obtain ⟨Wa2, hWa2⟩ : ∃ Wz, Wa1.setCell ⟨w.heap.size, 2, none⟩ (Value.slice B1 d2.x1.length e1) = Wz := ⟨_, rfl⟩
    have Sa2 : StepAt w Wa2 D d2 v0 v1 u0 u1 L d2 (.agg #[Value.int .i64 d2.sz, Value.slice B0 d2.x0.length e0, Value.slice B1 d2.x1.length e1, Value.int .i64 d2.s0, Value.int .i64 d2.s1, Value.int .i64 (limD d2.ar d2.un), Value.bool d2.dn]) #[Value.int .i64 d2.sz, Value.slice B0 d2.x0.length e0, Value.slice B1 d2.x1.length e1, Value.int .i64 d.s0, Value.int .i64 d.s1, Value.int .i64 (limD d.ar d.un), Value.bool d.dn] #[Value.int .i64 2, Value.int .i64 f, Value.int .i64 n, ov] #[Value.int .i64 0, Value.slice none 0 0, Value.slice none 0 0, Value.int .i64 0, Value.int .i64 0, Value.int .i64 0, Value.bool false] := by rw [← hWa2]; exact Sa1.set0 2 _
    have ta3 : Wa2.cell? ⟨w.heap.size, 3, none⟩ = some (Value.int .i64 d.s0) := Sa2.b0.cell 3 rfl
    have za3 : Wa2.frozen? ⟨w.heap.size, 3, none⟩ = false := Sa2.b0.free 3
    obtain ⟨Wa3, hWa3⟩ : ∃ Wz, Wa2.setCell ⟨w.heap.size, 3, none⟩ (Value.int .i64 d2.s0) = Wz := ⟨_, rfl⟩
    have Sa3 : StepAt w Wa3 D d2 v0 v1 u0 u1 L d2 (.agg #[Value.int .i64 d2.sz, Value.slice B0 d2.x0.length e0, Value.slice B1 d2.x1.length e1, Value.int .i64 d2.s0, Value.int .i64 d2.s1, Value.int .i64 (limD d2.ar d2.un), Value.bool d2.dn]) #[Value.int .i64 d2.sz, Value.slice B0 d2.x0.length e0, Value.slice B1 d2.x1.length e1, Value.int .i64 d2.s0, Value.int .i64 d.s1, Value.int .i64 (limD d.ar d.un), Value.bool d.dn] #[Value.int .i64 2, Value.int .i64 f, Value.int .i64 n, ov] #[Value.int .i64 0, Value.slice none 0 0, Value.slice none 0 0, Value.int .i64 0, Value.int .i64 0, Value.int .i64 0, Value.bool false] := by rw [← hWa3]; exact Sa2.set0 3 _
    have ta4 : Wa3.cell? ⟨w.heap.size, 4, none⟩ = some (Value.int .i64 d.s1) := Sa3.b0.cell 4 rfl
    have za4 : Wa3.frozen? ⟨w.heap.size, 4, none⟩ = false := Sa3.b0.free 4
    obtain ⟨Wa4, hWa4⟩ : ∃ Wz, Wa3.setCell ⟨w.heap.size, 4, none⟩ (Value.int .i64 d2.s1) = Wz := ⟨_, rfl⟩
    have Sa4 : StepAt w Wa4 D d2 v0 v1 u0 u1 L d2 (.agg #[Value.int .i64 d2.sz, Value.slice B0 d2.x0.length e0, Value.slice B1 d2.x1.length e1, Value.int .i64 d2.s0, Value.int .i64 d2.s1, Value.int .i64 (limD d2.ar d2.un), Value.bool d2.dn]) #[Value.int .i64 d2.sz, Value.slice B0 d2.x0.length e0, Value.slice B1 d2.x1.length e1, Value.int .i64 d2.s0, Value.int .i64 d2.s1, Value.int .i64 (limD d.ar d.un), Value.bool d.dn] #[Value.int .i64 2, Value.int .i64 f, Value.int .i64 n, ov] #[Value.int .i64 0, Value.slice none 0 0, Value.slice none 0 0, Value.int .i64 0, Value.int .i64 0, Value.int .i64 0, Value.bool false] := by rw [← hWa4]; exact Sa3.set0 4 _
    have ta5 : Wa4.cell? ⟨w.heap.size, 5, none⟩ = some (Value.int .i64 (limD d.ar d.un)) := Sa4.b0.cell 5 rfl
    have za5 : Wa4.frozen? ⟨w.heap.size, 5, none⟩ = false := Sa4.b0.free 5
    obtain ⟨Wa5, hWa5⟩ : ∃ Wz, Wa4.setCell ⟨w.heap.size, 5, none⟩ (Value.int .i64 (limD d2.ar d2.un)) = Wz := ⟨_, rfl⟩
    have Sa5 : StepAt w Wa5 D d2 v0 v1 u0 u1 L d2 (.agg #[Value.int .i64 d2.sz, Value.slice B0 d2.x0.length e0, Value.slice B1 d2.x1.length e1, Value.int .i64 d2.s0, Value.int .i64 d2.s1, Value.int .i64 (limD d2.ar d2.un), Value.bool d2.dn]) #[Value.int .i64 d2.sz, Value.slice B0 d2.x0.length e0, Value.slice B1 d2.x1.length e1, Value.int .i64 d2.s0, Value.int .i64 d2.s1, Value.int .i64 (limD d2.ar d2.un), Value.bool d.dn] #[Value.int .i64 2, Value.int .i64 f, Value.int .i64 n, ov] #[Value.int .i64 0, Value.slice none 0 0, Value.slice none 0 0, Value.int .i64 0, Value.int .i64 0, Value.int .i64 0, Value.bool false] := by rw [← hWa5]; exact Sa4.set0 5 _
    have ta6 : Wa5.cell? ⟨w.heap.size, 6, none⟩ = some (Value.bool d.dn) := Sa5.b0.cell 6 rfl
    have za6 : Wa5.frozen? ⟨w.heap.size, 6, none⟩ = false := Sa5.b0.free 6
    obtain ⟨Wa6, hWa6⟩ : ∃ Wz, Wa5.setCell ⟨w.heap.size, 6, none⟩ (Value.bool d2.dn) = Wz := ⟨_, rfl⟩
    have Sa6 : StepAt w Wa6 D d2 v0 v1 u0 u1 L d2 (.agg #[Value.int .i64 d2.sz, Value.slice B0 d2.x0.length e0, Value.slice B1 d2.x1.length e1, Value.int .i64 d2.s0, Value.int .i64 d2.s1, Value.int .i64 (limD d2.ar d2.un), Value.bool d2.dn]) #[Value.int .i64 d2.sz, Value.slice B0 d2.x0.length e0, Value.slice B1 d2.x1.length e1, Value.int .i64 d2.s0, Value.int .i64 d2.s1, Value.int .i64 (limD d2.ar d2.un), Value.bool d2.dn] #[Value.int .i64 2, Value.int .i64 f, Value.int .i64 n, ov] #[Value.int .i64 0, Value.slice none 0 0, Value.slice none 0 0, Value.int .i64 0, Value.int .i64 0, Value.int .i64 0, Value.bool false] := by rw [← hWa6]; exact Sa5.set0 6 _
    have g0 : Wa6.cell? ⟨w.heap.size, 0, none⟩ = some (Value.int .i64 d2.sz) := Sa6.b0.cell 0 rfl
    have g1 : Wa6.cell? ⟨w.heap.size, 1, none⟩ = some (Value.slice B0 d2.x0.length e0) := Sa6.b0.cell 1 rfl
    have g2 : Wa6.cell? ⟨w.heap.size, 2, none⟩ = some (Value.slice B1 d2.x1.length e1) := Sa6.b0.cell 2 rfl
    have g3 : Wa6.cell? ⟨w.heap.size, 3, none⟩ = some (Value.int .i64 d2.s0) := Sa6.b0.cell 3 rfl
    have g4 : Wa6.cell? ⟨w.heap.size, 4, none⟩ = some (Value.int .i64 d2.s1) := Sa6.b0.cell 4 rfl
    have g5 : Wa6.cell? ⟨w.heap.size, 5, none⟩ = some (Value.int .i64 (limD d2.ar d2.un)) := Sa6.b0.cell 5 rfl
    have g6 : Wa6.cell? ⟨w.heap.size, 6, none⟩ = some (Value.bool d2.dn) := Sa6.b0.cell 6 rfl
    have tb0 : Wa6.cell? ⟨w.heap.size + 1 + 1, 0, none⟩ = some (Value.int .i64 0) := Sa6.b2.cell 0 rfl
    have zb0 : Wa6.frozen? ⟨w.heap.size + 1 + 1, 0, none⟩ = false := Sa6.b2.free 0
    obtain ⟨Wb0, hWb0⟩ : ∃ Wz, Wa6.setCell ⟨w.heap.size + 1 + 1, 0, none⟩ (Value.int .i64 d2.sz) = Wz := ⟨_, rfl⟩
    have Sb0 : StepAt w Wb0 D d2 v0 v1 u0 u1 L d2 (.agg #[Value.int .i64 d2.sz, Value.slice B0 d2.x0.length e0, Value.slice B1 d2.x1.length e1, Value.int .i64 d2.s0, Value.int .i64 d2.s1, Value.int .i64 (limD d2.ar d2.un), Value.bool d2.dn]) #[Value.int .i64 d2.sz, Value.slice B0 d2.x0.length e0, Value.slice B1 d2.x1.length e1, Value.int .i64 d2.s0, Value.int .i64 d2.s1, Value.int .i64 (limD d2.ar d2.un), Value.bool d2.dn] #[Value.int .i64 2, Value.int .i64 f, Value.int .i64 n, ov] #[Value.int .i64 d2.sz, Value.slice none 0 0, Value.slice none 0 0, Value.int .i64 0, Value.int .i64 0, Value.int .i64 0, Value.bool false] := by rw [← hWb0]; exact Sa6.set2 0 _
    have tb1 : Wb0.cell? ⟨w.heap.size + 1 + 1, 1, none⟩ = some (Value.slice none 0 0) := Sb0.b2.cell 1 rfl
    have zb1 : Wb0.frozen? ⟨w.heap.size + 1 + 1, 1, none⟩ = false := Sb0.b2.free 1
    obtain ⟨Wb1, hWb1⟩ : ∃ Wz, Wb0.setCell ⟨w.heap.size + 1 + 1, 1, none⟩ (Value.slice B0 d2.x0.length e0) = Wz := ⟨_, rfl⟩
    have Sb1 : StepAt w Wb1 D d2 v0 v1 u0 u1 L d2 (.agg #[Value.int .i64 d2.sz, Value.slice B0 d2.x0.length e0, Value.slice B1 d2.x1.length e1, Value.int .i64 d2.s0, Value.int .i64 d2.s1, Value.int .i64 (limD d2.ar d2.un), Value.bool d2.dn]) #[Value.int .i64 d2.sz, Value.slice B0 d2.x0.length e0, Value.slice B1 d2.x1.length e1, Value.int .i64 d2.s0, Value.int .i64 d2.s1, Value.int .i64 (limD d2.ar d2.un), Value.bool d2.dn] #[Value.int .i64 2, Value.int .i64 f, Value.int .i64 n, ov] #[Value.int .i64 d2.sz, Value.slice B0 d2.x0.length e0, Value.slice none 0 0, Value.int .i64 0, Value.int .i64 0, Value.int .i64 0, Value.bool false] := by rw [← hWb1]; exact Sb0.set2 1 _
    have tb2 : Wb1.cell? ⟨w.heap.size + 1 + 1, 2, none⟩ = some (Value.slice none 0 0) := Sb1.b2.cell 2 rfl
    have zb2 : Wb1.frozen? ⟨w.heap.size + 1 + 1, 2, none⟩ = false := Sb1.b2.free 2
    obtain ⟨Wb2, hWb2⟩ : ∃ Wz, Wb1.setCell ⟨w.heap.size + 1 + 1, 2, none⟩ (Value.slice B1 d2.x1.length e1) = Wz := ⟨_, rfl⟩
    have Sb2 : StepAt w Wb2 D d2 v0 v1 u0 u1 L d2 (.agg #[Value.int .i64 d2.sz, Value.slice B0 d2.x0.length e0, Value.slice B1 d2.x1.length e1, Value.int .i64 d2.s0, Value.int .i64 d2.s1, Value.int .i64 (limD d2.ar d2.un), Value.bool d2.dn]) #[Value.int .i64 d2.sz, Value.slice B0 d2.x0.length e0, Value.slice B1 d2.x1.length e1, Value.int .i64 d2.s0, Value.int .i64 d2.s1, Value.int .i64 (limD d2.ar d2.un), Value.bool d2.dn] #[Value.int .i64 2, Value.int .i64 f, Value.int .i64 n, ov] #[Value.int .i64 d2.sz, Value.slice B0 d2.x0.length e0, Value.slice B1 d2.x1.length e1, Value.int .i64 0, Value.int .i64 0, Value.int .i64 0, Value.bool false] := by rw [← hWb2]; exact Sb1.set2 2 _
    have tb3 : Wb2.cell? ⟨w.heap.size + 1 + 1, 3, none⟩ = some (Value.int .i64 0) := Sb2.b2.cell 3 rfl
    have zb3 : Wb2.frozen? ⟨w.heap.size + 1 + 1, 3, none⟩ = false := Sb2.b2.free 3
    obtain ⟨Wb3, hWb3⟩ : ∃ Wz, Wb2.setCell ⟨w.heap.size + 1 + 1, 3, none⟩ (Value.int .i64 d2.s0) = Wz := ⟨_, rfl⟩
    have Sb3 : StepAt w Wb3 D d2 v0 v1 u0 u1 L d2 (.agg #[Value.int .i64 d2.sz, Value.slice B0 d2.x0.length e0, Value.slice B1 d2.x1.length e1, Value.int .i64 d2.s0, Value.int .i64 d2.s1, Value.int .i64 (limD d2.ar d2.un), Value.bool d2.dn]) #[Value.int .i64 d2.sz, Value.slice B0 d2.x0.length e0, Value.slice B1 d2.x1.length e1, Value.int .i64 d2.s0, Value.int .i64 d2.s1, Value.int .i64 (limD d2.ar d2.un), Value.bool d2.dn] #[Value.int .i64 2, Value.int .i64 f, Value.int .i64 n, ov] #[Value.int .i64 d2.sz, Value.slice B0 d2.x0.length e0, Value.slice B1 d2.x1.length e1, Value.int .i64 d2.s0, Value.int .i64 0, Value.int .i64 0, Value.bool false] := by rw [← hWb3]; exact Sb2.set2 3 _
    have tb4 : Wb3.cell? ⟨w.heap.size + 1 + 1, 4, none⟩ = some (Value.int .i64 0) := Sb3.b2.cell 4 rfl
    have zb4 : Wb3.frozen? ⟨w.heap.size + 1 + 1, 4, none⟩ = false := Sb3.b2.free 4
    obtain ⟨Wb4, hWb4⟩ : ∃ Wz, Wb3.setCell ⟨w.heap.size + 1 + 1, 4, none⟩ (Value.int .i64 d2.s1) = Wz := ⟨_, rfl⟩
    have Sb4 : StepAt w Wb4 D d2 v0 v1 u0 u1 L d2 (.agg #[Value.int .i64 d2.sz, Value.slice B0 d2.x0.length e0, Value.slice B1 d2.x1.length e1, Value.int .i64 d2.s0, Value.int .i64 d2.s1, Value.int .i64 (limD d2.ar d2.un), Value.bool d2.dn]) #[Value.int .i64 d2.sz, Value.slice B0 d2.x0.length e0, Value.slice B1 d2.x1.length e1, Value.int .i64 d2.s0, Value.int .i64 d2.s1, Value.int .i64 (limD d2.ar d2.un), Value.bool d2.dn] #[Value.int .i64 2, Value.int .i64 f, Value.int .i64 n, ov] #[Value.int .i64 d2.sz, Value.slice B0 d2.x0.length e0, Value.slice B1 d2.x1.length e1, Value.int .i64 d2.s0, Value.int .i64 d2.s1, Value.int .i64 0, Value.bool false] := by rw [← hWb4]; exact Sb3.set2 4 _
    have tb5 : Wb4.cell? ⟨w.heap.size + 1 + 1, 5, none⟩ = some (Value.int .i64 0) := Sb4.b2.cell 5 rfl
    have zb5 : Wb4.frozen? ⟨w.heap.size + 1 + 1, 5, none⟩ = false := Sb4.b2.free 5
    obtain ⟨Wb5, hWb5⟩ : ∃ Wz, Wb4.setCell ⟨w.heap.size + 1 + 1, 5, none⟩ (Value.int .i64 (limD d2.ar d2.un)) = Wz := ⟨_, rfl⟩
    have Sb5 : StepAt w Wb5 D d2 v0 v1 u0 u1 L d2 (.agg #[Value.int .i64 d2.sz, Value.slice B0 d2.x0.length e0, Value.slice B1 d2.x1.length e1, Value.int .i64 d2.s0, Value.int .i64 d2.s1, Value.int .i64 (limD d2.ar d2.un), Value.bool d2.dn]) #[Value.int .i64 d2.sz, Value.slice B0 d2.x0.length e0, Value.slice B1 d2.x1.length e1, Value.int .i64 d2.s0, Value.int .i64 d2.s1, Value.int .i64 (limD d2.ar d2.un), Value.bool d2.dn] #[Value.int .i64 2, Value.int .i64 f, Value.int .i64 n, ov] #[Value.int .i64 d2.sz, Value.slice B0 d2.x0.length e0, Value.slice B1 d2.x1.length e1, Value.int .i64 d2.s0, Value.int .i64 d2.s1, Value.int .i64 (limD d2.ar d2.un), Value.bool false] := by rw [← hWb5]; exact Sb4.set2 5 _
    have tb6 : Wb5.cell? ⟨w.heap.size + 1 + 1, 6, none⟩ = some (Value.bool false) := Sb5.b2.cell 6 rfl
    have zb6 : Wb5.frozen? ⟨w.heap.size + 1 + 1, 6, none⟩ = false := Sb5.b2.free 6
    obtain ⟨Wb6, hWb6⟩ : ∃ Wz, Wb5.setCell ⟨w.heap.size + 1 + 1, 6, none⟩ (Value.bool d2.dn) = Wz := ⟨_, rfl⟩
    have Sb6 : StepAt w Wb6 D d2 v0 v1 u0 u1 L d2 (.agg #[Value.int .i64 d2.sz, Value.slice B0 d2.x0.length e0, Value.slice B1 d2.x1.length e1, Value.int .i64 d2.s0, Value.int .i64 d2.s1, Value.int .i64 (limD d2.ar d2.un), Value.bool d2.dn]) #[Value.int .i64 d2.sz, Value.slice B0 d2.x0.length e0, Value.slice B1 d2.x1.length e1, Value.int .i64 d2.s0, Value.int .i64 d2.s1, Value.int .i64 (limD d2.ar d2.un), Value.bool d2.dn] #[Value.int .i64 2, Value.int .i64 f, Value.int .i64 n, ov] #[Value.int .i64 d2.sz, Value.slice B0 d2.x0.length e0, Value.slice B1 d2.x1.length e1, Value.int .i64 d2.s0, Value.int .i64 d2.s1, Value.int .i64 (limD d2.ar d2.un), Value.bool d2.dn] := by rw [← hWb6]; exact Sb5.set2 6 _
    have HE := Lib.hid Sb6
    clear T Sa0 Sa1 Sa2 Sa3 Sa4 Sa5 Sa6 Sb0 Sb1 Sb2 Sb3 Sb4 Sb5 Sb6
    go_wp2
    try simp only [Exit.inBlock, Exit.then]
    have hE := HE.out
    refine bodyPost_ret (results_cell_row_tmp (p := 6) (u := 7) (ty := 40) rfl _ Wb6 (w.heap.size + 1 + 1) 40 _ (0, 0) _ rfl hE.b2 Try.underlying40 rfl (by kernel_rfl)) rfl ?_
    exact hE.done hd2 rfl
set_option maxHeartbeats 4000000 in
set_option maxRecDepth 100000 in
theorem step3 (d : DV) (hd : d.good) (f n : Int) (hf : i64ok f) (hn : i64ok n) (yb : List UInt8) (hy : yb.length ≤ 140737488355328) (D : Nat) (v0 v1 : Value) (L : List Nat) (w : World) (hL : ∀ x ∈ L, x < w.heap.size) (h : DiskAt w D d v0 v1) (xv : Value) (hx : RepV1 w (Apart D v0 v1 L) (.agg (refA d)) xv) (ov : Value) (ho : RepP w (Apart D v0 v1 L) (.sl (bytesAV yb) .no) ov) :
    Calls Try.prog 14 #[.pointer (some ⟨D, 0, none⟩), xv, .agg #[.int .i64 3, .int .i64 f, .int .i64 n, ov]] w fun e w' => StepEnd w D v0 v1 L e w' := by
    have mixed : Try.prog.follows .mixedOrders = true := by kernel_rfl
    obtain ⟨A0, A1, c0, c1, rfl, l0, l1, p0, p1⟩ := ref_open hx
    simp only [refC, refV] at hx ⊢
    obtain ⟨W, hW, B0, B1, B2, hb, hsz⟩ := box3 w 40 37 40 #[Value.int .i64 d.sz, Value.slice A0 d.x0.length c0, Value.slice A1 d.x1.length c1, Value.int .i64 d.s0, Value.int .i64 d.s1, Value.int .i64 (limD d.ar d.un), Value.bool d.dn] #[Value.int .i64 3, Value.int .i64 f, Value.int .i64 n, ov] #[Value.int .i64 0, Value.slice none 0 0, Value.slice none 0 0, Value.int .i64 0, Value.int .i64 0, Value.int .i64 0, Value.bool false]
    have S := StepAt.start (L := L) h hx hb B0 B1 B2
    have hoW : RepP W (Apart D v0 v1 (w.heap.size :: (w.heap.size + 1) :: (w.heap.size + 1 + 1) :: L)) (.sl (bytesAV yb) .no) ov := ho.mono fun b o u hbo hu => by
      have hlt := cell_lt hu
      refine ⟨⟨hbo.1, hbo.2.1, hbo.2.2.1, ?_⟩, (cell_same (hb.block b hlt)).trans hu⟩
      intro hm
      simp only [List.mem_cons] at hm
      rcases hm with e | e | e | e
      · omega
      · omega
      · omega
      · exact hbo.2.2.2 e
    have HWh := Lib.hid hW
    clear hW
    have HS := Lib.hid S
    have HO := Lib.hid hoW
    have HB := Lib.hid hb
    clear S hoW hx ho h B0 B1 B2 hb hsz p0 p1
    go_enter Try.func14, Try.ntmps14
    have hcl := Lib.hid (trim_any d hd f n hf hn D v0 v1 [] W HS.out.at')
    go_wp2_with fail
    rw [← HWh.out]
    refine hcl.out.mono ?_
    rintro e w4 ⟨u0, u1, rfl, h4, ht4⟩
    have S4 := HS.out.disk h4 ht4
    have hd2 := after_good hd (k := 3) (f := f) (n := n) (ys := []) isBytes_nil hn.2
    generalize hd2e : d.after 3 f n [] = d2 at *
    have hO4 : RepP w4 (Apart D u0 u1 (w.heap.size :: (w.heap.size + 1) :: (w.heap.size + 1 + 1) :: L)) (.sl (bytesAV yb) .no) ov := HO.out.mono fun b o u hb hu => ht4.rep hb hu
    have r0 : w4.cell? ⟨w.heap.size + 1, 0, none⟩ = some (Value.int .i64 3) := S4.b1.cell 0 rfl
    have r1 : w4.cell? ⟨w.heap.size + 1, 1, none⟩ = some (Value.int .i64 f) := S4.b1.cell 1 rfl
    have r2 : w4.cell? ⟨w.heap.size + 1, 2, none⟩ = some (Value.int .i64 n) := S4.b1.cell 2 rfl
    have r3 : w4.cell? ⟨w.heap.size + 1, 3, none⟩ = some (ov) := S4.b1.cell 3 rfl
    have s0 : w4.cell? ⟨w.heap.size, 0, none⟩ = some (Value.int .i64 d.sz) := S4.b0.cell 0 rfl
    have s1 : w4.cell? ⟨w.heap.size, 1, none⟩ = some (Value.slice A0 d.x0.length c0) := S4.b0.cell 1 rfl
    have s2 : w4.cell? ⟨w.heap.size, 2, none⟩ = some (Value.slice A1 d.x1.length c1) := S4.b0.cell 2 rfl
    have s3 : w4.cell? ⟨w.heap.size, 3, none⟩ = some (Value.int .i64 d.s0) := S4.b0.cell 3 rfl
    have s4 : w4.cell? ⟨w.heap.size, 4, none⟩ = some (Value.int .i64 d.s1) := S4.b0.cell 4 rfl
    have s5 : w4.cell? ⟨w.heap.size, 5, none⟩ = some (Value.int .i64 (limD d.ar d.un)) := S4.b0.cell 5 rfl
    have s6 : w4.cell? ⟨w.heap.size, 6, none⟩ = some (Value.bool d.dn) := S4.b0.cell 6 rfl
    have hcr := rtrim_any d hd f n hf hn (StepBad w w4 D u0 u1 L) w4 (fun b o hb => hb.1) _ (S4.good_rep S4.ref)
    rw [hd2e] at hcr
    generalize pE 3 f n [] d.sz (bytesAV d.x0) d.s0 (bytesAV d.x1) d.s1 d.ar d.un d.dn = er at *
    have HC := Lib.hid hcr
    have HS4 := Lib.hid S4
    clear S4 hO4 hcr h4 ht4 hcl HWh HS HO
    go_wp2_with fail
    refine HC.out.mono ?_
    rintro e w5 ⟨yv, rfl, hb5, hv5⟩
    have T := HS4.out.call (fun x hx => Nat.lt_of_lt_of_le (hL x hx) HS4.out.touch.size) hb5 hv5
    obtain ⟨B0, B1, e0, e1, rfl, l2, l3, _, _⟩ := ref_open hv5
    simp only [refC, refV] at T ⊢
    clear hb5 hv5 HC HS4 r0 r1 r2 r3 s0 s1 s2 s3 s4 s5 s6
    have ta0 : w5.cell? ⟨w.heap.size, 0, none⟩ = some (Value.int .i64 d.sz) := T.b0.cell 0 rfl
    have za0 : w5.frozen? ⟨w.heap.size, 0, none⟩ = false := T.b0.free 0
    obtain ⟨Wa0, hWa0⟩ : ∃ Wz, w5.setCell ⟨w.heap.size, 0, none⟩ (Value.int .i64 d2.sz) = Wz := ⟨_, rfl⟩
    have Sa0 : StepAt w Wa0 D d2 v0 v1 u0 u1 L d2 (.agg #[Value.int .i64 d2.sz, Value.slice B0 d2.x0.length e0, Value.slice B1 d2.x1.length e1, Value.int .i64 d2.s0, Value.int .i64 d2.s1, Value.int .i64 (limD d2.ar d2.un), Value.bool d2.dn]) #[Value.int .i64 d2.sz, Value.slice A0 d.x0.length c0, Value.slice A1 d.x1.length c1, Value.int .i64 d.s0, Value.int .i64 d.s1, Value.int .i64 (limD d.ar d.un), Value.bool d.dn] #[Value.int .i64 3, Value.int .i64 f, Value.int .i64 n, ov] #[Value.int .i64 0, Value.slice none 0 0, Value.slice none 0 0, Value.int .i64 0, Value.int .i64 0, Value.int .i64 0, Value.bool false] := by rw [← hWa0]; exact T.set0 0 _
    have ta1 : Wa0.cell? ⟨w.heap.size, 1, none⟩ = some (Value.slice A0 d.x0.length c0) := Sa0.b0.cell 1 rfl
    have za1 : Wa0.frozen? ⟨w.heap.size, 1, none⟩ = false := Sa0.b0.free 1
    obtain ⟨Wa1, hWa1⟩ : ∃ Wz, Wa0.setCell ⟨w.heap.size, 1, none⟩ (Value.slice B0 d2.x0.length e0) = Wz := ⟨_, rfl⟩
    have Sa1 : StepAt w Wa1 D d2 v0 v1 u0 u1 L d2 (.agg #[Value.int .i64 d2.sz, Value.slice B0 d2.x0.length e0, Value.slice B1 d2.x1.length e1, Value.int .i64 d2.s0, Value.int .i64 d2.s1, Value.int .i64 (limD d2.ar d2.un), Value.bool d2.dn]) #[Value.int .i64 d2.sz, Value.slice B0 d2.x0.length e0, Value.slice A1 d.x1.length c1, Value.int .i64 d.s0, Value.int .i64 d.s1, Value.int .i64 (limD d.ar d.un), Value.bool d.dn] #[Value.int .i64 3, Value.int .i64 f, Value.int .i64 n, ov] #[Value.int .i64 0, Value.slice none 0 0, Value.slice none 0 0, Value.int .i64 0, Value.int .i64 0, Value.int .i64 0, Value.bool false] := by rw [← hWa1]; exact Sa0.set0 1 _
    have ta2 : Wa1.cell? ⟨w.heap.size, 2, none⟩ = some (Value.slice A1 d.x1.length c1) := Sa1.b0.cell 2 rfl
    have za2 : Wa1.frozen? ⟨w.heap.size, 2, none⟩ = false := Sa1.b0.free 2
    obtain ⟨Wa2, hWa2⟩ : ∃ Wz, Wa1.setCell ⟨w.heap.size, 2, none⟩ (Value.slice B1 d2.x1.length e1) = Wz := ⟨_, rfl⟩
    have Sa2 : StepAt w Wa2 D d2 v0 v1 u0 u1 L d2 (.agg #[Value.int .i64 d2.sz, Value.slice B0 d2.x0.length e0, Value.slice B1 d2.x1.length e1, Value.int .i64 d2.s0, Value.int .i64 d2.s1, Value.int .i64 (limD d2.ar d2.un), Value.bool d2.dn]) #[Value.int .i64 d2.sz, Value.slice B0 d2.x0.length e0, Value.slice B1 d2.x1.length e1, Value.int .i64 d.s0, Value.int .i64 d.s1, Value.int .i64 (limD d.ar d.un), Value.bool d.dn] #[Value.int .i64 3, Value.int .i64 f, Value.int .i64 n, ov] #[Value.int .i64 0, Value.slice none 0 0, Value.slice none 0 0, Value.int .i64 0, Value.int .i64 0, Value.int .i64 0, Value.bool false] := by rw [← hWa2]; exact Sa1.set0 2 _
    have ta3 : Wa2.cell? ⟨w.heap.size, 3, none⟩ = some (Value.int .i64 d.s0) := Sa2.b0.cell 3 rfl
    have za3 : Wa2.frozen? ⟨w.heap.size, 3, none⟩ = false := Sa2.b0.free 3
    obtain ⟨Wa3, hWa3⟩ : ∃ Wz, Wa2.setCell ⟨w.heap.size, 3, none⟩ (Value.int .i64 d2.s0) = Wz := ⟨_, rfl⟩
    have Sa3 : StepAt w Wa3 D d2 v0 v1 u0 u1 L d2 (.agg #[Value.int .i64 d2.sz, Value.slice B0 d2.x0.length e0, Value.slice B1 d2.x1.length e1, Value.int .i64 d2.s0, Value.int .i64 d2.s1, Value.int .i64 (limD d2.ar d2.un), Value.bool d2.dn]) #[Value.int .i64 d2.sz, Value.slice B0 d2.x0.length e0, Value.slice B1 d2.x1.length e1, Value.int .i64 d2.s0, Value.int .i64 d.s1, Value.int .i64 (limD d.ar d.un), Value.bool d.dn] #[Value.int .i64 3, Value.int .i64 f, Value.int .i64 n, ov] #[Value.int .i64 0, Value.slice none 0 0, Value.slice none 0 0, Value.int .i64 0, Value.int .i64 0, Value.int .i64 0, Value.bool false] := by rw [← hWa3]; exact Sa2.set0 3 _
    have ta4 : Wa3.cell? ⟨w.heap.size, 4, none⟩ = some (Value.int .i64 d.s1) := Sa3.b0.cell 4 rfl
    have za4 : Wa3.frozen? ⟨w.heap.size, 4, none⟩ = false := Sa3.b0.free 4
    obtain ⟨Wa4, hWa4⟩ : ∃ Wz, Wa3.setCell ⟨w.heap.size, 4, none⟩ (Value.int .i64 d2.s1) = Wz := ⟨_, rfl⟩
    have Sa4 : StepAt w Wa4 D d2 v0 v1 u0 u1 L d2 (.agg #[Value.int .i64 d2.sz, Value.slice B0 d2.x0.length e0, Value.slice B1 d2.x1.length e1, Value.int .i64 d2.s0, Value.int .i64 d2.s1, Value.int .i64 (limD d2.ar d2.un), Value.bool d2.dn]) #[Value.int .i64 d2.sz, Value.slice B0 d2.x0.length e0, Value.slice B1 d2.x1.length e1, Value.int .i64 d2.s0, Value.int .i64 d2.s1, Value.int .i64 (limD d.ar d.un), Value.bool d.dn] #[Value.int .i64 3, Value.int .i64 f, Value.int .i64 n, ov] #[Value.int .i64 0, Value.slice none 0 0, Value.slice none 0 0, Value.int .i64 0, Value.int .i64 0, Value.int .i64 0, Value.bool false] := by rw [← hWa4]; exact Sa3.set0 4 _
    have ta5 : Wa4.cell? ⟨w.heap.size, 5, none⟩ = some (Value.int .i64 (limD d.ar d.un)) := Sa4.b0.cell 5 rfl
    have za5 : Wa4.frozen? ⟨w.heap.size, 5, none⟩ = false := Sa4.b0.free 5
    obtain ⟨Wa5, hWa5⟩ : ∃ Wz, Wa4.setCell ⟨w.heap.size, 5, none⟩ (Value.int .i64 (limD d2.ar d2.un)) = Wz := ⟨_, rfl⟩
    have Sa5 : StepAt w Wa5 D d2 v0 v1 u0 u1 L d2 (.agg #[Value.int .i64 d2.sz, Value.slice B0 d2.x0.length e0, Value.slice B1 d2.x1.length e1, Value.int .i64 d2.s0, Value.int .i64 d2.s1, Value.int .i64 (limD d2.ar d2.un), Value.bool d2.dn]) #[Value.int .i64 d2.sz, Value.slice B0 d2.x0.length e0, Value.slice B1 d2.x1.length e1, Value.int .i64 d2.s0, Value.int .i64 d2.s1, Value.int .i64 (limD d2.ar d2.un), Value.bool d.dn] #[Value.int .i64 3, Value.int .i64 f, Value.int .i64 n, ov] #[Value.int .i64 0, Value.slice none 0 0, Value.slice none 0 0, Value.int .i64 0, Value.int .i64 0, Value.int .i64 0, Value.bool false] := by rw [← hWa5]; exact Sa4.set0 5 _
    have ta6 : Wa5.cell? ⟨w.heap.size, 6, none⟩ = some (Value.bool d.dn) := Sa5.b0.cell 6 rfl
    have za6 : Wa5.frozen? ⟨w.heap.size, 6, none⟩ = false := Sa5.b0.free 6
    obtain ⟨Wa6, hWa6⟩ : ∃ Wz, Wa5.setCell ⟨w.heap.size, 6, none⟩ (Value.bool d2.dn) = Wz := ⟨_, rfl⟩
    have Sa6 : StepAt w Wa6 D d2 v0 v1 u0 u1 L d2 (.agg #[Value.int .i64 d2.sz, Value.slice B0 d2.x0.length e0, Value.slice B1 d2.x1.length e1, Value.int .i64 d2.s0, Value.int .i64 d2.s1, Value.int .i64 (limD d2.ar d2.un), Value.bool d2.dn]) #[Value.int .i64 d2.sz, Value.slice B0 d2.x0.length e0, Value.slice B1 d2.x1.length e1, Value.int .i64 d2.s0, Value.int .i64 d2.s1, Value.int .i64 (limD d2.ar d2.un), Value.bool d2.dn] #[Value.int .i64 3, Value.int .i64 f, Value.int .i64 n, ov] #[Value.int .i64 0, Value.slice none 0 0, Value.slice none 0 0, Value.int .i64 0, Value.int .i64 0, Value.int .i64 0, Value.bool false] := by rw [← hWa6]; exact Sa5.set0 6 _
    have g0 : Wa6.cell? ⟨w.heap.size, 0, none⟩ = some (Value.int .i64 d2.sz) := Sa6.b0.cell 0 rfl
    have g1 : Wa6.cell? ⟨w.heap.size, 1, none⟩ = some (Value.slice B0 d2.x0.length e0) := Sa6.b0.cell 1 rfl
    have g2 : Wa6.cell? ⟨w.heap.size, 2, none⟩ = some (Value.slice B1 d2.x1.length e1) := Sa6.b0.cell 2 rfl
    have g3 : Wa6.cell? ⟨w.heap.size, 3, none⟩ = some (Value.int .i64 d2.s0) := Sa6.b0.cell 3 rfl
    have g4 : Wa6.cell? ⟨w.heap.size, 4, none⟩ = some (Value.int .i64 d2.s1) := Sa6.b0.cell 4 rfl
    have g5 : Wa6.cell? ⟨w.heap.size, 5, none⟩ = some (Value.int .i64 (limD d2.ar d2.un)) := Sa6.b0.cell 5 rfl
    have g6 : Wa6.cell? ⟨w.heap.size, 6, none⟩ = some (Value.bool d2.dn) := Sa6.b0.cell 6 rfl
    have tb0 : Wa6.cell? ⟨w.heap.size + 1 + 1, 0, none⟩ = some (Value.int .i64 0) := Sa6.b2.cell 0 rfl
    have zb0 : Wa6.frozen? ⟨w.heap.size + 1 + 1, 0, none⟩ = false := Sa6.b2.free 0
    obtain ⟨Wb0, hWb0⟩ : ∃ Wz, Wa6.setCell ⟨w.heap.size + 1 + 1, 0, none⟩ (Value.int .i64 d2.sz) = Wz := ⟨_, rfl⟩
    have Sb0 : StepAt w Wb0 D d2 v0 v1 u0 u1 L d2 (.agg #[Value.int .i64 d2.sz, Value.slice B0 d2.x0.length e0, Value.slice B1 d2.x1.length e1, Value.int .i64 d2.s0, Value.int .i64 d2.s1, Value.int .i64 (limD d2.ar d2.un), Value.bool d2.dn]) #[Value.int .i64 d2.sz, Value.slice B0 d2.x0.length e0, Value.slice B1 d2.x1.length e1, Value.int .i64 d2.s0, Value.int .i64 d2.s1, Value.int .i64 (limD d2.ar d2.un), Value.bool d2.dn] #[Value.int .i64 3, Value.int .i64 f, Value.int .i64 n, ov] #[Value.int .i64 d2.sz, Value.slice none 0 0, Value.slice none 0 0, Value.int .i64 0, Value.int .i64 0, Value.int .i64 0, Value.bool false] := by rw [← hWb0]; exact Sa6.set2 0 _
    have tb1 : Wb0.cell? ⟨w.heap.size + 1 + 1, 1, none⟩ = some (Value.slice none 0 0) := Sb0.b2.cell 1 rfl
    have zb1 : Wb0.frozen? ⟨w.heap.size + 1 + 1, 1, none⟩ = false := Sb0.b2.free 1
    obtain ⟨Wb1, hWb1⟩ : ∃ Wz, Wb0.setCell ⟨w.heap.size + 1 + 1, 1, none⟩ (Value.slice B0 d2.x0.length e0) = Wz := ⟨_, rfl⟩
    have Sb1 : StepAt w Wb1 D d2 v0 v1 u0 u1 L d2 (.agg #[Value.int .i64 d2.sz, Value.slice B0 d2.x0.length e0, Value.slice B1 d2.x1.length e1, Value.int .i64 d2.s0, Value.int .i64 d2.s1, Value.int .i64 (limD d2.ar d2.un), Value.bool d2.dn]) #[Value.int .i64 d2.sz, Value.slice B0 d2.x0.length e0, Value.slice B1 d2.x1.length e1, Value.int .i64 d2.s0, Value.int .i64 d2.s1, Value.int .i64 (limD d2.ar d2.un), Value.bool d2.dn] #[Value.int .i64 3, Value.int .i64 f, Value.int .i64 n, ov] #[Value.int .i64 d2.sz, Value.slice B0 d2.x0.length e0, Value.slice none 0 0, Value.int .i64 0, Value.int .i64 0, Value.int .i64 0, Value.bool false] := by rw [← hWb1]; exact Sb0.set2 1 _
    have tb2 : Wb1.cell? ⟨w.heap.size + 1 + 1, 2, none⟩ = some (Value.slice none 0 0) := Sb1.b2.cell 2 rfl
    have zb2 : Wb1.frozen? ⟨w.heap.size + 1 + 1, 2, none⟩ = false := Sb1.b2.free 2
    obtain ⟨Wb2, hWb2⟩ : ∃ Wz, Wb1.setCell ⟨w.heap.size + 1 + 1, 2, none⟩ (Value.slice B1 d2.x1.length e1) = Wz := ⟨_, rfl⟩
    have Sb2 : StepAt w Wb2 D d2 v0 v1 u0 u1 L d2 (.agg #[Value.int .i64 d2.sz, Value.slice B0 d2.x0.length e0, Value.slice B1 d2.x1.length e1, Value.int .i64 d2.s0, Value.int .i64 d2.s1, Value.int .i64 (limD d2.ar d2.un), Value.bool d2.dn]) #[Value.int .i64 d2.sz, Value.slice B0 d2.x0.length e0, Value.slice B1 d2.x1.length e1, Value.int .i64 d2.s0, Value.int .i64 d2.s1, Value.int .i64 (limD d2.ar d2.un), Value.bool d2.dn] #[Value.int .i64 3, Value.int .i64 f, Value.int .i64 n, ov] #[Value.int .i64 d2.sz, Value.slice B0 d2.x0.length e0, Value.slice B1 d2.x1.length e1, Value.int .i64 0, Value.int .i64 0, Value.int .i64 0, Value.bool false] := by rw [← hWb2]; exact Sb1.set2 2 _
    have tb3 : Wb2.cell? ⟨w.heap.size + 1 + 1, 3, none⟩ = some (Value.int .i64 0) := Sb2.b2.cell 3 rfl
    have zb3 : Wb2.frozen? ⟨w.heap.size + 1 + 1, 3, none⟩ = false := Sb2.b2.free 3
    obtain ⟨Wb3, hWb3⟩ : ∃ Wz, Wb2.setCell ⟨w.heap.size + 1 + 1, 3, none⟩ (Value.int .i64 d2.s0) = Wz := ⟨_, rfl⟩
    have Sb3 : StepAt w Wb3 D d2 v0 v1 u0 u1 L d2 (.agg #[Value.int .i64 d2.sz, Value.slice B0 d2.x0.length e0, Value.slice B1 d2.x1.length e1, Value.int .i64 d2.s0, Value.int .i64 d2.s1, Value.int .i64 (limD d2.ar d2.un), Value.bool d2.dn]) #[Value.int .i64 d2.sz, Value.slice B0 d2.x0.length e0, Value.slice B1 d2.x1.length e1, Value.int .i64 d2.s0, Value.int .i64 d2.s1, Value.int .i64 (limD d2.ar d2.un), Value.bool d2.dn] #[Value.int .i64 3, Value.int .i64 f, Value.int .i64 n, ov] #[Value.int .i64 d2.sz, Value.slice B0 d2.x0.length e0, Value.slice B1 d2.x1.length e1, Value.int .i64 d2.s0, Value.int .i64 0, Value.int .i64 0, Value.bool false] := by rw [← hWb3]; exact Sb2.set2 3 _
    have tb4 : Wb3.cell? ⟨w.heap.size + 1 + 1, 4, none⟩ = some (Value.int .i64 0) := Sb3.b2.cell 4 rfl
    have zb4 : Wb3.frozen? ⟨w.heap.size + 1 + 1, 4, none⟩ = false := Sb3.b2.free 4
    obtain ⟨Wb4, hWb4⟩ : ∃ Wz, Wb3.setCell ⟨w.heap.size + 1 + 1, 4, none⟩ (Value.int .i64 d2.s1) = Wz := ⟨_, rfl⟩
    have Sb4 : StepAt w Wb4 D d2 v0 v1 u0 u1 L d2 (.agg #[Value.int .i64 d2.sz, Value.slice B0 d2.x0.length e0, Value.slice B1 d2.x1.length e1, Value.int .i64 d2.s0, Value.int .i64 d2.s1, Value.int .i64 (limD d2.ar d2.un), Value.bool d2.dn]) #[Value.int .i64 d2.sz, Value.slice B0 d2.x0.length e0, Value.slice B1 d2.x1.length e1, Value.int .i64 d2.s0, Value.int .i64 d2.s1, Value.int .i64 (limD d2.ar d2.un), Value.bool d2.dn] #[Value.int .i64 3, Value.int .i64 f, Value.int .i64 n, ov] #[Value.int .i64 d2.sz, Value.slice B0 d2.x0.length e0, Value.slice B1 d2.x1.length e1, Value.int .i64 d2.s0, Value.int .i64 d2.s1, Value.int .i64 0, Value.bool false] := by rw [← hWb4]; exact Sb3.set2 4 _
    have tb5 : Wb4.cell? ⟨w.heap.size + 1 + 1, 5, none⟩ = some (Value.int .i64 0) := Sb4.b2.cell 5 rfl
    have zb5 : Wb4.frozen? ⟨w.heap.size + 1 + 1, 5, none⟩ = false := Sb4.b2.free 5
    obtain ⟨Wb5, hWb5⟩ : ∃ Wz, Wb4.setCell ⟨w.heap.size + 1 + 1, 5, none⟩ (Value.int .i64 (limD d2.ar d2.un)) = Wz := ⟨_, rfl⟩
    have Sb5 : StepAt w Wb5 D d2 v0 v1 u0 u1 L d2 (.agg #[Value.int .i64 d2.sz, Value.slice B0 d2.x0.length e0, Value.slice B1 d2.x1.length e1, Value.int .i64 d2.s0, Value.int .i64 d2.s1, Value.int .i64 (limD d2.ar d2.un), Value.bool d2.dn]) #[Value.int .i64 d2.sz, Value.slice B0 d2.x0.length e0, Value.slice B1 d2.x1.length e1, Value.int .i64 d2.s0, Value.int .i64 d2.s1, Value.int .i64 (limD d2.ar d2.un), Value.bool d2.dn] #[Value.int .i64 3, Value.int .i64 f, Value.int .i64 n, ov] #[Value.int .i64 d2.sz, Value.slice B0 d2.x0.length e0, Value.slice B1 d2.x1.length e1, Value.int .i64 d2.s0, Value.int .i64 d2.s1, Value.int .i64 (limD d2.ar d2.un), Value.bool false] := by rw [← hWb5]; exact Sb4.set2 5 _
    have tb6 : Wb5.cell? ⟨w.heap.size + 1 + 1, 6, none⟩ = some (Value.bool false) := Sb5.b2.cell 6 rfl
    have zb6 : Wb5.frozen? ⟨w.heap.size + 1 + 1, 6, none⟩ = false := Sb5.b2.free 6
    obtain ⟨Wb6, hWb6⟩ : ∃ Wz, Wb5.setCell ⟨w.heap.size + 1 + 1, 6, none⟩ (Value.bool d2.dn) = Wz := ⟨_, rfl⟩
    have Sb6 : StepAt w Wb6 D d2 v0 v1 u0 u1 L d2 (.agg #[Value.int .i64 d2.sz, Value.slice B0 d2.x0.length e0, Value.slice B1 d2.x1.length e1, Value.int .i64 d2.s0, Value.int .i64 d2.s1, Value.int .i64 (limD d2.ar d2.un), Value.bool d2.dn]) #[Value.int .i64 d2.sz, Value.slice B0 d2.x0.length e0, Value.slice B1 d2.x1.length e1, Value.int .i64 d2.s0, Value.int .i64 d2.s1, Value.int .i64 (limD d2.ar d2.un), Value.bool d2.dn] #[Value.int .i64 3, Value.int .i64 f, Value.int .i64 n, ov] #[Value.int .i64 d2.sz, Value.slice B0 d2.x0.length e0, Value.slice B1 d2.x1.length e1, Value.int .i64 d2.s0, Value.int .i64 d2.s1, Value.int .i64 (limD d2.ar d2.un), Value.bool d2.dn] := by rw [← hWb6]; exact Sb5.set2 6 _
    have HE := Lib.hid Sb6
    clear T Sa0 Sa1 Sa2 Sa3 Sa4 Sa5 Sa6 Sb0 Sb1 Sb2 Sb3 Sb4 Sb5 Sb6
    go_wp2
    try simp only [Exit.inBlock, Exit.then]
    have hE := HE.out
    refine bodyPost_ret (results_cell_row_tmp (p := 6) (u := 7) (ty := 40) rfl _ Wb6 (w.heap.size + 1 + 1) 40 _ (0, 0) _ rfl hE.b2 Try.underlying40 rfl (by kernel_rfl)) rfl ?_
    exact hE.done hd2 rfl
theorem cut_len {s : Int} {n : Nat} {k : Int} (h0 : 0 ≤ s) (h1 : s ≤ n) : 0 ≤ cutS s n k ∧ cutS s n k ≤ n := by unfold cutS; omega
theorem crash_good {d : DV} (hd : d.good) (f n : Int) : (d.crash f n).good := by
  have hd' := hd
  obtain ⟨h1, h2, h3, h4, h5, h6, h7, h8, h9, h10⟩ := hd
  rw [bytesAV_len] at h5 h7 h9
  rw [bytesAV_len] at h5
  have a := cut_len (k := f) h6 h7
  have b := cut_len (k := n) h8 h9
  refine ⟨h1, h2, isBytes_bytesAV _, isBytes_bytesAV _, ?_, a.1, ?_, b.1, ?_, fun h => by cases h⟩
  · show ((bytesAV (d.x0.take (cutS d.s0 d.x0.length f).toNat)).length : Int) + (bytesAV (d.x1.take (cutS d.s1 d.x1.length n).toNat)).length ≤ d.sz
    rw [bytesAV_len, bytesAV_len, List.length_take, List.length_take]
    omega
  · show cutS d.s0 d.x0.length f ≤ ((bytesAV (d.x0.take (cutS d.s0 d.x0.length f).toNat)).length : Int)
    rw [bytesAV_len, List.length_take]; omega
  · show cutS d.s1 d.x1.length n ≤ ((bytesAV (d.x1.take (cutS d.s1 d.x1.length n).toNat)).length : Int)
    rw [bytesAV_len, List.length_take]; omega
theorem crash_ref {w : World} {S : Nat → Nat → Prop} {d : DV} (hd : d.good) {f n : Int} (hf : i64ok f) (hn : i64ok n) {A0 A1 : Option Addr} {c0 c1 : Nat} (h : RepV1 w S (.agg (refA d)) (.agg (refC d A0 A1 c0 c1))) :
    RepV1 w S (.agg (refA (d.crash f n))) (.agg (refV d.sz (.slice A0 (cutS d.s0 d.x0.length f).toNat c0) (.slice A1 (cutS d.s1 d.x1.length n).toNat c1) (cutS d.s0 d.x0.length f) (cutS d.s1 d.x1.length n) (-1) false)) := by
  obtain ⟨B0, B1, e0, e1, he, l0, l1, p0, p1⟩ := ref_open h
  have h0 : A0 = B0 ∧ c0 = e0 ∧ A1 = B1 ∧ c1 = e1 := by
    simp only [refC, refV, Value.agg.injEq, Array.mk.injEq, List.cons.injEq, Value.slice.injEq] at he
    exact ⟨he.2.1.1, he.2.1.2.2, he.2.2.1.1, he.2.2.1.2.2⟩
  obtain ⟨rfl, rfl, rfl, rfl⟩ := h0
  have hg := crash_good hd f n
  obtain ⟨f1, f2, f3, f4, f5, f6⟩ := hd.fine
  have a := cut_len (k := f) f1 f2
  have b := cut_len (k := n) f3 f4
  have q0 : (d.crash f n).x0.length = (cutS d.s0 d.x0.length f).toNat := by
    show (d.x0.take (cutS d.s0 d.x0.length f).toNat).length = _
    rw [List.length_take]; omega
  have q1 : (d.crash f n).x1.length = (cutS d.s1 d.x1.length n).toNat := by
    show (d.x1.take (cutS d.s1 d.x1.length n).toNat).length = _
    rw [List.length_take]; omega
  have hs := hd.1
  have hs' := hd.2.1
  have := ref_close (w := w) (S := S) (d := d.crash f n) (A0 := A0) (A1 := A1) (c0 := c0) (c1 := c1) ⟨⟨by show -9223372036854775808 ≤ d.sz; omega, by show d.sz ≤ _; omega⟩, ⟨by show -9223372036854775808 ≤ cutS d.s0 d.x0.length f; omega, by show cutS d.s0 d.x0.length f ≤ _; omega⟩, ⟨by show -9223372036854775808 ≤ cutS d.s1 d.x1.length n; omega, by show cutS d.s1 d.x1.length n ≤ _; omega⟩, ⟨by show (-9223372036854775808 : Int) ≤ -1; omega, by show (-1 : Int) ≤ 9223372036854775807; omega⟩⟩
    (by rw [q0]; exact bytes_cut (k := (cutS d.s0 d.x0.length f).toNat) p0 (by omega)) (by rw [q1]; exact bytes_cut (k := (cutS d.s1 d.x1.length n).toNat) p1 (by omega))
  simp only [refC] at this
  rw [q0, q1] at this
  exact this
set_option maxHeartbeats 4000000 in
set_option maxRecDepth 100000 in
theorem step5 (d : DV) (hd : d.good) (f n : Int) (hf : i64ok f) (hn : i64ok n) (yb : List UInt8) (hy : yb.length ≤ 140737488355328) (D : Nat) (v0 v1 : Value) (L : List Nat) (w : World) (hL : ∀ x ∈ L, x < w.heap.size) (h : DiskAt w D d v0 v1) (xv : Value) (hx : RepV1 w (Apart D v0 v1 L) (.agg (refA d)) xv) (ov : Value) (ho : RepP w (Apart D v0 v1 L) (.sl (bytesAV yb) .no) ov) :
    Calls Try.prog 14 #[.pointer (some ⟨D, 0, none⟩), xv, .agg #[.int .i64 5, .int .i64 f, .int .i64 n, ov]] w fun e w' => StepEnd w D v0 v1 L e w' := by
    have mixed : Try.prog.follows .mixedOrders = true := by kernel_rfl
    obtain ⟨A0, A1, c0, c1, rfl, l0, l1, p0, p1⟩ := ref_open hx
    simp only [refC, refV] at hx ⊢
    obtain ⟨W, hW, B0, B1, B2, hb, hsz⟩ := box3 w 40 37 40 #[Value.int .i64 d.sz, Value.slice A0 d.x0.length c0, Value.slice A1 d.x1.length c1, Value.int .i64 d.s0, Value.int .i64 d.s1, Value.int .i64 (limD d.ar d.un), Value.bool d.dn] #[Value.int .i64 5, Value.int .i64 f, Value.int .i64 n, ov] #[Value.int .i64 0, Value.slice none 0 0, Value.slice none 0 0, Value.int .i64 0, Value.int .i64 0, Value.int .i64 0, Value.bool false]
    have S := StepAt.start (L := L) h hx hb B0 B1 B2
    have hoW : RepP W (Apart D v0 v1 (w.heap.size :: (w.heap.size + 1) :: (w.heap.size + 1 + 1) :: L)) (.sl (bytesAV yb) .no) ov := ho.mono fun b o u hbo hu => by
      have hlt := cell_lt hu
      refine ⟨⟨hbo.1, hbo.2.1, hbo.2.2.1, ?_⟩, (cell_same (hb.block b hlt)).trans hu⟩
      intro hm
      simp only [List.mem_cons] at hm
      rcases hm with e | e | e | e
      · omega
      · omega
      · omega
      · exact hbo.2.2.2 e
    have HWh := Lib.hid hW
    clear hW
    have HS := Lib.hid S
    have HO := Lib.hid hoW
    have HB := Lib.hid hb
    clear S hoW hx ho h B0 B1 B2 hb hsz p0 p1
    go_enter Try.func14, Try.ntmps14
    have hcl := Lib.hid (crash_any d hd.fine f n hf hn D v0 v1 W HS.out.at')
    go_wp2_with fail
    rw [← HWh.out]
    refine hcl.out.mono ?_
    rintro e w4 ⟨rfl, u0, u1, h4, ht4⟩
    have S4 := HS.out.disk h4 ht4
    have hd2 := crash_good hd f n
    have r0 : w4.cell? ⟨w.heap.size + 1, 0, none⟩ = some (Value.int .i64 5) := S4.b1.cell 0 rfl
    have r1 : w4.cell? ⟨w.heap.size + 1, 1, none⟩ = some (Value.int .i64 f) := S4.b1.cell 1 rfl
    have r2 : w4.cell? ⟨w.heap.size + 1, 2, none⟩ = some (Value.int .i64 n) := S4.b1.cell 2 rfl
    have r3 : w4.cell? ⟨w.heap.size + 1, 3, none⟩ = some (ov) := S4.b1.cell 3 rfl
    have s0 : w4.cell? ⟨w.heap.size, 0, none⟩ = some (Value.int .i64 d.sz) := S4.b0.cell 0 rfl
    have s1 : w4.cell? ⟨w.heap.size, 1, none⟩ = some (Value.slice A0 d.x0.length c0) := S4.b0.cell 1 rfl
    have s2 : w4.cell? ⟨w.heap.size, 2, none⟩ = some (Value.slice A1 d.x1.length c1) := S4.b0.cell 2 rfl
    have s3 : w4.cell? ⟨w.heap.size, 3, none⟩ = some (Value.int .i64 d.s0) := S4.b0.cell 3 rfl
    have s4 : w4.cell? ⟨w.heap.size, 4, none⟩ = some (Value.int .i64 d.s1) := S4.b0.cell 4 rfl
    have s5 : w4.cell? ⟨w.heap.size, 5, none⟩ = some (Value.int .i64 (limD d.ar d.un)) := S4.b0.cell 5 rfl
    have s6 : w4.cell? ⟨w.heap.size, 6, none⟩ = some (Value.bool d.dn) := S4.b0.cell 6 rfl
    obtain ⟨f1, f2, f3, f4, f5, f6⟩ := hd.fine
    have hcr := rcrash_any d.sz d.s0 d.s1 (limD d.ar d.un) d.dn A0 A1 d.x0.length c0 d.x1.length c1 f n w4 f1 f2 f3 f4 l0 l1 f5 f6
    have hrc : RepV1 w4 (fun b o => ¬ StepBad w w4 D u0 u1 L b o) (.agg (refA (d.crash f n))) (.agg (refV d.sz (.slice A0 (cutS d.s0 d.x0.length f).toNat c0) (.slice A1 (cutS d.s1 d.x1.length n).toNat c1) (cutS d.s0 d.x0.length f) (cutS d.s1 d.x1.length n) (-1) false)) := crash_ref hd hf hn (S4.good_rep S4.ref)
    have HC := Lib.hid hcr
    have HR := Lib.hid hrc
    have HS4 := Lib.hid S4
    generalize hd2e : d.crash f n = d2 at *
    clear S4 hcr hrc h4 ht4 hcl HWh HS HO f1 f2 f3 f4 f5 f6
    go_wp2_with fail
    refine HC.out.mono ?_
    rintro e w5 ⟨hb5, rfl⟩
    have hv5 : RepV1 w5 (fun b o => ¬ StepBad w w4 D u0 u1 L b o) (.agg (refA d2)) _ := HR.out.mono fun b o u hb hu => ⟨hb, (cell_same (hb5.block b (cell_lt hu))).trans hu⟩
    have T := HS4.out.call (fun x hx => Nat.lt_of_lt_of_le (hL x hx) HS4.out.touch.size) hb5 hv5
    obtain ⟨B0, B1, e0, e1, he, l2, l3, _, _⟩ := ref_open hv5
    rw [he] at T ⊢
    simp only [refC, refV] at T ⊢
    clear hb5 hv5 HC HR HS4 r0 r1 r2 r3 s0 s1 s2 s3 s4 s5 s6 he
    have ta0 : w5.cell? ⟨w.heap.size, 0, none⟩ = some (Value.int .i64 d.sz) := T.b0.cell 0 rfl
    have za0 : w5.frozen? ⟨w.heap.size, 0, none⟩ = false := T.b0.free 0
    obtain ⟨Wa0, hWa0⟩ : ∃ Wz, w5.setCell ⟨w.heap.size, 0, none⟩ (Value.int .i64 d2.sz) = Wz := ⟨_, rfl⟩
    have Sa0 : StepAt w Wa0 D d2 v0 v1 u0 u1 L d2 (.agg #[Value.int .i64 d2.sz, Value.slice B0 d2.x0.length e0, Value.slice B1 d2.x1.length e1, Value.int .i64 d2.s0, Value.int .i64 d2.s1, Value.int .i64 (limD d2.ar d2.un), Value.bool d2.dn]) #[Value.int .i64 d2.sz, Value.slice A0 d.x0.length c0, Value.slice A1 d.x1.length c1, Value.int .i64 d.s0, Value.int .i64 d.s1, Value.int .i64 (limD d.ar d.un), Value.bool d.dn] #[Value.int .i64 5, Value.int .i64 f, Value.int .i64 n, ov] #[Value.int .i64 0, Value.slice none 0 0, Value.slice none 0 0, Value.int .i64 0, Value.int .i64 0, Value.int .i64 0, Value.bool false] := by rw [← hWa0]; exact T.set0 0 _
    have ta1 : Wa0.cell? ⟨w.heap.size, 1, none⟩ = some (Value.slice A0 d.x0.length c0) := Sa0.b0.cell 1 rfl
    have za1 : Wa0.frozen? ⟨w.heap.size, 1, none⟩ = false := Sa0.b0.free 1
    obtain ⟨Wa1, hWa1⟩ : ∃ Wz, Wa0.setCell ⟨w.heap.size, 1, none⟩ (Value.slice B0 d2.x0.length e0) = Wz := ⟨_, rfl⟩
    have Sa1 : StepAt w Wa1 D d2 v0 v1 u0 u1 L d2 (.agg #[Value.int .i64 d2.sz, Value.slice B0 d2.x0.length e0, Value.slice B1 d2.x1.length e1, Value.int .i64 d2.s0, Value.int .i64 d2.s1, Value.int .i64 (limD d2.ar d2.un), Value.bool d2.dn]) #[Value.int .i64 d2.sz, Value.slice B0 d2.x0.length e0, Value.slice A1 d.x1.length c1, Value.int .i64 d.s0, Value.int .i64 d.s1, Value.int .i64 (limD d.ar d.un), Value.bool d.dn] #[Value.int .i64 5, Value.int .i64 f, Value.int .i64 n, ov] #[Value.int .i64 0, Value.slice none 0 0, Value.slice none 0 0, Value.int .i64 0, Value.int .i64 0, Value.int .i64 0, Value.bool false] := by rw [← hWa1]; exact Sa0.set0 1 _
    have ta2 : Wa1.cell? ⟨w.heap.size, 2, none⟩ = some (Value.slice A1 d.x1.length c1) := Sa1.b0.cell 2 rfl
    have za2 : Wa1.frozen? ⟨w.heap.size, 2, none⟩ = false := Sa1.b0.free 2
    obtain ⟨Wa2, hWa2⟩ : ∃ Wz, Wa1.setCell ⟨w.heap.size, 2, none⟩ (Value.slice B1 d2.x1.length e1) = Wz := ⟨_, rfl⟩
    have Sa2 : StepAt w Wa2 D d2 v0 v1 u0 u1 L d2 (.agg #[Value.int .i64 d2.sz, Value.slice B0 d2.x0.length e0, Value.slice B1 d2.x1.length e1, Value.int .i64 d2.s0, Value.int .i64 d2.s1, Value.int .i64 (limD d2.ar d2.un), Value.bool d2.dn]) #[Value.int .i64 d2.sz, Value.slice B0 d2.x0.length e0, Value.slice B1 d2.x1.length e1, Value.int .i64 d.s0, Value.int .i64 d.s1, Value.int .i64 (limD d.ar d.un), Value.bool d.dn] #[Value.int .i64 5, Value.int .i64 f, Value.int .i64 n, ov] #[Value.int .i64 0, Value.slice none 0 0, Value.slice none 0 0, Value.int .i64 0, Value.int .i64 0, Value.int .i64 0, Value.bool false] := by rw [← hWa2]; exact Sa1.set0 2 _
    have ta3 : Wa2.cell? ⟨w.heap.size, 3, none⟩ = some (Value.int .i64 d.s0) := Sa2.b0.cell 3 rfl
    have za3 : Wa2.frozen? ⟨w.heap.size, 3, none⟩ = false := Sa2.b0.free 3
    obtain ⟨Wa3, hWa3⟩ : ∃ Wz, Wa2.setCell ⟨w.heap.size, 3, none⟩ (Value.int .i64 d2.s0) = Wz := ⟨_, rfl⟩
    have Sa3 : StepAt w Wa3 D d2 v0 v1 u0 u1 L d2 (.agg #[Value.int .i64 d2.sz, Value.slice B0 d2.x0.length e0, Value.slice B1 d2.x1.length e1, Value.int .i64 d2.s0, Value.int .i64 d2.s1, Value.int .i64 (limD d2.ar d2.un), Value.bool d2.dn]) #[Value.int .i64 d2.sz, Value.slice B0 d2.x0.length e0, Value.slice B1 d2.x1.length e1, Value.int .i64 d2.s0, Value.int .i64 d.s1, Value.int .i64 (limD d.ar d.un), Value.bool d.dn] #[Value.int .i64 5, Value.int .i64 f, Value.int .i64 n, ov] #[Value.int .i64 0, Value.slice none 0 0, Value.slice none 0 0, Value.int .i64 0, Value.int .i64 0, Value.int .i64 0, Value.bool false] := by rw [← hWa3]; exact Sa2.set0 3 _
    have ta4 : Wa3.cell? ⟨w.heap.size, 4, none⟩ = some (Value.int .i64 d.s1) := Sa3.b0.cell 4 rfl
    have za4 : Wa3.frozen? ⟨w.heap.size, 4, none⟩ = false := Sa3.b0.free 4
    obtain ⟨Wa4, hWa4⟩ : ∃ Wz, Wa3.setCell ⟨w.heap.size, 4, none⟩ (Value.int .i64 d2.s1) = Wz := ⟨_, rfl⟩
    have Sa4 : StepAt w Wa4 D d2 v0 v1 u0 u1 L d2 (.agg #[Value.int .i64 d2.sz, Value.slice B0 d2.x0.length e0, Value.slice B1 d2.x1.length e1, Value.int .i64 d2.s0, Value.int .i64 d2.s1, Value.int .i64 (limD d2.ar d2.un), Value.bool d2.dn]) #[Value.int .i64 d2.sz, Value.slice B0 d2.x0.length e0, Value.slice B1 d2.x1.length e1, Value.int .i64 d2.s0, Value.int .i64 d2.s1, Value.int .i64 (limD d.ar d.un), Value.bool d.dn] #[Value.int .i64 5, Value.int .i64 f, Value.int .i64 n, ov] #[Value.int .i64 0, Value.slice none 0 0, Value.slice none 0 0, Value.int .i64 0, Value.int .i64 0, Value.int .i64 0, Value.bool false] := by rw [← hWa4]; exact Sa3.set0 4 _
    have ta5 : Wa4.cell? ⟨w.heap.size, 5, none⟩ = some (Value.int .i64 (limD d.ar d.un)) := Sa4.b0.cell 5 rfl
    have za5 : Wa4.frozen? ⟨w.heap.size, 5, none⟩ = false := Sa4.b0.free 5
    obtain ⟨Wa5, hWa5⟩ : ∃ Wz, Wa4.setCell ⟨w.heap.size, 5, none⟩ (Value.int .i64 (limD d2.ar d2.un)) = Wz := ⟨_, rfl⟩
    have Sa5 : StepAt w Wa5 D d2 v0 v1 u0 u1 L d2 (.agg #[Value.int .i64 d2.sz, Value.slice B0 d2.x0.length e0, Value.slice B1 d2.x1.length e1, Value.int .i64 d2.s0, Value.int .i64 d2.s1, Value.int .i64 (limD d2.ar d2.un), Value.bool d2.dn]) #[Value.int .i64 d2.sz, Value.slice B0 d2.x0.length e0, Value.slice B1 d2.x1.length e1, Value.int .i64 d2.s0, Value.int .i64 d2.s1, Value.int .i64 (limD d2.ar d2.un), Value.bool d.dn] #[Value.int .i64 5, Value.int .i64 f, Value.int .i64 n, ov] #[Value.int .i64 0, Value.slice none 0 0, Value.slice none 0 0, Value.int .i64 0, Value.int .i64 0, Value.int .i64 0, Value.bool false] := by rw [← hWa5]; exact Sa4.set0 5 _
    have ta6 : Wa5.cell? ⟨w.heap.size, 6, none⟩ = some (Value.bool d.dn) := Sa5.b0.cell 6 rfl
    have za6 : Wa5.frozen? ⟨w.heap.size, 6, none⟩ = false := Sa5.b0.free 6
    obtain ⟨Wa6, hWa6⟩ : ∃ Wz, Wa5.setCell ⟨w.heap.size, 6, none⟩ (Value.bool d2.dn) = Wz := ⟨_, rfl⟩
    have Sa6 : StepAt w Wa6 D d2 v0 v1 u0 u1 L d2 (.agg #[Value.int .i64 d2.sz, Value.slice B0 d2.x0.length e0, Value.slice B1 d2.x1.length e1, Value.int .i64 d2.s0, Value.int .i64 d2.s1, Value.int .i64 (limD d2.ar d2.un), Value.bool d2.dn]) #[Value.int .i64 d2.sz, Value.slice B0 d2.x0.length e0, Value.slice B1 d2.x1.length e1, Value.int .i64 d2.s0, Value.int .i64 d2.s1, Value.int .i64 (limD d2.ar d2.un), Value.bool d2.dn] #[Value.int .i64 5, Value.int .i64 f, Value.int .i64 n, ov] #[Value.int .i64 0, Value.slice none 0 0, Value.slice none 0 0, Value.int .i64 0, Value.int .i64 0, Value.int .i64 0, Value.bool false] := by rw [← hWa6]; exact Sa5.set0 6 _
    have g0 : Wa6.cell? ⟨w.heap.size, 0, none⟩ = some (Value.int .i64 d2.sz) := Sa6.b0.cell 0 rfl
    have g1 : Wa6.cell? ⟨w.heap.size, 1, none⟩ = some (Value.slice B0 d2.x0.length e0) := Sa6.b0.cell 1 rfl
    have g2 : Wa6.cell? ⟨w.heap.size, 2, none⟩ = some (Value.slice B1 d2.x1.length e1) := Sa6.b0.cell 2 rfl
    have g3 : Wa6.cell? ⟨w.heap.size, 3, none⟩ = some (Value.int .i64 d2.s0) := Sa6.b0.cell 3 rfl
    have g4 : Wa6.cell? ⟨w.heap.size, 4, none⟩ = some (Value.int .i64 d2.s1) := Sa6.b0.cell 4 rfl
    have g5 : Wa6.cell? ⟨w.heap.size, 5, none⟩ = some (Value.int .i64 (limD d2.ar d2.un)) := Sa6.b0.cell 5 rfl
    have g6 : Wa6.cell? ⟨w.heap.size, 6, none⟩ = some (Value.bool d2.dn) := Sa6.b0.cell 6 rfl
    have tb0 : Wa6.cell? ⟨w.heap.size + 1 + 1, 0, none⟩ = some (Value.int .i64 0) := Sa6.b2.cell 0 rfl
    have zb0 : Wa6.frozen? ⟨w.heap.size + 1 + 1, 0, none⟩ = false := Sa6.b2.free 0
    obtain ⟨Wb0, hWb0⟩ : ∃ Wz, Wa6.setCell ⟨w.heap.size + 1 + 1, 0, none⟩ (Value.int .i64 d2.sz) = Wz := ⟨_, rfl⟩
    have Sb0 : StepAt w Wb0 D d2 v0 v1 u0 u1 L d2 (.agg #[Value.int .i64 d2.sz, Value.slice B0 d2.x0.length e0, Value.slice B1 d2.x1.length e1, Value.int .i64 d2.s0, Value.int .i64 d2.s1, Value.int .i64 (limD d2.ar d2.un), Value.bool d2.dn]) #[Value.int .i64 d2.sz, Value.slice B0 d2.x0.length e0, Value.slice B1 d2.x1.length e1, Value.int .i64 d2.s0, Value.int .i64 d2.s1, Value.int .i64 (limD d2.ar d2.un), Value.bool d2.dn] #[Value.int .i64 5, Value.int .i64 f, Value.int .i64 n, ov] #[Value.int .i64 d2.sz, Value.slice none 0 0, Value.slice none 0 0, Value.int .i64 0, Value.int .i64 0, Value.int .i64 0, Value.bool false] := by rw [← hWb0]; exact Sa6.set2 0 _
    have tb1 : Wb0.cell? ⟨w.heap.size + 1 + 1, 1, none⟩ = some (Value.slice none 0 0) := Sb0.b2.cell 1 rfl
    have zb1 : Wb0.frozen? ⟨w.heap.size + 1 + 1, 1, none⟩ = false := Sb0.b2.free 1
    obtain ⟨Wb1, hWb1⟩ : ∃ Wz, Wb0.setCell ⟨w.heap.size + 1 + 1, 1, none⟩ (Value.slice B0 d2.x0.length e0) = Wz := ⟨_, rfl⟩
    have Sb1 : StepAt w Wb1 D d2 v0 v1 u0 u1 L d2 (.agg #[Value.int .i64 d2.sz, Value.slice B0 d2.x0.length e0, Value.slice B1 d2.x1.length e1, Value.int .i64 d2.s0, Value.int .i64 d2.s1, Value.int .i64 (limD d2.ar d2.un), Value.bool d2.dn]) #[Value.int .i64 d2.sz, Value.slice B0 d2.x0.length e0, Value.slice B1 d2.x1.length e1, Value.int .i64 d2.s0, Value.int .i64 d2.s1, Value.int .i64 (limD d2.ar d2.un), Value.bool d2.dn] #[Value.int .i64 5, Value.int .i64 f, Value.int .i64 n, ov] #[Value.int .i64 d2.sz, Value.slice B0 d2.x0.length e0, Value.slice none 0 0, Value.int .i64 0, Value.int .i64 0, Value.int .i64 0, Value.bool false] := by rw [← hWb1]; exact Sb0.set2 1 _
    have tb2 : Wb1.cell? ⟨w.heap.size + 1 + 1, 2, none⟩ = some (Value.slice none 0 0) := Sb1.b2.cell 2 rfl
    have zb2 : Wb1.frozen? ⟨w.heap.size + 1 + 1, 2, none⟩ = false := Sb1.b2.free 2
    obtain ⟨Wb2, hWb2⟩ : ∃ Wz, Wb1.setCell ⟨w.heap.size + 1 + 1, 2, none⟩ (Value.slice B1 d2.x1.length e1) = Wz := ⟨_, rfl⟩
    have Sb2 : StepAt w Wb2 D d2 v0 v1 u0 u1 L d2 (.agg #[Value.int .i64 d2.sz, Value.slice B0 d2.x0.length e0, Value.slice B1 d2.x1.length e1, Value.int .i64 d2.s0, Value.int .i64 d2.s1, Value.int .i64 (limD d2.ar d2.un), Value.bool d2.dn]) #[Value.int .i64 d2.sz, Value.slice B0 d2.x0.length e0, Value.slice B1 d2.x1.length e1, Value.int .i64 d2.s0, Value.int .i64 d2.s1, Value.int .i64 (limD d2.ar d2.un), Value.bool d2.dn] #[Value.int .i64 5, Value.int .i64 f, Value.int .i64 n, ov] #[Value.int .i64 d2.sz, Value.slice B0 d2.x0.length e0, Value.slice B1 d2.x1.length e1, Value.int .i64 0, Value.int .i64 0, Value.int .i64 0, Value.bool false] := by rw [← hWb2]; exact Sb1.set2 2 _
    have tb3 : Wb2.cell? ⟨w.heap.size + 1 + 1, 3, none⟩ = some (Value.int .i64 0) := Sb2.b2.cell 3 rfl
    have zb3 : Wb2.frozen? ⟨w.heap.size + 1 + 1, 3, none⟩ = false := Sb2.b2.free 3
    obtain ⟨Wb3, hWb3⟩ : ∃ Wz, Wb2.setCell ⟨w.heap.size + 1 + 1, 3, none⟩ (Value.int .i64 d2.s0) = Wz := ⟨_, rfl⟩
    have Sb3 : StepAt w Wb3 D d2 v0 v1 u0 u1 L d2 (.agg #[Value.int .i64 d2.sz, Value.slice B0 d2.x0.length e0, Value.slice B1 d2.x1.length e1, Value.int .i64 d2.s0, Value.int .i64 d2.s1, Value.int .i64 (limD d2.ar d2.un), Value.bool d2.dn]) #[Value.int .i64 d2.sz, Value.slice B0 d2.x0.length e0, Value.slice B1 d2.x1.length e1, Value.int .i64 d2.s0, Value.int .i64 d2.s1, Value.int .i64 (limD d2.ar d2.un), Value.bool d2.dn] #[Value.int .i64 5, Value.int .i64 f, Value.int .i64 n, ov] #[Value.int .i64 d2.sz, Value.slice B0 d2.x0.length e0, Value.slice B1 d2.x1.length e1, Value.int .i64 d2.s0, Value.int .i64 0, Value.int .i64 0, Value.bool false] := by rw [← hWb3]; exact Sb2.set2 3 _
    have tb4 : Wb3.cell? ⟨w.heap.size + 1 + 1, 4, none⟩ = some (Value.int .i64 0) := Sb3.b2.cell 4 rfl
    have zb4 : Wb3.frozen? ⟨w.heap.size + 1 + 1, 4, none⟩ = false := Sb3.b2.free 4
    obtain ⟨Wb4, hWb4⟩ : ∃ Wz, Wb3.setCell ⟨w.heap.size + 1 + 1, 4, none⟩ (Value.int .i64 d2.s1) = Wz := ⟨_, rfl⟩
    have Sb4 : StepAt w Wb4 D d2 v0 v1 u0 u1 L d2 (.agg #[Value.int .i64 d2.sz, Value.slice B0 d2.x0.length e0, Value.slice B1 d2.x1.length e1, Value.int .i64 d2.s0, Value.int .i64 d2.s1, Value.int .i64 (limD d2.ar d2.un), Value.bool d2.dn]) #[Value.int .i64 d2.sz, Value.slice B0 d2.x0.length e0, Value.slice B1 d2.x1.length e1, Value.int .i64 d2.s0, Value.int .i64 d2.s1, Value.int .i64 (limD d2.ar d2.un), Value.bool d2.dn] #[Value.int .i64 5, Value.int .i64 f, Value.int .i64 n, ov] #[Value.int .i64 d2.sz, Value.slice B0 d2.x0.length e0, Value.slice B1 d2.x1.length e1, Value.int .i64 d2.s0, Value.int .i64 d2.s1, Value.int .i64 0, Value.bool false] := by rw [← hWb4]; exact Sb3.set2 4 _
    have tb5 : Wb4.cell? ⟨w.heap.size + 1 + 1, 5, none⟩ = some (Value.int .i64 0) := Sb4.b2.cell 5 rfl
    have zb5 : Wb4.frozen? ⟨w.heap.size + 1 + 1, 5, none⟩ = false := Sb4.b2.free 5
    obtain ⟨Wb5, hWb5⟩ : ∃ Wz, Wb4.setCell ⟨w.heap.size + 1 + 1, 5, none⟩ (Value.int .i64 (limD d2.ar d2.un)) = Wz := ⟨_, rfl⟩
    have Sb5 : StepAt w Wb5 D d2 v0 v1 u0 u1 L d2 (.agg #[Value.int .i64 d2.sz, Value.slice B0 d2.x0.length e0, Value.slice B1 d2.x1.length e1, Value.int .i64 d2.s0, Value.int .i64 d2.s1, Value.int .i64 (limD d2.ar d2.un), Value.bool d2.dn]) #[Value.int .i64 d2.sz, Value.slice B0 d2.x0.length e0, Value.slice B1 d2.x1.length e1, Value.int .i64 d2.s0, Value.int .i64 d2.s1, Value.int .i64 (limD d2.ar d2.un), Value.bool d2.dn] #[Value.int .i64 5, Value.int .i64 f, Value.int .i64 n, ov] #[Value.int .i64 d2.sz, Value.slice B0 d2.x0.length e0, Value.slice B1 d2.x1.length e1, Value.int .i64 d2.s0, Value.int .i64 d2.s1, Value.int .i64 (limD d2.ar d2.un), Value.bool false] := by rw [← hWb5]; exact Sb4.set2 5 _
    have tb6 : Wb5.cell? ⟨w.heap.size + 1 + 1, 6, none⟩ = some (Value.bool false) := Sb5.b2.cell 6 rfl
    have zb6 : Wb5.frozen? ⟨w.heap.size + 1 + 1, 6, none⟩ = false := Sb5.b2.free 6
    obtain ⟨Wb6, hWb6⟩ : ∃ Wz, Wb5.setCell ⟨w.heap.size + 1 + 1, 6, none⟩ (Value.bool d2.dn) = Wz := ⟨_, rfl⟩
    have Sb6 : StepAt w Wb6 D d2 v0 v1 u0 u1 L d2 (.agg #[Value.int .i64 d2.sz, Value.slice B0 d2.x0.length e0, Value.slice B1 d2.x1.length e1, Value.int .i64 d2.s0, Value.int .i64 d2.s1, Value.int .i64 (limD d2.ar d2.un), Value.bool d2.dn]) #[Value.int .i64 d2.sz, Value.slice B0 d2.x0.length e0, Value.slice B1 d2.x1.length e1, Value.int .i64 d2.s0, Value.int .i64 d2.s1, Value.int .i64 (limD d2.ar d2.un), Value.bool d2.dn] #[Value.int .i64 5, Value.int .i64 f, Value.int .i64 n, ov] #[Value.int .i64 d2.sz, Value.slice B0 d2.x0.length e0, Value.slice B1 d2.x1.length e1, Value.int .i64 d2.s0, Value.int .i64 d2.s1, Value.int .i64 (limD d2.ar d2.un), Value.bool d2.dn] := by rw [← hWb6]; exact Sb5.set2 6 _
    have HE := Lib.hid Sb6
    clear T Sa0 Sa1 Sa2 Sa3 Sa4 Sa5 Sa6 Sb0 Sb1 Sb2 Sb3 Sb4 Sb5 Sb6
    go_wp2
    try simp only [Exit.inBlock, Exit.then]
    have hE := HE.out
    refine bodyPost_ret (results_cell_row_tmp (p := 6) (u := 7) (ty := 40) rfl _ Wb6 (w.heap.size + 1 + 1) 40 _ (0, 0) _ rfl hE.b2 Try.underlying40 rfl (by kernel_rfl)) rfl ?_
    exact hE.done hd2 rfl
theorem bytes_back (l : List UInt8) : bytesL (bytesAV l) = l := bytesL_bytesAV l
theorem after4 (d : DV) (f n : Int) (ys : List AV) : d.after 4 f n ys = { d with ar := true, un := armU n } := by
  simp [DV.after, pX, pS, pA, pU, pD, bytes_back]
theorem after_no (d : DV) (k f n : Int) (ys : List AV) (h1 : k ≠ 1) (h2 : k ≠ 2) (h3 : k ≠ 3) (h4 : k ≠ 4) : d.after k f n ys = d := by
  simp [DV.after, pX, pS, pA, pU, pD, bytes_back, h1, h2, h3, h4]
theorem StepAt.swap {w W : World} {D : Nat} {d dx dy : DV} {v0 v1 v0' v1' : Value} {L : List Nat} {xv yv : Value} {cs0 cs1 cs2 : Array Value} (h : StepAt w W D d v0 v1 v0' v1' L dx xv cs0 cs1 cs2) (hy : ∀ S, RepV1 W S (.agg (refA dx)) xv → RepV1 W S (.agg (refA dy)) yv) : StepAt w W D d v0 v1 v0' v1' L dy yv cs0 cs1 cs2 :=
  ⟨h.at', h.touch, hy _ h.ref, h.b0, h.b1, h.b2, h.n0, h.n1, h.n2⟩
theorem arm_ref {w : World} {S : Nat → Nat → Prop} {d : DV} (hd : d.good) {n : Int} (hn : i64ok n) {A0 A1 : Option Addr} {c0 c1 : Nat} (h : RepV1 w S (.agg (refA d)) (.agg (refC d A0 A1 c0 c1))) :
    RepV1 w S (.agg (refA (d.after 4 0 n []))) (.agg (refV d.sz (.slice A0 d.x0.length c0) (.slice A1 d.x1.length c1) d.s0 d.s1 (armU n) d.dn)) := by
  obtain ⟨B0, B1, e0, e1, he, l0, l1, p0, p1⟩ := ref_open h
  have h0 : A0 = B0 ∧ c0 = e0 ∧ A1 = B1 ∧ c1 = e1 := by
    simp only [refC, refV, Value.agg.injEq, Array.mk.injEq, List.cons.injEq, Value.slice.injEq] at he
    exact ⟨he.2.1.1, he.2.1.2.2, he.2.2.1.1, he.2.2.1.2.2⟩
  obtain ⟨rfl, rfl, rfl, rfl⟩ := h0
  obtain ⟨f1, f2, f3, f4, f5, f6⟩ := hd.fine
  have hs := hd.1
  have hs' := hd.2.1
  rw [after4]
  exact ref_close (w := w) (S := S) (d := { d with ar := true, un := armU n }) (A0 := A0) (A1 := A1) (c0 := c0) (c1 := c1) ⟨⟨by show -9223372036854775808 ≤ d.sz; omega, by show d.sz ≤ _; omega⟩, ⟨by show -9223372036854775808 ≤ d.s0; omega, by show d.s0 ≤ _; omega⟩, ⟨by show -9223372036854775808 ≤ d.s1; omega, by show d.s1 ≤ _; omega⟩, ⟨by show -9223372036854775808 ≤ armU n; unfold armU; split <;> omega, by show armU n ≤ 9223372036854775807; have := hn.2; unfold armU; split <;> omega⟩⟩ p0 p1
set_option maxHeartbeats 4000000 in
set_option maxRecDepth 100000 in
theorem step4 (d : DV) (hd : d.good) (f n : Int) (hf : i64ok f) (hn : i64ok n) (yb : List UInt8) (hy : yb.length ≤ 140737488355328) (D : Nat) (v0 v1 : Value) (L : List Nat) (w : World) (hL : ∀ x ∈ L, x < w.heap.size) (h : DiskAt w D d v0 v1) (xv : Value) (hx : RepV1 w (Apart D v0 v1 L) (.agg (refA d)) xv) (ov : Value) (ho : RepP w (Apart D v0 v1 L) (.sl (bytesAV yb) .no) ov) :
    Calls Try.prog 14 #[.pointer (some ⟨D, 0, none⟩), xv, .agg #[.int .i64 4, .int .i64 f, .int .i64 n, ov]] w fun e w' => StepEnd w D v0 v1 L e w' := by
    have mixed : Try.prog.follows .mixedOrders = true := by kernel_rfl
    obtain ⟨A0, A1, c0, c1, rfl, l0, l1, p0, p1⟩ := ref_open hx
    simp only [refC, refV] at hx ⊢
    obtain ⟨W, hW, B0, B1, B2, hb, hsz⟩ := box3 w 40 37 40 #[Value.int .i64 d.sz, Value.slice A0 d.x0.length c0, Value.slice A1 d.x1.length c1, Value.int .i64 d.s0, Value.int .i64 d.s1, Value.int .i64 (limD d.ar d.un), Value.bool d.dn] #[Value.int .i64 4, Value.int .i64 f, Value.int .i64 n, ov] #[Value.int .i64 0, Value.slice none 0 0, Value.slice none 0 0, Value.int .i64 0, Value.int .i64 0, Value.int .i64 0, Value.bool false]
    have S := StepAt.start (L := L) h hx hb B0 B1 B2
    have hoW : RepP W (Apart D v0 v1 (w.heap.size :: (w.heap.size + 1) :: (w.heap.size + 1 + 1) :: L)) (.sl (bytesAV yb) .no) ov := ho.mono fun b o u hbo hu => by
      have hlt := cell_lt hu
      refine ⟨⟨hbo.1, hbo.2.1, hbo.2.2.1, ?_⟩, (cell_same (hb.block b hlt)).trans hu⟩
      intro hm
      simp only [List.mem_cons] at hm
      rcases hm with e | e | e | e
      · omega
      · omega
      · omega
      · exact hbo.2.2.2 e
    have HWh := Lib.hid hW
    clear hW
    have HS := Lib.hid S
    have HO := Lib.hid hoW
    have HB := Lib.hid hb
    clear S hoW hx ho h B0 B1 B2 hb hsz p0 p1
    go_enter Try.func14, Try.ntmps14
    have hcl := Lib.hid (arm_any d hd n hn D v0 v1 [] W HS.out.at')
    go_wp2_with fail
    rw [← HWh.out]
    refine hcl.out.mono ?_
    rintro e w4 ⟨u0, u1, rfl, h4, ht4⟩
    have S4 := HS.out.disk h4 ht4
    have hd2 := after_good hd (k := 4) (f := 0) (n := n) (ys := []) isBytes_nil hn.2
    have hmx : max n 0 = armU n := by unfold armU; split <;> omega
    have T0 := (S4.set0 5 (.int .i64 (armU n))).swap (dy := d.after 4 0 n []) (yv := .agg #[Value.int .i64 d.sz, Value.slice A0 d.x0.length c0, Value.slice A1 d.x1.length c1, Value.int .i64 d.s0, Value.int .i64 d.s1, Value.int .i64 (armU n), Value.bool d.dn]) (fun S hS => arm_ref hd hn hS)
    generalize hd2e : d.after 4 0 n [] = d2 at *
    have r0 : w4.cell? ⟨w.heap.size + 1, 0, none⟩ = some (Value.int .i64 4) := S4.b1.cell 0 rfl
    have r1 : w4.cell? ⟨w.heap.size + 1, 1, none⟩ = some (Value.int .i64 f) := S4.b1.cell 1 rfl
    have r2 : w4.cell? ⟨w.heap.size + 1, 2, none⟩ = some (Value.int .i64 n) := S4.b1.cell 2 rfl
    have r3 : w4.cell? ⟨w.heap.size + 1, 3, none⟩ = some (ov) := S4.b1.cell 3 rfl
    have t5 : w4.cell? ⟨w.heap.size, 5, none⟩ = some (Value.int .i64 (limD d.ar d.un)) := S4.b0.cell 5 rfl
    have z5 : w4.frozen? ⟨w.heap.size, 5, none⟩ = false := S4.b0.free 5
    obtain ⟨w5, hw5⟩ : ∃ W, w4.setCell ⟨w.heap.size, 5, none⟩ (.int .i64 (armU n)) = W := ⟨_, rfl⟩
    have T : StepAt w w5 D d2 v0 v1 u0 u1 L d2 (.agg #[Value.int .i64 d.sz, Value.slice A0 d.x0.length c0, Value.slice A1 d.x1.length c1, Value.int .i64 d.s0, Value.int .i64 d.s1, Value.int .i64 (armU n), Value.bool d.dn]) #[Value.int .i64 d.sz, Value.slice A0 d.x0.length c0, Value.slice A1 d.x1.length c1, Value.int .i64 d.s0, Value.int .i64 d.s1, Value.int .i64 (armU n), Value.bool d.dn] #[Value.int .i64 4, Value.int .i64 f, Value.int .i64 n, ov] #[Value.int .i64 0, Value.slice none 0 0, Value.slice none 0 0, Value.int .i64 0, Value.int .i64 0, Value.int .i64 0, Value.bool false] := by rw [← hw5]; exact T0
    clear S4 T0 h4 ht4 hcl HWh HS HO
    have g0 : w5.cell? ⟨w.heap.size, 0, none⟩ = some (Value.int .i64 d.sz) := T.b0.cell 0 rfl
    have g1 : w5.cell? ⟨w.heap.size, 1, none⟩ = some (Value.slice A0 d.x0.length c0) := T.b0.cell 1 rfl
    have g2 : w5.cell? ⟨w.heap.size, 2, none⟩ = some (Value.slice A1 d.x1.length c1) := T.b0.cell 2 rfl
    have g3 : w5.cell? ⟨w.heap.size, 3, none⟩ = some (Value.int .i64 d.s0) := T.b0.cell 3 rfl
    have g4 : w5.cell? ⟨w.heap.size, 4, none⟩ = some (Value.int .i64 d.s1) := T.b0.cell 4 rfl
    have g5 : w5.cell? ⟨w.heap.size, 5, none⟩ = some (Value.int .i64 (armU n)) := T.b0.cell 5 rfl
    have g6 : w5.cell? ⟨w.heap.size, 6, none⟩ = some (Value.bool d.dn) := T.b0.cell 6 rfl
    have tb0 : w5.cell? ⟨w.heap.size + 1 + 1, 0, none⟩ = some (Value.int .i64 0) := T.b2.cell 0 rfl
    have zb0 : w5.frozen? ⟨w.heap.size + 1 + 1, 0, none⟩ = false := T.b2.free 0
    obtain ⟨Wb0, hWb0⟩ : ∃ Wz, w5.setCell ⟨w.heap.size + 1 + 1, 0, none⟩ (Value.int .i64 d.sz) = Wz := ⟨_, rfl⟩
    have Sb0 : StepAt w Wb0 D d2 v0 v1 u0 u1 L d2 (.agg #[Value.int .i64 d.sz, Value.slice A0 d.x0.length c0, Value.slice A1 d.x1.length c1, Value.int .i64 d.s0, Value.int .i64 d.s1, Value.int .i64 (armU n), Value.bool d.dn]) #[Value.int .i64 d.sz, Value.slice A0 d.x0.length c0, Value.slice A1 d.x1.length c1, Value.int .i64 d.s0, Value.int .i64 d.s1, Value.int .i64 (armU n), Value.bool d.dn] #[Value.int .i64 4, Value.int .i64 f, Value.int .i64 n, ov] #[Value.int .i64 d.sz, Value.slice none 0 0, Value.slice none 0 0, Value.int .i64 0, Value.int .i64 0, Value.int .i64 0, Value.bool false] := by rw [← hWb0]; exact T.set2 0 _
    have tb1 : Wb0.cell? ⟨w.heap.size + 1 + 1, 1, none⟩ = some (Value.slice none 0 0) := Sb0.b2.cell 1 rfl
    have zb1 : Wb0.frozen? ⟨w.heap.size + 1 + 1, 1, none⟩ = false := Sb0.b2.free 1
    obtain ⟨Wb1, hWb1⟩ : ∃ Wz, Wb0.setCell ⟨w.heap.size + 1 + 1, 1, none⟩ (Value.slice A0 d.x0.length c0) = Wz := ⟨_, rfl⟩
    have Sb1 : StepAt w Wb1 D d2 v0 v1 u0 u1 L d2 (.agg #[Value.int .i64 d.sz, Value.slice A0 d.x0.length c0, Value.slice A1 d.x1.length c1, Value.int .i64 d.s0, Value.int .i64 d.s1, Value.int .i64 (armU n), Value.bool d.dn]) #[Value.int .i64 d.sz, Value.slice A0 d.x0.length c0, Value.slice A1 d.x1.length c1, Value.int .i64 d.s0, Value.int .i64 d.s1, Value.int .i64 (armU n), Value.bool d.dn] #[Value.int .i64 4, Value.int .i64 f, Value.int .i64 n, ov] #[Value.int .i64 d.sz, Value.slice A0 d.x0.length c0, Value.slice none 0 0, Value.int .i64 0, Value.int .i64 0, Value.int .i64 0, Value.bool false] := by rw [← hWb1]; exact Sb0.set2 1 _
    have tb2 : Wb1.cell? ⟨w.heap.size + 1 + 1, 2, none⟩ = some (Value.slice none 0 0) := Sb1.b2.cell 2 rfl
    have zb2 : Wb1.frozen? ⟨w.heap.size + 1 + 1, 2, none⟩ = false := Sb1.b2.free 2
    obtain ⟨Wb2, hWb2⟩ : ∃ Wz, Wb1.setCell ⟨w.heap.size + 1 + 1, 2, none⟩ (Value.slice A1 d.x1.length c1) = Wz := ⟨_, rfl⟩
    have Sb2 : StepAt w Wb2 D d2 v0 v1 u0 u1 L d2 (.agg #[Value.int .i64 d.sz, Value.slice A0 d.x0.length c0, Value.slice A1 d.x1.length c1, Value.int .i64 d.s0, Value.int .i64 d.s1, Value.int .i64 (armU n), Value.bool d.dn]) #[Value.int .i64 d.sz, Value.slice A0 d.x0.length c0, Value.slice A1 d.x1.length c1, Value.int .i64 d.s0, Value.int .i64 d.s1, Value.int .i64 (armU n), Value.bool d.dn] #[Value.int .i64 4, Value.int .i64 f, Value.int .i64 n, ov] #[Value.int .i64 d.sz, Value.slice A0 d.x0.length c0, Value.slice A1 d.x1.length c1, Value.int .i64 0, Value.int .i64 0, Value.int .i64 0, Value.bool false] := by rw [← hWb2]; exact Sb1.set2 2 _
    have tb3 : Wb2.cell? ⟨w.heap.size + 1 + 1, 3, none⟩ = some (Value.int .i64 0) := Sb2.b2.cell 3 rfl
    have zb3 : Wb2.frozen? ⟨w.heap.size + 1 + 1, 3, none⟩ = false := Sb2.b2.free 3
    obtain ⟨Wb3, hWb3⟩ : ∃ Wz, Wb2.setCell ⟨w.heap.size + 1 + 1, 3, none⟩ (Value.int .i64 d.s0) = Wz := ⟨_, rfl⟩
    have Sb3 : StepAt w Wb3 D d2 v0 v1 u0 u1 L d2 (.agg #[Value.int .i64 d.sz, Value.slice A0 d.x0.length c0, Value.slice A1 d.x1.length c1, Value.int .i64 d.s0, Value.int .i64 d.s1, Value.int .i64 (armU n), Value.bool d.dn]) #[Value.int .i64 d.sz, Value.slice A0 d.x0.length c0, Value.slice A1 d.x1.length c1, Value.int .i64 d.s0, Value.int .i64 d.s1, Value.int .i64 (armU n), Value.bool d.dn] #[Value.int .i64 4, Value.int .i64 f, Value.int .i64 n, ov] #[Value.int .i64 d.sz, Value.slice A0 d.x0.length c0, Value.slice A1 d.x1.length c1, Value.int .i64 d.s0, Value.int .i64 0, Value.int .i64 0, Value.bool false] := by rw [← hWb3]; exact Sb2.set2 3 _
    have tb4 : Wb3.cell? ⟨w.heap.size + 1 + 1, 4, none⟩ = some (Value.int .i64 0) := Sb3.b2.cell 4 rfl
    have zb4 : Wb3.frozen? ⟨w.heap.size + 1 + 1, 4, none⟩ = false := Sb3.b2.free 4
    obtain ⟨Wb4, hWb4⟩ : ∃ Wz, Wb3.setCell ⟨w.heap.size + 1 + 1, 4, none⟩ (Value.int .i64 d.s1) = Wz := ⟨_, rfl⟩
    have Sb4 : StepAt w Wb4 D d2 v0 v1 u0 u1 L d2 (.agg #[Value.int .i64 d.sz, Value.slice A0 d.x0.length c0, Value.slice A1 d.x1.length c1, Value.int .i64 d.s0, Value.int .i64 d.s1, Value.int .i64 (armU n), Value.bool d.dn]) #[Value.int .i64 d.sz, Value.slice A0 d.x0.length c0, Value.slice A1 d.x1.length c1, Value.int .i64 d.s0, Value.int .i64 d.s1, Value.int .i64 (armU n), Value.bool d.dn] #[Value.int .i64 4, Value.int .i64 f, Value.int .i64 n, ov] #[Value.int .i64 d.sz, Value.slice A0 d.x0.length c0, Value.slice A1 d.x1.length c1, Value.int .i64 d.s0, Value.int .i64 d.s1, Value.int .i64 0, Value.bool false] := by rw [← hWb4]; exact Sb3.set2 4 _
    have tb5 : Wb4.cell? ⟨w.heap.size + 1 + 1, 5, none⟩ = some (Value.int .i64 0) := Sb4.b2.cell 5 rfl
    have zb5 : Wb4.frozen? ⟨w.heap.size + 1 + 1, 5, none⟩ = false := Sb4.b2.free 5
    obtain ⟨Wb5, hWb5⟩ : ∃ Wz, Wb4.setCell ⟨w.heap.size + 1 + 1, 5, none⟩ (Value.int .i64 (armU n)) = Wz := ⟨_, rfl⟩
    have Sb5 : StepAt w Wb5 D d2 v0 v1 u0 u1 L d2 (.agg #[Value.int .i64 d.sz, Value.slice A0 d.x0.length c0, Value.slice A1 d.x1.length c1, Value.int .i64 d.s0, Value.int .i64 d.s1, Value.int .i64 (armU n), Value.bool d.dn]) #[Value.int .i64 d.sz, Value.slice A0 d.x0.length c0, Value.slice A1 d.x1.length c1, Value.int .i64 d.s0, Value.int .i64 d.s1, Value.int .i64 (armU n), Value.bool d.dn] #[Value.int .i64 4, Value.int .i64 f, Value.int .i64 n, ov] #[Value.int .i64 d.sz, Value.slice A0 d.x0.length c0, Value.slice A1 d.x1.length c1, Value.int .i64 d.s0, Value.int .i64 d.s1, Value.int .i64 (armU n), Value.bool false] := by rw [← hWb5]; exact Sb4.set2 5 _
    have tb6 : Wb5.cell? ⟨w.heap.size + 1 + 1, 6, none⟩ = some (Value.bool false) := Sb5.b2.cell 6 rfl
    have zb6 : Wb5.frozen? ⟨w.heap.size + 1 + 1, 6, none⟩ = false := Sb5.b2.free 6
    obtain ⟨Wb6, hWb6⟩ : ∃ Wz, Wb5.setCell ⟨w.heap.size + 1 + 1, 6, none⟩ (Value.bool d.dn) = Wz := ⟨_, rfl⟩
    have Sb6 : StepAt w Wb6 D d2 v0 v1 u0 u1 L d2 (.agg #[Value.int .i64 d.sz, Value.slice A0 d.x0.length c0, Value.slice A1 d.x1.length c1, Value.int .i64 d.s0, Value.int .i64 d.s1, Value.int .i64 (armU n), Value.bool d.dn]) #[Value.int .i64 d.sz, Value.slice A0 d.x0.length c0, Value.slice A1 d.x1.length c1, Value.int .i64 d.s0, Value.int .i64 d.s1, Value.int .i64 (armU n), Value.bool d.dn] #[Value.int .i64 4, Value.int .i64 f, Value.int .i64 n, ov] #[Value.int .i64 d.sz, Value.slice A0 d.x0.length c0, Value.slice A1 d.x1.length c1, Value.int .i64 d.s0, Value.int .i64 d.s1, Value.int .i64 (armU n), Value.bool d.dn] := by rw [← hWb6]; exact Sb5.set2 6 _
    have HE := Lib.hid Sb6
    clear T Sb0 Sb1 Sb2 Sb3 Sb4 Sb5 Sb6
    go_wp2
    try simp only [Exit.inBlock, Exit.then]
    have hE := HE.out
    refine bodyPost_ret (results_cell_row_tmp (p := 6) (u := 7) (ty := 40) rfl _ Wb6 (w.heap.size + 1 + 1) 40 _ (0, 0) _ rfl hE.b2 Try.underlying40 rfl (by kernel_rfl)) rfl ?_
    exact hE.done hd2 rfl
set_option maxHeartbeats 4000000 in
set_option maxRecDepth 100000 in
theorem stepN (d : DV) (hd : d.good) (f n : Int) (hf : i64ok f) (hn : i64ok n) (yb : List UInt8) (hy : yb.length ≤ 140737488355328) (D : Nat) (v0 v1 : Value) (L : List Nat) (w : World) (hL : ∀ x ∈ L, x < w.heap.size) (h : DiskAt w D d v0 v1) (xv : Value) (hx : RepV1 w (Apart D v0 v1 L) (.agg (refA d)) xv) (ov : Value) (ho : RepP w (Apart D v0 v1 L) (.sl (bytesAV yb) .no) ov) (k : Int) (k1 : (k == 1) = false) (k2 : (k == 2) = false) (k3 : (k == 3) = false) (k4 : (k == 4) = false) (k5 : (k == 5) = false) :
    Calls Try.prog 14 #[.pointer (some ⟨D, 0, none⟩), xv, .agg #[.int .i64 k, .int .i64 f, .int .i64 n, ov]] w fun e w' => StepEnd w D v0 v1 L e w' := by
    have mixed : Try.prog.follows .mixedOrders = true := by kernel_rfl
    obtain ⟨A0, A1, c0, c1, rfl, l0, l1, p0, p1⟩ := ref_open hx
    simp only [refC, refV] at hx ⊢
    obtain ⟨W, hW, B0, B1, B2, hb, hsz⟩ := box3 w 40 37 40 #[Value.int .i64 d.sz, Value.slice A0 d.x0.length c0, Value.slice A1 d.x1.length c1, Value.int .i64 d.s0, Value.int .i64 d.s1, Value.int .i64 (limD d.ar d.un), Value.bool d.dn] #[Value.int .i64 k, Value.int .i64 f, Value.int .i64 n, ov] #[Value.int .i64 0, Value.slice none 0 0, Value.slice none 0 0, Value.int .i64 0, Value.int .i64 0, Value.int .i64 0, Value.bool false]
    have S := StepAt.start (L := L) h hx hb B0 B1 B2
    have hoW : RepP W (Apart D v0 v1 (w.heap.size :: (w.heap.size + 1) :: (w.heap.size + 1 + 1) :: L)) (.sl (bytesAV yb) .no) ov := ho.mono fun b o u hbo hu => by
      have hlt := cell_lt hu
      refine ⟨⟨hbo.1, hbo.2.1, hbo.2.2.1, ?_⟩, (cell_same (hb.block b hlt)).trans hu⟩
      intro hm
      simp only [List.mem_cons] at hm
      rcases hm with e | e | e | e
      · omega
      · omega
      · omega
      · exact hbo.2.2.2 e
    have HWh := Lib.hid hW
    clear hW
    have HS := Lib.hid S
    have HO := Lib.hid hoW
    have HB := Lib.hid hb
    clear S hoW hx ho h B0 B1 B2 hb hsz p0 p1
    go_enter Try.func14, Try.ntmps14
    have T := HS.out
    have g0 : W.cell? ⟨w.heap.size, 0, none⟩ = some (Value.int .i64 d.sz) := T.b0.cell 0 rfl
    have g1 : W.cell? ⟨w.heap.size, 1, none⟩ = some (Value.slice A0 d.x0.length c0) := T.b0.cell 1 rfl
    have g2 : W.cell? ⟨w.heap.size, 2, none⟩ = some (Value.slice A1 d.x1.length c1) := T.b0.cell 2 rfl
    have g3 : W.cell? ⟨w.heap.size, 3, none⟩ = some (Value.int .i64 d.s0) := T.b0.cell 3 rfl
    have g4 : W.cell? ⟨w.heap.size, 4, none⟩ = some (Value.int .i64 d.s1) := T.b0.cell 4 rfl
    have g5 : W.cell? ⟨w.heap.size, 5, none⟩ = some (Value.int .i64 (limD d.ar d.un)) := T.b0.cell 5 rfl
    have g6 : W.cell? ⟨w.heap.size, 6, none⟩ = some (Value.bool d.dn) := T.b0.cell 6 rfl
    have tb0 : W.cell? ⟨w.heap.size + 1 + 1, 0, none⟩ = some (Value.int .i64 0) := T.b2.cell 0 rfl
    have zb0 : W.frozen? ⟨w.heap.size + 1 + 1, 0, none⟩ = false := T.b2.free 0
    obtain ⟨Wb0, hWb0⟩ : ∃ Wz, W.setCell ⟨w.heap.size + 1 + 1, 0, none⟩ (Value.int .i64 d.sz) = Wz := ⟨_, rfl⟩
    have Sb0 : StepAt w Wb0 D d v0 v1 v0 v1 L d (.agg #[Value.int .i64 d.sz, Value.slice A0 d.x0.length c0, Value.slice A1 d.x1.length c1, Value.int .i64 d.s0, Value.int .i64 d.s1, Value.int .i64 (limD d.ar d.un), Value.bool d.dn]) #[Value.int .i64 d.sz, Value.slice A0 d.x0.length c0, Value.slice A1 d.x1.length c1, Value.int .i64 d.s0, Value.int .i64 d.s1, Value.int .i64 (limD d.ar d.un), Value.bool d.dn] #[Value.int .i64 k, Value.int .i64 f, Value.int .i64 n, ov] #[Value.int .i64 d.sz, Value.slice none 0 0, Value.slice none 0 0, Value.int .i64 0, Value.int .i64 0, Value.int .i64 0, Value.bool false] := by rw [← hWb0]; exact T.set2 0 _
    have tb1 : Wb0.cell? ⟨w.heap.size + 1 + 1, 1, none⟩ = some (Value.slice none 0 0) := Sb0.b2.cell 1 rfl
    have zb1 : Wb0.frozen? ⟨w.heap.size + 1 + 1, 1, none⟩ = false := Sb0.b2.free 1
    obtain ⟨Wb1, hWb1⟩ : ∃ Wz, Wb0.setCell ⟨w.heap.size + 1 + 1, 1, none⟩ (Value.slice A0 d.x0.length c0) = Wz := ⟨_, rfl⟩
    have Sb1 : StepAt w Wb1 D d v0 v1 v0 v1 L d (.agg #[Value.int .i64 d.sz, Value.slice A0 d.x0.length c0, Value.slice A1 d.x1.length c1, Value.int .i64 d.s0, Value.int .i64 d.s1, Value.int .i64 (limD d.ar d.un), Value.bool d.dn]) #[Value.int .i64 d.sz, Value.slice A0 d.x0.length c0, Value.slice A1 d.x1.length c1, Value.int .i64 d.s0, Value.int .i64 d.s1, Value.int .i64 (limD d.ar d.un), Value.bool d.dn] #[Value.int .i64 k, Value.int .i64 f, Value.int .i64 n, ov] #[Value.int .i64 d.sz, Value.slice A0 d.x0.length c0, Value.slice none 0 0, Value.int .i64 0, Value.int .i64 0, Value.int .i64 0, Value.bool false] := by rw [← hWb1]; exact Sb0.set2 1 _
    have tb2 : Wb1.cell? ⟨w.heap.size + 1 + 1, 2, none⟩ = some (Value.slice none 0 0) := Sb1.b2.cell 2 rfl
    have zb2 : Wb1.frozen? ⟨w.heap.size + 1 + 1, 2, none⟩ = false := Sb1.b2.free 2
    obtain ⟨Wb2, hWb2⟩ : ∃ Wz, Wb1.setCell ⟨w.heap.size + 1 + 1, 2, none⟩ (Value.slice A1 d.x1.length c1) = Wz := ⟨_, rfl⟩
    have Sb2 : StepAt w Wb2 D d v0 v1 v0 v1 L d (.agg #[Value.int .i64 d.sz, Value.slice A0 d.x0.length c0, Value.slice A1 d.x1.length c1, Value.int .i64 d.s0, Value.int .i64 d.s1, Value.int .i64 (limD d.ar d.un), Value.bool d.dn]) #[Value.int .i64 d.sz, Value.slice A0 d.x0.length c0, Value.slice A1 d.x1.length c1, Value.int .i64 d.s0, Value.int .i64 d.s1, Value.int .i64 (limD d.ar d.un), Value.bool d.dn] #[Value.int .i64 k, Value.int .i64 f, Value.int .i64 n, ov] #[Value.int .i64 d.sz, Value.slice A0 d.x0.length c0, Value.slice A1 d.x1.length c1, Value.int .i64 0, Value.int .i64 0, Value.int .i64 0, Value.bool false] := by rw [← hWb2]; exact Sb1.set2 2 _
    have tb3 : Wb2.cell? ⟨w.heap.size + 1 + 1, 3, none⟩ = some (Value.int .i64 0) := Sb2.b2.cell 3 rfl
    have zb3 : Wb2.frozen? ⟨w.heap.size + 1 + 1, 3, none⟩ = false := Sb2.b2.free 3
    obtain ⟨Wb3, hWb3⟩ : ∃ Wz, Wb2.setCell ⟨w.heap.size + 1 + 1, 3, none⟩ (Value.int .i64 d.s0) = Wz := ⟨_, rfl⟩
    have Sb3 : StepAt w Wb3 D d v0 v1 v0 v1 L d (.agg #[Value.int .i64 d.sz, Value.slice A0 d.x0.length c0, Value.slice A1 d.x1.length c1, Value.int .i64 d.s0, Value.int .i64 d.s1, Value.int .i64 (limD d.ar d.un), Value.bool d.dn]) #[Value.int .i64 d.sz, Value.slice A0 d.x0.length c0, Value.slice A1 d.x1.length c1, Value.int .i64 d.s0, Value.int .i64 d.s1, Value.int .i64 (limD d.ar d.un), Value.bool d.dn] #[Value.int .i64 k, Value.int .i64 f, Value.int .i64 n, ov] #[Value.int .i64 d.sz, Value.slice A0 d.x0.length c0, Value.slice A1 d.x1.length c1, Value.int .i64 d.s0, Value.int .i64 0, Value.int .i64 0, Value.bool false] := by rw [← hWb3]; exact Sb2.set2 3 _
    have tb4 : Wb3.cell? ⟨w.heap.size + 1 + 1, 4, none⟩ = some (Value.int .i64 0) := Sb3.b2.cell 4 rfl
    have zb4 : Wb3.frozen? ⟨w.heap.size + 1 + 1, 4, none⟩ = false := Sb3.b2.free 4
    obtain ⟨Wb4, hWb4⟩ : ∃ Wz, Wb3.setCell ⟨w.heap.size + 1 + 1, 4, none⟩ (Value.int .i64 d.s1) = Wz := ⟨_, rfl⟩
    have Sb4 : StepAt w Wb4 D d v0 v1 v0 v1 L d (.agg #[Value.int .i64 d.sz, Value.slice A0 d.x0.length c0, Value.slice A1 d.x1.length c1, Value.int .i64 d.s0, Value.int .i64 d.s1, Value.int .i64 (limD d.ar d.un), Value.bool d.dn]) #[Value.int .i64 d.sz, Value.slice A0 d.x0.length c0, Value.slice A1 d.x1.length c1, Value.int .i64 d.s0, Value.int .i64 d.s1, Value.int .i64 (limD d.ar d.un), Value.bool d.dn] #[Value.int .i64 k, Value.int .i64 f, Value.int .i64 n, ov] #[Value.int .i64 d.sz, Value.slice A0 d.x0.length c0, Value.slice A1 d.x1.length c1, Value.int .i64 d.s0, Value.int .i64 d.s1, Value.int .i64 0, Value.bool false] := by rw [← hWb4]; exact Sb3.set2 4 _
    have tb5 : Wb4.cell? ⟨w.heap.size + 1 + 1, 5, none⟩ = some (Value.int .i64 0) := Sb4.b2.cell 5 rfl
    have zb5 : Wb4.frozen? ⟨w.heap.size + 1 + 1, 5, none⟩ = false := Sb4.b2.free 5
    obtain ⟨Wb5, hWb5⟩ : ∃ Wz, Wb4.setCell ⟨w.heap.size + 1 + 1, 5, none⟩ (Value.int .i64 (limD d.ar d.un)) = Wz := ⟨_, rfl⟩
    have Sb5 : StepAt w Wb5 D d v0 v1 v0 v1 L d (.agg #[Value.int .i64 d.sz, Value.slice A0 d.x0.length c0, Value.slice A1 d.x1.length c1, Value.int .i64 d.s0, Value.int .i64 d.s1, Value.int .i64 (limD d.ar d.un), Value.bool d.dn]) #[Value.int .i64 d.sz, Value.slice A0 d.x0.length c0, Value.slice A1 d.x1.length c1, Value.int .i64 d.s0, Value.int .i64 d.s1, Value.int .i64 (limD d.ar d.un), Value.bool d.dn] #[Value.int .i64 k, Value.int .i64 f, Value.int .i64 n, ov] #[Value.int .i64 d.sz, Value.slice A0 d.x0.length c0, Value.slice A1 d.x1.length c1, Value.int .i64 d.s0, Value.int .i64 d.s1, Value.int .i64 (limD d.ar d.un), Value.bool false] := by rw [← hWb5]; exact Sb4.set2 5 _
    have tb6 : Wb5.cell? ⟨w.heap.size + 1 + 1, 6, none⟩ = some (Value.bool false) := Sb5.b2.cell 6 rfl
    have zb6 : Wb5.frozen? ⟨w.heap.size + 1 + 1, 6, none⟩ = false := Sb5.b2.free 6
    obtain ⟨Wb6, hWb6⟩ : ∃ Wz, Wb5.setCell ⟨w.heap.size + 1 + 1, 6, none⟩ (Value.bool d.dn) = Wz := ⟨_, rfl⟩
    have Sb6 : StepAt w Wb6 D d v0 v1 v0 v1 L d (.agg #[Value.int .i64 d.sz, Value.slice A0 d.x0.length c0, Value.slice A1 d.x1.length c1, Value.int .i64 d.s0, Value.int .i64 d.s1, Value.int .i64 (limD d.ar d.un), Value.bool d.dn]) #[Value.int .i64 d.sz, Value.slice A0 d.x0.length c0, Value.slice A1 d.x1.length c1, Value.int .i64 d.s0, Value.int .i64 d.s1, Value.int .i64 (limD d.ar d.un), Value.bool d.dn] #[Value.int .i64 k, Value.int .i64 f, Value.int .i64 n, ov] #[Value.int .i64 d.sz, Value.slice A0 d.x0.length c0, Value.slice A1 d.x1.length c1, Value.int .i64 d.s0, Value.int .i64 d.s1, Value.int .i64 (limD d.ar d.un), Value.bool d.dn] := by rw [← hWb6]; exact Sb5.set2 6 _
    have HE := Lib.hid Sb6
    clear T Sb0 Sb1 Sb2 Sb3 Sb4 Sb5 Sb6
    go_upto_region 18 with fail
    rw [← HWh.out]
    clear HWh HS HO
    go_wp2
    try simp only [Exit.inBlock, Exit.then]
    have hE := HE.out
    refine bodyPost_ret (results_cell_row_tmp (p := 6) (u := 7) (ty := 40) rfl _ Wb6 (w.heap.size + 1 + 1) 40 _ (0, 0) _ rfl hE.b2 Try.underlying40 rfl (by kernel_rfl)) rfl ?_
    exact hE.done hd rfl
/-- a step: both disks go on alike -/
theorem step_any (d : DV) (hd : d.good) (k f n : Int) (hf : i64ok f) (hn : i64ok n) (yb : List UInt8) (hy : yb.length ≤ 140737488355328) (D : Nat) (v0 v1 : Value) (L : List Nat) (w : World) (hL : ∀ x ∈ L, x < w.heap.size) (h : DiskAt w D d v0 v1) (xv : Value) (hx : RepV1 w (Apart D v0 v1 L) (.agg (refA d)) xv) (ov : Value) (ho : RepP w (Apart D v0 v1 L) (.sl (bytesAV yb) .no) ov) :
    Calls Try.prog 14 #[.pointer (some ⟨D, 0, none⟩), xv, .agg #[.int .i64 k, .int .i64 f, .int .i64 n, ov]] w fun e w' => StepEnd w D v0 v1 L e w' := by
  by_cases k1 : k = 1
  · subst k1; exact step1 d hd f n hf hn yb hy D v0 v1 L w hL h xv hx ov ho
  by_cases k2 : k = 2
  · subst k2; exact step2 d hd f n hf hn yb hy D v0 v1 L w hL h xv hx ov ho
  by_cases k3 : k = 3
  · subst k3; exact step3 d hd f n hf hn yb hy D v0 v1 L w hL h xv hx ov ho
  by_cases k4 : k = 4
  · subst k4; exact step4 d hd f n hf hn yb hy D v0 v1 L w hL h xv hx ov ho
  by_cases k5 : k = 5
  · subst k5; exact step5 d hd f n hf hn yb hy D v0 v1 L w hL h xv hx ov ho
  exact stepN d hd f n hf hn yb hy D v0 v1 L w hL h xv hx ov ho k (by simpa using k1) (by simpa using k2) (by simpa using k3) (by simpa using k4) (by simpa using k5)
end Go.Proofs.Ytddilmocngedjaa
