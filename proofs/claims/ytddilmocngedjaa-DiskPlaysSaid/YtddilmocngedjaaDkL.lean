/- DiskPlays: by hand. -/
import Derived.Test.YtddilmocngedjaaDkK
namespace Go.Proofs.Ytddilmocngedjaa
set_option linter.unusedVariables false
set_option linter.unusedSimpArgs false
open Go Go.Proofs Go.RowKit Go.Lib
theorem anchor_any (w : World) : Calls Try.prog 12 #[] w fun e w' => e = .returned (.bool true) ∧ Below w.heap.size w w' :=
  law_of_meets meetsAnchor13 (l := []) rfl trivial rfl fun i v hv => by simp at hv
def zeroV (sz : Int) : List AV := [.int .i64 sz, .sl [] .no, .sl [] .no, .int .i64 0, .int .i64 0, .int .i64 (-1), .bool false]
theorem rnew_any (sz : Int) (hs : i64ok sz) (w : World) (bad : Nat → Nat → Prop) (hb : ∀ b o, bad b o → b < w.heap.size) : Calls Try.prog 15 #[.int .i64 sz] w fun e w' => ∃ v, e = .returned v ∧ Below w.heap.size w w' ∧ RepV1 w' (fun b o => ¬ bad b o) (.agg (refA (DV.fresh sz))) v := by
  refine (plain_call meetsRnew (l := [.int .i64 sz]) (val := .agg (refA (DV.fresh sz))) (q := True) bad hb rfl trivial rfl (by intro v hv; simp at hv; rw [hv]; rfl) rfl ?_).mono ?_
  · intro i v hv
    match i, hv with
    | 0, hv => obtain rfl := (Option.some.inj hv).symm; exact ⟨_, rfl, i64_rep hs⟩
    | i + 1, hv => simp at hv
  · rintro e w' ⟨v, rfl, h1, h2⟩
    exact ⟨v, rfl, h1, h2⟩
theorem fresh_good {sz : Int} (h1 : 1024 ≤ sz) (h2 : sz ≤ 4194304) : (DV.fresh sz).good := by
  refine ⟨by show 0 ≤ sz; omega, h2, isBytes_bytesAV _, isBytes_bytesAV _, ?_, Int.le_refl _, by show (0 : Int) ≤ ((bytesAV []).length : Int); omega, Int.le_refl _, by show (0 : Int) ≤ ((bytesAV []).length : Int); omega, fun h => by cases h⟩
  show ((bytesAV []).length : Int) + (bytesAV []).length ≤ sz
  rw [bytesAV_len]; simp; omega
/-- a list's steps -/
structure Ops (w : World) (S : Nat → Nat → Prop) (A : Option Addr) (len : Nat) where
  k : Nat → Int
  f : Nat → Int
  n : Nat → Int
  yb : Nat → List UInt8
  ov : Nat → Value
  at' : ∀ i, i < len → ∃ b off, A = some ⟨b, off, none⟩ ∧ OpAt w S b off i (k i) (f i) (n i) (yb i) (ov i)
set_option maxHeartbeats 4000000 in
set_option maxRecDepth 100000 in
theorem plays_any (sz : Int) (hs : i64ok sz) (S : Nat → Nat → Prop) (A : Option Addr) (len cap : Nat) (w : World) (ops : Ops w S A len) (hlen : len ≤ 9223372036854775807) :
    Calls Try.prog 5 #[.int .i64 sz, .slice A len cap] w fun e w' => e = .returned (.bool true) ∧ Below w.heap.size w w' := by
  have mixed : Try.prog.follows .mixedOrders = true := by kernel_rfl
  go_enter Try.func5, Try.ntmps5
  go_wp2_with fail
  refine (anchor_any w).mono ?_
  rintro e w1 ⟨rfl, hb1⟩
  have HB1 := Lib.hid hb1
  clear hb1
  go_wp2_with fail
  by_cases hr : 1024 ≤ sz ∧ sz ≤ 4194304
  · refine (new_any sz hr.1 hr.2 w1).mono ?_
    rintro e w2 ⟨rfl, hd2, hb2⟩
    have r1 : decide (sz < 1024) = false := by simp; omega
    have r2 : decide (4194304 < sz) = false := by simp; omega
    have HD2 := Lib.hid hd2
    have HB2 := Lib.hid hb2
    clear hd2 hb2
    by_cases h40 : len ≤ 40
    · have r3 : decide (40 < (len : Int)) = false := by simp; omega
      go_wp2_with fail
      go_loopg [8, 44] len (fun gg _ s44 wr => ∃ j : Nat, s44 = .int .i64 (j : Int) ∧ j ≤ len ∧ len - j ≤ gg ∧ Hid (Below w2.heap.size w2 wr ∧ ∀ i, i < j → (ops.yb i).length ≤ 3000))
      case atStart => exact ⟨0, rfl, by omega, by omega, (⟨Below.refl _ _, fun i hi => absurd hi (Nat.not_lt_zero _)⟩ : _)⟩
      case round =>
        obtain ⟨j, rfl, hj, hg, hI⟩ := hrel
        by_cases hlt : j < len
        · obtain ⟨b, off, rfl, hop⟩ := ops.at' j hlt
          have hb : Below w.heap.size w wr := (HB1.out.trans (HB2.out.mono HB1.out.size)).trans (hI.out.1.mono (Nat.le_trans HB1.out.size HB2.out.size))
          obtain ⟨o0, o1, o2, o3, _, _, _, hrb⟩ := hop
          obtain ⟨Ab, cb, hov, _, hcb⟩ := bytes_slice hrb
          rw [hov] at o3
          have q0 := (cell_same (o := off + j * 4) (hb.block b (cell_lt o0))).trans o0
          have q1 := (cell_same (o := off + j * 4 + 1) (hb.block b (cell_lt o0))).trans o1
          have q2 := (cell_same (o := off + j * 4 + 2) (hb.block b (cell_lt o0))).trans o2
          have q3 := (cell_same (o := off + j * 4 + 3) (hb.block b (cell_lt o0))).trans o3
          have HH := Lib.hid hb
          have HR := Lib.hid hrb
          clear o0 o1 o2 o3 hb hrb hov
          by_cases hy : (ops.yb j).length ≤ 3000
          · have d1 : decide (3000 < ((ops.yb j).length : Int)) = false := by simp; omega
            have hall : Hid (∀ i, i < j + 1 → (ops.yb i).length ≤ 3000) := fun i hi => by
              rcases Nat.lt_or_ge i j with h | h
              · exact hI.out.2 i h
              · obtain rfl : i = j := by omega
                exact hy
            have hbI := Lib.hid hI.out.1
            clear hI
            go_wp2_with fail
            go_roundg (len - (j + 1))
            case measure => omega
            case rel => exact ⟨j + 1, by go_num, by omega, by omega, (⟨hbI.out.alloc hbI.out.size _, hall.out⟩ : _)⟩
          · have d1 : decide (3000 < ((ops.yb j).length : Int)) = true := by simp; omega
            clear hI
            go_wp2_with fail
            go_ret
            exact ⟨rfl, HH.out.alloc HH.out.size _⟩
        · obtain rfl : j = len := by omega
          have HB : Hid (Below w.heap.size w wr) := (HB1.out.trans (HB2.out.mono HB1.out.size)).trans (hI.out.1.mono (Nat.le_trans HB1.out.size HB2.out.size))
          have HDr := Lib.hid (HD2.out.below hI.out.1)
          have HA := Lib.hid hI.out.2
          have HL := Lib.hid (And.intro HB1.out.size (Nat.lt_of_lt_of_le HD2.out.lt hI.out.1.size))
          clear hI HD2 HB2
          go_wp2_with fail
          refine (rnew_any sz hs wr (fun g _ => g < wr.heap.size) (fun g _ h => h)).mono ?_
          rintro e w3 ⟨yv, rfl, hb3, hv3⟩
          obtain ⟨B0, B1, e0, e1, rfl, l2, l3, _, _⟩ := ref_open hv3
          have HV3 := Lib.hid hv3
          have HB3 := Lib.hid hb3
          have HI0 : Hid (∃ d v0 v1 A0 A1 c0 c1, d.good ∧ LawAt w (w3.alloc (.cells (refC (DV.fresh sz) B0 B1 e0 e1) 40)) w1.heap.size w3.heap.size d v0 v1 d (.agg (refC d A0 A1 c0 c1)) (refC d A0 A1 c0 c1)) := by
            have hw3 : wr.heap.size ≤ w3.heap.size := hb3.size
            have hal := (Below.refl w3.heap.size w3).alloc (Nat.le_refl _) (.cells (refC (DV.fresh sz) B0 B1 e0 e1) 40)
            refine ⟨DV.fresh sz, .slice none 0 0, .slice none 0 0, B0, B1, e0, e1, fresh_good hr.1 hr.2, (HDr.out.below hb3).below hal, hv3.mono fun b o u hb hu => ⟨⟨?_, (fun e => by cases e), (fun e => by cases e), ?_⟩, (cell_same (hal.block b (cell_lt hu))).trans hu⟩, Blk.new _ _ _, (HB.out.trans (hb3.mono HB.out.size)).trans (hal.mono (Nat.le_trans HB.out.size hw3)), HL.out.1, Nat.le_trans HB.out.size hw3, ?_, fun g hg => ?_⟩
            · have := HL.out.2; omega
            · have := cell_lt hu; simp; omega
            · have := HL.out.2; omega
            · rcases hg with hg | hg <;> cases hg
          simp only [refC, refV] at HI0 ⊢
          clear hv3 hb3 HV3 HB3 HDr HB
          go_wp2_with fail
          generalize hX : w3.heap.size = X at *
          generalize w3.alloc (Obj.cells _ _) = wi at *
          clear hX
          go_loopg [11, 12, 13, 57] j (fun gg _ _ _ s57 wr => ∃ i : Nat, s57 = .int .i64 (i : Int) ∧ i ≤ j ∧ j - i ≤ gg ∧ Hid (∃ d v0 v1 A0 A1 c0 c1, d.good ∧ LawAt w wr w1.heap.size X d v0 v1 d (.agg (refC d A0 A1 c0 c1)) (refC d A0 A1 c0 c1)))
          case atStart => exact ⟨0, rfl, by omega, by omega, HI0⟩
          case round =>
            obtain ⟨i, rfl, hi, hgi, hI⟩ := hrel
            by_cases hlt2 : i < j
            · obtain ⟨d, v0, v1, A0, A1, c0, c1, hd, hLA⟩ := hI.out
              obtain ⟨b, off, rfl, hop⟩ := ops.at' i hlt2
              simp only [refC, refV] at hLA
              obtain ⟨o0, o1, o2, o3, ik, ifo, ino, hrb⟩ := hop
              obtain ⟨Ab, cb, hov, _, hcb⟩ := bytes_slice hrb
              rw [hov] at o3 hrb
              have q0 := (hLA.old o0).2
              have q1 := (hLA.old o1).2
              have q2 := (hLA.old o2).2
              have q3 := (hLA.old o3).2
              have hy3 := HA.out i hlt2
              obtain ⟨wa, hwa, BO, hba, hsa⟩ := box1 wr 37 #[Value.int .i64 (ops.k i), Value.int .i64 (ops.f i), Value.int .i64 (ops.n i), Value.slice Ab (ops.yb i).length cb]
              have LAa := Lib.hid (hLA.past hba)
              have HBO := Lib.hid BO
              have HRB := Lib.hid hrb
              have HX := Lib.hid hLA.bx.lt
              have hwO := hsa
              clear hI hLA o0 o1 o2 o3 hrb hov hba BO
              have hcp := Lib.hid (copy_any d hd.fine w1.heap.size v0 v1 wa LAa.out.at')
              go_wp2_with fail
              rw [← hwa]
              refine hcp.out.mono ?_
              rintro e w5 ⟨C, p0, p1, rfl, hC, hdC, hb5, hown5⟩
              have LA5 := Lib.hid (LAa.out.past hb5)
              have hx5 : RepV1 w5 (Apart C p0 p1 []) (.agg (refA d)) (.agg #[Value.int .i64 d.sz, Value.slice A0 d.x0.length c0, Value.slice A1 d.x1.length c1, Value.int .i64 d.s0, Value.int .i64 d.s1, Value.int .i64 (limD d.ar d.un), Value.bool d.dn]) := LAa.out.ref.mono fun b o u hb hu => by
                have hlt := cell_lt hu
                refine ⟨⟨by omega, fun e => ?_, fun e => ?_, by simp⟩, (cell_same (hb5.block b hlt)).trans hu⟩
                · have := hown5 b (.inl e); omega
                · have := hown5 b (.inr e); omega
              have r0 : w5.cell? ⟨X, 0, none⟩ = some (Value.int .i64 d.sz) := LA5.out.bx.cell 0 rfl
              have r1 : w5.cell? ⟨X, 1, none⟩ = some (Value.slice A0 d.x0.length c0) := LA5.out.bx.cell 1 rfl
              have r2 : w5.cell? ⟨X, 2, none⟩ = some (Value.slice A1 d.x1.length c1) := LA5.out.bx.cell 2 rfl
              have r3 : w5.cell? ⟨X, 3, none⟩ = some (Value.int .i64 d.s0) := LA5.out.bx.cell 3 rfl
              have r4 : w5.cell? ⟨X, 4, none⟩ = some (Value.int .i64 d.s1) := LA5.out.bx.cell 4 rfl
              have r5 : w5.cell? ⟨X, 5, none⟩ = some (Value.int .i64 (limD d.ar d.un)) := LA5.out.bx.cell 5 rfl
              have r6 : w5.cell? ⟨X, 6, none⟩ = some (Value.bool d.dn) := LA5.out.bx.cell 6 rfl
              have hsm := Lib.hid (dsame_any d hd C p0 p1 [] w5 hdC _ hx5)
              have HC := Lib.hid hC
              have HDC := Lib.hid hdC
              have HB5 := Lib.hid hb5
              have HOW := Lib.hid hown5
              clear hx5 hC hdC hb5 hown5 hcp hwa q0 q1 q2 q3
              go_wp2_with fail
              refine hsm.out.mono ?_
              rintro e w6 ⟨p0', p1', rfl, hd6, ht6⟩
              have HB6 := Lib.hid (HB5.out.trans (touch_below ht6 HB5.out.size HC.out HOW.out))
              have HO6 : Hid (∀ g, p0'.ownBlock = some g ∨ p1'.ownBlock = some g → wa.heap.size ≤ g) := fun g hg => by
                rcases ht6.row g hg with h4 | h4 | h4
                · have := HB5.out.size; omega
                · exact HOW.out g (.inl h4)
                · exact HOW.out g (.inr h4)
              have htr := Lib.hid (trim_any d hd 0 0 (by unfold i64ok; omega) (by unfold i64ok; omega) C p0' p1' [] w6 hd6)
              clear hsm hd6 ht6 LA5 HDC HB5 HOW r0 r1 r2 r3 r4 r5 r6
              go_wp2_with fail
              refine htr.out.mono ?_
              rintro e w7 ⟨m0, m1, rfl, hd7, ht7⟩
              have HB7 := Lib.hid (HB6.out.trans (touch_below ht7 HB6.out.size HC.out HO6.out))
              have HO7 : Hid (∀ g, m0.ownBlock = some g ∨ m1.ownBlock = some g → wa.heap.size ≤ g) := fun g hg => by
                rcases ht7.row g hg with h4 | h4 | h4
                · have := HB6.out.size; omega
                · exact HO6.out g (.inl h4)
                · exact HO6.out g (.inr h4)
              have g7 := after_good hd (k := 3) (f := 0) (n := 0) (ys := []) isBytes_nil (by omega)
              generalize d.after 3 0 0 [] = d7 at *
              have har := Lib.hid (arm_any d7 g7 0 (by unfold i64ok; omega) C m0 m1 [] w7 hd7)
              clear htr hd7 ht7 HB6 HO6
              go_wp2_with fail
              refine har.out.mono ?_
              rintro e w8 ⟨s0, s1, rfl, hd8, ht8⟩
              have HB8 := Lib.hid (HB7.out.trans (touch_below ht8 HB7.out.size HC.out HO7.out))
              have HO8 : Hid (∀ g, s0.ownBlock = some g ∨ s1.ownBlock = some g → wa.heap.size ≤ g) := fun g hg => by
                rcases ht8.row g hg with h4 | h4 | h4
                · have := HB7.out.size; omega
                · exact HO7.out g (.inl h4)
                · exact HO7.out g (.inr h4)
              have g8 := after_good g7 (k := 4) (f := 0) (n := 0) (ys := []) isBytes_nil (by omega)
              generalize d7.after 4 0 0 [] = d8 at *
              have HD8 := Lib.hid hd8
              clear har hd8 ht8 HB7 HO7
              go_wp2_with fail
              obtain ⟨w9, hw9, B9, hb9, hs9⟩ := box1 w8 5 #[.int .u8 9]
              rw [← hw9]
              have hn9 : RepP w9 (Apart C s0 s1 []) (.sl (bytesAV [9]) .no) (.slice (some ⟨w8.heap.size, 0, none⟩) 1 1) := by
                have := RepP.sl (w := w9) (S := Apart C s0 s1 []) (bytesAV [9]) .no w8.heap.size 0 1 1 (fun _ _ => .int .u8 9) (by rw [bytesAV_len]; exact Nat.le_refl _) (by unfold maxLen; omega)
                  (fun i x hi => by
                    match i, hi with
                    | 0, hi => obtain rfl := (Option.some.inj hi).symm; rfl
                    | i + 1, hi => simp [bytesAV] at hi)
                  (fun i x j c hi hj => by
                    match i, hi with
                    | 0, hi =>
                      obtain rfl := (Option.some.inj hi).symm
                      match j, hj with
                      | 0, hj =>
                        obtain rfl := (Option.some.inj hj).symm
                        have hCl := HD8.out.lt
                        refine ⟨⟨by omega, fun e => ?_, fun e => ?_, by simp⟩, B9.cell 0 rfl, rfl⟩
                        · have := HD8.out.rows_lt (.inl e); omega
                        · have := HD8.out.rows_lt (.inr e); omega
                      | j + 1, hj => simp [byteAV, AV.cells] at hj
                    | i + 1, hi => simp [bytesAV] at hi)
                  (fun i x j c hi hj => by
                    match i, hi with
                    | 0, hi =>
                      obtain rfl := (Option.some.inj hi).symm
                      match j, hj with
                      | 0, hj =>
                        obtain rfl := (Option.some.inj hj).symm
                        exact RepP.int .u8 9 (by decide) (by decide)
                      | j + 1, hj => simp [byteAV, AV.cells] at hj
                    | i + 1, hi => simp [bytesAV] at hi)
                rw [bytesAV_len] at this
                exact this
              refine (app_any d8 g8 1 (by unfold i64ok; omega) [9] C s0 s1 [] w9 (HD8.out.below hb9) _ hn9).mono ?_
              rintro e w10 ⟨y0, y1, rfl, hd10, ht10⟩
              have hb89 : Below wa.heap.size wa w9 := HB8.out.trans (hb9.mono HB8.out.size)
              have hb10 : Below wa.heap.size wa w10 := hb89.trans (touch_below ht10 hb89.size HC.out HO8.out)
              have LAz := Lib.hid (LAa.out.past hb10)
              have BOz : Blk w10 wr.heap.size 37 #[Value.int .i64 (ops.k i), Value.int .i64 (ops.f i), Value.int .i64 (ops.n i), Value.slice Ab (ops.yb i).length cb] := HBO.out.below hb10 hwO
              have hXz : X < w10.heap.size := LAz.out.bx.lt
              have hyz : (ops.yb i).length ≤ 140737488355328 := by omega
              have hst := Lib.hid (step_any d hd (ops.k i) (ops.f i) (ops.n i) ifo ino (ops.yb i) hyz w1.heap.size v0 v1 [X] w10 (fun x hx => by simp at hx; omega) LAz.out.at' _ LAz.out.ref _ (HRB.out.mono fun b o u hb hu => LAz.out.old hu))
              have r0 : w10.cell? ⟨X, 0, none⟩ = some (Value.int .i64 d.sz) := LAz.out.bx.cell 0 rfl
              have r1 : w10.cell? ⟨X, 1, none⟩ = some (Value.slice A0 d.x0.length c0) := LAz.out.bx.cell 1 rfl
              have r2 : w10.cell? ⟨X, 2, none⟩ = some (Value.slice A1 d.x1.length c1) := LAz.out.bx.cell 2 rfl
              have r3 : w10.cell? ⟨X, 3, none⟩ = some (Value.int .i64 d.s0) := LAz.out.bx.cell 3 rfl
              have r4 : w10.cell? ⟨X, 4, none⟩ = some (Value.int .i64 d.s1) := LAz.out.bx.cell 4 rfl
              have r5 : w10.cell? ⟨X, 5, none⟩ = some (Value.int .i64 (limD d.ar d.un)) := LAz.out.bx.cell 5 rfl
              have r6 : w10.cell? ⟨X, 6, none⟩ = some (Value.bool d.dn) := LAz.out.bx.cell 6 rfl
              have q0 : w10.cell? ⟨wr.heap.size, 0, none⟩ = some (.int .i64 (ops.k i)) := BOz.cell 0 rfl
              have q1 : w10.cell? ⟨wr.heap.size, 1, none⟩ = some (.int .i64 (ops.f i)) := BOz.cell 1 rfl
              have q2 : w10.cell? ⟨wr.heap.size, 2, none⟩ = some (.int .i64 (ops.n i)) := BOz.cell 2 rfl
              have q3 : w10.cell? ⟨wr.heap.size, 3, none⟩ = some (.slice Ab (ops.yb i).length cb) := BOz.cell 3 rfl
              clear hw9 B9 hb9 hs9 hn9 hd10 ht10 hb89 hb10 BOz HD8 HB8 HO8 HC LAa HBO HRB hwO hsa HX g7 g8
              go_wp2_with fail
              refine hst.out.mono ?_
              rintro e w11 ⟨d', v0', v1', xv', rfl, hd', hD', ht', hx'⟩
              obtain ⟨B0', B1', e0', e1', rfl, _, _, _, _⟩ := ref_open hx'
              simp only [refC, refV] at hx' ⊢
              have LA10 := LAz.out.disk hD' ht' hx'
              have t0 : w11.cell? ⟨X, 0, none⟩ = some (Value.int .i64 d.sz) := LA10.bx.cell 0 rfl
              have z0 : w11.frozen? ⟨X, 0, none⟩ = false := LA10.bx.free 0
              obtain ⟨V0, hV0⟩ : ∃ Wz, w11.setCell ⟨X, 0, none⟩ (Value.int .i64 d'.sz) = Wz := ⟨_, rfl⟩
              have Q0 : LawAt w V0 w1.heap.size X d' v0' v1' d' (.agg #[Value.int .i64 d'.sz, Value.slice B0' d'.x0.length e0', Value.slice B1' d'.x1.length e1', Value.int .i64 d'.s0, Value.int .i64 d'.s1, Value.int .i64 (limD d'.ar d'.un), Value.bool d'.dn]) #[Value.int .i64 d'.sz, Value.slice A0 d.x0.length c0, Value.slice A1 d.x1.length c1, Value.int .i64 d.s0, Value.int .i64 d.s1, Value.int .i64 (limD d.ar d.un), Value.bool d.dn] := by rw [← hV0]; exact LA10.set 0 _
              have t1 : V0.cell? ⟨X, 1, none⟩ = some (Value.slice A0 d.x0.length c0) := Q0.bx.cell 1 rfl
              have z1 : V0.frozen? ⟨X, 1, none⟩ = false := Q0.bx.free 1
              obtain ⟨V1, hV1⟩ : ∃ Wz, V0.setCell ⟨X, 1, none⟩ (Value.slice B0' d'.x0.length e0') = Wz := ⟨_, rfl⟩
              have Q1 : LawAt w V1 w1.heap.size X d' v0' v1' d' (.agg #[Value.int .i64 d'.sz, Value.slice B0' d'.x0.length e0', Value.slice B1' d'.x1.length e1', Value.int .i64 d'.s0, Value.int .i64 d'.s1, Value.int .i64 (limD d'.ar d'.un), Value.bool d'.dn]) #[Value.int .i64 d'.sz, Value.slice B0' d'.x0.length e0', Value.slice A1 d.x1.length c1, Value.int .i64 d.s0, Value.int .i64 d.s1, Value.int .i64 (limD d.ar d.un), Value.bool d.dn] := by rw [← hV1]; exact Q0.set 1 _
              have t2 : V1.cell? ⟨X, 2, none⟩ = some (Value.slice A1 d.x1.length c1) := Q1.bx.cell 2 rfl
              have z2 : V1.frozen? ⟨X, 2, none⟩ = false := Q1.bx.free 2
              obtain ⟨V2, hV2⟩ : ∃ Wz, V1.setCell ⟨X, 2, none⟩ (Value.slice B1' d'.x1.length e1') = Wz := ⟨_, rfl⟩
              have Q2 : LawAt w V2 w1.heap.size X d' v0' v1' d' (.agg #[Value.int .i64 d'.sz, Value.slice B0' d'.x0.length e0', Value.slice B1' d'.x1.length e1', Value.int .i64 d'.s0, Value.int .i64 d'.s1, Value.int .i64 (limD d'.ar d'.un), Value.bool d'.dn]) #[Value.int .i64 d'.sz, Value.slice B0' d'.x0.length e0', Value.slice B1' d'.x1.length e1', Value.int .i64 d.s0, Value.int .i64 d.s1, Value.int .i64 (limD d.ar d.un), Value.bool d.dn] := by rw [← hV2]; exact Q1.set 2 _
              have t3 : V2.cell? ⟨X, 3, none⟩ = some (Value.int .i64 d.s0) := Q2.bx.cell 3 rfl
              have z3 : V2.frozen? ⟨X, 3, none⟩ = false := Q2.bx.free 3
              obtain ⟨V3, hV3⟩ : ∃ Wz, V2.setCell ⟨X, 3, none⟩ (Value.int .i64 d'.s0) = Wz := ⟨_, rfl⟩
              have Q3 : LawAt w V3 w1.heap.size X d' v0' v1' d' (.agg #[Value.int .i64 d'.sz, Value.slice B0' d'.x0.length e0', Value.slice B1' d'.x1.length e1', Value.int .i64 d'.s0, Value.int .i64 d'.s1, Value.int .i64 (limD d'.ar d'.un), Value.bool d'.dn]) #[Value.int .i64 d'.sz, Value.slice B0' d'.x0.length e0', Value.slice B1' d'.x1.length e1', Value.int .i64 d'.s0, Value.int .i64 d.s1, Value.int .i64 (limD d.ar d.un), Value.bool d.dn] := by rw [← hV3]; exact Q2.set 3 _
              have t4 : V3.cell? ⟨X, 4, none⟩ = some (Value.int .i64 d.s1) := Q3.bx.cell 4 rfl
              have z4 : V3.frozen? ⟨X, 4, none⟩ = false := Q3.bx.free 4
              obtain ⟨V4, hV4⟩ : ∃ Wz, V3.setCell ⟨X, 4, none⟩ (Value.int .i64 d'.s1) = Wz := ⟨_, rfl⟩
              have Q4 : LawAt w V4 w1.heap.size X d' v0' v1' d' (.agg #[Value.int .i64 d'.sz, Value.slice B0' d'.x0.length e0', Value.slice B1' d'.x1.length e1', Value.int .i64 d'.s0, Value.int .i64 d'.s1, Value.int .i64 (limD d'.ar d'.un), Value.bool d'.dn]) #[Value.int .i64 d'.sz, Value.slice B0' d'.x0.length e0', Value.slice B1' d'.x1.length e1', Value.int .i64 d'.s0, Value.int .i64 d'.s1, Value.int .i64 (limD d.ar d.un), Value.bool d.dn] := by rw [← hV4]; exact Q3.set 4 _
              have t5 : V4.cell? ⟨X, 5, none⟩ = some (Value.int .i64 (limD d.ar d.un)) := Q4.bx.cell 5 rfl
              have z5 : V4.frozen? ⟨X, 5, none⟩ = false := Q4.bx.free 5
              obtain ⟨V5, hV5⟩ : ∃ Wz, V4.setCell ⟨X, 5, none⟩ (Value.int .i64 (limD d'.ar d'.un)) = Wz := ⟨_, rfl⟩
              have Q5 : LawAt w V5 w1.heap.size X d' v0' v1' d' (.agg #[Value.int .i64 d'.sz, Value.slice B0' d'.x0.length e0', Value.slice B1' d'.x1.length e1', Value.int .i64 d'.s0, Value.int .i64 d'.s1, Value.int .i64 (limD d'.ar d'.un), Value.bool d'.dn]) #[Value.int .i64 d'.sz, Value.slice B0' d'.x0.length e0', Value.slice B1' d'.x1.length e1', Value.int .i64 d'.s0, Value.int .i64 d'.s1, Value.int .i64 (limD d'.ar d'.un), Value.bool d.dn] := by rw [← hV5]; exact Q4.set 5 _
              have t6 : V5.cell? ⟨X, 6, none⟩ = some (Value.bool d.dn) := Q5.bx.cell 6 rfl
              have z6 : V5.frozen? ⟨X, 6, none⟩ = false := Q5.bx.free 6
              obtain ⟨V6, hV6⟩ : ∃ Wz, V5.setCell ⟨X, 6, none⟩ (Value.bool d'.dn) = Wz := ⟨_, rfl⟩
              have Q6 : LawAt w V6 w1.heap.size X d' v0' v1' d' (.agg #[Value.int .i64 d'.sz, Value.slice B0' d'.x0.length e0', Value.slice B1' d'.x1.length e1', Value.int .i64 d'.s0, Value.int .i64 d'.s1, Value.int .i64 (limD d'.ar d'.un), Value.bool d'.dn]) #[Value.int .i64 d'.sz, Value.slice B0' d'.x0.length e0', Value.slice B1' d'.x1.length e1', Value.int .i64 d'.s0, Value.int .i64 d'.s1, Value.int .i64 (limD d'.ar d'.un), Value.bool d'.dn] := by rw [← hV6]; exact Q5.set 6 _
              have e0 : V6.cell? ⟨X, 0, none⟩ = some (Value.int .i64 d'.sz) := Q6.bx.cell 0 rfl
              have e1 : V6.cell? ⟨X, 1, none⟩ = some (Value.slice B0' d'.x0.length e0') := Q6.bx.cell 1 rfl
              have e2 : V6.cell? ⟨X, 2, none⟩ = some (Value.slice B1' d'.x1.length e1') := Q6.bx.cell 2 rfl
              have e3 : V6.cell? ⟨X, 3, none⟩ = some (Value.int .i64 d'.s0) := Q6.bx.cell 3 rfl
              have e4 : V6.cell? ⟨X, 4, none⟩ = some (Value.int .i64 d'.s1) := Q6.bx.cell 4 rfl
              have e5 : V6.cell? ⟨X, 5, none⟩ = some (Value.int .i64 (limD d'.ar d'.un)) := Q6.bx.cell 5 rfl
              have e6 : V6.cell? ⟨X, 6, none⟩ = some (Value.bool d'.dn) := Q6.bx.cell 6 rfl
              have HQ := Lib.hid Q6
              have hsm2 := Lib.hid (dsame_any d' hd' w1.heap.size v0' v1' [X] V6 Q6.at' _ Q6.ref)
              clear LA10 Q0 Q1 Q2 Q3 Q4 Q5 Q6 hx' ht' hD' hst LAz r0 r1 r2 r3 r4 r5 r6 q0 q1 q2 q3
              go_wp2_with fail
              refine hsm2.out.mono ?_
              rintro e w12 ⟨v0'', v1'', rfl, hd12, ht12⟩
              have HF : Hid (∃ d v0 v1 A0 A1 c0 c1, d.good ∧ LawAt w w12 w1.heap.size X d v0 v1 d (.agg (refC d A0 A1 c0 c1)) (refC d A0 A1 c0 c1)) := ⟨d', v0'', v1'', B0', B1', e0', e1', hd', HQ.out.alike hd12 ht12⟩
              clear hd12 ht12 HQ hsm2 e0 e1 e2 e3 e4 e5 e6
              go_wp2_with fail
              go_roundg (j - (i + 1))
              case measure => omega
              case rel => exact ⟨i + 1, by go_num, by omega, by omega, HF⟩
            · obtain ⟨d, v0, v1, A0, A1, c0, c1, hd, hLA⟩ := hI.out
              have HB := Lib.hid hLA.below
              clear hI hLA
              go_wp2_with fail
              go_ret
              exact ⟨rfl, HB.out⟩
    · have r3 : decide (40 < (len : Int)) = true := by simp; omega
      go_wp2_with fail
      go_ret
      exact ⟨rfl, HB1.out.trans (HB2.out.mono HB1.out.size)⟩
  · refine (new_bad sz (by omega) w1).mono ?_
    rintro e w2 ⟨rfl, rfl⟩
    rcases (by omega : sz < 1024 ∨ 4194304 < sz ∧ ¬ sz < 1024) with h | h
    · have r1 : decide (sz < 1024) = true := by simp; omega
      go_wp2_with fail
      go_ret
      exact ⟨rfl, HB1.out⟩
    · have r1 : decide (sz < 1024) = false := by simp; omega
      have r2 : decide (4194304 < sz) = true := by simp; omega
      go_wp2_with fail
      go_ret
      exact ⟨rfl, HB1.out⟩
end Go.Proofs.Ytddilmocngedjaa
