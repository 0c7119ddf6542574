/- A step of the disk and of the document's: by hand. -/
import Derived.Test.YtddilmocngedjaaDkH
namespace Go.Proofs.Ytddilmocngedjaa
set_option linter.unusedVariables false
set_option linter.unusedSimpArgs false
open Go Go.Proofs Go.RowKit Go.Lib
theorem disk_arg {w : World} {D : Nat} {d : DV} {v0 v1 : Value} {L : List Nat} {l : List AV} {v : AV} {u : Value} (h : RepV w (Apart D v0 v1 L) v u) (hb : v.bareAll = true) : Rep Try.prog (entrySt (.box d.av :: vals l)) (ghD D v0 v1) w v u :=
  bare_rep (h.mono fun b o u hb hu => ⟨disk_stable l hb.1 (fun e => absurd e hb.2.1) (fun e => absurd e hb.2.2.1), hu⟩) hb
theorem i64_rep {w : World} {S : Nat → Nat → Prop} {n : Int} (hn : i64ok n) : RepP w S (.int .i64 n) (.int .i64 n) :=
  RepP.int .i64 n (by have := hn.1; simp [IntKind.min, IntKind.signed, IntKind.bits]; omega) (by have := hn.2; simp [IntKind.max, IntKind.signed, IntKind.bits]; omega)
/-- on a disk in a real world -/
theorem app_any (d : DV) (hd : d.good) (f : Int) (hf : i64ok f) (yb : List UInt8) (D : Nat) (v0 v1 : Value) (L : List Nat) (w : World) (h : DiskAt w D d v0 v1) (ov : Value) (ho : RepP w (Apart D v0 v1 L) (.sl (bytesAV yb) .no) ov) :
    Calls Try.prog 26 #[.pointer (some ⟨D, 0, none⟩), .int .i64 f, ov] w fun e w' => ∃ v0' v1', e = .returned (.int .i64 (pE 1 f 0 (bytesAV yb) d.sz (bytesAV d.x0) d.s0 (bytesAV d.x1) d.s1 d.ar d.un d.dn)) ∧ DiskAt w' D (d.after 1 f 0 (bytesAV yb)) v0' v1' ∧ Touch w D v0 v1 w' v0' v1' := by
  have a0 := after_bytes hd (k := 1) (f := f) (n := 0) (ys := (bytesAV yb)) (isBytes_bytesAV yb) (by omega) 0 (.inl rfl)
  have a1 := after_bytes hd (k := 1) (f := f) (n := 0) (ys := (bytesAV yb)) (isBytes_bytesAV yb) (by omega) 1 (.inr rfl)
  have hav : (d.after 1 f 0 (bytesAV yb)).av = [.int .i64 d.sz, .sl (pX 0 1 f 0 (bytesAV yb) d.sz (bytesAV d.x0) d.s0 (bytesAV d.x1) d.s1 d.ar d.un d.dn) (.row 0 0 5), .int .i64 (pS 0 1 f 0 (bytesAV yb) d.sz (bytesAV d.x0) d.s0 (bytesAV d.x1) d.s1 d.ar d.un d.dn), .sl (pX 1 1 f 0 (bytesAV yb) d.sz (bytesAV d.x0) d.s0 (bytesAV d.x1) d.s1 d.ar d.un d.dn) (.row 0 0 5), .int .i64 (pS 1 1 f 0 (bytesAV yb) d.sz (bytesAV d.x0) d.s0 (bytesAV d.x1) d.s1 d.ar d.un d.dn), .bool (pA 1 d.ar), .int .i64 (pU 1 f 0 (bytesAV yb) d.sz (bytesAV d.x0) d.s0 (bytesAV d.x1) d.s1 d.ar d.un d.dn), .bool (pD 1 f 0 (bytesAV yb) d.sz (bytesAV d.x0) d.s0 (bytesAV d.x1) d.s1 d.ar d.un d.dn)] := by
    show [_, AV.sl (bytesAV (bytesL _)) _, _, AV.sl (bytesAV (bytesL _)) _, _, _, _, _] = _
    rw [← a0, ← a1]
    rfl
  refine (disk_call (d' := d.after 1 f 0 (bytesAV yb)) (l := [.int .i64 f, .sl (bytesAV yb) .no]) (val := .int .i64 (pE 1 f 0 (bytesAV yb) d.sz (bytesAV d.x0) d.s0 (bytesAV d.x1) d.s1 d.ar d.un d.dn)) (q := isBytes (bytesAV yb) ∧ d.good) meetsApp ?_ ⟨isBytes_bytesAV yb, hd⟩ rfl h rfl rfl ?_).mono ?_
  · rw [hav]
    simp only [vals, List.map_cons, List.map_nil, DV.av, appF]
    rw [if_pos ⟨trivial, trivial⟩]
    first | rfl | simp [pX, pS, pA, pU, pD, pE, DV.good]
  · intro i v hv
    match i, hv with
    | 0, hv => obtain rfl := (Option.some.inj hv).symm; exact ⟨_, rfl, disk_arg (L := L) (i64_rep hf) rfl⟩
    | 1, hv => obtain rfl := (Option.some.inj hv).symm; exact ⟨_, rfl, disk_arg (L := L) (ho) rfl⟩
    | i + 2, hv => simp at hv
  · rintro e w' ⟨v, v0', v1', rfl, h1, h2, GX, h3⟩
    refine ⟨v0', v1', ?_, h1, h2⟩
    have h4 : Rep Try.prog _ GX w' (.int .i64 (pE 1 f 0 (bytesAV yb) d.sz (bytesAV d.x0) d.s0 (bytesAV d.x1) d.s1 d.ar d.un d.dn)) v := h3
    rw [h4.inv_int.1]
/-- on a disk in a real world -/
theorem sync_any (d : DV) (hd : d.good) (f : Int) (hf : i64ok f) (D : Nat) (v0 v1 : Value) (L : List Nat) (w : World) (h : DiskAt w D d v0 v1)  :
    Calls Try.prog 21 #[.pointer (some ⟨D, 0, none⟩), .int .i64 f] w fun e w' => ∃ v0' v1', e = .returned (.int .i64 (pE 2 f 0 [] d.sz (bytesAV d.x0) d.s0 (bytesAV d.x1) d.s1 d.ar d.un d.dn)) ∧ DiskAt w' D (d.after 2 f 0 []) v0' v1' ∧ Touch w D v0 v1 w' v0' v1' := by
  have a0 := after_bytes hd (k := 2) (f := f) (n := 0) (ys := []) (isBytes_nil) (by omega) 0 (.inl rfl)
  have a1 := after_bytes hd (k := 2) (f := f) (n := 0) (ys := []) (isBytes_nil) (by omega) 1 (.inr rfl)
  have hav : (d.after 2 f 0 []).av = [.int .i64 d.sz, .sl (pX 0 2 f 0 [] d.sz (bytesAV d.x0) d.s0 (bytesAV d.x1) d.s1 d.ar d.un d.dn) (.row 0 0 5), .int .i64 (pS 0 2 f 0 [] d.sz (bytesAV d.x0) d.s0 (bytesAV d.x1) d.s1 d.ar d.un d.dn), .sl (pX 1 2 f 0 [] d.sz (bytesAV d.x0) d.s0 (bytesAV d.x1) d.s1 d.ar d.un d.dn) (.row 0 0 5), .int .i64 (pS 1 2 f 0 [] d.sz (bytesAV d.x0) d.s0 (bytesAV d.x1) d.s1 d.ar d.un d.dn), .bool (pA 2 d.ar), .int .i64 (pU 2 f 0 [] d.sz (bytesAV d.x0) d.s0 (bytesAV d.x1) d.s1 d.ar d.un d.dn), .bool (pD 2 f 0 [] d.sz (bytesAV d.x0) d.s0 (bytesAV d.x1) d.s1 d.ar d.un d.dn)] := by
    show [_, AV.sl (bytesAV (bytesL _)) _, _, AV.sl (bytesAV (bytesL _)) _, _, _, _, _] = _
    rw [← a0, ← a1]
    rfl
  refine (disk_call (d' := d.after 2 f 0 []) (l := [.int .i64 f]) (val := .int .i64 (pE 2 f 0 [] d.sz (bytesAV d.x0) d.s0 (bytesAV d.x1) d.s1 d.ar d.un d.dn)) (q := True) meetsSync ?_ trivial rfl h rfl rfl ?_).mono ?_
  · rw [hav]
    simp only [vals, List.map_cons, List.map_nil, DV.av, syncF]
    rw [if_pos ⟨trivial, trivial⟩]
    first | rfl | simp [pX, pS, pA, pU, pD, pE, DV.good]
  · intro i v hv
    match i, hv with
    | 0, hv => obtain rfl := (Option.some.inj hv).symm; exact ⟨_, rfl, disk_arg (L := L) (i64_rep hf) rfl⟩
    | i + 1, hv => simp at hv
  · rintro e w' ⟨v, v0', v1', rfl, h1, h2, GX, h3⟩
    refine ⟨v0', v1', ?_, h1, h2⟩
    have h4 : Rep Try.prog _ GX w' (.int .i64 (pE 2 f 0 [] d.sz (bytesAV d.x0) d.s0 (bytesAV d.x1) d.s1 d.ar d.un d.dn)) v := h3
    rw [h4.inv_int.1]
/-- on a disk in a real world -/
theorem trim_any (d : DV) (hd : d.good) (f n : Int) (hf : i64ok f) (hn : i64ok n) (D : Nat) (v0 v1 : Value) (L : List Nat) (w : World) (h : DiskAt w D d v0 v1)  :
    Calls Try.prog 24 #[.pointer (some ⟨D, 0, none⟩), .int .i64 f, .int .i64 n] w fun e w' => ∃ v0' v1', e = .returned (.int .i64 (pE 3 f n [] d.sz (bytesAV d.x0) d.s0 (bytesAV d.x1) d.s1 d.ar d.un d.dn)) ∧ DiskAt w' D (d.after 3 f n []) v0' v1' ∧ Touch w D v0 v1 w' v0' v1' := by
  have a0 := after_bytes hd (k := 3) (f := f) (n := n) (ys := []) (isBytes_nil) (hn.2) 0 (.inl rfl)
  have a1 := after_bytes hd (k := 3) (f := f) (n := n) (ys := []) (isBytes_nil) (hn.2) 1 (.inr rfl)
  have hav : (d.after 3 f n []).av = [.int .i64 d.sz, .sl (pX 0 3 f n [] d.sz (bytesAV d.x0) d.s0 (bytesAV d.x1) d.s1 d.ar d.un d.dn) (.row 0 0 5), .int .i64 (pS 0 3 f n [] d.sz (bytesAV d.x0) d.s0 (bytesAV d.x1) d.s1 d.ar d.un d.dn), .sl (pX 1 3 f n [] d.sz (bytesAV d.x0) d.s0 (bytesAV d.x1) d.s1 d.ar d.un d.dn) (.row 0 0 5), .int .i64 (pS 1 3 f n [] d.sz (bytesAV d.x0) d.s0 (bytesAV d.x1) d.s1 d.ar d.un d.dn), .bool (pA 3 d.ar), .int .i64 (pU 3 f n [] d.sz (bytesAV d.x0) d.s0 (bytesAV d.x1) d.s1 d.ar d.un d.dn), .bool (pD 3 f n [] d.sz (bytesAV d.x0) d.s0 (bytesAV d.x1) d.s1 d.ar d.un d.dn)] := by
    show [_, AV.sl (bytesAV (bytesL _)) _, _, AV.sl (bytesAV (bytesL _)) _, _, _, _, _] = _
    rw [← a0, ← a1]
    rfl
  refine (disk_call (d' := d.after 3 f n []) (l := [.int .i64 f, .int .i64 n]) (val := .int .i64 (pE 3 f n [] d.sz (bytesAV d.x0) d.s0 (bytesAV d.x1) d.s1 d.ar d.un d.dn)) (q := d.good) meetsTrim ?_ hd rfl h rfl rfl ?_).mono ?_
  · rw [hav]
    simp only [vals, List.map_cons, List.map_nil, DV.av, trimF]
    rw [if_pos ⟨trivial, trivial⟩]
    first | rfl | simp [pX, pS, pA, pU, pD, pE, DV.good]
  · intro i v hv
    match i, hv with
    | 0, hv => obtain rfl := (Option.some.inj hv).symm; exact ⟨_, rfl, disk_arg (L := L) (i64_rep hf) rfl⟩
    | 1, hv => obtain rfl := (Option.some.inj hv).symm; exact ⟨_, rfl, disk_arg (L := L) (i64_rep hn) rfl⟩
    | i + 2, hv => simp at hv
  · rintro e w' ⟨v, v0', v1', rfl, h1, h2, GX, h3⟩
    refine ⟨v0', v1', ?_, h1, h2⟩
    have h4 : Rep Try.prog _ GX w' (.int .i64 (pE 3 f n [] d.sz (bytesAV d.x0) d.s0 (bytesAV d.x1) d.s1 d.ar d.un d.dn)) v := h3
    rw [h4.inv_int.1]
/-- on a disk in a real world -/
theorem arm_any (d : DV) (hd : d.good) (n : Int) (hn : i64ok n) (D : Nat) (v0 v1 : Value) (L : List Nat) (w : World) (h : DiskAt w D d v0 v1)  :
    Calls Try.prog 25 #[.pointer (some ⟨D, 0, none⟩), .int .i64 n] w fun e w' => ∃ v0' v1', e = .returned (.tuple #[]) ∧ DiskAt w' D (d.after 4 0 n []) v0' v1' ∧ Touch w D v0 v1 w' v0' v1' := by
  have a0 := after_bytes hd (k := 4) (f := 0) (n := n) (ys := []) (isBytes_nil) (hn.2) 0 (.inl rfl)
  have a1 := after_bytes hd (k := 4) (f := 0) (n := n) (ys := []) (isBytes_nil) (hn.2) 1 (.inr rfl)
  have hav : (d.after 4 0 n []).av = [.int .i64 d.sz, .sl (pX 0 4 0 n [] d.sz (bytesAV d.x0) d.s0 (bytesAV d.x1) d.s1 d.ar d.un d.dn) (.row 0 0 5), .int .i64 (pS 0 4 0 n [] d.sz (bytesAV d.x0) d.s0 (bytesAV d.x1) d.s1 d.ar d.un d.dn), .sl (pX 1 4 0 n [] d.sz (bytesAV d.x0) d.s0 (bytesAV d.x1) d.s1 d.ar d.un d.dn) (.row 0 0 5), .int .i64 (pS 1 4 0 n [] d.sz (bytesAV d.x0) d.s0 (bytesAV d.x1) d.s1 d.ar d.un d.dn), .bool (pA 4 d.ar), .int .i64 (pU 4 0 n [] d.sz (bytesAV d.x0) d.s0 (bytesAV d.x1) d.s1 d.ar d.un d.dn), .bool (pD 4 0 n [] d.sz (bytesAV d.x0) d.s0 (bytesAV d.x1) d.s1 d.ar d.un d.dn)] := by
    show [_, AV.sl (bytesAV (bytesL _)) _, _, AV.sl (bytesAV (bytesL _)) _, _, _, _, _] = _
    rw [← a0, ← a1]
    rfl
  refine (disk_call (d' := d.after 4 0 n []) (l := [.int .i64 n]) (val := .tup []) (q := True) meetsArm ?_ trivial rfl h rfl rfl ?_).mono ?_
  · rw [hav]
    simp only [vals, List.map_cons, List.map_nil, DV.av, armF]
    rw [if_pos ⟨trivial, trivial⟩]
    first | rfl | simp [pX, pS, pA, pU, pD, pE, DV.good]
  · intro i v hv
    match i, hv with
    | 0, hv => obtain rfl := (Option.some.inj hv).symm; exact ⟨_, rfl, disk_arg (L := L) (i64_rep hn) rfl⟩
    | i + 1, hv => simp at hv
  · rintro e w' ⟨v, v0', v1', rfl, h1, h2, GX, h3⟩
    refine ⟨v0', v1', ?_, h1, h2⟩
    have h4 : Rep Try.prog _ GX w' (.tup []) v := h3
    obtain ⟨us, rfl, hs, _⟩ := h4
    have : us = #[] := Array.eq_empty_of_size_eq_zero hs
    rw [this]
theorem good_ref {d : DV} (hd : d.good) : rdOK d.sz (bytesAV d.x0) (bytesAV d.x1) d.s0 d.s1 (limD d.ar d.un) := by
  obtain ⟨h1, h2, h3, h4, h5, h6, h7, h8, h9, h10⟩ := hd
  refine ⟨h1, h2, h3, h4, h5, h6, h7, h8, h9, ?_, ?_⟩ <;> unfold limD <;> split <;> rename_i h <;> first | (have := h10 h; omega) | omega
theorem good_len {d : DV} (hd : d.good) : d.x0.length ≤ 4194304 ∧ d.x1.length ≤ 4194304 := by
  obtain ⟨h1, h2, h3, h4, h5, h6, h7, h8, h9, h10⟩ := hd
  rw [bytesAV_len, bytesAV_len] at h5
  omega
theorem dsame_any (d : DV) (hd : d.good) (D : Nat) (v0 v1 : Value) (L : List Nat) (w : World) (h : DiskAt w D d v0 v1) (xv : Value) (hx : RepV1 w (Apart D v0 v1 L) (.agg (refA d)) xv) :
    Calls Try.prog 23 #[.pointer (some ⟨D, 0, none⟩), xv] w fun e w' => ∃ v0' v1', e = .returned (.bool true) ∧ DiskAt w' D d v0' v1' ∧ Touch w D v0 v1 w' v0' v1' := by
  refine (disk_call (d' := d) (l := [.agg (refA d)]) (val := .bool true) (q := d.good ∧ d.sz = d.sz ∧ bytesAV d.x0 = bytesAV d.x0 ∧ bytesAV d.x1 = bytesAV d.x1 ∧ d.s0 = d.s0 ∧ d.s1 = d.s1 ∧ d.dn = d.dn) meetsSame13 ?_ ⟨hd, rfl, rfl, rfl, rfl, rfl, rfl⟩ rfl h rfl rfl ?_).mono ?_
  · simp only [vals, List.map_cons, List.map_nil, DV.av, refA, same13F]
    rw [if_pos ⟨trivial, trivial⟩]
    rfl
  · intro i v hv
    match i, hv with
    | 0, hv => obtain rfl := (Option.some.inj hv).symm; exact ⟨_, rfl, disk_arg (L := L) hx rfl⟩
    | i + 1, hv => simp at hv
  · rintro e w' ⟨v, v0', v1', rfl, h1, h2, GX, h3⟩
    refine ⟨v0', v1', ?_, h1, h2⟩
    have h4 : Rep Try.prog _ GX w' (.bool true) v := h3
    rw [h4.inv_bool]
/-- a result of two: the document's disk, and an error -/
theorem two_res {w : World} {S : Nat → Nat → Prop} {cs : List AV} {e : Int} {v : Value} (h : RepV w S (.tup [.agg cs, .int .i64 e]) v) : ∃ yv, v = .tuple #[yv, .int .i64 e] ∧ RepV1 w S (.agg cs) yv := by
  obtain ⟨us, rfl, hs, hc⟩ := h
  obtain ⟨u0, e0, p0⟩ := hc 0 _ rfl
  obtain ⟨u1, e1, p1⟩ := hc 1 _ rfl
  refine ⟨u0, ?_, p0⟩
  congr 1
  have hs : us.size = 2 := hs
  apply Array.ext_getElem?
  intro i
  match i with
  | 0 => rw [e0]; rfl
  | 1 => rw [e1]; have p : RepP w S (.int .i64 e) u1 := p1; cases p; rfl
  | i + 2 => rw [Array.getElem?_eq_none (by omega), Array.getElem?_eq_none (by show 2 ≤ i + 2; omega)]
theorem rapp_any (d : DV) (hd : d.good) (f : Int) (hf : i64ok f) (yb : List UInt8) (hy : yb.length ≤ 140737488355328) (bad : Nat → Nat → Prop) (w : World) (hb : ∀ b o, bad b o → b < w.heap.size) (xv : Value) (hx : RepV1 w (fun b o => ¬ bad b o) (.agg (refA d)) xv) (ov : Value) (ho : RepP w (fun b o => ¬ bad b o) (.sl (bytesAV yb) .no) ov) :
    Calls Try.prog 38 #[xv, .int .i64 f, ov] w fun e w' => ∃ yv, e = .returned (.tuple #[yv, .int .i64 (pE 1 f 0 (bytesAV yb) d.sz (bytesAV d.x0) d.s0 (bytesAV d.x1) d.s1 d.ar d.un d.dn)]) ∧ Below w.heap.size w w' ∧ RepV1 w' (fun b o => ¬ bad b o) (.agg (refA (d.after 1 f 0 (bytesAV yb)))) yv := by
  have a0 := after_bytes hd (k := 1) (f := f) (n := 0) (ys := bytesAV yb) (isBytes_bytesAV yb) (by omega) 0 (.inl rfl)
  have a1 := after_bytes hd (k := 1) (f := f) (n := 0) (ys := bytesAV yb) (isBytes_bytesAV yb) (by omega) 1 (.inr rfl)
  have hr := good_ref hd
  have hu : rN (limD d.ar d.un) (apM f d.dn d.sz (bytesAV d.x0).length (bytesAV d.x1).length (limD d.ar d.un) (bytesAV yb).length) = limD d.ar (unK d.un (apM f d.dn d.sz (bytesAV d.x0).length (bytesAV d.x1).length (limD d.ar d.un) (bytesAV yb).length)) := by
    refine rN_lim hd.2.2.2.2.2.2.2.2.2 _ fun e => ?_
    have a2 := (apM_eq f d.dn d.sz (bytesAV d.x0).length (bytesAV d.x1).length (limD d.ar d.un) (bytesAV yb).length).1.2
    have h10 := hd.2.2.2.2.2.2.2.2.2 e
    unfold apN at a2
    rw [e] at a2 ⊢
    unfold limD at a2 ⊢
    simp only [if_true, if_pos h10.1] at a2 ⊢
    omega
  have hra : (.agg (refA (d.after 1 f 0 (bytesAV yb))) : AV) = .agg [.int .i64 d.sz, .sl (apX 0 f d.dn d.sz (bytesAV d.x0).length (bytesAV d.x1).length (limD d.ar d.un) (bytesAV d.x0) (bytesAV yb)) .no, .sl (apX 1 f d.dn d.sz (bytesAV d.x0).length (bytesAV d.x1).length (limD d.ar d.un) (bytesAV d.x1) (bytesAV yb)) .no, .int .i64 d.s0, .int .i64 d.s1, .int .i64 (rN (limD d.ar d.un) (apM f d.dn d.sz (bytesAV d.x0).length (bytesAV d.x1).length (limD d.ar d.un) (bytesAV yb).length)), .bool (apD f d.dn d.sz (bytesAV d.x0).length (bytesAV d.x1).length (limD d.ar d.un) (bytesAV yb).length)] := by
    rw [hu]
    show AV.agg [_, AV.sl (bytesAV (bytesL _)) _, AV.sl (bytesAV (bytesL _)) _, _, _, _, _] = _
    rw [← a0, ← a1]
    rfl
  refine (plain_call meetsRapp (l := [.agg (refA d), .int .i64 f, .sl (bytesAV yb) .no]) (q := isBytes (bytesAV yb) ∧ (bytesAV yb).length ≤ 140737488355328 ∧ rdOK d.sz (bytesAV d.x0) (bytesAV d.x1) d.s0 d.s1 (limD d.ar d.un)) (val := .tup [.agg (refA (d.after 1 f 0 (bytesAV yb))), .int .i64 (pE 1 f 0 (bytesAV yb) d.sz (bytesAV d.x0) d.s0 (bytesAV d.x1) d.s1 d.ar d.un d.dn)]) bad hb (by rw [hra]; rfl) ⟨isBytes_bytesAV yb, by rw [bytesAV_len]; exact hy, hr⟩ rfl (by intro v hv; simp at hv; rcases hv with rfl | rfl | rfl <;> rfl) rfl ?_).mono ?_
  · intro i v hv
    match i, hv with
    | 0, hv => obtain rfl := (Option.some.inj hv).symm; exact ⟨_, rfl, hx⟩
    | 1, hv => obtain rfl := (Option.some.inj hv).symm; exact ⟨_, rfl, i64_rep hf⟩
    | 2, hv => obtain rfl := (Option.some.inj hv).symm; exact ⟨_, rfl, ho⟩
    | i + 3, hv => simp at hv
  · rintro e w' ⟨v, rfl, h1, h2⟩
    obtain ⟨yv, rfl, h3⟩ := two_res h2
    exact ⟨yv, rfl, h1, h3⟩
theorem rsync_any (d : DV) (hd : d.good) (f n : Int) (hf : i64ok f) (hn : i64ok n) (bad : Nat → Nat → Prop) (w : World) (hb : ∀ b o, bad b o → b < w.heap.size) (xv : Value) (hx : RepV1 w (fun b o => ¬ bad b o) (.agg (refA d)) xv) :
    Calls Try.prog 39 #[xv, .int .i64 f, .int .i64 n, .bool false] w fun e w' => ∃ yv, e = .returned (.tuple #[yv, .int .i64 (pE 2 f n [] d.sz (bytesAV d.x0) d.s0 (bytesAV d.x1) d.s1 d.ar d.un d.dn)]) ∧ Below w.heap.size w w' ∧ RepV1 w' (fun b o => ¬ bad b o) (.agg (refA (d.after 2 f n []))) yv := by
  have a0 := after_bytes hd (k := 2) (f := f) (n := n) (ys := []) isBytes_nil hn.2 0 (.inl rfl)
  have a1 := after_bytes hd (k := 2) (f := f) (n := n) (ys := []) isBytes_nil hn.2 1 (.inr rfl)
  have hr := good_ref hd
  have hu := @sy_lim (syGo f d.dn) d.ar d.un hd.2.2.2.2.2.2.2.2.2
  have hra : (.agg (refA (d.after 2 f n [])) : AV) = .agg [.int .i64 d.sz, .sl (bytesAV d.x0) .no, .sl (bytesAV d.x1) .no, .int .i64 (syS 0 f d.dn true (limD d.ar d.un) d.s0 (bytesAV d.x0).length), .int .i64 (syS 1 f d.dn true (limD d.ar d.un) d.s1 (bytesAV d.x1).length), .int .i64 (if syGo f d.dn then rUn (limD d.ar d.un) else limD d.ar d.un), .bool (syD (syGo f d.dn) true (limD d.ar d.un) d.dn)] := by
    rw [hu]
    show AV.agg [_, AV.sl (bytesAV (bytesL _)) _, AV.sl (bytesAV (bytesL _)) _, _, _, _, _] = _
    rw [← a0, ← a1]
    simp [pX, pS, pU, pD, pA, syS, syD, trX, trS, unit_lim, DV.after]
  have hre : pE 2 f n [] d.sz (bytesAV d.x0) d.s0 (bytesAV d.x1) d.s1 d.ar d.un d.dn = syE f d.dn true (limD d.ar d.un) := by
    simp [pE, syE, trE, unit_lim]
  refine (plain_call meetsRsy (l := [.agg (refA d), .int .i64 f, .int .i64 n, .bool false]) (val := .tup [.agg (refA (d.after 2 f n [])), .int .i64 (pE 2 f n [] d.sz (bytesAV d.x0) d.s0 (bytesAV d.x1) d.s1 d.ar d.un d.dn)]) bad hb (by rw [hra, hre]; rfl) hr rfl (by intro v hv; simp at hv; rcases hv with rfl | rfl | rfl | rfl <;> rfl) rfl ?_).mono ?_
  · intro i v hv
    match i, hv with
    | 0, hv => obtain rfl := (Option.some.inj hv).symm; exact ⟨_, rfl, hx⟩
    | 1, hv => obtain rfl := (Option.some.inj hv).symm; exact ⟨_, rfl, i64_rep hf⟩
    | 2, hv => obtain rfl := (Option.some.inj hv).symm; exact ⟨_, rfl, i64_rep hn⟩
    | 3, hv => obtain rfl := (Option.some.inj hv).symm; exact ⟨_, rfl, RepP.bool _⟩
    | i + 4, hv => simp at hv
  · rintro e w' ⟨v, rfl, h1, h2⟩
    obtain ⟨yv, rfl, h3⟩ := two_res h2
    exact ⟨yv, rfl, h1, h3⟩
theorem rtrim_any (d : DV) (hd : d.good) (f n : Int) (hf : i64ok f) (hn : i64ok n) (bad : Nat → Nat → Prop) (w : World) (hb : ∀ b o, bad b o → b < w.heap.size) (xv : Value) (hx : RepV1 w (fun b o => ¬ bad b o) (.agg (refA d)) xv) :
    Calls Try.prog 39 #[xv, .int .i64 f, .int .i64 n, .bool true] w fun e w' => ∃ yv, e = .returned (.tuple #[yv, .int .i64 (pE 3 f n [] d.sz (bytesAV d.x0) d.s0 (bytesAV d.x1) d.s1 d.ar d.un d.dn)]) ∧ Below w.heap.size w w' ∧ RepV1 w' (fun b o => ¬ bad b o) (.agg (refA (d.after 3 f n []))) yv := by
  have a0 := after_bytes hd (k := 3) (f := f) (n := n) (ys := []) isBytes_nil hn.2 0 (.inl rfl)
  have a1 := after_bytes hd (k := 3) (f := f) (n := n) (ys := []) isBytes_nil hn.2 1 (.inr rfl)
  have hr := good_ref hd
  have hu := @sy_lim (trGo f n d.dn (bytesAV d.x0) (bytesAV d.x1)) d.ar d.un hd.2.2.2.2.2.2.2.2.2
  have hra : (.agg (refA (d.after 3 f n [])) : AV) = .agg [.int .i64 d.sz, .sl (trX 0 f n d.dn true (limD d.ar d.un) (bytesAV d.x0) (bytesAV d.x1) (bytesAV d.x0)) .no, .sl (trX 1 f n d.dn true (limD d.ar d.un) (bytesAV d.x0) (bytesAV d.x1) (bytesAV d.x1)) .no, .int .i64 (trS 0 f n d.dn true (limD d.ar d.un) (bytesAV d.x0) (bytesAV d.x1) d.s0), .int .i64 (trS 1 f n d.dn true (limD d.ar d.un) (bytesAV d.x0) (bytesAV d.x1) d.s1), .int .i64 (if trGo f n d.dn (bytesAV d.x0) (bytesAV d.x1) then rUn (limD d.ar d.un) else limD d.ar d.un), .bool (syD (trGo f n d.dn (bytesAV d.x0) (bytesAV d.x1)) true (limD d.ar d.un) d.dn)] := by
    rw [hu]
    show AV.agg [_, AV.sl (bytesAV (bytesL _)) _, AV.sl (bytesAV (bytesL _)) _, _, _, _, _] = _
    rw [← a0, ← a1]
    simp [pX, pS, pU, pD, pA, syS, syD, trX, trS, unit_lim, DV.after]
  have hre : pE 3 f n [] d.sz (bytesAV d.x0) d.s0 (bytesAV d.x1) d.s1 d.ar d.un d.dn = trE f n d.dn true (limD d.ar d.un) (bytesAV d.x0) (bytesAV d.x1) := by
    simp [pE, syE, trE, unit_lim]
  refine (plain_call meetsRsy (l := [.agg (refA d), .int .i64 f, .int .i64 n, .bool true]) (val := .tup [.agg (refA (d.after 3 f n [])), .int .i64 (pE 3 f n [] d.sz (bytesAV d.x0) d.s0 (bytesAV d.x1) d.s1 d.ar d.un d.dn)]) bad hb (by rw [hra, hre]; rfl) hr rfl (by intro v hv; simp at hv; rcases hv with rfl | rfl | rfl | rfl <;> rfl) rfl ?_).mono ?_
  · intro i v hv
    match i, hv with
    | 0, hv => obtain rfl := (Option.some.inj hv).symm; exact ⟨_, rfl, hx⟩
    | 1, hv => obtain rfl := (Option.some.inj hv).symm; exact ⟨_, rfl, i64_rep hf⟩
    | 2, hv => obtain rfl := (Option.some.inj hv).symm; exact ⟨_, rfl, i64_rep hn⟩
    | 3, hv => obtain rfl := (Option.some.inj hv).symm; exact ⟨_, rfl, RepP.bool _⟩
    | i + 4, hv => simp at hv
  · rintro e w' ⟨v, rfl, h1, h2⟩
    obtain ⟨yv, rfl, h3⟩ := two_res h2
    exact ⟨yv, rfl, h1, h3⟩
end Go.Proofs.Ytddilmocngedjaa
