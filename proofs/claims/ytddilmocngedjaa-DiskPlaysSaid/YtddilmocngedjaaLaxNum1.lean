/- Numbers in bytes: contracts by content. -/
import Derived.Test.YtddilmocngedjaaLaxArgs
import Derived.Test.YtddilmocngedjaaReadR
import Derived.Test.YtddilmocngedjaaBytes
namespace Go.Proofs.Ytddilmocngedjaa
set_option linter.unusedVariables false
set_option linter.unusedSimpArgs false
open Go.RowKit

theorem ts_u8 : tsize Try.prog 5 = 1 := by kernel_rfl

def numShortF : Con
  | [.val (.int .u64 v)] => some (True, ⟨.sl (bytesAV (short v.toNat)) (.row 0 0 5), none, none⟩)
  | _ => none
theorem row_bytes {w w' : World} {S : Nat → Nat → Prop} {x : Value} {l : List UInt8} (h : OwnB w' w.heap.size x l) (hb : Below w.heap.size w w') :
    ∃ v, Ending.returned x = .returned v ∧ Below w.heap.size w w' ∧ ∃ zs, w'.ownsRow w.heap.size 5 (tsize Try.prog 5) v (bytesAV l).length zs ∧ FL w' (More S w) (tsize Try.prog 5) (bytesAV l) zs := by
  rw [ts_u8, length_bytesAV]
  exact ⟨x, rfl, hb, _, h, FL_bytes l⟩
theorem flat_bytes (l : List UInt8) : ∀ x ∈ bytesAV l, x.cells.all AV.flatCell = true := by
  intro x hx
  obtain ⟨b, _, rfl⟩ := List.mem_map.1 hx
  rfl
theorem meetsNumShort : Meets Try.prog 50 numShortF := by
  refine meets_row Try.call50 ?_
  intro args q r hF hq
  unfold numShortF at hF
  split at hF
  · rename_i v
    cases hF
    refine ⟨[.int .u64 v], _, _, rfl, rfl, fun x hx => (by simp at hx; subst hx; rfl), rfl, by rw [ts_u8]; omega, flat_bytes _, ?_⟩
    intro us w S hs h
    obtain ⟨u, rfl, hu⟩ := one_arg hs h
    obtain ⟨rfl, h0, h1⟩ := repV_u64 hu
    refine (short_any v w h0 h1).mono ?_
    rintro e w' ⟨x, rfl, ho, hb⟩
    exact row_bytes ho hb
  · cases hF

def numBytesF : Con
  | [.val (.int .u64 v), .val (.int .i64 n)] => some (True, ⟨.sl (bytesAV (bytesOf v (cap8 n))) (.row 0 0 5), none, none⟩)
  | _ => none
theorem meetsNumBytes : Meets Try.prog 52 numBytesF := by
  refine meets_row Try.call52 ?_
  intro args q r hF hq
  unfold numBytesF at hF
  split at hF
  · rename_i v n
    cases hF
    refine ⟨[.int .u64 v, .int .i64 n], _, _, rfl, rfl, fun x hx => (by simp at hx; rcases hx with rfl | rfl <;> rfl), rfl, by rw [ts_u8]; omega, flat_bytes _, ?_⟩
    intro us w S hs h
    obtain ⟨u, u', rfl, hu, hu'⟩ := two_args hs h
    obtain ⟨rfl, h0, h1⟩ := repV_u64 hu
    obtain ⟨rfl, h2, h3⟩ := repV_i64 hu'
    refine (numBytes_any v n w h0 h1 h2 h3).mono ?_
    rintro e w' ⟨x, rfl, ho, hb⟩
    exact row_bytes ho hb
  · cases hF

theorem repV_bytes {w : World} {S : Nat → Nat → Prop} {l : List UInt8} {o : Own} {u : Value} (h : RepV w S (.sl (bytesAV l) o) u) : ∃ A c, u = .slice A l.length c ∧ l.length ≤ c ∧ c ≤ 9223372036854775807 ∧ Rd w w.heap.size A (l.map bv) := rd_of (h : RepP w S (.sl (bytesAV l) o) u)
theorem rsRep (w : World) (S : Nat → Nat → Prop) (l : List UInt8) : RepV w S (.tup [.int .u64 ((rShort l).1 : Int), .int .i64 ((rShort l).2.1 : Int), .int .i64 ((rShort l).2.2 : Int)]) (rsVal (rShort l)) := by
  have h1 := rShort_range l
  have h3 : (rShort l).2.2 ≤ 20 := by
    have key : ∀ (f i acc : Nat) (l : List UInt8), (rs f i acc l).2.2 ≤ 20 := by
      intro f
      induction f with
      | zero => intro i acc l; unfold rs; simp
      | succ f ih =>
        intro i acc l
        cases l with
        | nil => simp [rs]
        | cons x l =>
          simp only [rs]
          split
          · simp
          · split
            · split <;> simp
            · exact ih _ _ _
    exact key 10 0 0 l
  have := k_u64; have := k_i64
  refine ⟨_, rfl, rfl, fun i c hc => ?_⟩
  match i, hc with
  | 0, hc => simp at hc; subst hc; exact ⟨_, rfl, (RepP.int _ _ (by omega) (by omega) : RepP w S _ _)⟩
  | 1, hc => simp at hc; subst hc; exact ⟨_, rfl, (RepP.int _ _ (by omega) (by omega) : RepP w S _ _)⟩
  | 2, hc => simp at hc; subst hc; exact ⟨_, rfl, (RepP.int _ _ (by omega) (by omega) : RepP w S _ _)⟩
  | i + 3, hc => simp at hc
def readShortF : Con
  | [.val (.sl xs .no)] => some (isBytes xs, ⟨.tup [.int .u64 ((rShort (bytesL xs)).1 : Int), .int .i64 ((rShort (bytesL xs)).2.1 : Int), .int .i64 ((rShort (bytesL xs)).2.2 : Int)], none, none⟩)
  | _ => none
theorem meetsReadShort : Meets Try.prog 56 readShortF := by
  refine meets_plain Try.call56 ?_
  intro args q r hF hq
  unfold readShortF at hF
  split at hF
  · rename_i xs
    cases hF
    obtain ⟨l, rfl⟩ := hq.get
    rw [bytesL_bytesAV]
    refine ⟨[.sl (bytesAV l) .no], rfl, rfl, fun x hx => (by simp at hx; subst hx; rfl), rfl, rfl, rfl, ?_⟩
    intro us w S hs h
    obtain ⟨u, rfl, hu⟩ := one_arg hs h
    obtain ⟨A, c, rfl, h1, h2, h3⟩ := repV_bytes hu
    refine (readShort_any l A c _ w h3 h1 h2).mono ?_
    rintro e w' ⟨rfl, rfl⟩
    exact ⟨_, rfl, Below.refl _ _, rsRep _ _ _⟩
  · cases hF
theorem meetsRefReadShort : Meets Try.prog 47 readShortF := by
  refine meets_plain Try.call47 ?_
  intro args q r hF hq
  unfold readShortF at hF
  split at hF
  · rename_i xs
    cases hF
    obtain ⟨l, rfl⟩ := hq.get
    rw [bytesL_bytesAV]
    refine ⟨[.sl (bytesAV l) .no], rfl, rfl, fun x hx => (by simp at hx; subst hx; rfl), rfl, rfl, rfl, ?_⟩
    intro us w S hs h
    obtain ⟨u, rfl, hu⟩ := one_arg hs h
    obtain ⟨A, c, rfl, h1, h2, h3⟩ := repV_bytes hu
    refine (refReadShort_any l A c _ w h3 h1 h2).mono ?_
    rintro e w' ⟨rfl, rfl⟩
    exact ⟨_, rfl, Below.refl _ _, rsRep _ _ _⟩
  · cases hF
end Go.Proofs.Ytddilmocngedjaa
