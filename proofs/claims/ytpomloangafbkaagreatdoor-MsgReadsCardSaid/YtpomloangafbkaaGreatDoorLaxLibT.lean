/- Contracts by content out of proved ones that read the library's tables. -/
import Derived.Test.YtpomloangafbkaaGreatDoorLm3
namespace Go.Proofs.YtpomloangafbkaaGreatDoor
set_option linter.unusedVariables false
set_option linter.unusedSimpArgs false
open Go.RowKit

section
variable {P : Program}
theorem meets_plainT {f : Nat} {F : Con} (hent : ∀ args w, (callFunc f args).run P w = .ok (.enter f args) w)
    (h : ∀ args q r, F args = some (q, r) → q → ∃ l : List AV, args = vals l ∧ l.all AV.plain = true ∧ (∀ v ∈ l, v.drop = v) ∧ r.box = none ∧ r.new = none ∧ r.val.bareAll = true ∧
      ∀ (us : Array Value) (w : World) (S : Nat → Nat → Prop), (∃ o b, TT P w o b) → us.size = l.length → (∀ (i : Nat) v, l[i]? = some v → ∃ u, us[i]? = some u ∧ RepV w S v u) →
        Calls P f us w fun e w' => ∃ v, e = .returned v ∧ Below w.heap.size w w' ∧ RepV w' (More S w) r.val v) : Meets P f F := by
  refine ⟨hent, ?_⟩
  intro args us w GE own d site q r hF hq hc hsite hs
  obtain ⟨l, rfl, hpl, hdr, hbox, hnew, hbare, hcall⟩ := h args q r hF hq
  obtain rfl : site = none := by
    rw [hbox] at hsite
    cases site with
    | none => rfl
    | some _ => cases hsite
  have hsz : us.size = l.length := by simpa [vals] using hc.size
  refine (hcall us w (stable P (entrySt (vals l)) GE) ⟨own.of, _, hc.tt⟩ hsz (fun i v hv => ?_)).mono ?_
  · have hi := (List.getElem?_eq_some_iff.1 hv).1
    have e : (entrySt (vals l)).tmps i = v := by simp [entrySt, vals_get, hv]
    have h1 := hc.tmps i
    rw [e] at h1
    rw [List.all_eq_true] at hpl
    have h2 := repV_of h1 (hpl v (List.mem_of_getElem? hv))
    rw [hdr v (List.mem_of_getElem? hv)] at h2
    refine ⟨us.getD i undef, ?_, h2⟩
    have hi' : i < us.size := by omega
    simp [Array.getD_eq_getD_getElem?, hi']
  · rintro e w' ⟨v, rfl, hb, hv⟩
    have htl : ∀ y, tells r.outs y = none := by
      intro y
      have : r.outs = r.val.cellsT := by simp [Res.outs, hbox, hnew]
      rw [this]; exact bare_tells hbare y
    have hxr : ∀ x y, (exitSt d none r).rows x y = .free := by
      intro x y
      simp only [exitSt]
      rw [retRows_at]
      simp [htl]
    have hxb : ∀ x, (exitSt d none r).boxes x = none := by
      intro x
      simp only [exitSt]
      rw [hnew]; simp
    refine ⟨⟨fun _ => 0, fun _ _ => .slice none 0 0, fun _ _ => 0, GE.bad⟩, v, rfl, ⟨fun s cs h => (by rw [hxb] at h; cases h), fun s cs s' cs' h => (by rw [hxb] at h; cases h), fun x y tip h => (by rw [hxr] at h; cases h), fun x y tip x' y' tip' g h => (by rw [hxr] at h; cases h), fun s cs x y tip h => (by rw [hxb] at h; cases h)⟩, ?_, fun i s h => (by cases h), pres_below hb, fun s cs h => (by rw [hxb] at h; cases h), fun x y tip g h => (by rw [hxr] at h; cases h), rfl, fun x y tip g o h => (by rw [hxr] at h; cases h)⟩
    rw [ret_bare hbare]
    refine bare_rep (hv.mono fun b o u hso hcell => ⟨⟨?_, fun s cs h => (by rw [hxb] at h; cases h), fun x y tip h => (by rw [hxr] at h; cases h)⟩, hcell⟩) hbare
    rcases hso with h1 | h1
    · exact h1.1
    · intro hbad
      have := hc.bad b o hbad
      omega

end
end Go.Proofs.YtpomloangafbkaaGreatDoor
