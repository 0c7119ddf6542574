/- The example of the sums. -/
import Derived.Test.YtddilmocngedjaaSum
namespace Go.Proofs.Ytddilmocngedjaa
set_option linter.unusedVariables false
open Go.RowKit
set_option maxRecDepth 20000 in
theorem anchor02 (w : World) : Calls Try.prog 9 #[] w fun e w' => e = .returned (.bool true) ∧ Below w.heap.size w w' := by
  have k1 := Lib.hid crc_check
  have k2 := Lib.hid crc_nil
  have kc := fun (w : World) (C : Array Value) (n c : Nat) => Lib.run_convert_bytes_const (P := Try.prog) w 22 5 C n c Try.underlying22 Try.underlying5
  go_enter Try.func9, Try.ntmps9
  go_wp2_with (fail)
  obtain ⟨V, hV, hr, hbV⟩ := new_marked w #[.int .u8 49, .int .u8 50, .int .u8 51, .int .u8 52, .int .u8 53, .int .u8 54, .int .u8 55, .int .u8 56, .int .u8 57] 5 (9, 10)
  have hs : V.heap.size = w.heap.size + 1 := by rw [hV]; simp
  rw [← hV, ← hs]
  have hV' := Lib.hid hV
  clear hV
  refine (of_one [49, 50, 51, 52, 53, 54, 55, 56, 57] V (w.heap.size + 1) _ 9 9 (some ⟨w.heap.size, 0, none⟩) _ rfl hr (by omega) (by omega) (by go_grown) (cell_last1 _ _ _ _ _ rfl)).mono ?_
  rintro e w2 ⟨rfl, rfl⟩
  rw [k1.out]
  go_wp2_with (fail)
  refine (of_any [] 0 0 0 none _ rfl (RdParts.nil _ _ _) (by omega)).mono ?_
  rintro e w2 ⟨rfl, rfl⟩
  rw [show ([] : List (List UInt8)).flatten = [] from rfl, k2.out]
  go_wp2_with (fail)
  go_ret
  exact ⟨rfl, by go_grown⟩
end Go.Proofs.Ytddilmocngedjaa
