/- slices.ContainsFunc at []pick.Told: the library's contract, laid at this program by the kit's tool. -/
import Derived.Test.YtcokifdgbfbonaaDoorKit
import Derived.Shelf.SlicesQ.IndexFunc
namespace Go.Proofs.YtcokifdgbfbonaaDoor
set_option linter.unusedVariables false
open Go Go.Proofs Go.Shelf
def Tryd.laysK6_ren : Go.Shelf.Ren := ⟨fun | 6 => 156 | n => n, fun | 22 => 63 | 23 => 68 | 25 => 167 | 3 => 3 | 0 => 0 | 4 => 4 | n => n, fun | n => n⟩
theorem Tryd.laysK6 : Go.Proofs.SlLaysH0.n6 Tryd.prog Tryd.laysK6_ren := {
  mixed := by kernel_rfl
  f6 := ⟨Tryd.f156.name, by decide, Tryd.func156.trans (congrArg some (by kernel_rfl))⟩
  t0 := Tryd.underlying0
  a0 := Tryd.isAgg0
  z0 := Tryd.sizeOf0
  v0 := Tryd.zeroValue0
  t3 := Tryd.underlying3
  a3 := Tryd.isAgg3
  z3 := Tryd.sizeOf3
  v3 := Tryd.zeroValue3
  t4 := Tryd.underlying4
  a4 := Tryd.isAgg4
  z4 := Tryd.sizeOf4
  v4 := Tryd.zeroValue4
  t22 := Tryd.underlying63
  a22 := Tryd.isAgg63
  z22 := Tryd.sizeOf63
  v22 := Tryd.zeroValue63
  t25 := Tryd.underlying167
  a25 := Tryd.isAgg167
  z25 := Tryd.sizeOf167
  v25 := Tryd.zeroValue167 }
def Tryd.laysK8_ren : Go.Shelf.Ren := ⟨fun | 8 => 136 | 6 => 156 | n => n, fun | 22 => 63 | 23 => 68 | 25 => 167 | 4 => 4 | 3 => 3 | 0 => 0 | n => n, fun | n => n⟩
theorem Tryd.laysK8 : Go.Proofs.SlLaysH0.n8 Tryd.prog Tryd.laysK8_ren := {
  mixed := by kernel_rfl
  f6 := ⟨Tryd.f156.name, by decide, Tryd.func156.trans (congrArg some (by kernel_rfl))⟩
  f8 := ⟨Tryd.f136.name, by decide, Tryd.func136.trans (congrArg some (by kernel_rfl))⟩
  t0 := Tryd.underlying0
  a0 := Tryd.isAgg0
  z0 := Tryd.sizeOf0
  v0 := Tryd.zeroValue0
  t3 := Tryd.underlying3
  a3 := Tryd.isAgg3
  z3 := Tryd.sizeOf3
  v3 := Tryd.zeroValue3
  t4 := Tryd.underlying4
  a4 := Tryd.isAgg4
  z4 := Tryd.sizeOf4
  v4 := Tryd.zeroValue4
  t22 := Tryd.underlying63
  a22 := Tryd.isAgg63
  z22 := Tryd.sizeOf63
  v22 := Tryd.zeroValue63
  t25 := Tryd.underlying167
  a25 := Tryd.isAgg167
  z25 := Tryd.sizeOf167
  v25 := Tryd.zeroValue167 }
end Go.Proofs.YtcokifdgbfbonaaDoor
