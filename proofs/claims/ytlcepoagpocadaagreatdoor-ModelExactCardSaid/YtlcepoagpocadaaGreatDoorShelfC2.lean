import Derived.Shelf.SlMaps.Clone
import Derived.Test.YtlcepoagpocadaaGreatDoorProg
set_option linter.unusedVariables false
/- maps.Clone of the library at this program. -/
namespace Go.Proofs
open Go.Shelf
def Tryz.cloneC_ren : Go.Shelf.Ren := ⟨fun | 5 => 89 | 7 => 117 | n => n, fun | 4 => 4 | 20 => 20 | 23 => 106 | 25 => 3 | 3 => 123 | n => n, fun | n => n⟩
theorem Tryz.cloneC : Go.Proofs.SlLaysW.n5 Tryz.prog Tryz.cloneC_ren := {
  mixed := by kernel_rfl
  f5 := ⟨Tryz.f89.name, by decide +kernel, Tryz.func89.trans (congrArg some (by kernel_rfl))⟩
  f7 := Tryz.func117.trans (congrArg some (by kernel_rfl))
  t4 := Tryz.underlying4
  a4 := Tryz.isAgg4
  z4 := Tryz.sizeOf4
  v4 := Tryz.zeroValue4
  t20 := Tryz.underlying20
  a20 := Tryz.isAgg20
  z20 := Tryz.sizeOf20
  v20 := Tryz.zeroValue20
  t23 := Tryz.underlying106
  a23 := Tryz.isAgg106
  z23 := Tryz.sizeOf106
  v23 := Tryz.zeroValue106 }
end Go.Proofs
