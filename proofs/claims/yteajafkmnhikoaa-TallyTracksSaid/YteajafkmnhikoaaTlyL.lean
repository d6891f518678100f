/-
  Layings of the kit's shelf at this program.
-/
import Derived.Test.YteajafkmnhikoaaSlS
import Derived.Test.YteajafkmnhikoaaProg
set_option maxRecDepth 100000
set_option linter.unusedVariables false
namespace Go.Tly.L
open Go Go.SL Go.Proofs Go.Shelf

def delP_ren : Ren := ⟨fun | 5 => 44 | n => n, fun | 23 => 114 | 26 => 3 | 24 => 118 | 27 => 120 | 0 => 0 | 4 => 4 | n => n, fun | n => n⟩
theorem delP : Go.Proofs.SlLaysDf.n5 Try.prog delP_ren := {
  mixed := by kernel_rfl,
  f5 := ⟨Try.f44.name, by decide, Try.func44.trans (congrArg some (by kernel_rfl))⟩,
  t0 := Try.underlying0,
  a0 := Try.isAgg0,
  z0 := Try.sizeOf0,
  v0 := Try.zeroValue0,
  t4 := Try.underlying4,
  a4 := Try.isAgg4,
  z4 := Try.sizeOf4,
  v4 := Try.zeroValue4,
  t23 := Try.underlying114,
  a23 := Try.isAgg114,
  z23 := Try.sizeOf114,
  v23 := Try.zeroValue114,
  a24 := Try.isAgg118,
  z24 := Try.sizeOf118,
  a26 := Try.isAgg3,
  z26 := Try.sizeOf3,
  t27 := Try.underlying120,
  a27 := Try.isAgg120,
  z27 := Try.sizeOf120,
  v27 := Try.zeroValue120 }

end Go.Tly.L
