/- part -/
import Derived.Test.YtijldgggjioccaaGreatDoorSlEc
import Derived.Test.YtijldgggjioccaaGreatDoorProg
set_option maxRecDepth 100000
set_option linter.unusedVariables false
namespace Go.Mou.L
open Go Go.SL Go.Proofs Go.Shelf
def len64A_ren : Ren := ⟨fun | 129 => 229 | n => n, fun | 53 => 128 | 3 => 3 | 4 => 4 | 46 => 127 | 5 => 5 | 9 => 9 | n => n, fun | n => n⟩
theorem len64A : Go.Proofs.Lays.n129 Tryz.prog len64A_ren := {
  mixed := by kernel_rfl,
  f129 := Tryz.func229.trans (congrArg some (by kernel_rfl)),
  t3 := Tryz.underlying3,
  a3 := Tryz.isAgg3,
  z3 := Tryz.sizeOf3,
  v3 := Tryz.zeroValue3,
  t4 := Tryz.underlying4,
  a4 := Tryz.isAgg4,
  z4 := Tryz.sizeOf4,
  v4 := Tryz.zeroValue4,
  t5 := Tryz.underlying5,
  a5 := Tryz.isAgg5,
  z5 := Tryz.sizeOf5,
  v5 := Tryz.zeroValue5,
  t9 := Tryz.underlying9,
  a9 := Tryz.isAgg9,
  z9 := Tryz.sizeOf9,
  v9 := Tryz.zeroValue9,
  t46 := Tryz.underlying127,
  a46 := Tryz.isAgg127,
  z46 := Tryz.sizeOf127,
  v46 := Tryz.zeroValue127,
  t53 := Tryz.underlying128,
  a53 := Tryz.isAgg128,
  z53 := Tryz.sizeOf128,
  v53 := Tryz.zeroValue128 }
theorem len64 (x : Nat) (hx : x ≤ 18446744073709551615) (ρ : Hp) : Spec0 Tryz.prog 229 #[.int .u64 (x : Int)] ρ [] (fun v Γ' => v = .int .i64 (Lib.bitLen x : Int) ∧ Γ' = []) := len64_s len64A x hx ρ
end Go.Mou.L
