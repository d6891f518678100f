/-
  The engine: math/bits.Len64: the kit's contract in the engine's words. Own work.
-/
import Derived.Test.YtehaoafnobnneaaGreatDoorSlY
import Derived.Shelf.Strconv.Itoa0
set_option linter.unusedVariables false
namespace Go.SL
open Go Go.Shelf Go.Proofs
theorem len64_s {P : Program} {ρk : Ren} (L : Lays.n129 P ρk) (x : Nat) (hx : x ≤ 18446744073709551615) (ρ : Hp) :
    Spec0 P (ρk.f 129) #[.int .u64 (x : Int)] ρ [] (fun v Γ' => v = .int .i64 (Lib.bitLen x : Int) ∧ Γ' = []) := by
  intro E Δ w sa
  refine (Any.bits_Len64 L (x : Int) w (by omega) (by omega)).mono ?_
  rintro e w' ⟨rfl, rfl⟩
  exact ⟨ρ, .int .i64 (Lib.bitLen x : Int), [], Hp.le_refl _, ⟨rfl, rfl, rfl⟩, by simp, sa⟩
end Go.SL
