/- part -/
import Derived.Test.YtijldgggjioccaaGreatDoorShfMb
set_option linter.unusedVariables false
namespace Go.Shf
open Go Go.SL
structure SAct where
  Kind : Int
  X : Snap1
  N : Int
  Keep : (SL Int)
  Name : (List UInt8)
  B : (SL UInt8)
def zSAct : SAct := ⟨0, zSnap1, 0, ⟨none, [], 0⟩, [], ⟨none, [], 0⟩⟩
instance : Inhabited SAct := ⟨zSAct⟩
def encSAct (x : SAct) : List Value := [.int .i64 x.Kind, .int .i64 x.X.Mark.Index, .int .i64 x.X.Mark.Term, x.X.Conf.v, x.X.Body.v, .int .i64 x.N, x.Keep.v, (strB x.Name), x.B.v]
theorem oneSAct (x : SAct) : ∀ u ∈ encSAct x, u.oneCell' = true := fun u hu => by
  simp only [encSAct, List.mem_cons, List.not_mem_nil, or_false] at hu
  rcases hu with rfl | rfl | rfl | rfl | rfl | rfl | rfl | rfl | rfl <;> rfl
structure SActM (a : SAct) (ρ : Hp) : Prop where
  kp : a.Keep.ro encI 1 ρ
  bb : a.B.ro encB 1 ρ
  x : RoS a.X ρ
end Go.Shf
