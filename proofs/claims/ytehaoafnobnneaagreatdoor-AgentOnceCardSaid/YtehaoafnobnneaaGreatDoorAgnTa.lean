/-
  An act of AgentOnce.
-/
import Derived.Test.YtehaoafnobnneaaGreatDoorAgnX
set_option linter.unusedVariables false
namespace Go.Agn
open Go Go.SL
structure AAct where
  Kind : Int
  N : Int
  Os : (SL Order1)
  Keep : (SL Int)
  B : (SL UInt8)
def zAAct : AAct := ⟨0, 0, ⟨none, [], 0⟩, ⟨none, [], 0⟩, ⟨none, [], 0⟩⟩
instance : Inhabited AAct := ⟨zAAct⟩
def encAAct (x : AAct) : List Value := [.int .i64 x.Kind, .int .i64 x.N, x.Os.v, x.Keep.v, x.B.v]
theorem oneAAct (x : AAct) : ∀ u ∈ encAAct x, u.oneCell' = true := fun u hu => by
  simp only [encAAct, List.mem_cons, List.not_mem_nil, or_false] at hu
  rcases hu with rfl | rfl | rfl | rfl | rfl <;> rfl
theorem oneAActs (xs : List AAct) : ∀ u ∈ xs.flatMap encAAct, u.oneCell' = true := fun u hu => by
  obtain ⟨b, _, hb⟩ := List.mem_flatMap.1 hu
  exact oneAAct b u hb

structure AActM (a : AAct) (ρ : Hp) : Prop where
  os : a.Os.ro encOrder1 4 ρ
  kp : a.Keep.ro encI 1 ρ
end Go.Agn
