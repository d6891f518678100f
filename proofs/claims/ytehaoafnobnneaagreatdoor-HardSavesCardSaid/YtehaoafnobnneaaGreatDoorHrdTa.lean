/-
  An act of HardSaves.
-/
import Derived.Test.YtehaoafnobnneaaGreatDoorHrdPP
set_option linter.unusedVariables false
namespace Go.Hrd
open Go Go.SL
structure HAct where
  Kind : Int
  S : State1
  N : Int
  Keep : (SL Int)
  B : (SL UInt8)
def zHAct : HAct := ⟨0, zState1, 0, ⟨none, [], 0⟩, ⟨none, [], 0⟩⟩
instance : Inhabited HAct := ⟨zHAct⟩
def encHAct (x : HAct) : List Value := [.int .i64 x.Kind, .int .i64 x.S.Term, .int .i64 x.S.Vote, .int .i64 x.N, x.Keep.v, x.B.v]
theorem oneHAct (x : HAct) : ∀ u ∈ encHAct x, u.oneCell' = true := fun u hu => by
  simp only [encHAct, List.mem_cons, List.not_mem_nil, or_false] at hu
  rcases hu with rfl | rfl | rfl | rfl | rfl | rfl <;> rfl
theorem oneHActs (xs : List HAct) : ∀ u ∈ xs.flatMap encHAct, u.oneCell' = true := fun u hu => by
  obtain ⟨b, _, hb⟩ := List.mem_flatMap.1 hu
  exact oneHAct b u hb

structure HActM (a : HAct) (ρ : Hp) : Prop where
  kp : a.Keep.ro encI 1 ρ
  bb : a.B.ro encB 1 ρ
theorem HActM.mono {a : HAct} {ρ ρ' : Hp} (h : HActM a ρ) (l : ρ.le ρ') : HActM a ρ' := ⟨Ro.mono l h.kp, Ro.mono l h.bb⟩
end Go.Hrd
