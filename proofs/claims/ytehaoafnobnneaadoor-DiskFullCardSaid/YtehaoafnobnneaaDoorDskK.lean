/-
  Full: what fits is taken, what doesn't leaves the disk as it is. No program in sight.
-/
import Derived.Test.YtehaoafnobnneaaDoorDskG
import Derived.Test.YtehaoafnobnneaaDoorDskO
set_option linter.unusedVariables false
set_option linter.unusedSimpArgs false
namespace Go.Dsk
open Go Go.SL
abbrev nA : Nm := [97]
abbrev nB : Nm := [98]
abbrev nC : Nm := [99]
def ff1 (Z : List UInt8) : FV := [(nA, (Z, 0))]
def ff2 (Z W : List UInt8) : FV := [(nA, (Z, 0)), (nB, (W, 0))]
def ff3 (Z W : List UInt8) : FV := [(nA, (Z, 0)), (nB, (W, 0)), (nC, ([], 0))]
def ff4 (W : List UInt8) : FV := [(nB, (W, 0)), (nC, ([], 0))]
def ff5 (W : List UInt8) : FV := [(nC, (W, 0))]
theorem nm_b : nameB nB = true := by decide +kernel
theorem nm_a : nameB nA = true := by decide +kernel
theorem nm_c : nameB nC = true := by decide +kernel
theorem vok_ff {V : FV} (nd : (mkeys V).Nodup) (h0 : ∀ p ∈ V, p.2.2 = 0 ∧ p.1.length ≤ 32) (h1 : V.length ≤ 4096) (h2 : usedV V ≤ 1000000000000) : VOk V :=
  ⟨nd, fun p hp => by rw [(h0 p hp).1]; exact ⟨Int.le_refl _, by omega⟩, fun p hp => (h0 p hp).2, h1, h2⟩
theorem used1 (Z : List UInt8) : usedV (ff1 Z) = Z.length := by simp [usedV, ff1]
theorem used2 (Z W : List UInt8) : usedV (ff2 Z W) = Z.length + W.length := by simp [usedV, ff2]
theorem used3 (Z W : List UInt8) : usedV (ff3 Z W) = Z.length + W.length := by simp [usedV, ff3]
theorem used4 (W : List UInt8) : usedV (ff4 W) = W.length := by simp [usedV, ff4]
theorem used5 (W : List UInt8) : usedV (ff5 W) = W.length := by simp [usedV, ff5]
section
variable {Z W Y : List UInt8}
theorem ok1 (h : Z.length ≤ 3000) : VOk (ff1 Z) := vok_ff (by simp [mkeys, ff1]) (by simp [ff1]) (by simp [ff1]) (by rw [used1]; omega)
theorem ok2 (h : Z.length + W.length ≤ 3000) : VOk (ff2 Z W) := vok_ff (by simp [mkeys, ff2]) (by simp [ff2]) (by simp [ff2]) (by rw [used2]; omega)
theorem ok3 (h : Z.length + W.length ≤ 3000) : VOk (ff3 Z W) := vok_ff (by simp [mkeys, ff3]) (by simp [ff3]) (by simp [ff3]) (by rw [used3]; omega)
theorem ok4 (h : W.length ≤ 3000) : VOk (ff4 W) := vok_ff (by simp [mkeys, ff4]) (by simp [ff4]) (by simp [ff4]) (by rw [used4]; omega)
theorem ok5 (h : W.length ≤ 3000) : VOk (ff5 W) := vok_ff (by simp [mkeys, ff5]) (by simp [ff5]) (by simp [ff5]) (by rw [used5]; omega)
theorem app_yes {room : Int} {V : FV} {name : Nm} {more : List UInt8} (hn : nameB name = true) (h1 : (more.length : Int) ≤ room - (usedV V : Int)) (h2 : V.length < 4096) : appR room (-1) V name more = (0, mset V name ((mgetD V name zF).1 ++ more, (mgetD V name zF).2)) := by
  unfold appR
  rw [if_neg (by decide), if_neg (by rw [hn]; decide), if_neg (by
    simp only [Bool.or_eq_true, decide_eq_true_eq, Bool.and_eq_true, not_or]
    exact ⟨by omega, fun h => by omega⟩)]
theorem app_no {room : Int} {V : FV} {name : Nm} {more : List UInt8} (hn : nameB name = true) (h1 : room - (usedV V : Int) < (more.length : Int)) : appR room (-1) V name more = (31, V) := by
  unfold appR
  rw [if_neg (by decide), if_neg (by rw [hn]; decide), if_pos (by
    simp only [Bool.or_eq_true, decide_eq_true_eq]
    exact .inl (by omega))]
theorem full1 : appR ((Z.length : Int) + (W.length : Int)) (-1) [] nA Z = (0, ff1 Z) := app_yes nm_a (by simp [usedV]; omega) (by decide)
theorem full2 (h : Y.length = W.length + 1) : appR ((Z.length : Int) + (W.length : Int)) (-1) (ff1 Z) nB Y = (31, ff1 Z) := app_no nm_b (by rw [used1]; omega)
theorem full3 : appR ((Z.length : Int) + (W.length : Int)) (-1) (ff1 Z) nB W = (0, ff2 Z W) := app_yes nm_b (by rw [used1]; omega) (by simp [ff1])
theorem full4 : appR ((Z.length : Int) + (W.length : Int)) (-1) (ff2 Z W) nB [1] = (31, ff2 Z W) := app_no nm_b (by rw [used2]; simp)
theorem full5 : appR ((Z.length : Int) + (W.length : Int)) (-1) (ff2 Z W) nC [] = (0, ff3 Z W) := app_yes nm_c (by rw [used2]; simp) (by simp [ff2])
theorem full6 : remR (-1) (ff3 Z W) [nA] = (0, ff4 W) := rfl
theorem full7 : renR (-1) (ff4 W) nB nC = (0, ff5 W) := by
  unfold renR
  rw [if_neg (by decide), if_neg (by rw [nm_c, show mhas (ff4 W) nB = true from rfl]; decide)]
  rfl
end
end Go.Dsk
