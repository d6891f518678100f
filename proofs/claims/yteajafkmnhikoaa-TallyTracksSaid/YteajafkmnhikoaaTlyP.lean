/-
  Package tally and its reference, in plain words. No program in sight.
-/
import Derived.Test.YteajafkmnhikoaaTlyT
import Derived.Test.YteajafkmnhikoaaSlS
import Derived.Test.YteajafkmnhikoaaSlT
set_option linter.unusedVariables false
set_option linter.unusedSimpArgs false
namespace Go.Tly
open Go Go.SL
theorem foldl_take {α β : Type} [Inhabited α] (f : β → α → β) (b : β) (l : List α) (k : Nat) (hk : k < l.length) : (l.take (k + 1)).foldl f b = f ((l.take k).foldl f b) (l.getD k default) := by
  rw [take_succ_getD l k hk, List.foldl_append]; rfl
/-! ### Commit -/
def hasStep (id : Int) (n : Int) (m : Mtch) : Int := if (decide (m.ID = id) && decide (n < m.Index)) = true then m.Index else n
def hasF (ms : List Mtch) (id : Int) : Int := ms.foldl (hasStep id) 0
def enStep (ms : List Mtch) (index : Int) (n : Int) (v : Int) : Int := if decide (index ≤ hasF ms v) = true then n + 2 else n
def enN (vs : List Int) (ms : List Mtch) (index : Int) : Int := vs.foldl (enStep ms index) 0
def enoughF (vs : List Int) (ms : List Mtch) (index : Int) : Bool := decide ((vs.length : Int) < enN vs ms index)
def bestStep (vs : List Int) (ms : List Mtch) (b : Int) (v : Int) : Int := if (decide (b < hasF ms v) && enoughF vs ms (hasF ms v)) = true then hasF ms v else b
def refCommitF (vs : List Int) (ms : List Mtch) : Int := vs.foldl (bestStep vs ms) 0
abbrev MM := List (Int × Int)
def mx (a b : Int) : Int := if b > a then b else a
def mostStep (a : MM) (m : Mtch) : MM := mset a m.ID (mx (mgetD a m.ID 0) m.Index)
def mostF (ms : List Mtch) : MM := ms.foldl mostStep []
def valsF (vs : List Int) (ms : List Mtch) : List Int := vs.map fun v => mgetD (mostF ms) v 0
def commitF (vs : List Int) (ms : List Mtch) : Int := if vs.length = 0 then 0 else (sortI (valsF vs ms)).getD ((vs.length - 1) / 2) 0
theorem en_le (ms : List Mtch) (index : Int) : ∀ (l : List Int) (n : Int), n ≤ l.foldl (enStep ms index) n ∧ l.foldl (enStep ms index) n ≤ n + 2 * l.length
  | [], n => by simp
  | v :: l, n => by
    have h1 : n ≤ enStep ms index n v ∧ enStep ms index n v ≤ n + 2 := by unfold enStep; split <;> omega
    have h2 := en_le ms index l (enStep ms index n v)
    simp only [List.foldl_cons, List.length_cons]
    omega
end Go.Tly
