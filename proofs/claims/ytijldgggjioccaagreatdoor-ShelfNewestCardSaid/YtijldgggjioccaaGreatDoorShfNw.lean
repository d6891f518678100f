/- part -/
import Derived.Test.YtijldgggjioccaaGreatDoorShfS
import Derived.Test.YtijldgggjioccaaGreatDoorShfN
import Derived.Test.YtijldgggjioccaaGreatDoorShfRq
set_option linter.unusedVariables false
set_option linter.unusedSimpArgs false
namespace Go.Shf
open Go Go.SL Go.Mou Go.Dsk Go.Sm Go.Hrd
theorem len_app {room calls : Int} {V : FV} {o : Nm} {b : List UInt8} : (appR room calls V o b).2.length ≤ V.length + 1 := by
  unfold appR
  split
  · exact Nat.le_succ _
  · split
    · exact Nat.le_succ _
    · split
      · exact Nat.le_succ _
      · have e8 : ∀ x, (mset V o x).length = (mkeys (mset V o x)).length := fun x => by simp [mkeys]
        rw [e8, mkeys_set]
        by_cases q : o ∈ mkeys V
        · rw [if_pos q]; simp [mkeys]
        · rw [if_neg q]; simp [mkeys]
structure NI (V L : FV) (k : Nat) : Prop where
  al : Go.Hrd.Alike 100000 (-1) false 0 V L (1000 * k)
  ln : V.length ≤ k
theorem ni_nil : NI [] [] 0 := ⟨⟨sim_nil_, rfl, (fun h => by cases h), by decide, ⟨vok_nil, (show (0 : Nat) ≤ 1000 * 0 by decide), (by decide)⟩, by decide⟩, Nat.le_refl _⟩
theorem NI.next {V L : FV} {k : Nat} (h : NI V L k) (hk : k < 8) {o : Nm} {b : List UInt8} (hb : b.length ≤ 1000) : NI (appR 100000 (-1) V o b).2 (appI 100000 (-1) L o b).2 (k + 1) := by
  have h1 := al_app (o := o) (b := b) h.al (by omega); have h2 := len_app (room := 100000) (calls := -1) (V := V) (o := o) (b := b); have h3 := h.ln; exact ⟨al_more h1 (by omega) (by omega), by omega⟩
theorem kept_is {V : FV} {f : Nm} {e i : Int} {x : PSnap} (hp : parseX (mgetD V f zF).1 = (e, x)) (hi : i = x.ix) (he : e = 0) : keptB V f = decide (f = nameX i.toNat) := by
  unfold keptB; rw [hp, hi, decide_eq_true he, Bool.true_and]
theorem kept_not {V : FV} {f : Nm} {e : Int} {x : PSnap} (hp : parseX (mgetD V f zF).1 = (e, x)) (he : ¬ e = 0) : keptB V f = false := by
  unfold keptB; rw [hp, decide_eq_false he, Bool.false_and]
end Go.Shf
