/-
  What the walk of AgentOnce wants. No program in sight.
-/
import Derived.Test.YtehaoafnobnneaaGreatDoorAgnW
set_option linter.unusedVariables false
set_option linter.unusedSimpArgs false
namespace Go.Agn
open Go Go.SL Go.Mou Go.Dsk Go.Sm Go.Hrd
theorem spec0_mn {P : Program} {f : FuncId} {vs : Array Value} {ρ : Hp} {L : List Asn} {R R' : Value → List Asn → Prop} (h : Spec0 P f vs ρ L R) (hm : ∀ v Γ', R v Γ' → R' v Γ') : Spec0 P f vs ρ L R' := fun E Δ w s => by
  refine (h E Δ w s).mono ?_
  rintro e w' ⟨ρ', v, Γ', l, ⟨h1, h2⟩, h3, s'⟩
  exact ⟨ρ', v, Γ', l, ⟨h1, hm _ _ h2⟩, h3, s'⟩
theorem HI.ok {V : FV} {calls : Int} {k : Kept1} {dn : Bool} {t : Order1} (h : HI V calls k dn t) : VOk V ∧ usedV V ≤ 2000 ∧ KOk k := by
  obtain ⟨-, ⟨-, -, h3⟩ | ⟨-, -, h3, -, -, h6⟩⟩ := h
  · exact ⟨h3.ok, by have := h3.used.1; omega, h3.kk⟩
  · exact ⟨h3.ok, h3.us, h6⟩
theorem HI.same {V V' : FV} {calls : Int} {k : Kept1} {dn : Bool} {t : Order1} (h : HI V calls k dn t) (e : V' = V) : HI V' calls k dn t := by rw [e]; exact h
theorem cb_stop {n : Int} (h : n ≤ 9223372036854775807) : Cb (if (-1) > n then (-1) else n) := by
  by_cases h1 : (-1) > n
  · rw [if_pos h1]; exact ⟨by omega, by omega⟩
  · rw [if_neg h1]; exact ⟨by omega, h⟩
theorem EI.up {V : FV} {k k2 : Kept1} {dn : Bool} {t : Order1} (h : EI V k k2 dn t) (hd : dn = false) : AI V k := by
  rcases h with ⟨-, h, -⟩ | ⟨h, -, -⟩
  · exact h
  · rw [hd] at h; cases h
theorem has_of_dn {k : Kept1} {B : List Int} {id ep : Int} (h : OF k B id ep) (hd : k.done ≠ 0) : decide (k.done ∈ B) = true := decide_eq_true (h.dn hd)
end Go.Agn
