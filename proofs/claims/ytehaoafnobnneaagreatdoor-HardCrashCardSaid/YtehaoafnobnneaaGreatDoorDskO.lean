/-
  Files taken away, by name, each once. No program in sight.
-/
import Derived.Test.YtehaoafnobnneaaGreatDoorDskQ
set_option linter.unusedVariables false
set_option linter.unusedSimpArgs false
namespace Go.Dsk
open Go Go.SL
theorem once_eq (names : List Nm) : decide ((Lib.compact (sortS names)).length < names.length) = !onceB names := by
  have h1 := compact_len (sortS names)
  have h2 := compact_nodup (sortS_le names)
  rw [sortS_len] at h1 h2
  rw [(sortS_perm names).nodup_iff] at h2
  unfold onceB
  by_cases h : names.Nodup
  · have := h2.2 h
    rw [decide_eq_true h, decide_eq_false (by omega)]; rfl
  · have : ¬ (Lib.compact (sortS names)).length = names.length := fun e => h (h2.1 e)
    rw [decide_eq_false h, decide_eq_true (by omega)]; rfl
theorem vw_foldl : ∀ (names : List Nm) (T : FT), vw (names.foldl delT T) = names.foldl mdel (vw T)
  | [], _ => rfl
  | n :: ns, T => by
    rw [List.foldl_cons, List.foldl_cons, vw_foldl ns, vw_delT]
end Go.Dsk
