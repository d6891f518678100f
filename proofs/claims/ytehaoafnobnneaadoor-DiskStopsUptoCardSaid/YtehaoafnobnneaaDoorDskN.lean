/-
  Names: the reference's answer is the program's. No program in sight.
-/
import Derived.Test.YtehaoafnobnneaaDoorDskP
import Derived.Test.YtehaoafnobnneaaDoorSlZ
set_option linter.unusedVariables false
set_option linter.unusedSimpArgs false
namespace Go.Dsk
open Go Go.SL
def rcharI (n : Int) : Bool := (((decide (97 ≤ n) && decide (n ≤ 122)) || (decide (48 ≤ n) && decide (n ≤ 57))) || decide (n = 45)) || decide (n = 46)
theorem rchar_all : ∀ n : Fin 256, rcharI ((n.val : Nat) : Int) = charB (UInt8.ofNat n.val) := by decide +kernel
theorem rchar_eq (c : UInt8) : rcharI (c.toNat : Int) = charB c := by
  have h := rchar_all ⟨c.toNat, c.toNat_lt⟩
  simpa using h
theorem char_next {s : Nm} {k : Nat} (hk : k < s.length) (h : ∀ c ∈ s.take k, charB c = true) (e : charB (s.getD k default) = true) : ∀ c ∈ s.take (k + 1), charB c = true := by
  intro c hc
  rw [take_succ_getD s k hk] at hc
  rcases List.mem_append.1 hc with h1 | h1
  · exact h c h1
  · rw [List.mem_singleton.1 h1]; exact e
theorem name_bad {s : Nm} {k : Nat} (hk : k < s.length) (e : charB (s.getD k default) = false) : nameB s = false := by
  cases h : nameB s with
  | false => rfl
  | true =>
    have := ((nameB_iff s).1 h).2.2 (s.getD k default) (by simp [List.getD, hk])
    rw [e] at this; cases this
theorem name_ref {s : Nm} (h : ∀ c ∈ s, charB c = true) : (decide (0 < (s.length : Int)) && decide ((s.length : Int) ≤ 32)) = nameB s := by
  rw [Bool.eq_iff_iff, nameB_iff]
  simp only [Bool.and_eq_true, decide_eq_true_eq]
  constructor
  · rintro ⟨h1, h2⟩
    exact ⟨fun e => by subst e; simp at h1, by omega, h⟩
  · rintro ⟨h1, h2, _⟩
    have := List.length_pos_iff.2 h1
    omega
end Go.Dsk
