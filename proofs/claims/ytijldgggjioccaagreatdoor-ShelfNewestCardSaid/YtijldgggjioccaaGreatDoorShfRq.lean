/- part -/
import Derived.Test.YtijldgggjioccaaGreatDoorShfRp
set_option linter.unusedVariables false
set_option linter.unusedSimpArgs false
namespace Go.Shf
open Go Go.SL Go.Mou Go.Dsk Go.Sm Go.Hrd
theorem one_piece {α : Type} [Inhabited α] {l : List α} {k : Nat} (h : k < l.length) : (l.take (k + 1)).drop k = [l.getD k default] := by
  rw [take_succ_getD l k h, List.drop_append_of_le_length (by rw [List.length_take]; omega), List.drop_eq_nil_of_le (by rw [List.length_take]; omega)]; rfl
theorem ro_one {α : Type} [Inhabited α] {enc : α → List Value} {ρ : Hp} {sz n cap : Nat} {a : Option Addr} {xs : List α} (h : Ro ρ sz a n cap (xs.flatMap enc)) (he : ∀ x, (enc x).length = sz) (hn : xs.length = n) {i : Nat} (hi : i < n) : Ro ρ sz (sh a cap i sz) 1 (cap - i) ([xs.getD i default].flatMap enc) := by
  have h1 := Ro.cut2e h he i (i + 1) (by omega) (by omega); rw [one_piece (by omega), show i + 1 - i = 1 from by omega] at h1; exact h1
theorem old6 {has : Bool} {top : PSnap} {f : Nm} : oldX has top f = ((has && decide (0 ≤ numI f)) && decide (numI f < top.ix)) := by
  unfold oldX numI
  cases hn : namedX f with
  | none => simp
  | some n =>
    obtain ⟨b1, b2, b3⟩ := named_back hn; simp [b1]
theorem flt_yes {α : Type} [Inhabited α] {P : α → Bool} {l : List α} {k : Nat} (hk : k < l.length) (h : P (l.getD k default) = true) : (l.take (k + 1)).filter P = (l.take k).filter P ++ [l.getD k default] := by
  rw [take_succ_getD l k hk, List.filter_append, List.filter_cons_of_pos h]; rfl
theorem flt_no {α : Type} [Inhabited α] {P : α → Bool} {l : List α} {k : Nat} (hk : k < l.length) (h : P (l.getD k default) = false) : (l.take (k + 1)).filter P = (l.take k).filter P := by
  rw [take_succ_getD l k hk, List.filter_append, List.filter_cons_of_neg (by rw [h]; decide), List.filter_nil, List.append_nil]
theorem flt_len {α : Type} (P : α → Bool) (l : List α) (k : Nat) : ((l.take k).filter P).length ≤ l.length := by
  have h1 := List.length_filter_le P (l.take k); rw [List.length_take] at h1; omega
theorem key_len {T : RT} (hT : VOk (rvw T)) {k : Nat} (hk : k < T.length) : (T.getD k default).Name.length ≤ 32 := hT.nm (rp (T.getD k default)) (List.mem_map.2 ⟨_, getD_in hk, rfl⟩)
section
variable {room c : Int} {e has : Bool} {V : FV} {top x : PSnap}
theorem vok_syn (h : VOk V) (ns : List Nm) : VOk (syncR c V ns).2 := (lim_sync (lim_self h)).ok
theorem vok_rem1 (h : VOk V) (ns : List Nm) : VOk (remR c V ns).2 := (lim_rem (lim_self h)).ok
end
end Go.Shf
