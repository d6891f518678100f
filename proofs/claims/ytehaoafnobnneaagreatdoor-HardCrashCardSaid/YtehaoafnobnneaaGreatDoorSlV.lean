/-
  The engine, part V: reading parts of slices as slices; lists that are gone through and changed in place.
-/
import Derived.Test.YtehaoafnobnneaaGreatDoorSlN
set_option linter.unusedVariables false
set_option linter.unusedSectionVars false
namespace Go.SL
open Go
section
variable {ρ : Hp} {Γ : List Asn}
theorem Rd.drop {sz m cap : Nat} {a : Option Addr} {cs : List Value} (h : Rd ρ Γ sz a m cap cs) (k : Nat) (hk : k ≤ m) : Rd ρ Γ sz (sh a cap k sz) (m - k) (cap - k) (cs.drop (k * sz)) := fun E w s => by
  obtain ⟨h1, h2, h3, h4⟩ := h E w s
  have e1 : (m - k) * sz = m * sz - k * sz := Nat.sub_mul _ _ _
  refine ⟨by rw [List.length_drop]; omega, by omega, by omega, fun j c e => ?_⟩
  rw [List.getElem?_drop] at e
  obtain ⟨ad, he, hc⟩ := h4 _ c e
  refine ⟨ad.add (k * sz), ?_, ?_⟩
  · unfold sh
    by_cases q : cap = k
    · exfalso
      have hl : k * sz + j < cs.length := by
        by_cases g : k * sz + j < cs.length
        · exact g
        · rw [List.getElem?_eq_none (by omega)] at e; cases e
      have : m * sz ≤ k * sz := Nat.mul_le_mul_right _ (by omega)
      omega
    · rw [if_neg q, he]; rfl
  · rw [addr_add_add]
    exact hc
theorem rd_take {α : Type} {enc : α → List Value} {sz m cap : Nat} {a : Option Addr} {xs : List α} (h : Rd ρ Γ sz a m cap (xs.flatMap enc)) (he : ∀ x, (enc x).length = sz) (k : Nat) (hk : k ≤ m) : Rd ρ Γ sz a k cap ((xs.take k).flatMap enc) := by
  rw [← flat_take he]
  exact h.take k hk
theorem rd_drop {α : Type} {enc : α → List Value} {sz m cap : Nat} {a : Option Addr} {xs : List α} (h : Rd ρ Γ sz a m cap (xs.flatMap enc)) (he : ∀ x, (enc x).length = sz) (k : Nat) (hk : k ≤ m) : Rd ρ Γ sz (sh a cap k sz) (m - k) (cap - k) ((xs.drop k).flatMap enc) := by
  rw [← flat_drop he]
  exact h.drop k hk
end
/-- a row whose slice is cut short -/
theorem row_cut {α : Type} {enc : α → List Value} {Γ : List Asn} {T : TypeId} {sz n cap : Nat} {a : Option Addr} {xs : List α} (he : ∀ x, (enc x).length = sz) (k : Nat) (hk : k ≤ n) : Ent (.row T sz a n cap (xs.flatMap enc) :: Γ) (.row T sz a k cap ((xs.take k).flatMap enc) :: Γ) := Ent.conv Pick.here (fun h hA => by
  obtain ⟨h1, h2⟩ := hA
  have hle : k * sz ≤ n * sz := Nat.mul_le_mul_right _ hk
  refine ⟨by rw [← flat_take he, List.length_take]; omega, ?_⟩
  rcases h2 with ⟨h2, h3, h4⟩ | ⟨g, cur, fz, h2, h3, h4, h5, h6, h7, h8⟩
  · exact .inl ⟨h2, by omega, h4⟩
  · refine .inr ⟨g, cur, fz, h2, h3, h4, by omega, h6, h7, ?_⟩
    rw [← flat_take he, ← h8, List.take_take, Nat.min_eq_left hle]) (Ent.refl _)
def mupTo {α : Type} (f : α → α) (l : List α) (k : Nat) : List α := (l.take k).map f ++ l.drop k
section
variable {α : Type} [Inhabited α] {f : α → α} {l : List α} {k : Nat}
theorem mup_zero : mupTo f l 0 = l := by simp [mupTo]
theorem mup_all : mupTo f l l.length = l.map f := by simp [mupTo]
theorem mup_len : (mupTo f l k).length = l.length := by simp only [mupTo, List.length_append, List.length_map, List.length_take, List.length_drop]; omega
theorem mup_get (hk : k < l.length) : (mupTo f l k).getD k default = l.getD k default := by
  unfold mupTo
  have h1 : ((l.take k).map f).length = k := by simp; omega
  show ((List.map f (List.take k l) ++ List.drop k l)[k]?).getD default = _
  rw [List.getElem?_append_right (by omega), h1, Nat.sub_self, List.getElem?_drop]
  rfl
theorem mup_set (hk : k < l.length) {v : α} (hv : v = f (l.getD k default)) : (mupTo f l k).set k v = mupTo f l (k + 1) := by
  unfold mupTo
  have h1 : ((l.take k).map f).length = k := by simp; omega
  rw [List.set_append_right _ _ (by omega), h1, Nat.sub_self, List.drop_eq_getElem_cons hk, List.set_cons_zero, take_succ_getD l k hk, List.map_append, List.append_assoc, hv]
  simp [List.getD, hk]
theorem getD_set_at {v : α} (h : k < l.length) : (l.set k v).getD k default = v := by simp [List.getD, h]
theorem setD_self (h : k < l.length) : l.set k (l.getD k default) = l := by
  apply List.ext_getElem?
  intro i
  rw [List.getElem?_set]
  by_cases e : k = i
  · subst e; rw [if_pos rfl, if_pos h]; simp [List.getD, h]
  · rw [if_neg e]
theorem mup_same (hk : k < l.length) (h : f (l.getD k default) = l.getD k default) : mupTo f l k = mupTo f l (k + 1) := by
  rw [← mup_set hk (v := l.getD k default) h.symm, ← mup_get (f := f) hk, setD_self (by rw [mup_len]; exact hk)]
end
end Go.SL
