/-
  Package disk, in plain words: names, files, the bundle of their blocks. No program in sight.
-/
import Derived.Test.YtehaoafnobnneaaGreatDoorDskT
import Derived.Test.YtehaoafnobnneaaGreatDoorSlY
import Derived.Test.YtehaoafnobnneaaGreatDoorSlT
set_option linter.unusedVariables false
set_option linter.unusedSimpArgs false
namespace Go.Dsk
open Go Go.SL
abbrev Nm := List UInt8
/-! ### Names -/
def setC : List UInt8 := [97, 98, 99, 100, 101, 102, 103, 104, 105, 106, 107, 108, 109, 110, 111, 112, 113, 114, 115, 116, 117, 118, 119, 120, 121, 122, 48, 49, 50, 51, 52, 53, 54, 55, 56, 57, 45, 46]
def nameB (s : Nm) : Bool := !((decide (s = []) || decide (32 < (s.length : Int))) || (!decide (Lib.trimS s setC = [])))
def charB (c : UInt8) : Bool := setC.contains c
theorem nameB_iff (s : Nm) : nameB s = true ↔ s ≠ [] ∧ s.length ≤ 32 ∧ ∀ c ∈ s, charB c = true := by
  unfold nameB charB
  simp only [Bool.not_eq_true', Bool.or_eq_false_iff, decide_eq_false_iff_not, Bool.not_eq_false', decide_eq_true_eq, trim_nil, ne_eq]
  constructor
  · rintro ⟨⟨h1, h2⟩, h3⟩; exact ⟨h1, by omega, h3⟩
  · rintro ⟨h1, h2, h3⟩; exact ⟨⟨h1, by omega⟩, h3⟩
def idxP (p : Nm → Bool) (s : List Nm) : Int := match s.findIdx? p with | some k => (k : Int) | none => -1
theorem idxP_any (p : Nm → Bool) (s : List Nm) : decide (0 ≤ idxP p s) = s.any p := by
  unfold idxP
  cases h : s.findIdx? p with
  | some k =>
    have h1 : (s.findIdx? p).isSome = true := by rw [h]; rfl
    rw [List.findIdx?_isSome] at h1
    rw [h1]; simp
  | none =>
    have h1 : (s.findIdx? p).isSome = false := by rw [h]; rfl
    rw [List.findIdx?_isSome] at h1
    rw [h1]; rfl
theorem idxP_at {p : Nm → Bool} {s : List Nm} {k : Nat} (hk : k < s.length) (h : (s.take k).any p = false) (e : p (s.getD k default) = true) : idxP p s = (k : Int) := by
  have e1 : s.findIdx? p = some k := by
    rw [List.findIdx?_eq_some_iff_getElem]
    refine ⟨hk, by simpa [List.getD, hk] using e, fun j hj => ?_⟩
    rw [List.any_eq_false] at h
    have hm : s[j] ∈ s.take k := by
      rw [List.mem_take_iff_getElem]
      exact ⟨j, by omega, rfl⟩
    simpa using h _ hm
  unfold idxP
  rw [e1]
theorem idxP_none {p : Nm → Bool} {s : List Nm} (h : s.any p = false) : idxP p s = -1 := by
  unfold idxP
  have h1 : (s.findIdx? p).isSome = false := by rw [List.findIdx?_isSome]; exact h
  cases h2 : s.findIdx? p with
  | some k => rw [h2] at h1; cases h1
  | none => rfl
theorem any_succ {p : Nm → Bool} {s : List Nm} {k : Nat} (hk : k < s.length) (h : (s.take k).any p = false) (e : p (s.getD k default) = false) : (s.take (k + 1)).any p = false := by
  rw [take_succ_getD s k hk, List.any_append, h]
  simp only [List.any_cons, List.any_nil, e, Bool.or_false]
/-! ### Files: a map of pointers, blocks, their bytes -/
structure FD where
  name : Nm
  blk : Nat
  a : Option Addr
  cap : Nat
  xs : List UInt8
  safe : Int
instance : Inhabited FD := ⟨⟨[], 0, none, 0, [], 0⟩⟩
abbrev FT := List FD
abbrev FV := List (Nm × (List UInt8 × Int))
def fm (T : FT) : List (Nm × Option Nat) := T.map fun e => (e.name, some e.blk)
def vw (T : FT) : FV := T.map fun e => (e.name, (e.xs, e.safe))
def F1 (t tb : TypeId) (e : FD) : Asn := Bun [.pts e.blk (encFile1 ⟨⟨e.a, e.xs.length, e.cap⟩, e.safe⟩) t, .row tb 1 e.a e.xs.length e.cap (e.xs.flatMap encB)]
def fL (t tb : TypeId) (T : FT) : List Asn := T.map (F1 t tb)
def FB (t tb : TypeId) (T : FT) : Asn := Bun (fL t tb T)
theorem fm_keys (T : FT) : mkeys (fm T) = T.map (·.name) := by simp [mkeys, fm]
theorem vw_keys (T : FT) : mkeys (vw T) = T.map (·.name) := by simp [mkeys, vw]
theorem fm_len (T : FT) : (fm T).length = T.length := by simp [fm]
theorem vw_len (T : FT) : (vw T).length = T.length := by simp [vw]
theorem fm_at {T : FT} {j : Nat} {k : Nm} {u : Option Nat} (h : (fm T)[j]? = some (k, u)) : ∃ e, T[j]? = some e ∧ k = e.name ∧ u = some e.blk := by
  unfold fm at h
  rw [List.getElem?_map] at h
  cases hT : T[j]? with
  | none => rw [hT] at h; cases h
  | some e => rw [hT] at h; simp only [Option.map_some, Option.some.injEq, Prod.mk.injEq] at h; exact ⟨e, rfl, h.1.symm, h.2.symm⟩
theorem fm_erase (T : FT) (j : Nat) : (fm T).eraseIdx j = fm (T.eraseIdx j) := eraseIdx_map_ _ T j
theorem look_none : ∀ {T : FT} {s : Nm}, mgetD (fm T) s none = none → s ∉ T.map (·.name)
  | [], _, _ => by simp
  | e :: T, s, h => by
    by_cases q : e.name = s
    · simp [fm, mgetD, mget, q] at h
    · have h' : mgetD (fm T) s none = none := by simpa [fm, mgetD, mget, q] using h
      have := look_none h'
      simp only [List.map_cons, List.mem_cons, not_or]
      exact ⟨fun e' => q e'.symm, this⟩
theorem look_some : ∀ {T : FT} {s : Nm}, ¬ mgetD (fm T) s none = none → ∃ j e, j < T.length ∧ T[j]? = some e ∧ e.name = s ∧ mgetD (fm T) s none = some e.blk ∧ mget (vw T) s = some (e.xs, e.safe)
  | [], _, h => absurd rfl h
  | e :: T, s, h => by
    by_cases q : e.name = s
    · subst q
      exact ⟨0, e, by simp, rfl, rfl, by simp [fm, mgetD, mget], by simp [vw, mget]⟩
    · have h' : ¬ mgetD (fm T) s none = none := fun c => h (by simpa [fm, mgetD, mget, q] using c)
      obtain ⟨j, e', h1, h2, h3, h4, h5⟩ := look_some h'
      exact ⟨j + 1, e', by simpa using h1, by simpa using h2, h3, by simpa [fm, mgetD, mget, q] using h4, by simpa [vw, mget, q] using h5⟩
theorem has_fm (T : FT) (s : Nm) : (mgetD (fm T) s none).isNone = !mhas (vw T) s := by
  by_cases h : mgetD (fm T) s none = none
  · have h1 : s ∉ mkeys (vw T) := by rw [vw_keys]; exact look_none h
    have h2 : mhas (vw T) s = false := by
      cases c : mhas (vw T) s with
      | false => rfl
      | true => exact absurd (mhas_iff.1 c) h1
    rw [h, h2]; rfl
  · obtain ⟨j, e, _, _, _, h4, h5⟩ := look_some h
    have h2 : mhas (vw T) s = true := by unfold mhas; rw [h5]; rfl
    rw [h4, h2]; rfl
theorem file_open {t tb : TypeId} {T : FT} {Γ Γ1 : List Asn} {j : Nat} {e : FD} (hj : T[j]? = some e) (q : Pick (FB t tb T) [] Γ Γ1) :
    Ent Γ (.pts e.blk (encFile1 ⟨⟨e.a, e.xs.length, e.cap⟩, e.safe⟩) t :: .row tb 1 e.a e.xs.length e.cap (e.xs.flatMap encB) :: Bun ((fL t tb T).eraseIdx j) :: Γ1) := by
  have hlt : j < (fL t tb T).length := by have := (List.getElem?_eq_some_iff.1 hj).1; simpa [fL] using this
  have e1 : (fL t tb T)[j] = F1 t tb e := by
    obtain ⟨h1, h2⟩ := List.getElem?_eq_some_iff.1 hj
    simp only [fL, List.getElem_map, h2]
  refine Ent.trans (Ent.pick q (Ent.refl _)) ?_
  refine Ent.trans (bun_get (fL t tb T) Γ1 j hlt) ?_
  rw [e1]
  exact bun_out _ _
theorem file_shut {t tb : TypeId} {T : FT} {Γ : List Asn} {j : Nat} {e : FD} (e' : FD) (hj : T[j]? = some e) :
    Ent (.pts e'.blk (encFile1 ⟨⟨e'.a, e'.xs.length, e'.cap⟩, e'.safe⟩) t :: .row tb 1 e'.a e'.xs.length e'.cap (e'.xs.flatMap encB) :: Bun ((fL t tb T).eraseIdx j) :: Γ) (FB t tb (T.set j e') :: Γ) := by
  have hlt : j < (fL t tb T).length := by have := (List.getElem?_eq_some_iff.1 hj).1; simpa [fL] using this
  have e1 : fL t tb (T.set j e') = (fL t tb T).set j (F1 t tb e') := by simp [fL, List.map_set]
  unfold FB
  rw [e1]
  exact Ent.trans (bun_in [.pts e'.blk (encFile1 ⟨⟨e'.a, e'.xs.length, e'.cap⟩, e'.safe⟩) t, .row tb 1 e'.a e'.xs.length e'.cap (e'.xs.flatMap encB)] _) (bun_set (fL t tb T) Γ j _ hlt)
theorem set_at {T : FT} {j : Nat} {e : FD} (hj : T[j]? = some e) : T.set j e = T := by
  obtain ⟨h1, h2⟩ := List.getElem?_eq_some_iff.1 hj
  rw [← h2]; exact List.set_getElem_self h1
theorem file_same {t tb : TypeId} {T : FT} {Γ : List Asn} {j : Nat} {e : FD} (hj : T[j]? = some e) :
    Ent (.pts e.blk (encFile1 ⟨⟨e.a, e.xs.length, e.cap⟩, e.safe⟩) t :: .row tb 1 e.a e.xs.length e.cap (e.xs.flatMap encB) :: Bun ((fL t tb T).eraseIdx j) :: Γ) (FB t tb T :: Γ) := by
  have := file_shut (t := t) (tb := tb) (Γ := Γ) e hj
  rwa [set_at hj] at this
theorem file_new {t tb : TypeId} {T : FT} {Γ : List Asn} (e : FD) :
    Ent (.pts e.blk (encFile1 ⟨⟨e.a, e.xs.length, e.cap⟩, e.safe⟩) t :: .row tb 1 e.a e.xs.length e.cap (e.xs.flatMap encB) :: FB t tb T :: Γ) (FB t tb (T ++ [e]) :: Γ) := by
  unfold FB
  rw [show fL t tb (T ++ [e]) = fL t tb T ++ [F1 t tb e] from by simp [fL]]
  exact Ent.trans (bun_in [.pts e.blk (encFile1 ⟨⟨e.a, e.xs.length, e.cap⟩, e.safe⟩) t, .row tb 1 e.a e.xs.length e.cap (e.xs.flatMap encB)] _) (bun_snoc _ _ _)
theorem file_rest {t tb : TypeId} {T : FT} {Γ : List Asn} (j : Nat) : Ent (Bun ((fL t tb T).eraseIdx j) :: Γ) (FB t tb (T.eraseIdx j) :: Γ) := by
  unfold FB fL
  rw [eraseIdx_map_]
  exact Ent.refl _
/-! ### How files turn -/
def usedT (T : FT) : Nat := (T.map fun e => e.xs.length).sum
theorem used_erase : ∀ {T : FT} {j : Nat} {e : FD}, T[j]? = some e → usedT (T.eraseIdx j) + e.xs.length = usedT T
  | [], _, _, h => by simp at h
  | x :: T, 0, e, h => by simp at h; subst h; simp [usedT]; omega
  | x :: T, j + 1, e, h => by
    have := used_erase (T := T) (j := j) (e := e) (by simpa using h)
    simp only [usedT, List.eraseIdx_cons_succ, List.map_cons, List.sum_cons] at this ⊢
    omega
theorem used_at {T : FT} {j : Nat} {e : FD} (h : T[j]? = some e) : e.xs.length ≤ usedT T := by have := used_erase h; omega
theorem used_set : ∀ {T : FT} {j : Nat} {e e' : FD}, T[j]? = some e → usedT (T.set j e') + e.xs.length = usedT T + e'.xs.length
  | [], _, _, _, h => by simp at h
  | x :: T, 0, e, e', h => by simp at h; subst h; simp [usedT]; omega
  | x :: T, j + 1, e, e', h => by
    have := used_set (T := T) (j := j) (e := e) (e' := e') (by simpa using h)
    simp only [usedT, List.set_cons_succ, List.map_cons, List.sum_cons] at this ⊢
    omega
theorem used_new (T : FT) (e : FD) : usedT (T ++ [e]) = usedT T + e.xs.length := by simp [usedT]
theorem fm_set {T : FT} {j : Nat} {e e' : FD} (hj : T[j]? = some e) (h1 : e'.name = e.name) (h2 : e'.blk = e.blk) : fm (T.set j e') = fm T := by
  unfold fm
  rw [List.map_set]
  apply List.ext_getElem?
  intro i
  by_cases q : j = i
  · subst q
    obtain ⟨h3, h4⟩ := List.getElem?_eq_some_iff.1 hj
    simp [List.getElem?_set, h3, h4, h1, h2]
  · rw [List.getElem?_set, if_neg q]
theorem names_set {T : FT} {j : Nat} {e e' : FD} (hj : T[j]? = some e) (h1 : e'.name = e.name) : (T.set j e').map (·.name) = T.map (·.name) := by
  rw [List.map_set]
  apply List.ext_getElem?
  intro i
  by_cases q : j = i
  · subst q
    obtain ⟨h3, h4⟩ := List.getElem?_eq_some_iff.1 hj
    simp [List.getElem?_set, h3, h4, h1]
  · rw [List.getElem?_set, if_neg q]
theorem vw_set {T : FT} {j : Nat} {e e' : FD} (hn : (T.map (·.name)).Nodup) (hj : T[j]? = some e) (h1 : e'.name = e.name) : vw (T.set j e') = mset (vw T) e.name (e'.xs, e'.safe) := by
  have hv : (vw T)[j]? = some (e.name, (e.xs, e.safe)) := by unfold vw; rw [List.getElem?_map, hj]; rfl
  rw [mset_at (vw T) j e.name _ _ (by rw [vw_keys]; exact hn) hv]
  unfold vw
  rw [List.map_set, h1]
theorem vw_new {T : FT} {e : FD} (h : e.name ∉ T.map (·.name)) : vw (T ++ [e]) = mset (vw T) e.name (e.xs, e.safe) := by
  rw [mset_new _ _ _ (by rw [vw_keys]; exact h)]
  simp [vw]
theorem fm_new {T : FT} {e : FD} (h : e.name ∉ T.map (·.name)) : mset (fm T) e.name (some e.blk) = fm (T ++ [e]) := by
  rw [mset_new _ _ _ (by rw [fm_keys]; exact h)]
  simp [fm]
theorem fm_del {T : FT} {j : Nat} {e : FD} (hn : (T.map (·.name)).Nodup) (hj : T[j]? = some e) : mdel (fm T) e.name = fm (T.eraseIdx j) := by
  have hv : (fm T)[j]? = some (e.name, some e.blk) := by unfold fm; rw [List.getElem?_map, hj]; rfl
  rw [mdel_at (fm T) j e.name _ (by rw [fm_keys]; exact hn) hv, fm_erase]
theorem vw_del {T : FT} {j : Nat} {e : FD} (hn : (T.map (·.name)).Nodup) (hj : T[j]? = some e) : mdel (vw T) e.name = vw (T.eraseIdx j) := by
  have hv : (vw T)[j]? = some (e.name, (e.xs, e.safe)) := by unfold vw; rw [List.getElem?_map, hj]; rfl
  rw [mdel_at (vw T) j e.name _ (by rw [vw_keys]; exact hn) hv]
  exact eraseIdx_map_ _ T j
structure FOk (T : FT) : Prop where
  nd : (T.map (·.name)).Nodup
  sf : ∀ e ∈ T, 0 ≤ e.safe ∧ e.safe ≤ e.xs.length
  nm : ∀ e ∈ T, e.name.length ≤ 32
  ln : T.length ≤ 4096
  us : usedT T ≤ 1000000000000
theorem FOk.at_ {T : FT} (h : FOk T) {j : Nat} {e : FD} (hj : T[j]? = some e) : 0 ≤ e.safe ∧ e.safe ≤ e.xs.length := h.sf _ (List.mem_of_getElem? hj)
def decC (c : Int) : Int := if c > 0 then c - 1 else c
end Go.Dsk
