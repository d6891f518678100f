/- part -/
import Derived.Test.YtijldgggjioccaaGreatDoorSlEc
set_option linter.unusedVariables false
namespace Go.Dsk
open Go Go.SL
structure File1 where
  b : SH
  safe : Int
def zFile1 : File1 := ⟨⟨none, 0, 0⟩, 0⟩
instance : Inhabited File1 := ⟨zFile1⟩
def encFile1 (x : File1) : List Value := [x.b.v, .int .i64 x.safe]
structure Disk1 where
  room : Int
  files : (Option Nat)
  calls : Int
def zDisk1 : Disk1 := ⟨0, none, 0⟩
instance : Inhabited Disk1 := ⟨zDisk1⟩
def encDisk1 (x : Disk1) : List Value := [.int .i64 x.room, .map x.files, .int .i64 x.calls]
structure RFile where
  Name : (List UInt8)
  B : (SL UInt8)
  Safe : Int
def zRFile : RFile := ⟨[], ⟨none, [], 0⟩, 0⟩
instance : Inhabited RFile := ⟨zRFile⟩
def encRFile (x : RFile) : List Value := [(strB x.Name), x.B.v, .int .i64 x.Safe]
theorem oneRFile (x : RFile) : ∀ u ∈ encRFile x, u.oneCell' = true := fun u hu => by
  simp only [encRFile, List.mem_cons, List.not_mem_nil, or_false] at hu
  rcases hu with rfl | rfl | rfl <;> rfl
theorem oneRFiles (xs : List RFile) : ∀ u ∈ xs.flatMap encRFile, u.oneCell' = true := fun u hu => by
  obtain ⟨b, _, hb⟩ := List.mem_flatMap.1 hu; exact oneRFile b u hb
structure RDisk where
  Room : Int
  L : SH
  End : Bool
  Calls : Int
def zRDisk : RDisk := ⟨0, ⟨none, 0, 0⟩, false, 0⟩
instance : Inhabited RDisk := ⟨zRDisk⟩
def encRDisk (x : RDisk) : List Value := [.int .i64 x.Room, x.L.v, .bool x.End, .int .i64 x.Calls]
end Go.Dsk
set_option linter.unusedSimpArgs false
namespace Go.Dsk
open Go Go.SL
abbrev Nm := List UInt8
def setC : List UInt8 := [97, 98, 99, 100, 101, 102, 103, 104, 105, 106, 107, 108, 109, 110, 111, 112, 113, 114, 115, 116, 117, 118, 119, 120, 121, 122, 48, 49, 50, 51, 52, 53, 54, 55, 56, 57, 45, 46]
def nameB (s : Nm) : Bool := !((decide (s = []) || decide (32 < (s.length : Int))) || (!decide (Lib.trimS s setC = [])))
def charB (c : UInt8) : Bool := setC.contains c
theorem nameB_iff (s : Nm) : nameB s = true ↔ s ≠ [] ∧ s.length ≤ 32 ∧ ∀ c ∈ s, charB c = true := by
  unfold nameB charB; simp only [Bool.not_eq_true', Bool.or_eq_false_iff, decide_eq_false_iff_not, Bool.not_eq_false', decide_eq_true_eq, trim_nil, ne_eq]
  constructor
  · rintro ⟨⟨h1, h2⟩, h3⟩; exact ⟨h1, by omega, h3⟩
  · rintro ⟨h1, h2, h3⟩; exact ⟨⟨h1, by omega⟩, h3⟩
def idxP (p : Nm → Bool) (s : List Nm) : Int := match s.findIdx? p with | some k => (k : Int) | none => -1
theorem idxP_any (p : Nm → Bool) (s : List Nm) : decide (0 ≤ idxP p s) = s.any p := by
  unfold idxP
  cases h : s.findIdx? p with
  | some k =>
    have h1 : (s.findIdx? p).isSome = true := by rw [h]; rfl
    rw [List.findIdx?_isSome] at h1; rw [h1]; simp
  | none =>
    have h1 : (s.findIdx? p).isSome = false := by rw [h]; rfl
    rw [List.findIdx?_isSome] at h1; rw [h1]; rfl
theorem idxP_at {p : Nm → Bool} {s : List Nm} {k : Nat} (hk : k < s.length) (h : (s.take k).any p = false) (e : p (s.getD k default) = true) : idxP p s = (k : Int) := by
  have e1 : s.findIdx? p = some k := by
    rw [List.findIdx?_eq_some_iff_getElem]; refine ⟨hk, by simpa [List.getD, hk] using e, fun j hj => ?_⟩; rw [List.any_eq_false] at h
    have hm : s[j] ∈ s.take k := by
      rw [List.mem_take_iff_getElem]; exact ⟨j, by omega, rfl⟩
    simpa using h _ hm
  unfold idxP; rw [e1]
theorem idxP_none {p : Nm → Bool} {s : List Nm} (h : s.any p = false) : idxP p s = -1 := by
  unfold idxP; have h1 : (s.findIdx? p).isSome = false := by rw [List.findIdx?_isSome]; exact h
  cases h2 : s.findIdx? p with
  | some k => rw [h2] at h1; cases h1
  | none => rfl
theorem any_succ {p : Nm → Bool} {s : List Nm} {k : Nat} (hk : k < s.length) (h : (s.take k).any p = false) (e : p (s.getD k default) = false) : (s.take (k + 1)).any p = false := by
  rw [take_succ_getD s k hk, List.any_append, h]; simp only [List.any_cons, List.any_nil, e, Bool.or_false]
structure FD where
  name : Nm
  blk : Nat
  a : Option Addr
  cap : Nat
  xs : List UInt8
  safe : Int
instance : Inhabited FD := ⟨⟨[], 0, none, 0, [], 0⟩⟩
abbrev FT := List FD
abbrev FV := List (Nm × (List UInt8 × Int))
def fm (T : FT) : List (Nm × Option Nat) := T.map fun e => (e.name, some e.blk)
def vw (T : FT) : FV := T.map fun e => (e.name, (e.xs, e.safe))
def F1 (t tb : TypeId) (e : FD) : Asn := Bun [.pts e.blk (encFile1 ⟨⟨e.a, e.xs.length, e.cap⟩, e.safe⟩) t, .row tb 1 e.a e.xs.length e.cap (e.xs.flatMap encB)]
def fL (t tb : TypeId) (T : FT) : List Asn := T.map (F1 t tb)
def FB (t tb : TypeId) (T : FT) : Asn := Bun (fL t tb T)
theorem fm_keys (T : FT) : mkeys (fm T) = T.map (·.name) := by simp [mkeys, fm]
theorem vw_keys (T : FT) : mkeys (vw T) = T.map (·.name) := by simp [mkeys, vw]
theorem fm_len (T : FT) : (fm T).length = T.length := by simp [fm]
theorem vw_len (T : FT) : (vw T).length = T.length := by simp [vw]
theorem fm_at {T : FT} {j : Nat} {k : Nm} {u : Option Nat} (h : (fm T)[j]? = some (k, u)) : ∃ e, T[j]? = some e ∧ k = e.name ∧ u = some e.blk := by
  unfold fm at h; rw [List.getElem?_map] at h
  cases hT : T[j]? with
  | none => rw [hT] at h; cases h
  | some e => rw [hT] at h; simp only [Option.map_some, Option.some.injEq, Prod.mk.injEq] at h; exact ⟨e, rfl, h.1.symm, h.2.symm⟩
theorem fm_erase (T : FT) (j : Nat) : (fm T).eraseIdx j = fm (T.eraseIdx j) := eraseIdx_map_ _ T j
theorem look_none : ∀ {T : FT} {s : Nm}, mgetD (fm T) s none = none → s ∉ T.map (·.name)
  | [], _, _ => by simp
  | e :: T, s, h => by
    by_cases q : e.name = s
    · simp [fm, mgetD, mget, q] at h
    · have h' : mgetD (fm T) s none = none := by simpa [fm, mgetD, mget, q] using h
      have := look_none h'; simp only [List.map_cons, List.mem_cons, not_or]; exact ⟨fun e' => q e'.symm, this⟩
theorem look_some : ∀ {T : FT} {s : Nm}, ¬ mgetD (fm T) s none = none → ∃ j e, j < T.length ∧ T[j]? = some e ∧ e.name = s ∧ mgetD (fm T) s none = some e.blk ∧ mget (vw T) s = some (e.xs, e.safe)
  | [], _, h => absurd rfl h
  | e :: T, s, h => by
    by_cases q : e.name = s
    · subst q; exact ⟨0, e, by simp, rfl, rfl, by simp [fm, mgetD, mget], by simp [vw, mget]⟩
    · have h' : ¬ mgetD (fm T) s none = none := fun c => h (by simpa [fm, mgetD, mget, q] using c); obtain ⟨j, e', h1, h2, h3, h4, h5⟩ := look_some h'; exact ⟨j + 1, e', by simpa using h1, by simpa using h2, h3, by simpa [fm, mgetD, mget, q] using h4, by simpa [vw, mget, q] using h5⟩
theorem has_fm (T : FT) (s : Nm) : (mgetD (fm T) s none).isNone = !mhas (vw T) s := by
  by_cases h : mgetD (fm T) s none = none
  · have h1 : s ∉ mkeys (vw T) := by rw [vw_keys]; exact look_none h
    have h2 : mhas (vw T) s = false := by
      cases c : mhas (vw T) s with
      | false => rfl
      | true => exact absurd (mhas_iff.1 c) h1
    rw [h, h2]; rfl
  · obtain ⟨j, e, _, _, _, h4, h5⟩ := look_some h; have h2 : mhas (vw T) s = true := by unfold mhas; rw [h5]; rfl
    rw [h4, h2]; rfl
theorem file_open {t tb : TypeId} {T : FT} {Γ Γ1 : List Asn} {j : Nat} {e : FD} (hj : T[j]? = some e) (q : Pick (FB t tb T) [] Γ Γ1) :
    Ent Γ (.pts e.blk (encFile1 ⟨⟨e.a, e.xs.length, e.cap⟩, e.safe⟩) t :: .row tb 1 e.a e.xs.length e.cap (e.xs.flatMap encB) :: Bun ((fL t tb T).eraseIdx j) :: Γ1) := by
  have hlt : j < (fL t tb T).length := by have := (List.getElem?_eq_some_iff.1 hj).1; simpa [fL] using this
  have e1 : (fL t tb T)[j] = F1 t tb e := by
    obtain ⟨h1, h2⟩ := List.getElem?_eq_some_iff.1 hj; simp only [fL, List.getElem_map, h2]
  refine Ent.trans (Ent.pick q (Ent.refl _)) ?_; refine Ent.trans (bun_get (fL t tb T) Γ1 j hlt) ?_; rw [e1]; exact bun_out _ _
theorem file_shut {t tb : TypeId} {T : FT} {Γ : List Asn} {j : Nat} {e : FD} (e' : FD) (hj : T[j]? = some e) :
    Ent (.pts e'.blk (encFile1 ⟨⟨e'.a, e'.xs.length, e'.cap⟩, e'.safe⟩) t :: .row tb 1 e'.a e'.xs.length e'.cap (e'.xs.flatMap encB) :: Bun ((fL t tb T).eraseIdx j) :: Γ) (FB t tb (T.set j e') :: Γ) := by
  have hlt : j < (fL t tb T).length := by have := (List.getElem?_eq_some_iff.1 hj).1; simpa [fL] using this
  have e1 : fL t tb (T.set j e') = (fL t tb T).set j (F1 t tb e') := by simp [fL, List.map_set]
  unfold FB; rw [e1]; exact Ent.trans (bun_in [.pts e'.blk (encFile1 ⟨⟨e'.a, e'.xs.length, e'.cap⟩, e'.safe⟩) t, .row tb 1 e'.a e'.xs.length e'.cap (e'.xs.flatMap encB)] _) (bun_set (fL t tb T) Γ j _ hlt)
theorem set_at {T : FT} {j : Nat} {e : FD} (hj : T[j]? = some e) : T.set j e = T := by
  obtain ⟨h1, h2⟩ := List.getElem?_eq_some_iff.1 hj; rw [← h2]; exact List.set_getElem_self h1
theorem file_same {t tb : TypeId} {T : FT} {Γ : List Asn} {j : Nat} {e : FD} (hj : T[j]? = some e) :
    Ent (.pts e.blk (encFile1 ⟨⟨e.a, e.xs.length, e.cap⟩, e.safe⟩) t :: .row tb 1 e.a e.xs.length e.cap (e.xs.flatMap encB) :: Bun ((fL t tb T).eraseIdx j) :: Γ) (FB t tb T :: Γ) := by
  have := file_shut (t := t) (tb := tb) (Γ := Γ) e hj
  rwa [set_at hj] at this
theorem file_new {t tb : TypeId} {T : FT} {Γ : List Asn} (e : FD) :
    Ent (.pts e.blk (encFile1 ⟨⟨e.a, e.xs.length, e.cap⟩, e.safe⟩) t :: .row tb 1 e.a e.xs.length e.cap (e.xs.flatMap encB) :: FB t tb T :: Γ) (FB t tb (T ++ [e]) :: Γ) := by
  unfold FB; rw [show fL t tb (T ++ [e]) = fL t tb T ++ [F1 t tb e] from by simp [fL]]; exact Ent.trans (bun_in [.pts e.blk (encFile1 ⟨⟨e.a, e.xs.length, e.cap⟩, e.safe⟩) t, .row tb 1 e.a e.xs.length e.cap (e.xs.flatMap encB)] _) (bun_snoc _ _ _)
theorem file_rest {t tb : TypeId} {T : FT} {Γ : List Asn} (j : Nat) : Ent (Bun ((fL t tb T).eraseIdx j) :: Γ) (FB t tb (T.eraseIdx j) :: Γ) := by
  unfold FB fL; rw [eraseIdx_map_]; exact Ent.refl _
def usedT (T : FT) : Nat := (T.map fun e => e.xs.length).sum
theorem used_erase : ∀ {T : FT} {j : Nat} {e : FD}, T[j]? = some e → usedT (T.eraseIdx j) + e.xs.length = usedT T
  | [], _, _, h => by simp at h
  | x :: T, 0, e, h => by simp at h; subst h; simp [usedT]; omega
  | x :: T, j + 1, e, h => by
    have := used_erase (T := T) (j := j) (e := e) (by simpa using h); simp only [usedT, List.eraseIdx_cons_succ, List.map_cons, List.sum_cons] at this ⊢; omega
theorem used_at {T : FT} {j : Nat} {e : FD} (h : T[j]? = some e) : e.xs.length ≤ usedT T := by have := used_erase h; omega
theorem used_set : ∀ {T : FT} {j : Nat} {e e' : FD}, T[j]? = some e → usedT (T.set j e') + e.xs.length = usedT T + e'.xs.length
  | [], _, _, _, h => by simp at h
  | x :: T, 0, e, e', h => by simp at h; subst h; simp [usedT]; omega
  | x :: T, j + 1, e, e', h => by
    have := used_set (T := T) (j := j) (e := e) (e' := e') (by simpa using h); simp only [usedT, List.set_cons_succ, List.map_cons, List.sum_cons] at this ⊢; omega
theorem fm_set {T : FT} {j : Nat} {e e' : FD} (hj : T[j]? = some e) (h1 : e'.name = e.name) (h2 : e'.blk = e.blk) : fm (T.set j e') = fm T := by
  unfold fm; rw [List.map_set]; apply List.ext_getElem?; intro i
  by_cases q : j = i
  · subst q; obtain ⟨h3, h4⟩ := List.getElem?_eq_some_iff.1 hj; simp [List.getElem?_set, h3, h4, h1, h2]
  · rw [List.getElem?_set, if_neg q]
theorem vw_set {T : FT} {j : Nat} {e e' : FD} (hn : (T.map (·.name)).Nodup) (hj : T[j]? = some e) (h1 : e'.name = e.name) : vw (T.set j e') = mset (vw T) e.name (e'.xs, e'.safe) := by
  have hv : (vw T)[j]? = some (e.name, (e.xs, e.safe)) := by unfold vw; rw [List.getElem?_map, hj]; rfl
  rw [mset_at (vw T) j e.name _ _ (by rw [vw_keys]; exact hn) hv]; unfold vw; rw [List.map_set, h1]
theorem vw_new {T : FT} {e : FD} (h : e.name ∉ T.map (·.name)) : vw (T ++ [e]) = mset (vw T) e.name (e.xs, e.safe) := by
  rw [mset_new _ _ _ (by rw [vw_keys]; exact h)]; simp [vw]
theorem fm_new {T : FT} {e : FD} (h : e.name ∉ T.map (·.name)) : mset (fm T) e.name (some e.blk) = fm (T ++ [e]) := by
  rw [mset_new _ _ _ (by rw [fm_keys]; exact h)]; simp [fm]
theorem fm_del {T : FT} {j : Nat} {e : FD} (hn : (T.map (·.name)).Nodup) (hj : T[j]? = some e) : mdel (fm T) e.name = fm (T.eraseIdx j) := by
  have hv : (fm T)[j]? = some (e.name, some e.blk) := by unfold fm; rw [List.getElem?_map, hj]; rfl
  rw [mdel_at (fm T) j e.name _ (by rw [fm_keys]; exact hn) hv, fm_erase]
theorem vw_del {T : FT} {j : Nat} {e : FD} (hn : (T.map (·.name)).Nodup) (hj : T[j]? = some e) : mdel (vw T) e.name = vw (T.eraseIdx j) := by
  have hv : (vw T)[j]? = some (e.name, (e.xs, e.safe)) := by unfold vw; rw [List.getElem?_map, hj]; rfl
  rw [mdel_at (vw T) j e.name _ (by rw [vw_keys]; exact hn) hv]; exact eraseIdx_map_ _ T j
structure FOk (T : FT) : Prop where
  nd : (T.map (·.name)).Nodup
  sf : ∀ e ∈ T, 0 ≤ e.safe ∧ e.safe ≤ e.xs.length
  nm : ∀ e ∈ T, e.name.length ≤ 32
  ln : T.length ≤ 4096
  us : usedT T ≤ 1000000000000
theorem FOk.at_ {T : FT} (h : FOk T) {j : Nat} {e : FD} (hj : T[j]? = some e) : 0 ≤ e.safe ∧ e.safe ≤ e.xs.length := h.sf _ (List.mem_of_getElem? hj)
def decC (c : Int) : Int := if c > 0 then c - 1 else c
end Go.Dsk
namespace Go.Dsk
open Go Go.SL
theorem foldl_take {α β : Type} [Inhabited α] (f : β → α → β) (b : β) (l : List α) (k : Nat) (hk : k < l.length) : (l.take (k + 1)).foldl f b = f ((l.take k).foldl f b) (l.getD k default) := by
  rw [take_succ_getD l k hk, List.foldl_append]; rfl
def delT : FT → Nm → FT
  | [], _ => []
  | e :: T, s => if e.name = s then T else e :: delT T s
def setT : FT → FD → FT
  | [], e => [e]
  | x :: T, e => if x.name = e.name then e :: T else x :: setT T e
theorem fm_delT : ∀ (T : FT) (s : Nm), fm (delT T s) = mdel (fm T) s
  | [], _ => rfl
  | e :: T, s => by
    unfold delT
    by_cases h : e.name = s
    · rw [if_pos h]; simp [fm, mdel, h]
    · rw [if_neg h]; have := fm_delT T s; simp only [fm, List.map_cons, mdel, if_neg h] at this ⊢; rw [this]
theorem vw_delT : ∀ (T : FT) (s : Nm), vw (delT T s) = mdel (vw T) s
  | [], _ => rfl
  | e :: T, s => by
    unfold delT
    by_cases h : e.name = s
    · rw [if_pos h]; simp [vw, mdel, h]
    · rw [if_neg h]; have := vw_delT T s; simp only [vw, List.map_cons, mdel, if_neg h] at this ⊢; rw [this]
theorem fm_setT : ∀ (T : FT) (e : FD), fm (setT T e) = mset (fm T) e.name (some e.blk)
  | [], e => rfl
  | x :: T, e => by
    unfold setT
    by_cases h : x.name = e.name
    · rw [if_pos h]; simp [fm, mset, h]
    · rw [if_neg h]; have := fm_setT T e; simp only [fm, List.map_cons, mset, if_neg h] at this ⊢; rw [this]
theorem vw_setT : ∀ (T : FT) (e : FD), vw (setT T e) = mset (vw T) e.name (e.xs, e.safe)
  | [], e => rfl
  | x :: T, e => by
    unfold setT
    by_cases h : x.name = e.name
    · rw [if_pos h]; simp [vw, mset, h]
    · rw [if_neg h]; have := vw_setT T e; simp only [vw, List.map_cons, mset, if_neg h] at this ⊢; rw [this]
theorem delT_ent {t tb : TypeId} : ∀ (T : FT) (s : Nm), Ent (fL t tb T) (fL t tb (delT T s))
  | [], _ => Ent.refl _
  | e :: T, s => by
    unfold delT
    by_cases h : e.name = s
    · rw [if_pos h]; exact Ent.skip (Ent.refl _)
    · rw [if_neg h]; exact Ent.pick (A := F1 t tb e) Pick.here (delT_ent T s)
theorem setT_ent {t tb : TypeId} : ∀ (T : FT) (e : FD), Ent (F1 t tb e :: fL t tb T) (fL t tb (setT T e))
  | [], e => Ent.refl _
  | x :: T, e => by
    unfold setT
    by_cases h : x.name = e.name
    · rw [if_pos h]; exact Ent.pick (A := F1 t tb e) Pick.here (Ent.skip (Ent.refl _))
    · rw [if_neg h]; exact Ent.pick (A := F1 t tb x) (Pick.there Pick.here) (setT_ent T e)
theorem bun_ent {L L' Γ : List Asn} (h : Ent L L') : Ent (Bun L :: Γ) (Bun L' :: Γ) :=
  Ent.trans (bun_out L Γ) (Ent.trans (Ent.both h (Ent.refl Γ)) (bun_in L' Γ))
theorem file_del {t tb : TypeId} {T : FT} {Γ Γ1 : List Asn} (s : Nm) (q : Pick (FB t tb T) [] Γ Γ1) : Ent Γ (FB t tb (delT T s) :: Γ1) := Ent.trans (Ent.pick q (Ent.refl _)) (bun_ent (delT_ent T s))
theorem file_put {t tb : TypeId} {T : FT} {Γ : List Asn} (e : FD) :
    Ent (.pts e.blk (encFile1 ⟨⟨e.a, e.xs.length, e.cap⟩, e.safe⟩) t :: .row tb 1 e.a e.xs.length e.cap (e.xs.flatMap encB) :: FB t tb T :: Γ) (FB t tb (setT T e) :: Γ) := by
  refine Ent.trans (bun_in [.pts e.blk (encFile1 ⟨⟨e.a, e.xs.length, e.cap⟩, e.safe⟩) t, .row tb 1 e.a e.xs.length e.cap (e.xs.flatMap encB)] (FB t tb T :: Γ)) ?_; refine Ent.trans (Ent.both (A := [F1 t tb e]) (Ent.refl _) (bun_out (fL t tb T) Γ)) ?_; exact Ent.trans (Ent.both (A := F1 t tb e :: fL t tb T) (setT_ent T e) (Ent.refl Γ)) (bun_in _ Γ)
def usedV (V : FV) : Nat := (V.map fun p => p.2.1.length).sum
theorem used_vw (T : FT) : usedV (vw T) = usedT T := by simp [usedV, usedT, vw, Function.comp_def]
def zF : List UInt8 × Int := ([], 0)
def mnI (a b : Int) : Int := if b < a then b else a
def mxI (a b : Int) : Int := if b > a then b else a
def appR (room calls : Int) (V : FV) (name : Nm) (more : List UInt8) : Int × FV :=
  if calls = 0 then (32, V) else if nameB name = false then (30, V)
  else if (decide ((more.length : Int) > room - (usedV V : Int)) || (!mhas V name && decide ((V.length : Int) ≥ 4096))) = true then (31, V)
  else (0, mset V name ((mgetD V name zF).1 ++ more, (mgetD V name zF).2))
def syncStep (V : FV) (s : Nm) : FV := mset V s ((mgetD V s zF).1, ((mgetD V s zF).1.length : Int))
def syncR (calls : Int) (V : FV) (names : List Nm) : Int × FV := if calls = 0 then (32, V) else if names.all (mhas V) = false then (30, V) else (0, names.foldl syncStep V)
def renR (calls : Int) (V : FV) (a b : Nm) : Int × FV := if calls = 0 then (32, V) else if (!mhas V a || !nameB b) = true then (30, V) else (0, mset (mdel V a) b (mgetD V a zF))
def onceB (names : List Nm) : Bool := decide (names.Nodup)
def remR (calls : Int) (V : FV) (names : List Nm) : Int × FV := if calls = 0 then (32, V) else if (!names.all (mhas V) || !onceB names) = true then (30, V) else (0, names.foldl mdel V)
def stayF (keep : List Int) (k : Nat) (f : List UInt8 × Int) : Int := if (k : Int) < (keep.length : Int) then mnI (mxI (keep.getD k default) 0) ((f.1.length : Int) - f.2) else 0
def crK (keep : List Int) (ns : List Nm) (V : FV) : Nat → FV × Int
  | 0 => (V, 0)
  | k + 1 =>
    let q := crK keep ns V k
    let f := mgetD q.1 (ns.getD k default) zF
    (mset q.1 (ns.getD k default) (f.1.take (f.2 + stayF keep k f).toNat, f.2 + stayF keep k f), q.2 + ((f.1.length : Int) - f.2 - stayF keep k f))
def crR (keep : List Int) (V : FV) : FV × Int := crK keep (sortS (mkeys V)) V V.length
theorem stay_yes {keep : List Int} {k : Nat} {f : List UInt8 × Int} (h : (k : Int) < (keep.length : Int)) : mnI (mxI (keep.getD k default) 0) ((f.1.length : Int) - f.2) = stayF keep k f := (if_pos h).symm
theorem stay_no {keep : List Int} {k : Nat} {f : List UInt8 × Int} (h : ¬ (k : Int) < (keep.length : Int)) : 0 = stayF keep k f := (if_neg h).symm
theorem stay_bd (keep : List Int) (k : Nat) {f : List UInt8 × Int} (h : f.2 ≤ (f.1.length : Int)) : 0 ≤ stayF keep k f ∧ stayF keep k f ≤ (f.1.length : Int) - f.2 := by
  unfold stayF mnI mxI
  split
  · split <;> split <;> omega
  · omega
structure VOk (V : FV) : Prop where
  nd : (mkeys V).Nodup
  sf : ∀ p ∈ V, 0 ≤ p.2.2 ∧ p.2.2 ≤ (p.2.1.length : Int)
  nm : ∀ p ∈ V, p.1.length ≤ 32
  ln : V.length ≤ 4096
  us : usedV V ≤ 1000000000000
theorem fok {T : FT} : FOk T ↔ VOk (vw T) := by
  constructor
  · rintro ⟨h1, h2, h3, h4, h5⟩; refine ⟨by rw [vw_keys]; exact h1, fun p hp => ?_, fun p hp => ?_, by rw [vw_len]; exact h4, by rw [used_vw]; exact h5⟩
    · obtain ⟨e, he, rfl⟩ := List.mem_map.1 hp; exact h2 e he
    · obtain ⟨e, he, rfl⟩ := List.mem_map.1 hp; exact h3 e he
  · rintro ⟨h1, h2, h3, h4, h5⟩; refine ⟨by rw [← vw_keys]; exact h1, fun e he => h2 (e.name, (e.xs, e.safe)) (List.mem_map.2 ⟨e, he, rfl⟩), fun e he => h3 (e.name, (e.xs, e.safe)) (List.mem_map.2 ⟨e, he, rfl⟩), by rw [← vw_len]; exact h4, by rw [← used_vw]; exact h5⟩
theorem getD_of {V : FV} {s : Nm} {f : List UInt8 × Int} (h : mget V s = some f) : mgetD V s zF = f := by unfold mgetD; rw [h]; rfl
theorem has_of {V : FV} {s : Nm} {f : List UInt8 × Int} (h : mget V s = some f) : mhas V s = true := by unfold mhas; rw [h]; rfl
theorem has_no {T : FT} {s : Nm} (h : mgetD (fm T) s none = none) : mhas (vw T) s = false := by have := has_fm T s; rw [h] at this; simpa using this.symm
theorem getD_no {T : FT} {s : Nm} (h : mgetD (fm T) s none = none) : mgetD (vw T) s zF = zF := by
  have h1 : s ∉ mkeys (vw T) := by rw [vw_keys]; exact look_none h
  unfold mgetD; rw [mget_none.2 h1]; rfl
theorem ro_nilB {ρ : Hp} {a : Option Addr} {n cap : Nat} {s : List UInt8} (h : Ro ρ 1 a n cap (s.flatMap encB)) (ha : a.isNone = true) (hn : s.length = n) : s = [] ∧ n = 0 := by
  cases s with
  | nil => exact ⟨rfl, hn.symm⟩
  | cons x s =>
    obtain ⟨ad, e, _⟩ := h.2.2.2 0 (.int .u8 (x.toNat : Int)) rfl; rw [e] at ha
    cases ha
theorem iso_none' {o : Option Nat} (h : o.isNone = true) : o = none := by cases o with | none => rfl | some _ => cases h
theorem has_same {T T1 : FT} {s : Nm} (hf : fm T1 = fm T) : mhas (vw T1) s = mhas (vw T) s := by have h1 := has_fm T1 s; have h2 := has_fm T s; rw [hf, h2] at h1; simpa using h1.symm
theorem look_has {T : FT} {s : Nm} (h : mhas (vw T) s = true) : ¬ mgetD (fm T) s none = none := fun e => by rw [has_no e] at h; cases h
theorem or_yes {a b : Prop} {r : Int} (h : (0 ≤ r ∧ a) ∨ (r < 0 ∧ b)) (hr : 0 ≤ r) : a := h.elim (fun h => h.2) fun h => absurd h.1 (by omega)
theorem vok_nil : VOk [] := ⟨List.nodup_nil, (fun p hp => by cases hp), (fun p hp => by cases hp), by simp, by simp [usedV]⟩
theorem fok_of {T : FT} {V : FV} (h : vw T = V) (v : VOk V) : FOk T := fok.2 (by rw [h]; exact v)
end Go.Dsk
namespace Go.Dsk
open Go Go.SL
theorem once_eq (names : List Nm) : decide ((Lib.compact (sortS names)).length < names.length) = !onceB names := by
  have h1 := compact_len (sortS names); have h2 := compact_nodup (sortS_le names); rw [sortS_len] at h1 h2; rw [(sortS_perm names).nodup_iff] at h2; unfold onceB
  by_cases h : names.Nodup
  · have := h2.2 h; rw [decide_eq_true h, decide_eq_false (by omega)]; rfl
  · have : ¬ (Lib.compact (sortS names)).length = names.length := fun e => h (h2.1 e); rw [decide_eq_false h, decide_eq_true (by omega)]; rfl
theorem vw_foldl : ∀ (names : List Nm) (T : FT), vw (names.foldl delT T) = names.foldl mdel (vw T)
  | [], _ => rfl
  | n :: ns, T => by
    rw [List.foldl_cons, List.foldl_cons, vw_foldl ns, vw_delT]
end Go.Dsk
