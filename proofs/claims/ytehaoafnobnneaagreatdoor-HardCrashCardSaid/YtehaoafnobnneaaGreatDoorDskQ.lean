/-
  What is done to a disk, in plain words. No program in sight.
-/
import Derived.Test.YtehaoafnobnneaaGreatDoorDskP
set_option linter.unusedVariables false
set_option linter.unusedSimpArgs false
namespace Go.Dsk
open Go Go.SL
theorem foldl_take {α β : Type} [Inhabited α] (f : β → α → β) (b : β) (l : List α) (k : Nat) (hk : k < l.length) : (l.take (k + 1)).foldl f b = f ((l.take k).foldl f b) (l.getD k default) := by
  rw [take_succ_getD l k hk, List.foldl_append]; rfl
/-! ### Files taken away, files laid in another's place -/
def delT : FT → Nm → FT
  | [], _ => []
  | e :: T, s => if e.name = s then T else e :: delT T s
def setT : FT → FD → FT
  | [], e => [e]
  | x :: T, e => if x.name = e.name then e :: T else x :: setT T e
theorem fm_delT : ∀ (T : FT) (s : Nm), fm (delT T s) = mdel (fm T) s
  | [], _ => rfl
  | e :: T, s => by
    unfold delT
    by_cases h : e.name = s
    · rw [if_pos h]; simp [fm, mdel, h]
    · rw [if_neg h]
      have := fm_delT T s
      simp only [fm, List.map_cons, mdel, if_neg h] at this ⊢
      rw [this]
theorem vw_delT : ∀ (T : FT) (s : Nm), vw (delT T s) = mdel (vw T) s
  | [], _ => rfl
  | e :: T, s => by
    unfold delT
    by_cases h : e.name = s
    · rw [if_pos h]; simp [vw, mdel, h]
    · rw [if_neg h]
      have := vw_delT T s
      simp only [vw, List.map_cons, mdel, if_neg h] at this ⊢
      rw [this]
theorem fm_setT : ∀ (T : FT) (e : FD), fm (setT T e) = mset (fm T) e.name (some e.blk)
  | [], e => rfl
  | x :: T, e => by
    unfold setT
    by_cases h : x.name = e.name
    · rw [if_pos h]; simp [fm, mset, h]
    · rw [if_neg h]
      have := fm_setT T e
      simp only [fm, List.map_cons, mset, if_neg h] at this ⊢
      rw [this]
theorem vw_setT : ∀ (T : FT) (e : FD), vw (setT T e) = mset (vw T) e.name (e.xs, e.safe)
  | [], e => rfl
  | x :: T, e => by
    unfold setT
    by_cases h : x.name = e.name
    · rw [if_pos h]; simp [vw, mset, h]
    · rw [if_neg h]
      have := vw_setT T e
      simp only [vw, List.map_cons, mset, if_neg h] at this ⊢
      rw [this]
theorem delT_ent {t tb : TypeId} : ∀ (T : FT) (s : Nm), Ent (fL t tb T) (fL t tb (delT T s))
  | [], _ => Ent.refl _
  | e :: T, s => by
    unfold delT
    by_cases h : e.name = s
    · rw [if_pos h]; exact Ent.skip (Ent.refl _)
    · rw [if_neg h]; exact Ent.pick (A := F1 t tb e) Pick.here (delT_ent T s)
theorem setT_ent {t tb : TypeId} : ∀ (T : FT) (e : FD), Ent (F1 t tb e :: fL t tb T) (fL t tb (setT T e))
  | [], e => Ent.refl _
  | x :: T, e => by
    unfold setT
    by_cases h : x.name = e.name
    · rw [if_pos h]; exact Ent.pick (A := F1 t tb e) Pick.here (Ent.skip (Ent.refl _))
    · rw [if_neg h]; exact Ent.pick (A := F1 t tb x) (Pick.there Pick.here) (setT_ent T e)
theorem bun_ent {L L' Γ : List Asn} (h : Ent L L') : Ent (Bun L :: Γ) (Bun L' :: Γ) :=
  Ent.trans (bun_out L Γ) (Ent.trans (Ent.both h (Ent.refl Γ)) (bun_in L' Γ))
theorem file_del {t tb : TypeId} {T : FT} {Γ Γ1 : List Asn} (s : Nm) (q : Pick (FB t tb T) [] Γ Γ1) : Ent Γ (FB t tb (delT T s) :: Γ1) := Ent.trans (Ent.pick q (Ent.refl _)) (bun_ent (delT_ent T s))
theorem file_put {t tb : TypeId} {T : FT} {Γ : List Asn} (e : FD) :
    Ent (.pts e.blk (encFile1 ⟨⟨e.a, e.xs.length, e.cap⟩, e.safe⟩) t :: .row tb 1 e.a e.xs.length e.cap (e.xs.flatMap encB) :: FB t tb T :: Γ) (FB t tb (setT T e) :: Γ) := by
  refine Ent.trans (bun_in [.pts e.blk (encFile1 ⟨⟨e.a, e.xs.length, e.cap⟩, e.safe⟩) t, .row tb 1 e.a e.xs.length e.cap (e.xs.flatMap encB)] (FB t tb T :: Γ)) ?_
  refine Ent.trans (Ent.both (A := [F1 t tb e]) (Ent.refl _) (bun_out (fL t tb T) Γ)) ?_
  exact Ent.trans (Ent.both (A := F1 t tb e :: fL t tb T) (setT_ent T e) (Ent.refl Γ)) (bun_in _ Γ)
/-! ### What is answered, what is there behind it -/
def usedV (V : FV) : Nat := (V.map fun p => p.2.1.length).sum
theorem used_vw (T : FT) : usedV (vw T) = usedT T := by simp [usedV, usedT, vw, Function.comp_def]
def zF : List UInt8 × Int := ([], 0)
def mnI (a b : Int) : Int := if b < a then b else a
def mxI (a b : Int) : Int := if b > a then b else a
def appR (room calls : Int) (V : FV) (name : Nm) (more : List UInt8) : Int × FV :=
  if calls = 0 then (32, V) else if nameB name = false then (30, V)
  else if (decide ((more.length : Int) > room - (usedV V : Int)) || (!mhas V name && decide ((V.length : Int) ≥ 4096))) = true then (31, V)
  else (0, mset V name ((mgetD V name zF).1 ++ more, (mgetD V name zF).2))
def syncStep (V : FV) (s : Nm) : FV := mset V s ((mgetD V s zF).1, ((mgetD V s zF).1.length : Int))
def syncR (calls : Int) (V : FV) (names : List Nm) : Int × FV := if calls = 0 then (32, V) else if names.all (mhas V) = false then (30, V) else (0, names.foldl syncStep V)
def renR (calls : Int) (V : FV) (a b : Nm) : Int × FV := if calls = 0 then (32, V) else if (!mhas V a || !nameB b) = true then (30, V) else (0, mset (mdel V a) b (mgetD V a zF))
def onceB (names : List Nm) : Bool := decide (names.Nodup)
def remR (calls : Int) (V : FV) (names : List Nm) : Int × FV := if calls = 0 then (32, V) else if (!names.all (mhas V) || !onceB names) = true then (30, V) else (0, names.foldl mdel V)
def cutR (calls : Int) (V : FV) (name : Nm) (n : Int) : Int × FV :=
  if calls = 0 then (32, V) else if mhas V name = false then (30, V)
  else if (decide (n < 0) || decide (n > ((mgetD V name zF).1.length : Int))) = true then (2, V) else (0, mset V name ((mgetD V name zF).1.take n.toNat, mnI (mgetD V name zF).2 n))
def stayF (keep : List Int) (k : Nat) (f : List UInt8 × Int) : Int := if (k : Int) < (keep.length : Int) then mnI (mxI (keep.getD k default) 0) ((f.1.length : Int) - f.2) else 0
def crK (keep : List Int) (ns : List Nm) (V : FV) : Nat → FV × Int
  | 0 => (V, 0)
  | k + 1 =>
    let q := crK keep ns V k
    let f := mgetD q.1 (ns.getD k default) zF
    (mset q.1 (ns.getD k default) (f.1.take (f.2 + stayF keep k f).toNat, f.2 + stayF keep k f), q.2 + ((f.1.length : Int) - f.2 - stayF keep k f))
def crR (keep : List Int) (V : FV) : FV × Int := crK keep (sortS (mkeys V)) V V.length
theorem stay_yes {keep : List Int} {k : Nat} {f : List UInt8 × Int} (h : (k : Int) < (keep.length : Int)) : mnI (mxI (keep.getD k default) 0) ((f.1.length : Int) - f.2) = stayF keep k f := (if_pos h).symm
theorem stay_no {keep : List Int} {k : Nat} {f : List UInt8 × Int} (h : ¬ (k : Int) < (keep.length : Int)) : 0 = stayF keep k f := (if_neg h).symm
theorem stay_bd (keep : List Int) (k : Nat) {f : List UInt8 × Int} (h : f.2 ≤ (f.1.length : Int)) : 0 ≤ stayF keep k f ∧ stayF keep k f ≤ (f.1.length : Int) - f.2 := by
  unfold stayF mnI mxI
  split
  · split <;> split <;> omega
  · omega
structure VOk (V : FV) : Prop where
  nd : (mkeys V).Nodup
  sf : ∀ p ∈ V, 0 ≤ p.2.2 ∧ p.2.2 ≤ (p.2.1.length : Int)
  nm : ∀ p ∈ V, p.1.length ≤ 32
  ln : V.length ≤ 4096
  us : usedV V ≤ 1000000000000
theorem fok {T : FT} : FOk T ↔ VOk (vw T) := by
  constructor
  · rintro ⟨h1, h2, h3, h4, h5⟩
    refine ⟨by rw [vw_keys]; exact h1, fun p hp => ?_, fun p hp => ?_, by rw [vw_len]; exact h4, by rw [used_vw]; exact h5⟩
    · obtain ⟨e, he, rfl⟩ := List.mem_map.1 hp; exact h2 e he
    · obtain ⟨e, he, rfl⟩ := List.mem_map.1 hp; exact h3 e he
  · rintro ⟨h1, h2, h3, h4, h5⟩
    refine ⟨by rw [← vw_keys]; exact h1, fun e he => h2 (e.name, (e.xs, e.safe)) (List.mem_map.2 ⟨e, he, rfl⟩), fun e he => h3 (e.name, (e.xs, e.safe)) (List.mem_map.2 ⟨e, he, rfl⟩), by rw [← vw_len]; exact h4, by rw [← used_vw]; exact h5⟩
theorem getD_of {V : FV} {s : Nm} {f : List UInt8 × Int} (h : mget V s = some f) : mgetD V s zF = f := by unfold mgetD; rw [h]; rfl
theorem has_of {V : FV} {s : Nm} {f : List UInt8 × Int} (h : mget V s = some f) : mhas V s = true := by unfold mhas; rw [h]; rfl
theorem has_no {T : FT} {s : Nm} (h : mgetD (fm T) s none = none) : mhas (vw T) s = false := by have := has_fm T s; rw [h] at this; simpa using this.symm
theorem getD_no {T : FT} {s : Nm} (h : mgetD (fm T) s none = none) : mgetD (vw T) s zF = zF := by
  have h1 : s ∉ mkeys (vw T) := by rw [vw_keys]; exact look_none h
  unfold mgetD; rw [mget_none.2 h1]; rfl
theorem ro_nilB {ρ : Hp} {a : Option Addr} {n cap : Nat} {s : List UInt8} (h : Ro ρ 1 a n cap (s.flatMap encB)) (ha : a.isNone = true) (hn : s.length = n) : s = [] ∧ n = 0 := by
  cases s with
  | nil => exact ⟨rfl, hn.symm⟩
  | cons x s =>
    obtain ⟨ad, e, _⟩ := h.2.2.2 0 (.int .u8 (x.toNat : Int)) rfl
    rw [e] at ha
    cases ha
theorem iso_none' {o : Option Nat} (h : o.isNone = true) : o = none := by cases o with | none => rfl | some _ => cases h
theorem has_same {T T1 : FT} {s : Nm} (hf : fm T1 = fm T) : mhas (vw T1) s = mhas (vw T) s := by have h1 := has_fm T1 s; have h2 := has_fm T s; rw [hf, h2] at h1; simpa using h1.symm
theorem look_has {T : FT} {s : Nm} (h : mhas (vw T) s = true) : ¬ mgetD (fm T) s none = none := fun e => by rw [has_no e] at h; cases h
theorem vok_one {n : Nm} {b : List UInt8} {s : Int} (h1 : 0 ≤ s) (h2 : s ≤ (b.length : Int)) (h3 : n.length ≤ 32) (h4 : b.length ≤ 1000) : VOk [(n, (b, s))] where
  nd := by simp [mkeys]
  sf := fun p hp => by
    obtain rfl := List.mem_singleton.1 hp
    exact ⟨h1, h2⟩
  nm := fun p hp => by
    obtain rfl := List.mem_singleton.1 hp
    exact h3
  ln := by simp
  us := by simp [usedV]; omega
theorem or_yes {a b : Prop} {r : Int} (h : (0 ≤ r ∧ a) ∨ (r < 0 ∧ b)) (hr : 0 ≤ r) : a := h.elim (fun h => h.2) fun h => absurd h.1 (by omega)
theorem or_no {a b : Prop} {r : Int} (h : (0 ≤ r ∧ a) ∨ (r < 0 ∧ b)) (hr : r < 0) : b := h.elim (fun h => absurd h.1 (by omega)) fun h => h.2
theorem vok_nil : VOk [] := ⟨List.nodup_nil, (fun p hp => by cases hp), (fun p hp => by cases hp), by simp, by simp [usedV]⟩
theorem fok_of {T : FT} {V : FV} (h : vw T = V) (v : VOk V) : FOk T := fok.2 (by rw [h]; exact v)
theorem used_of {T : FT} {V : FV} (h : vw T = V) : usedT T = usedV V := by rw [← used_vw, h]
theorem sortS_one (n : Nm) : sortS [n] = [n] := by simp [sortS]
end Go.Dsk
