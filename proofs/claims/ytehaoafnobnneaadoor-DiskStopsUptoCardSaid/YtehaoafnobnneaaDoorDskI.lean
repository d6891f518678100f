/-
  The reference's steps, in plain words. No program in sight.
-/
import Derived.Test.YtehaoafnobnneaaDoorDskH
import Derived.Test.YtehaoafnobnneaaDoorDskG
set_option linter.unusedVariables false
set_option linter.unusedSimpArgs false
namespace Go.Dsk
open Go Go.SL
theorem all_no {f : Nm → Bool} {names : List Nm} {k : Nat} (hk : k < names.length) (h : f (names.getD k default) = false) : names.all f = false := by
  rw [List.all_eq_false]
  exact ⟨names.getD k default, getD_in hk, by rw [h]; decide⟩
theorem all_next {f : Nm → Bool} {names : List Nm} {k : Nat} (hk : k < names.length) (h : (names.take k).all f = true) (e : f (names.getD k default) = true) : (names.take (k + 1)).all f = true := by
  rw [take_succ_getD names k hk, List.all_append, h, List.all_cons, e]; rfl
theorem rb_same {tb : TypeId} {T : RT} {i : Nat} {e : RFile} (hi : i < T.length) (h : e.B = (T.getD i default).B) : RB tb (T.set i e) = RB tb T := by
  unfold RB
  congr 1
  rw [List.map_set]
  apply List.ext_getElem?
  intro j
  by_cases q : i = j
  · subst q
    have h2 : T[i] = T.getD i default := by simp [List.getD, hi]
    rw [List.getElem?_set_self (by simpa using hi), List.getElem?_map, List.getElem?_eq_getElem hi, h2]
    show some (R1 tb e) = some (R1 tb (T.getD i default))
    unfold R1
    rw [h]
  · rw [List.getElem?_set, if_neg q]
theorem rnames_set {T : RT} {i : Nat} {e : RFile} (hi : i < T.length) (h : e.Name = (T.getD i default).Name) : (T.set i e).map (·.Name) = T.map (·.Name) := by
  rw [List.map_set]
  apply List.ext_getElem?
  intro j
  by_cases q : i = j
  · subst q
    have h2 : T[i] = T.getD i default := by simp [List.getD, hi]
    rw [List.getElem?_set_self (by simpa using hi), List.getElem?_map, List.getElem?_eq_getElem hi, h2, h]; rfl
  · rw [List.getElem?_set, if_neg q]
theorem rhas_names {T T1 : RT} (h : T1.map (·.Name) = T.map (·.Name)) (s : Nm) : mhas (rvw T1) s = mhas (rvw T) s := by
  rw [Bool.eq_iff_iff, mhas_iff, mhas_iff, rvw_keys, rvw_keys, h]
theorem rnd {T : RT} (h : VOk (rvw T)) : (T.map (·.Name)).Nodup := by rw [← rvw_keys]; exact h.nd
theorem rat {T : RT} (h : VOk (rvw T)) {i : Nat} (hi : i < T.length) : 0 ≤ (T.getD i default).Safe ∧ (T.getD i default).Safe ≤ ((T.getD i default).B.xs.length : Int) := by
  refine h.sf (rp (T.getD i default)) (List.mem_map.2 ⟨_, ?_, rfl⟩)
  simp [List.getD, hi]
theorem usedR_at {T : RT} {i : Nat} (hi : i < T.length) : (T.getD i default).B.xs.length ≤ usedR T := by
  have h1 := usedR_take hi
  have h2 := usedR_le T (i + 1)
  omega
theorem rat_us {T : RT} (h : VOk (rvw T)) : usedR T ≤ 1000000000000 := by rw [← usedR_vw]; exact h.us
theorem rat_ln {T : RT} (h : VOk (rvw T)) : T.length ≤ 4096 := by rw [← rvw_len]; exact h.ln
theorem row_cut2 {tb : TypeId} {a : Option Addr} {cap : Nat} {xs : List UInt8} {Γ : List Asn} (k : Nat) (hk : k ≤ xs.length) : Ent (.row tb 1 a xs.length cap (xs.flatMap encB) :: Γ) (.row tb 1 a (xs.take k).length cap ((xs.take k).flatMap encB) :: Γ) := by
  have h := row_cut (T := tb) (enc := encB) (sz := 1) (a := a) (cap := cap) (xs := xs) (n := xs.length) (Γ := Γ) (fun _ => rfl) k hk
  rwa [show (xs.take k).length = k from by rw [List.length_take]; omega]
theorem getD_set {T : RT} {i : Nat} {e : RFile} (hi : i < T.length) : (T.set i e).getD i default = e := by simp [List.getD, hi]
/-! ### Files put in and taken out -/
def RIn (T : RT) (f : RFile) (T1 : RT) : Prop := ∃ k ≤ T.length, (∀ e ∈ T.take k, e.Name < f.Name) ∧ (k < T.length → ¬ (T.getD k default).Name < f.Name) ∧ T1 = T.take k ++ f :: T.drop k
/-- the list of a file put in, in plain words -/
def insV (V : FV) (f : Nm × (List UInt8 × Int)) : FV := V.takeWhile (fun p => decide (p.1 < f.1)) ++ f :: V.dropWhile (fun p => decide (p.1 < f.1))
theorem tw_eq {α : Type} [Inhabited α] {p : α → Bool} : ∀ {l : List α} {k : Nat}, k ≤ l.length → (∀ x ∈ l.take k, p x = true) → (k < l.length → p (l.getD k default) = false) → l.takeWhile p = l.take k ∧ l.dropWhile p = l.drop k
  | [], k, _, _, _ => by simp
  | x :: l, 0, _, _, h => by
    have := h (by simp)
    simp only [List.getD_cons_zero] at this
    simp [List.takeWhile_cons, List.dropWhile_cons, this]
  | x :: l, k + 1, hk, h1, h2 => by
    have hx : p x = true := h1 x (by simp)
    obtain ⟨e1, e2⟩ := tw_eq (l := l) (k := k) (p := p) (by simpa using hk) (fun y hy => h1 y (by rw [List.take_succ_cons]; exact List.mem_cons_of_mem _ hy)) (fun hlt => by simpa using h2 (by simpa using hlt))
    simp [List.takeWhile_cons, List.dropWhile_cons, hx, e1, e2]
theorem rin_vw {T T1 : RT} {f : RFile} (h : RIn T f T1) : rvw T1 = insV (rvw T) (rp f) := by
  obtain ⟨k, hk, h1, h2, rfl⟩ := h
  obtain ⟨e1, e2⟩ := tw_eq (p := fun p => decide (p.1 < (rp f).1)) (l := rvw T) (k := k) (by rw [rvw_len]; exact hk) (fun x hx => by
    unfold rvw at hx
    rw [← List.map_take] at hx
    obtain ⟨e, he, rfl⟩ := List.mem_map.1 hx
    exact decide_eq_true (h1 e he)) (fun hlt => by
    rw [rvw_len] at hlt
    have : (rvw T).getD k default = rp (T.getD k default) := by unfold rvw; simp [List.getD, hlt]
    rw [this]
    exact decide_eq_false (h2 hlt))
  unfold insV
  rw [e1, e2]
  unfold rvw
  rw [List.map_append, List.map_cons, List.map_take, List.map_drop]
theorem rin_len {T T1 : RT} {f : RFile} (h : RIn T f T1) : T1.length = T.length + 1 := by
  obtain ⟨k, hk, _, _, rfl⟩ := h
  simp; omega
theorem rfi_pos (T : RT) (s : Nm) : decide (0 ≤ rfi T s) = mhas (rvw T) s := by
  have h := rfi_neg T s
  cases hm : mhas (rvw T) s with
  | true => rw [hm] at h; simp at h; exact decide_eq_true h
  | false => rw [hm] at h; simp at h; exact decide_eq_false (by omega)
theorem mdel_nohas {V : FV} {s : Nm} (h : mhas V s = false) : mdel V s = V := mdel_no V s (fun c => by rw [mhas_iff.2 c] at h; cases h)
theorem rnd_erase {T : RT} (h : (T.map (·.Name)).Nodup) {i : Nat} (hi : i < T.length) : ((T.eraseIdx i).map (·.Name)).Nodup := by
  rw [← rvw_keys, rdel h hi]
  exact mdel_nodup (by rw [rvw_keys]; exact h) _
theorem fold_del_nd : ∀ (ns : List Nm) {V : FV}, (mkeys V).Nodup → (mkeys (ns.foldl mdel V)).Nodup
  | [], _, h => h
  | n :: ns, _, h => fold_del_nd ns (mdel_nodup h n)
theorem fold_del_get : ∀ (ns : List Nm) {V : FV} {s : Nm}, (mkeys V).Nodup → s ∉ ns → mget (ns.foldl mdel V) s = mget V s
  | [], _, _, _, _ => rfl
  | n :: ns, V, s, h, hs => by
    rw [List.foldl_cons, fold_del_get ns (mdel_nodup h n) (fun c => hs (List.mem_cons_of_mem _ c)), mget_del h, if_neg (fun e => hs (by rw [e]; exact List.mem_cons_self))]
theorem fold_del_has {ns : List Nm} {V : FV} (h : (mkeys V).Nodup) (hn : ns.Nodup) (ha : ns.all (mhas V) = true) {k : Nat} (hk : k < ns.length) : mhas ((ns.take k).foldl mdel V) (ns.getD k default) = true := by
  have hnot : ns.getD k default ∉ ns.take k := by
    have h1 : (ns.take (k + 1)).Nodup := hn.sublist (List.take_sublist _ _)
    rw [take_succ_getD ns k hk, List.nodup_append] at h1
    intro c
    exact h1.2.2 _ c _ (List.mem_singleton.2 rfl) rfl
  have h2 := (List.all_eq_true.1 ha) _ (getD_in hk)
  unfold mhas at h2 ⊢
  rw [fold_del_get _ h hnot]; exact h2
theorem nodup_next {ns : List Nm} {k : Nat} (hk : k < ns.length) (h : (ns.take k).Nodup) (e : ∀ n ∈ ns.take k, ¬ n = ns.getD k default) : (ns.take (k + 1)).Nodup := by
  rw [take_succ_getD ns k hk, List.nodup_append]
  exact ⟨h, by simp, fun a ha b hb => by rw [List.mem_singleton.1 hb]; exact e a ha⟩
theorem nodup_no {ns : List Nm} {j k : Nat} (hjk : j < k) (hk : k < ns.length) (e : ns.getD j default = ns.getD k default) : onceB ns = false := by
  unfold onceB
  refine decide_eq_false fun h => ?_
  have hj : j < ns.length := by omega
  rw [List.getD_eq_getElem?_getD, List.getD_eq_getElem?_getD, List.getElem?_eq_getElem hj, List.getElem?_eq_getElem hk] at e
  simp only [Option.getD_some] at e
  have := (List.getElem_inj h).1 e
  omega
/-- Rename, as the reference has it -/
def renI (calls : Int) (V : FV) (a b : Nm) : Int × FV := if calls = 0 then (32, V) else if (!mhas V a || !nameB b) = true then (30, V) else (0, insV (mdel (mdel V a) b) (b, mgetD V a zF))
def appI (room calls : Int) (V : FV) (name : Nm) (more : List UInt8) : Int × FV :=
  if calls = 0 then (32, V) else if nameB name = false then (30, V)
  else if (decide ((more.length : Int) > room - (usedV V : Int)) || (!mhas V name && decide ((V.length : Int) ≥ 4096))) = true then (31, V)
  else if mhas V name = true then (0, mset V name ((mgetD V name zF).1 ++ more, (mgetD V name zF).2)) else (0, insV V (name, (more, 0)))
theorem mget_app : ∀ (A B : FV) (t : Nm), mget (A ++ B) t = (mget A t).or (mget B t)
  | [], B, t => rfl
  | (k, v) :: A, B, t => by
    by_cases h : k = t
    · simp [mget, h]
    · simp [mget, h, mget_app A B t]
theorem mset_app : ∀ (A B : FV) (s : Nm) (v : List UInt8 × Int), s ∉ mkeys A → mset (A ++ B) s v = A ++ mset B s v
  | [], B, s, v, _ => rfl
  | (k, u) :: A, B, s, v, h => by
    have h1 : ¬ k = s := fun e => h (by simp [mkeys, e])
    have h2 : s ∉ mkeys A := fun c => h (by simp only [mkeys, List.map_cons, List.mem_cons]; exact .inr c)
    simp [mset, h1, mset_app A B s v h2]
def twV_ (V : FV) (f : Nm) : FV := V.takeWhile (fun p => decide (p.1 < f))
def dwV_ (V : FV) (f : Nm) : FV := V.dropWhile (fun p => decide (p.1 < f))
theorem tdV (V : FV) (f : Nm) : twV_ V f ++ dwV_ V f = V := List.takeWhile_append_dropWhile
theorem tw_no {V : FV} {s : Nm} (h : s ∉ mkeys V) (f : Nm) : s ∉ mkeys (twV_ V f) := fun c => h (by
  rw [← tdV V f]; simp only [mkeys, List.map_append, List.mem_append]; exact .inl c)
theorem insV_get {V : FV} {s : Nm} (x : List UInt8 × Int) (h : s ∉ mkeys V) (t : Nm) : mget (insV V (s, x)) t = if s = t then some x else mget V t := by
  show mget (twV_ V s ++ (s, x) :: dwV_ V s) t = _
  rw [mget_app]
  by_cases e : s = t
  · subst e
    rw [mget_none.2 (tw_no h s), if_pos rfl]
    simp [mget]
  · rw [if_neg e]
    have h2 : mget ((s, x) :: dwV_ V s) t = mget (dwV_ V s) t := by simp [mget, e]
    rw [h2, ← mget_app, tdV]
theorem insV_set {V : FV} {s : Nm} (x y : List UInt8 × Int) (h : s ∉ mkeys V) : mset (insV V (s, x)) s y = insV V (s, y) := by
  show mset (twV_ V s ++ (s, x) :: dwV_ V s) s y = twV_ V s ++ (s, y) :: dwV_ V s
  rw [mset_app _ _ _ _ (tw_no h s)]
  simp [mset]
theorem insV_perm (V : FV) (f : Nm × (List UInt8 × Int)) : (insV V f).Perm (f :: V) := by
  show (twV_ V f.1 ++ f :: dwV_ V f.1).Perm (f :: V)
  refine List.perm_middle.trans ?_
  rw [tdV]
theorem insV_nd {V : FV} {f : Nm × (List UInt8 × Int)} (h : (mkeys V).Nodup) (hs : f.1 ∉ mkeys V) : (mkeys (insV V f)).Nodup := by
  have hp : (mkeys (insV V f)).Perm (f.1 :: mkeys V) := (insV_perm V f).map _
  rw [hp.nodup_iff, List.nodup_cons]
  exact ⟨hs, h⟩
theorem catS_take (bs : List (SL UInt8)) (k : Nat) : (catS (bs.take k)).length ≤ (catS bs).length := by
  have h : (catS bs).length = (catS (bs.take k)).length + (catS (bs.drop k)).length := by
    unfold catS
    rw [← List.length_append, ← List.flatMap_append, List.take_append_drop]
  omega
theorem set_self {T : RT} {i : Nat} (hi : i < T.length) : T.set i (T.getD i default) = T := by
  rw [show T.getD i default = T[i] from by simp [List.getD, hi]]
  exact List.set_getElem_self hi
theorem stay_pos {keep : List Int} {k : Nat} {f : List UInt8 × Int} (h1 : (k : Int) < (keep.length : Int)) (h2 : 0 < keep.getD k default) : (if ((f.1.length : Int) - f.2) < keep.getD k default then ((f.1.length : Int) - f.2) else keep.getD k default) = stayF keep k f := by
  unfold stayF mnI mxI
  rw [if_pos h1, if_neg (show ¬ (0 : Int) > keep.getD k default by omega)]
theorem stay_non {keep : List Int} {k : Nat} {f : List UInt8 × Int} (h1 : ¬ (k : Int) < (keep.length : Int) ∨ ¬ 0 < keep.getD k default) (h2 : f.2 ≤ (f.1.length : Int)) : stayF keep k f = 0 := by
  unfold stayF mnI mxI
  by_cases h : (k : Int) < (keep.length : Int)
  · have h3 : ¬ 0 < keep.getD k default := h1.resolve_left (fun c => c h)
    rw [if_pos h]
    split <;> split <;> omega
  · rw [if_neg h]
theorem usedR_set : ∀ {T : RT} {i : Nat} (_ : i < T.length) (e : RFile), usedR (T.set i e) + (T.getD i default).B.xs.length = usedR T + e.B.xs.length
  | [], _, h, _ => by simp at h
  | x :: T, 0, _, e => by simp [usedR]; omega
  | x :: T, i + 1, h, e => by
    have := usedR_set (T := T) (i := i) (by simpa using h) e
    simp only [usedR, List.set_cons_succ, List.map_cons, List.sum_cons, List.getD_cons_succ] at this ⊢
    omega
theorem no_mem {V : FV} {s : Nm} (h : mhas V s = false) : s ∉ mkeys V := fun c => by rw [mhas_iff.2 c] at h; cases h
end Go.Dsk
