/-
  Words for the walks of the reference's dispatcher. No program in sight.
-/
import Derived.Test.YteajafkmnhikoaaDspF
set_option linter.unusedVariables false
set_option linter.unusedSimpArgs false
set_option linter.unusedSectionVars false
namespace Go.Dsp
open Go Go.SL
def keepS (o : Ord) (s e : RSent) : RSent := if decide (ordL e.O = ordL o) = true then e else s
theorem rkeep_eq (L : List RSent) (o : Ord) : L.foldl (keepS o) ⟨o, -1⟩ = rkeep L o := rfl
structure RD where
  Span : Int
  L : List RSent
  T : List RTold
structure RA where
  a1 : Option Addr
  n1 : Nat
  c1 : Nat
  a2 : Option Addr
  n2 : Nat
  c2 : Nat
def mupTo {α : Type} (f : α → α) (l : List α) (k : Nat) : List α := (l.take k).map f ++ l.drop k
section
variable {α : Type} [Inhabited α] {f : α → α} {l : List α} {k : Nat}
theorem mup_zero : mupTo f l 0 = l := by simp [mupTo]
theorem mup_all : mupTo f l l.length = l.map f := by simp [mupTo]
theorem mup_len : (mupTo f l k).length = l.length := by simp only [mupTo, List.length_append, List.length_map, List.length_take, List.length_drop]; omega
theorem mup_get (hk : k < l.length) : (mupTo f l k).getD k default = l.getD k default := by
  unfold mupTo
  have h1 : ((l.take k).map f).length = k := by simp; omega
  show ((List.map f (List.take k l) ++ List.drop k l)[k]?).getD default = _
  rw [List.getElem?_append_right (by omega), h1, Nat.sub_self, List.getElem?_drop]
  rfl
theorem mup_set (hk : k < l.length) {v : α} (hv : v = f (l.getD k default)) : (mupTo f l k).set k v = mupTo f l (k + 1) := by
  unfold mupTo
  have h1 : ((l.take k).map f).length = k := by simp; omega
  rw [List.set_append_right _ _ (by omega), h1, Nat.sub_self, List.drop_eq_getElem_cons hk, List.set_cons_zero, take_succ_getD l k hk, List.map_append, List.append_assoc, hv]
  rfl
theorem mup_same (hk : k < l.length) (h : f (l.getD k default) = l.getD k default) : mupTo f l k = mupTo f l (k + 1) := by
  rw [← mup_set hk (v := l.getD k default) h.symm]
  apply List.ext_getElem?
  intro i
  rw [List.getElem?_set]
  by_cases e : k = i
  · subst e
    have hlt : k < (mupTo f l k).length := by rw [mup_len]; exact hk
    have := mup_get (f := f) hk
    rw [if_pos rfl, if_pos hlt]
    rw [← this]
    simp [List.getD, hlt]
  · rw [if_neg e]
theorem setD_self (h : k < l.length) : l.set k (l.getD k default) = l := by
  apply List.ext_getElem?
  intro i
  rw [List.getElem?_set]
  by_cases e : k = i
  · subst e; rw [if_pos rfl, if_pos h]; simp [List.getD, h]
  · rw [if_neg e]
theorem getD_set_at {v : α} (h : k < l.length) : (l.set k v).getD k default = v := by simp [List.getD, h]
end
theorem tickO_succ (span : Int) (L : List RSent) (k : Nat) (hk : k < L.length) : rtickO span (L.take (k + 1)) = rtickO span (L.take k) ++ (if rdue span (up (L.getD k default).Since) = true then [(L.getD k default).O] else []) := by
  unfold rtickO
  rw [take_succ_getD L k hk, List.filter_append, List.map_append]
  congr 1
  rw [List.filter_cons, List.filter_nil]
  by_cases h : rdue span (up (L.getD k default).Since) = true
  · rw [if_pos h, if_pos h]; rfl
  · rw [if_neg h, if_neg h]; rfl
theorem tickO_len (span : Int) (L : List RSent) : (rtickO span L).length ≤ L.length := by unfold rtickO; rw [List.length_map]; exact List.length_filter_le _ _
theorem rputF_eq (l : List RSent) (s : RSent) : rputF l s = if (l.foldl (rputStep s) ([], false)).2 = true then (l.foldl (rputStep s) ([], false)).1 else (l.foldl (rputStep s) ([], false)).1 ++ [s] := rfl
theorem rputStep_eq (s : RSent) (a : List RSent × Bool) (e : RSent) : rputStep s a e = ((if rputP s a e = true then a.1 ++ [s] else a.1) ++ (if e.O.Cluster ≠ s.O.Cluster then [e] else []), a.2 || rputP s a e) := rfl
theorem rput_len (s : RSent) : ∀ (l : List RSent) (a : List RSent × Bool), (l.foldl (rputStep s) a).1.length ≤ a.1.length + 2 * l.length
  | [], a => by simp
  | e :: l, a => by
    have := rput_len s l (rputStep s a e)
    have h1 : (rputStep s a e).1.length ≤ a.1.length + 2 := by
      unfold rputStep
      simp only [List.length_append]
      split <;> split <;> simp
    simp only [List.foldl_cons, List.length_cons]
    omega
theorem rh_len (span : Int) (r : Rep_) : ∀ (l : List RSent) (a : RTold × List Op1), (l.foldl (rhStep span r) a).2.length ≤ a.2.length + l.length
  | [], a => by simp
  | e :: l, a => by
    have := rh_len span r l (rhStep span r a e)
    have h1 : (rhStep span r a e).2.length ≤ a.2.length + 1 := by unfold rhStep; split <;> simp
    simp only [List.foldl_cons, List.length_cons]
    omega
theorem rAt_lt (T : List RTold) (c : Int) : ∀ k, -1 ≤ rAtK T c k ∧ rAtK T c k < k
  | 0 => ⟨by simp [rAtK], by simp [rAtK]⟩
  | k + 1 => by
    have := rAt_lt T c k
    unfold rAtK
    split
    · omega
    · omega
theorem rA_lt (T : List RTold) (c : Int) : rA1 T c < (rT1 T c).length := by
  have := rAt_lt T c T.length
  unfold rA1 rT1
  split
  · simp
  · omega
def rhK (span : Int) (L : List RSent) (T : List RTold) (u : Rep_) (k : Nat) : RTold × List Op1 := (L.take k).foldl (rhStep span u) ((rT1 T u.Cluster).getD (rA1 T u.Cluster) default, [])
def rhS (span : Int) (L : List RSent) (T : List RTold) (u : Rep_) (k : Nat) : List RTold := (rT1 T u.Cluster).set (rA1 T u.Cluster) (rhK span L T u k).1
section
variable {span : Int} {L : List RSent} {T : List RTold} {u : Rep_} {k : Nat}
theorem rhK_succ (hk : k < L.length) : rhK span L T u (k + 1) = rhStep span u (rhK span L T u k) (L.getD k default) := foldl_take _ _ _ _ hk
theorem rhK_len : (rhK span L T u k).2.length ≤ k := by
  have := rh_len span u (L.take k) ((rT1 T u.Cluster).getD (rA1 T u.Cluster) default, [])
  simp only [List.length_nil, Nat.zero_add, List.length_take] at this
  unfold rhK
  omega
theorem rhS_len : (rhS span L T u k).length = (rT1 T u.Cluster).length := List.length_set
theorem rhS_get : (rhS span L T u k).getD (rA1 T u.Cluster) default = (rhK span L T u k).1 := getD_set_at (rA_lt T u.Cluster)
theorem rhS_zero : rhS span L T u 0 = rT1 T u.Cluster := setD_self (rA_lt T u.Cluster)
theorem rhS_two {v w : RTold} (h : w = (rhK span L T u (k + 1)).1) : ((rhS span L T u k).set (rA1 T u.Cluster) v).set (rA1 T u.Cluster) w = rhS span L T u (k + 1) := by
  unfold rhS
  rw [List.set_set, List.set_set, h]
theorem rhS_one {w : RTold} : (rhS span L T u k).set (rA1 T u.Cluster) w = (rT1 T u.Cluster).set (rA1 T u.Cluster) w := by
  unfold rhS
  rw [List.set_set]
theorem rhK_all : rhK span L T u L.length = rh1 span L T u := by unfold rhK rh1; rw [List.take_length]
end
end Go.Dsp
