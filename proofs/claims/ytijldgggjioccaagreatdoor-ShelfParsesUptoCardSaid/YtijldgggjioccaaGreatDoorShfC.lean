/- part -/
import Derived.Test.YtijldgggjioccaaGreatDoorShfM
set_option linter.unusedVariables false
set_option linter.unusedSimpArgs false
namespace Go.Shf
open Go Go.SL Go.Mou Go.Dsk Go.Sm Go.Hrd
section
variable {V : FV} {K : List PSnap} {x y : PSnap}
theorem SI.lt_last (h : SI V (K ++ [x])) : ∀ y ∈ K, y.ix < x.ix := fun y hy => (List.pairwise_append.1 h.so).2.2 y hy x (by simp)
theorem SI.mem (h : SI V K) : ∀ y ∈ K, nameX y.ix.toNat ∈ mkeys V := fun y hy => List.mem_map.2 ⟨_, mget_some (h.at_ y hy), rfl⟩
theorem step_aside (a : PSnap × Bool) : stepX V a aside = a := by unfold stepX; rw [aside_named]
theorem step_x (h : SI V K) (hx : x ∈ K) (a : PSnap × Bool) : stepX V a (nameX x.ix.toNat) = (x, true) := by
  have hi := h.klen x hx; unfold stepX; rw [name_named hi.1, getD_of (h.at_ x hx), parse_back (h.gd x hx)]; exact if_pos ⟨rfl, hi.2.symm⟩
theorem fold_keep {a : PSnap × Bool} : ∀ (l : List Nm), (∀ f ∈ l, f = aside) → l.foldl (stepX V) a = a
  | [], _ => rfl
  | f :: l, h => by rw [List.foldl_cons, h f (by simp), step_aside]; exact fold_keep l (fun g hg => h g (by simp [hg]))
theorem new_last (h : SI V (K ++ [x])) : newX V = (x, true) := by
  have hi := h.klen x (by simp); have hmem : nameX x.ix.toNat ∈ sortS (mkeys V) := sortS_mem.2 (h.mem x (by simp)); have hnd : (sortS (mkeys V)).Nodup := (sortS_perm _).nodup_iff.2 h.ok.nd; have hso := sortS_le (mkeys V); have hk : ∀ f ∈ sortS (mkeys V), f ∈ mkeys V := fun f hf => sortS_mem.1 hf; unfold newX
  generalize sortS (mkeys V) = l at hmem hnd hso hk
  obtain ⟨l1, l2, e⟩ := List.append_of_mem hmem; subst e; rw [List.foldl_append, List.foldl_cons, step_x h (by simp)]; refine fold_keep l2 (fun f hf => ?_); have h1 := (List.pairwise_append.1 hso).2.1; have h2 := (List.pairwise_cons.1 h1).1 f hf; have h3 := (List.nodup_cons.1 (List.nodup_append.1 hnd).2.1).1
  rcases h.kn f (hk f (by simp [hf])) with q | ⟨y, hy, q⟩
  · exact q
  · exfalso
    rcases List.mem_append.1 hy with hy | hy
    · have hlt := h.lt_last y hy; have hyi := h.klen y (List.mem_append.2 (.inl hy)); have h4 := name_lt hi.1 (show y.ix.toNat < x.ix.toNat by omega); rw [← q] at h4; exact absurd h4 (by first | exact not_lt_of_ge h2 | exact List.not_lt.2 h2 | exact h2)
    · rw [List.mem_singleton.1 hy] at q; rw [q] at hf; exact h3 hf
theorem new_none (h : SI V []) : newX V = (zPS, false) := by
  unfold newX; refine fold_keep _ (fun f hf => ?_)
  rcases h.kn f (sortS_mem.1 hf) with q | ⟨y, hy, -⟩
  · exact q
  · cases hy
end
end Go.Shf
