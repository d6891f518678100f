/-
  Commit, in any order: what is computed does not depend on it. No program in sight.
-/
import Derived.Test.YteajafkmnhikoaaTlyA
set_option linter.unusedVariables false
set_option linter.unusedSimpArgs false
namespace Go.Tly
open Go Go.SL
theorem has_iff (ms : List Mtch) (v z : Int) : hasF ms v ≤ z ↔ 0 ≤ z ∧ ∀ m ∈ ms, m.ID = v → m.Index ≤ z := by
  have key : ∀ (l : List Mtch) (n : Int), l.foldl (hasStep v) n ≤ z ↔ n ≤ z ∧ ∀ m ∈ l, m.ID = v → m.Index ≤ z := by
    intro l
    induction l with
    | nil => intro n; simp
    | cons m l ih =>
      intro n
      rw [List.foldl_cons, ih]
      simp only [List.mem_cons, forall_eq_or_imp, ← and_assoc]
      refine and_congr_left fun _ => ?_
      unfold hasStep
      by_cases h1 : m.ID = v <;> by_cases h2 : n < m.Index
      · rw [if_pos (by simp [h1, h2])]
        exact ⟨fun h => ⟨by omega, fun _ => h⟩, fun h => h.2 h1⟩
      · rw [if_neg (by simp [h2])]
        exact ⟨fun h => ⟨h, fun _ => by omega⟩, fun h => h.1⟩
      · rw [if_neg (by simp [h1])]
        exact ⟨fun h => ⟨h, fun e => absurd e h1⟩, fun h => h.1⟩
      · rw [if_neg (by simp [h1])]
        exact ⟨fun h => ⟨h, fun e => absurd e h1⟩, fun h => h.1⟩
  exact key ms 0
theorem has_same {ms ms' : List Mtch} {v : Int} (h : ∀ m : Mtch, m.ID = v → (m ∈ ms ↔ m ∈ ms')) : hasF ms v = hasF ms' v := by
  apply Int.le_antisymm
  · rw [has_iff]
    have := (has_iff ms' v _).1 (Int.le_refl _)
    exact ⟨this.1, fun m hm e => this.2 m ((h m e).1 hm) e⟩
  · rw [has_iff]
    have := (has_iff ms v _).1 (Int.le_refl _)
    exact ⟨this.1, fun m hm e => this.2 m ((h m e).2 hm) e⟩
theorem commit_same {vs : List Int} {ms ms' : List Mtch} (h : ∀ v ∈ vs, ∀ m : Mtch, m.ID = v → (m ∈ ms ↔ m ∈ ms')) : commitF vs ms = commitF vs ms' := by
  unfold commitF
  have e : valsF vs ms = valsF vs ms' := by
    rw [vals_has, vals_has]
    exact List.map_congr_left fun v hv => has_same (h v hv)
  rw [e]
theorem commit_rev (vs : List Int) (ms : List Mtch) : commitF vs ms.reverse = commitF vs ms := commit_same fun v _ m _ => by simp
theorem commit_rev2 (vs : List Int) (ms : List Mtch) {k : Nat} (hk : k < ms.length) : commitF vs (ms.reverse ++ [ms.getD k default, ms.getD k default]) = commitF vs ms := commit_same fun v _ m _ => by
  have hm : ms.getD k default ∈ ms := by simp [List.getD, hk]
  simp only [List.mem_append, List.mem_reverse, List.mem_cons, List.not_mem_nil, or_false, or_self]
  exact ⟨fun h => h.elim id fun e => e ▸ hm, .inl⟩
def inV (vs : List Int) (m : Mtch) : Bool := decide (m.ID ∈ vs)
theorem commit_voters (vs : List Int) (ms : List Mtch) : commitF vs (ms.filter (inV vs)) = commitF vs ms := commit_same fun v hv m e => by
  rw [List.mem_filter]
  unfold inV
  exact ⟨fun h => h.1, fun h => ⟨h, by rw [e]; exact decide_eq_true hv⟩⟩
theorem rev_take (ms : List Mtch) {k : Nat} (hk : k < ms.length) : ms.reverse.take k ++ [ms.getD (((ms.length : Int) - 1 - (k : Int))).toNat default] = ms.reverse.take (k + 1) := by
  rw [take_succ_getD _ _ (by simpa using hk)]
  congr 2
  rw [show ((ms.length : Int) - 1 - (k : Int)).toNat = ms.length - 1 - k from by omega]
  simp only [List.getD, List.getElem?_reverse hk]
theorem voters_yes {vs : List Int} {ms : List Mtch} {k : Nat} (hk : k < ms.length) (h : (ms.getD k default).ID ∈ vs) : (ms.take k).filter (inV vs) ++ [ms.getD k default] = (ms.take (k + 1)).filter (inV vs) := by
  rw [take_succ_getD _ _ hk, List.filter_append]
  congr 1
  rw [List.filter_cons, if_pos (show inV vs (ms.getD k default) = true from decide_eq_true h)]
  rfl
theorem voters_no {vs : List Int} {ms : List Mtch} {k : Nat} (hk : k < ms.length) (h : (ms.getD k default).ID ∉ vs) : (ms.take (k + 1)).filter (inV vs) = (ms.take k).filter (inV vs) := by
  rw [take_succ_getD _ _ hk, List.filter_append]
  rw [List.filter_cons, if_neg (show ¬ inV vs (ms.getD k default) = true from by unfold inV; rw [decide_eq_false h]; decide)]
  simp
theorem voter_at {vs : List Int} {v : Int} {k : Nat} (hk : k < vs.length) (e : v = vs.getD k default) : v ∈ vs := by rw [e]; simp [List.getD, hk]
theorem turn_lt {t : Int} {n : Nat} (hn : 0 < n) : 0 ≤ (t.tmod n + n).tmod n ∧ (t.tmod n + n).tmod n < n := by
  have h1 : -(n : Int) < t.tmod n := by
    have := Int.lt_tmod_of_pos t (show (0 : Int) < n by omega)
    omega
  have h2 : t.tmod n < (n : Int) := Int.tmod_lt_of_pos t (by omega)
  exact ⟨Int.tmod_nonneg _ (by omega), Int.tmod_lt_of_pos _ (by omega)⟩
theorem turn_b {t : Int} {n : Nat} (hn : 0 < n) : -(n : Int) < t.tmod n ∧ t.tmod n < n :=
  ⟨by have := Int.lt_tmod_of_pos t (show (0 : Int) < n by omega); omega, Int.tmod_lt_of_pos t (by omega)⟩
end Go.Tly
