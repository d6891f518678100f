/-
  Commit: what is computed is what is meant. No program in sight.
-/
import Derived.Test.YteajafkmnhikoaaTlyP
set_option linter.unusedVariables false
set_option linter.unusedSimpArgs false
namespace Go.Tly
open Go Go.SL
theorem getD_mset {V : Type} (m : List (Int × V)) (k : Int) (v : V) (k' : Int) (z : V) : mgetD (mset m k v) k' z = if k = k' then v else mgetD m k' z := by
  unfold mgetD
  rw [mget_set]
  split <;> rfl
theorem most_step (a : MM) (m : Mtch) (v : Int) : mgetD (mostStep a m) v 0 = hasStep v (mgetD a v 0) m := by
  unfold mostStep hasStep
  rw [getD_mset]
  by_cases h : m.ID = v
  · subst h
    rw [if_pos rfl]
    unfold mx
    by_cases g : m.Index > mgetD a m.ID 0
    · rw [if_pos g, if_pos (by simpa using g)]
    · rw [if_neg g, if_neg (by simpa using g)]
  · rw [if_neg h, if_neg (by simp [h])]
theorem most_has (ms : List Mtch) (v : Int) : mgetD (mostF ms) v 0 = hasF ms v := by
  have key : ∀ (l : List Mtch) (a : MM), mgetD (l.foldl mostStep a) v 0 = l.foldl (hasStep v) (mgetD a v 0) := by
    intro l
    induction l with
    | nil => intro a; rfl
    | cons m l ih => intro a; simp only [List.foldl_cons]; rw [ih, most_step]
  exact key ms []
theorem vals_has (vs : List Int) (ms : List Mtch) : valsF vs ms = vs.map (hasF ms) := by
  unfold valsF
  exact List.map_congr_left fun v _ => most_has ms v
theorem has_le (ms : List Mtch) (v : Int) : 0 ≤ hasF ms v := by
  have key : ∀ (l : List Mtch) (n : Int), n ≤ l.foldl (hasStep v) n := by
    intro l
    induction l with
    | nil => intro n; exact Int.le_refl _
    | cons m l ih =>
      intro n
      have h1 : n ≤ hasStep v n m := by
        unfold hasStep
        split
        · rename_i h; simp only [Bool.and_eq_true, decide_eq_true_eq] at h; omega
        · exact Int.le_refl _
      exact Int.le_trans h1 (ih _)
  exact key ms 0
/-- how many of a list are at least z -/
def cnt (l : List Int) (z : Int) : Nat := l.countP fun x => decide (z ≤ x)
theorem en_cnt (vs : List Int) (ms : List Mtch) (z : Int) : enN vs ms z = 2 * (cnt (vs.map (hasF ms)) z : Int) := by
  have key : ∀ (l : List Int) (n : Int), l.foldl (enStep ms z) n = n + 2 * (cnt (l.map (hasF ms)) z : Int) := by
    intro l
    induction l with
    | nil => intro n; simp [cnt]
    | cons v l ih =>
      intro n
      rw [List.foldl_cons, ih]
      unfold cnt enStep
      rw [List.map_cons, List.countP_cons]
      by_cases h : z ≤ hasF ms v
      · simp only [h, decide_true, if_true]; omega
      · simp only [h, decide_false]; simp
  have := key vs 0
  unfold enN
  omega
theorem enough_cnt (vs : List Int) (ms : List Mtch) (z : Int) : enoughF vs ms z = decide (vs.length < 2 * cnt (vs.map (hasF ms)) z) := by
  unfold enoughF
  rw [en_cnt]
  by_cases h : vs.length < 2 * cnt (vs.map (hasF ms)) z
  · rw [decide_eq_true h, decide_eq_true (by omega)]
  · rw [decide_eq_false h, decide_eq_false (by omega)]
theorem cnt_sorted {S : List Int} (hS : S.Pairwise (fun a b => a ≤ b)) {k : Nat} (hk : k < S.length) (z : Int) :
    (z ≤ S.getD k 0 → S.length - k ≤ cnt S z) ∧ (S.getD k 0 < z → cnt S z ≤ S.length - k - 1) := by
  have hg : S.getD k 0 = S[k] := by simp [List.getD, hk]
  have e1 : S = S.take k ++ S[k] :: S.drop (k + 1) := by rw [← List.drop_eq_getElem_cons hk, List.take_append_drop]
  have hp := hS
  rw [e1, List.pairwise_append] at hp
  obtain ⟨_, hp2, hp3⟩ := hp
  rw [List.pairwise_cons] at hp2
  have hc : cnt S z = cnt (S.take k) z + cnt (S[k] :: S.drop (k + 1)) z := by
    unfold cnt
    rw [← List.countP_append, ← e1]
  rw [hg]
  constructor
  · intro h
    have h1 : cnt (S[k] :: S.drop (k + 1)) z = (S[k] :: S.drop (k + 1)).length := by
      unfold cnt
      rw [List.countP_eq_length]
      intro x hx
      rcases List.mem_cons.1 hx with rfl | hx
      · exact decide_eq_true h
      · exact decide_eq_true (Int.le_trans h (hp2.1 x hx))
    simp only [List.length_cons, List.length_drop] at h1
    omega
  · intro h
    have h1 : cnt (S.take k) z = 0 := by
      unfold cnt
      rw [List.countP_eq_zero]
      intro x hx
      have := hp3 x hx S[k] List.mem_cons_self
      simp only [decide_eq_true_eq]; omega
    have h2 : cnt (S[k] :: S.drop (k + 1)) z ≤ (S.drop (k + 1)).length := by
      unfold cnt
      rw [List.countP_cons, if_neg (by simp only [decide_eq_true_eq]; omega)]
      exact List.countP_le_length
    rw [List.length_drop] at h2
    omega
theorem enough_iff {vs : List Int} {ms : List Mtch} (hn : 0 < vs.length) (z : Int) : enoughF vs ms z = decide (z ≤ commitF vs ms) := by
  rw [enough_cnt]
  unfold commitF
  rw [if_neg (by omega), vals_has]
  have hl : (sortI (vs.map (hasF ms))).length = vs.length := by rw [sortI_len, List.length_map]
  have hc : cnt (vs.map (hasF ms)) z = cnt (sortI (vs.map (hasF ms))) z := ((sortI_perm _).symm.countP_eq _)
  have h := cnt_sorted (sortI_le (vs.map (hasF ms))) (k := (vs.length - 1) / 2) (by omega) z
  rw [hl] at h
  rw [hc]
  by_cases q : z ≤ (sortI (vs.map (hasF ms))).getD ((vs.length - 1) / 2) 0
  · have := h.1 q
    rw [decide_eq_true q, decide_eq_true (by omega)]
  · have := h.2 (by omega)
    rw [decide_eq_false q, decide_eq_false (by omega)]
theorem commit_mem {vs : List Int} {ms : List Mtch} (hn : 0 < vs.length) : ∃ v ∈ vs, commitF vs ms = hasF ms v := by
  unfold commitF
  rw [if_neg (by omega), vals_has]
  have hl : (sortI (vs.map (hasF ms))).length = vs.length := by rw [sortI_len, List.length_map]
  have hk : (vs.length - 1) / 2 < (sortI (vs.map (hasF ms))).length := by omega
  have hm : (sortI (vs.map (hasF ms))).getD ((vs.length - 1) / 2) 0 ∈ sortI (vs.map (hasF ms)) := by simp [List.getD, hk]
  rw [sortI_mem] at hm
  obtain ⟨v, hv, e⟩ := List.mem_map.1 hm
  exact ⟨v, hv, e.symm⟩
theorem commit_eq (vs : List Int) (ms : List Mtch) : commitF vs ms = refCommitF vs ms := by
  by_cases hn : 0 < vs.length
  · obtain ⟨v0, hv0, e0⟩ := commit_mem (ms := ms) hn
    have hc0 : 0 ≤ commitF vs ms := by rw [e0]; exact has_le ms v0
    have key : ∀ (l : List Int) (b : Int), 0 ≤ b → b ≤ commitF vs ms → b ≤ l.foldl (bestStep vs ms) b ∧ l.foldl (bestStep vs ms) b ≤ commitF vs ms ∧ ∀ v ∈ l, hasF ms v ≤ commitF vs ms → hasF ms v ≤ l.foldl (bestStep vs ms) b := by
      intro l
      induction l with
      | nil => intro b _ hb; exact ⟨Int.le_refl _, hb, fun v hv => by cases hv⟩
      | cons v l ih =>
        intro b h0 hb
        have hs : b ≤ bestStep vs ms b v ∧ bestStep vs ms b v ≤ commitF vs ms ∧ (hasF ms v ≤ commitF vs ms → hasF ms v ≤ bestStep vs ms b v) := by
          unfold bestStep
          rw [enough_iff hn]
          by_cases q1 : b < hasF ms v <;> by_cases q2 : hasF ms v ≤ commitF vs ms
          · rw [if_pos (by simp [q1, q2])]; exact ⟨by omega, q2, fun _ => Int.le_refl _⟩
          · rw [if_neg (by simp [q2])]; exact ⟨Int.le_refl _, hb, fun h => absurd h q2⟩
          · rw [if_neg (by simp [q1])]; exact ⟨Int.le_refl _, hb, fun _ => by omega⟩
          · rw [if_neg (by simp [q1])]; exact ⟨Int.le_refl _, hb, fun _ => by omega⟩
        obtain ⟨i1, i2, i3⟩ := ih (bestStep vs ms b v) (by omega) hs.2.1
        simp only [List.foldl_cons]
        refine ⟨by omega, i2, fun x hx hxc => ?_⟩
        rcases List.mem_cons.1 hx with rfl | hx
        · have := hs.2.2 hxc; omega
        · exact i3 x hx hxc
    obtain ⟨_, k2, k3⟩ := key vs 0 (Int.le_refl _) hc0
    have k4 := k3 v0 hv0 (by rw [← e0]; exact Int.le_refl _)
    rw [← e0] at k4
    exact Int.le_antisymm k4 k2
  · have : vs = [] := List.eq_nil_of_length_eq_zero (by omega)
    subst this
    rfl
theorem has_step (v n : Int) (m : Mtch) : n ≤ hasStep v n m := by
  unfold hasStep
  split
  · rename_i h; simp only [Bool.and_eq_true, decide_eq_true_eq] at h; omega
  · exact Int.le_refl _
theorem has_app (ms : List Mtch) (m : Mtch) (v : Int) : hasF ms v ≤ hasF (ms ++ [m]) v := by
  unfold hasF
  rw [List.foldl_append]
  exact has_step v _ m
theorem cnt_mono {α : Type} (f g : α → Int) (l : List α) (h : ∀ x ∈ l, f x ≤ g x) (z : Int) : cnt (l.map f) z ≤ cnt (l.map g) z := by
  unfold cnt
  rw [List.countP_map, List.countP_map]
  refine List.countP_mono_left fun x hx q => ?_
  simp only [Function.comp_apply, decide_eq_true_eq] at q ⊢
  have := h x hx
  omega
theorem enough_mono {vs : List Int} {ms ms' : List Mtch} (h : ∀ v ∈ vs, hasF ms v ≤ hasF ms' v) {z : Int} (e : enoughF vs ms z = true) : enoughF vs ms' z = true := by
  rw [enough_cnt] at e ⊢
  have := cnt_mono (hasF ms) (hasF ms') vs h z
  simp only [decide_eq_true_eq] at e ⊢
  omega
theorem commit_enough {vs : List Int} {ms : List Mtch} (hn : 0 < vs.length) : enoughF vs ms (commitF vs ms) = true := by rw [enough_iff hn]; simp
theorem commit_not {vs : List Int} {ms : List Mtch} (hn : 0 < vs.length) : enoughF vs ms (commitF vs ms + 1) = false := by rw [enough_iff hn]; exact decide_eq_false (by omega)
theorem commit_rises {vs : List Int} {ms : List Mtch} {m : Mtch} (hn : 0 < vs.length) : commitF vs ms ≤ commitF vs (ms ++ [m]) := by
  have h := enough_mono (ms' := ms ++ [m]) (fun v _ => has_app ms m v) (commit_enough (ms := ms) hn)
  rw [enough_iff hn] at h
  exact of_decide_eq_true h
theorem has_max {ms : List Mtch} (hw : ∀ m ∈ ms, m.Index ≤ 9223372036854775807) (v : Int) : hasF ms v ≤ 9223372036854775807 := by
  have key : ∀ (l : List Mtch) (n : Int), (∀ m ∈ l, m.Index ≤ 9223372036854775807) → n ≤ 9223372036854775807 → l.foldl (hasStep v) n ≤ 9223372036854775807 := by
    intro l
    induction l with
    | nil => intro n _ h; exact h
    | cons m l ih =>
      intro n hl h
      refine ih _ (fun x hx => hl x (by simp [hx])) ?_
      unfold hasStep
      split
      · exact hl m (by simp)
      · exact h
  exact key ms 0 hw (by decide)
theorem commit_max {vs : List Int} {ms : List Mtch} (hw : ∀ m ∈ ms, m.Index ≤ 9223372036854775807) : commitF vs ms ≤ 9223372036854775807 := by
  by_cases hn : 0 < vs.length
  · obtain ⟨v, _, e⟩ := commit_mem (ms := ms) hn; rw [e]; exact has_max hw v
  · unfold commitF; rw [if_pos (by omega)]; decide
theorem commit_nonneg (vs : List Int) (ms : List Mtch) : 0 ≤ commitF vs ms := by
  by_cases hn : 0 < vs.length
  · obtain ⟨v, _, e⟩ := commit_mem (ms := ms) hn; rw [e]; exact has_le ms v
  · unfold commitF; rw [if_pos (by omega)]; exact Int.le_refl _
theorem commit_zero {vs : List Int} {ms : List Mtch} (hn : vs.length = 0) : commitF vs ms = 0 := if_pos hn
end Go.Tly
