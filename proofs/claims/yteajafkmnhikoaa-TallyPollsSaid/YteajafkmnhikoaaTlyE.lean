/-
  Polls: what is computed is what is meant. No program in sight.
-/
import Derived.Test.YteajafkmnhikoaaTlyS
import Derived.Test.YteajafkmnhikoaaTlyA
set_option linter.unusedVariables false
set_option linter.unusedSimpArgs false
namespace Go.Tly
open Go Go.SL
def saidStep (a : SM × SM) (s : Said1) : SM × SM := sayStep s.Yes a s.ID
def saidF (l : List Said1) : SM × SM := l.foldl saidStep ([], [])
def yesOf : Option Said1 → Bool | some s => s.Yes | none => false
theorem said_step {p : List Said1} {a : SM × SM} (h : ∀ v, mgetD a.1 v false = (p.find? (whoB v)).isSome ∧ mgetD a.2 v false = yesOf (p.find? (whoB v))) (s : Said1) (v : Int) :
    mgetD (saidStep a s).1 v false = ((p ++ [s]).find? (whoB v)).isSome ∧ mgetD (saidStep a s).2 v false = yesOf ((p ++ [s]).find? (whoB v)) := by
  rw [List.find?_append]
  have hs := h s.ID
  have hv := h v
  unfold saidStep sayStep
  by_cases q : s.ID = v
  · subst q
    have e : ([s] : List Said1).find? (whoB s.ID) = some s := by simp [whoB]
    rw [e]
    cases c : p.find? (whoB s.ID) with
    | some t => rw [c] at hs; rw [if_pos (show mgetD a.1 s.ID false = true from hs.1)]; exact hs
    | none =>
      rw [c] at hs
      rw [if_neg (by rw [hs.1]; decide)]
      simp only [getD_mset, if_true]
      exact ⟨rfl, rfl⟩
  · have e : ([s] : List Said1).find? (whoB v) = none := by simp [whoB, q]
    rw [e, Option.or_none]
    by_cases c : mgetD a.1 s.ID false = true
    · rw [if_pos c]; exact hv
    · rw [if_neg c]
      simp only [getD_mset, if_neg q]
      exact hv
theorem said_get (l : List Said1) (v : Int) : mgetD (saidF l).1 v false = (l.find? (whoB v)).isSome ∧ mgetD (saidF l).2 v false = yesOf (l.find? (whoB v)) := by
  have key : ∀ (l p : List Said1) (a : SM × SM), (∀ v, mgetD a.1 v false = (p.find? (whoB v)).isSome ∧ mgetD a.2 v false = yesOf (p.find? (whoB v))) →
      ∀ v, mgetD (l.foldl saidStep a).1 v false = ((p ++ l).find? (whoB v)).isSome ∧ mgetD (l.foldl saidStep a).2 v false = yesOf ((p ++ l).find? (whoB v)) := by
    intro l
    induction l with
    | nil => intro p a h v; simpa using h v
    | cons s l ih =>
      intro p a h v
      have := ih (p ++ [s]) (saidStep a s) (fun v => said_step h s v) v
      simpa using this
  have := key l [] ([], []) (fun v => ⟨rfl, rfl⟩) v
  exact this
theorem st_rs (l : List Said1) (a : Int × Int) (v : Int) : stStep (saidF l).1 (saidF l).2 a v = rsStep l a v := by
  obtain ⟨h1, h2⟩ := said_get l v
  unfold stStep rsStep
  rw [h1, h2]
  cases l.find? (whoB v) with
  | none => rfl
  | some s => cases h : s.Yes <;> simp [yesOf, h]
theorem stands_eq (vs : List Int) (l : List Said1) : standsF ⟨vs, (saidF l).1, (saidF l).2⟩ = rstandsF vs l := by
  have e : countF ⟨vs, (saidF l).1, (saidF l).2⟩ = rsF vs l := by
    unfold countF rsF
    simp only [show stStep (saidF l).1 (saidF l).2 = rsStep l from funext fun a => funext fun v => st_rs l a v]
  unfold standsF rstandsF
  rw [e]
  show wonF (vs.length : Int) _ _ = _
  unfold wonF rwonF
  have d1 : ((vs.length : Int) / 2 < (rsF vs l).1) = ((vs.length : Int) < 2 * (rsF vs l).1) := propext ⟨fun _ => by omega, fun _ => by omega⟩
  have d2 : ((vs.length : Int) - (rsF vs l).2 ≤ (vs.length : Int) / 2) = (2 * ((vs.length : Int) - (rsF vs l).2) ≤ (vs.length : Int)) := propext ⟨fun _ => by omega, fun _ => by omega⟩
  simp only [d1, d2]
theorem rs_mono (l m : List Said1) : ∀ (vs : List Int) (a b : Int × Int), a.1 ≤ b.1 → a.2 ≤ b.2 → (vs.foldl (rsStep l) a).1 ≤ (vs.foldl (rsStep (l ++ m)) b).1 ∧ (vs.foldl (rsStep l) a).2 ≤ (vs.foldl (rsStep (l ++ m)) b).2
  | [], a, b, h1, h2 => ⟨h1, h2⟩
  | v :: vs, a, b, h1, h2 => by
    simp only [List.foldl_cons]
    have hs : (rsStep l a v).1 ≤ (rsStep (l ++ m) b v).1 ∧ (rsStep l a v).2 ≤ (rsStep (l ++ m) b v).2 := by
      unfold rsStep
      rw [List.find?_append]
      cases l.find? (whoB v) with
      | some s =>
        simp only [Option.some_or]
        split
        · exact ⟨by simp only []; omega, h2⟩
        · exact ⟨h1, by simp only []; omega⟩
      | none =>
        simp only [Option.none_or]
        split
        · split
          · exact ⟨by simp only []; omega, h2⟩
          · exact ⟨h1, by simp only []; omega⟩
        · exact ⟨h1, h2⟩
    exact rs_mono l m vs _ _ hs.1 hs.2
theorem rstands_stays (vs : List Int) (l m : List Said1) (h : rstandsF vs l ≠ 0) : rstandsF vs (l ++ m) = rstandsF vs l := by
  have h1 := rs_mono l m vs (0, 0) (0, 0) (Int.le_refl _) (Int.le_refl _)
  have h2 := rs_le (l ++ m) vs (0, 0)
  have h3 := rs_le l vs (0, 0)
  simp only [] at h2 h3
  unfold rstandsF rwonF rsF at *
  by_cases c1 : (vs.length : Int) / 2 < (vs.foldl (rsStep l) (0, 0)).1
  · rw [if_pos c1, if_pos (by omega)]
  · rw [if_neg c1] at h ⊢
    by_cases c2 : (vs.length : Int) - (vs.foldl (rsStep l) (0, 0)).2 ≤ (vs.length : Int) / 2
    · rw [if_pos c2, if_neg (by omega), if_pos (by omega)]
    · rw [if_neg c2] at h; exact absurd rfl h
/-- the state of a poll, when so much was said -/
def pollD (vs : List Int) (l : List Said1) : PD := ⟨vs, (saidF l).1, (saidF l).2⟩
theorem poll_say (vs : List Int) (l : List Said1) (k : Nat) (hk : k < l.length) : sayF ⟨vs, (saidF (l.take k)).1, (saidF (l.take k)).2⟩ (l.getD k default).Yes [(l.getD k default).ID] = saidF (l.take (k + 1)) := by
  unfold saidF
  rw [foldl_take _ _ _ _ hk]
  rfl
theorem polls_at {vs : List Int} {l : List Said1} {k : Nat} (hk : k < l.length) : rstandsF vs (l.take k) = 0 ∨ rstandsF vs (l.take (k + 1)) = rstandsF vs (l.take k) := by
  by_cases h : rstandsF vs (l.take k) = 0
  · exact .inl h
  · right
    rw [take_succ_getD l k hk]
    exact rstands_stays vs _ _ h
end Go.Tly
