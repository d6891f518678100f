/-
  The law DispatchEnds, as plain lists. No program in sight.
-/
import Derived.Test.YteajafkmnhikoaaDspQ
set_option linter.unusedVariables false
set_option linter.unusedSimpArgs false
namespace Go.Dsp
open Go Go.SL
def o5 : Ord := ⟨5, 0, 1, 0⟩
def o6 : Ord := ⟨6, 0, 2, 0⟩
def EO (a b : Int) : OM := [(1, ⟨o5, a⟩), (2, ⟨o6, b⟩)]
def E1 (b : Int) : OM := [(2, ⟨o6, b⟩)]
def rp (c d : Int) : Rep_ := ⟨c, d, 0, 0, 0, false⟩
def tl (last : Int) : Told := if last < 0 then zTold else ⟨0, 5, last, true⟩
def EnT (last : Int) (told : TM) : Prop := (told = [] ∧ last = -1) ∨ told = [(1, tl last)]
def tellB (i n last id : Int) : Bool := decide (id = 5) && (decide (last < 0) || decide (n ≤ i - last))
theorem ends_set0 : setF [] [o5, o6] = EO (-1) (-1) := by rfl
theorem ends_hear {i n a b last id : Int} {told : TM} (h : EnT last told) : hearF i n (EO a b) told [rp 1 id] = ([(1, tl (if tellB i n last id = true then i else last))], if tellB i n last id = true then [opD (rp 1 id)] else []) ∨ i < 0 := by
  by_cases hi : i < 0
  · exact .inr hi
  left
  have ht : mgetD told 1 zTold = tl last := by
    rcases h with ⟨rfl, rfl⟩ | rfl
    · rfl
    · simp [mgetD, mget]
  have hm : ∀ v, mset told 1 v = [((1 : Int), v)] := fun v => by
    rcases h with ⟨rfl, rfl⟩ | rfl
    · rfl
    · simp [mset]
  have hnum : (tl last).number = 0 := by unfold tl; split <;> rfl
  have hN : newB (tl last) (rp 1 id) = false := by unfold newB; rw [hnum]; rfl
  have hd : doneB i n (EO a b) (tl last) (rp 1 id) = tellB i n last id := by
    unfold doneB tellB
    have e1 : mhas (EO a b) (rp 1 id).Cluster = true := by rfl
    have e2 : (mgetD (EO a b) (rp 1 id).Cluster zSent).Order.ID = 5 := by rfl
    rw [e1, e2, Bool.true_and]
    show (decide (5 = id) && (!(tl last).any || decide ((tl last).done ≠ id) || decide (n ≤ i - (tl last).at_))) = _
    by_cases h5 : id = 5
    · subst h5
      by_cases hl : last < 0
      · simp [tl, hl, zTold]
      · simp [tl, hl]
    · simp [h5, Ne.symm h5]
  unfold hearF
  simp only [List.foldl_cons, List.foldl_nil, hearStep]
  rw [show (rp 1 id).Cluster = 1 from rfl, ht, hd, hN, hm]
  simp only [told2, told1, Bool.false_eq_true, if_false, List.append_nil, List.nil_append]
  by_cases ht5 : tellB i n last id = true
  · simp only [ht5, if_true]
    have h5 : id = 5 := by unfold tellB at ht5; simp only [Bool.and_eq_true, decide_eq_true_eq] at ht5; exact ht5.1
    have : tl i = ⟨0, 5, i, true⟩ := by unfold tl; rw [if_neg hi]
    rw [this, hnum.symm]
    subst h5
    have hx : ({ tl last with any := true, done := (rp 1 5).Done, at_ := i } : Told) = ⟨(tl last).number, 5, i, true⟩ := by rfl
    rw [hx, hnum]
  · simp only [ht5, Bool.false_eq_true, if_false]
theorem ends_tick (now n a b : Int) : ∃ a2 b2, (tickF now n (EO a b)).1 = EO a2 b2 := by
  unfold EO
  rw [tick_twoR _ _ _ _ _ _ (by decide)]
  exact ⟨if dueB now n ⟨o5, a⟩ = true then now else a, if dueB now n ⟨o6, b⟩ = true then now else b, by
    cases dueB now n ⟨o5, a⟩ <;> cases dueB now n ⟨o6, b⟩ <;> rfl⟩
theorem ends_set1 (a b : Int) : setF (EO a b) [o6] = E1 b := by
  unfold setF
  simp only [List.foldl_cons, List.foldl_nil, setStep]
  have : keepF (EO a b) o6 = ⟨o6, b⟩ := by
    unfold keepF
    rw [if_pos (by rfl)]
    rfl
  rw [this]; rfl
theorem ends_tick1 (now n b : Int) : ∃ b2, (tickF now n (E1 b)).1 = E1 b2 := by
  unfold E1
  rw [tick_one]
  split
  · exact ⟨now, rfl⟩
  · exact ⟨b, rfl⟩
theorem ends_hear2 {i n b last : Int} {told : TM} (h : EnT last told) : hearF i n (E1 b) told [rp 1 5, rp 2 5] = ([(1, tl last), (2, zTold)], []) := by
  have ht : mgetD told 1 zTold = tl last := by
    rcases h with ⟨rfl, rfl⟩ | rfl
    · rfl
    · simp [mgetD, mget]
  have hm : ∀ v, mset told 1 v = [((1 : Int), v)] := fun v => by
    rcases h with ⟨rfl, rfl⟩ | rfl
    · rfl
    · simp [mset]
  have hnum : (tl last).number = 0 := by unfold tl; split <;> rfl
  have hN : newB (tl last) (rp 1 5) = false := by unfold newB; rw [hnum]; rfl
  have hd : doneB i n (E1 b) (tl last) (rp 1 5) = false := by unfold doneB; rw [show mhas (E1 b) (rp 1 5).Cluster = false from rfl]; rfl
  have hd2 : doneB i n (E1 b) zTold (rp 2 5) = false := by
    unfold doneB
    rw [show (mgetD (E1 b) (rp 2 5).Cluster zSent).Order.ID = 6 from rfl, show (rp 2 5).Done = 5 from rfl, show decide ((6 : Int) = 5) = false from rfl, Bool.and_false]; rfl
  unfold hearF
  simp only [List.foldl_cons, List.foldl_nil]
  have s1 : hearStep i n (E1 b) (told, []) (rp 1 5) = ([(1, tl last)], []) := by
    unfold hearStep
    simp only []
    rw [show (rp 1 5).Cluster = 1 from rfl, ht, hd, hN, hm]
    simp [told1, told2]
  rw [s1]
  unfold hearStep
  simp only []
  have hg : mgetD [((1 : Int), tl last)] (rp 2 5).Cluster zTold = zTold := by rfl
  rw [hg, hd2, show newB zTold (rp 2 5) = false from rfl]
  simp [told1, told2, mset, rp]
theorem ends_hear3 {i n b last : Int} : (hearF i n (E1 b) [(1, tl last), (2, zTold)] [rp 2 6]).2 = [opD (rp 2 6)] := by
  unfold hearF
  simp only [List.foldl_cons, List.foldl_nil]
  have hg : mgetD [((1 : Int), tl last), (2, zTold)] (rp 2 6).Cluster zTold = zTold := by rfl
  have hd : doneB i n (E1 b) zTold (rp 2 6) = true := by rfl
  unfold hearStep
  simp only []
  rw [hg, hd, show newB zTold (rp 2 6) = false from rfl]
  simp
theorem EnT.ok {i last : Int} {told : TM} (h : EnT last told) (h1 : last ≤ i) (h0 : 0 ≤ i) : ToldOk i told := by
  rcases h with ⟨rfl, rfl⟩ | rfl
  · exact told_nil _
  · refine ⟨fun p hp => ?_, by simp⟩
    rw [List.mem_singleton.1 hp]
    refine ⟨i64_small (z := 1) (by decide) (by decide), ?_⟩
    show 0 ≤ (tl last).at_ ∧ (tl last).at_ ≤ i
    unfold tl
    split
    · exact ⟨by decide, h0⟩
    · exact ⟨by show 0 ≤ last; omega, h1⟩
theorem told_two_ok {i last : Int} (h1 : last ≤ i) (h0 : 0 ≤ i) : ToldOk i [(1, tl last), (2, zTold)] := by
  refine ⟨fun p hp => ?_, by simp⟩
  rcases List.mem_cons.1 hp with rfl | hp
  · refine ⟨i64_small (z := 1) (by decide) (by decide), ?_⟩
    show 0 ≤ (tl last).at_ ∧ (tl last).at_ ≤ i
    unfold tl
    split
    · exact ⟨by decide, h0⟩
    · exact ⟨by show 0 ≤ last; omega, h1⟩
  · rw [List.mem_singleton.1 hp]
    exact ⟨i64_small (z := 2) (by decide) (by decide), by decide, h0⟩
theorem e1_ok {i a b : Int} (h : OutOk i (EO a b)) : OutOk i (E1 b) := ⟨fun p hp => h.1 p (List.mem_cons_of_mem _ hp), by show (E1 b).length ≤ _; simp [E1]⟩
theorem e0_ok : OutOk 0 (EO (-1) (-1)) := set_inv (out_nil 0) (by decide) [o5, o6] (fun o ho => by
  rcases List.mem_cons.1 ho with rfl | ho
  · exact i64_small (by decide) (by decide)
  · rw [List.mem_singleton.1 ho]; exact i64_small (by decide) (by decide)) (by decide)
theorem rp_ok1 (c d : Int) (h : c = 1 ∨ c = 2) : ∀ r ∈ [rp c d], I64 r.Cluster := fun r hr => by
  rw [List.mem_singleton.1 hr]; exact i64_small (z := c) (by omega) (by omega)
theorem rp_ok2 (d e : Int) : ∀ r ∈ [rp 1 d, rp 2 e], I64 r.Cluster := fun r hr => by
  rcases List.mem_cons.1 hr with rfl | hr
  · exact i64_small (z := 1) (by decide) (by decide)
  · exact rp_ok1 2 e (.inr rfl) r hr
end Go.Dsp
