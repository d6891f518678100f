/-
  The laws over the dispatcher, as plain lists. No program in sight.
-/
import Derived.Test.YteajafkmnhikoaaDspP
set_option linter.unusedVariables false
set_option linter.unusedSimpArgs false
namespace Go.Dsp
open Go Go.SL

theorem sortI_nil : sortI [] = [] := sortI_eq (List.Perm.refl _) List.Pairwise.nil
theorem sortI_one (a : Int) : sortI [a] = [a] := sortI_eq (List.Perm.refl _) (by simp)
theorem sortI_two {a b : Int} (h : a ≤ b) : sortI [a, b] = [a, b] := sortI_eq (List.Perm.refl _) (by simp [h])
theorem sortI_two' {a b : Int} (h : b ≤ a) : sortI [a, b] = [b, a] := sortI_eq (List.Perm.swap _ _ _) (by simp [h])
theorem tick_nil (now span : Int) : tickF now span [] = ([], []) := by unfold tickF; rw [show mkeys ([] : OM) = [] from rfl, sortI_nil]; rfl
theorem tick_one (now span c : Int) (s : Sent) : tickF now span [(c, s)] = if dueB now span s = true then ([(c, { s with at_ := now })], [s.Order]) else ([(c, s)], []) := by
  unfold tickF
  rw [show mkeys ([(c, s)] : OM) = [c] from rfl, sortI_one]
  have hg : mgetD [(c, s)] c zSent = s := by simp [mgetD, mget]
  simp only [List.foldl_cons, List.foldl_nil, tickStep, hg]
  split <;> simp [mset]
theorem tick_two (now span c e : Int) (s u : Sent) (h : e < c) : tickF now span [(c, s), (e, u)] =
    ([(c, if dueB now span s = true then { s with at_ := now } else s), (e, if dueB now span u = true then { u with at_ := now } else u)],
     (if dueB now span u = true then [u.Order] else []) ++ (if dueB now span s = true then [s.Order] else [])) := by
  have hne : c ≠ e := by omega
  have hne2 : e ≠ c := by omega
  unfold tickF
  rw [show mkeys ([(c, s), (e, u)] : OM) = [c, e] from rfl, sortI_two' (by omega)]
  simp only [List.foldl_cons, List.foldl_nil]
  have h1 : tickStep now span ([(c, s), (e, u)], []) e = ([(c, s), (e, if dueB now span u = true then { u with at_ := now } else u)], if dueB now span u = true then [u.Order] else []) := by
    have hg : mgetD [(c, s), (e, u)] e zSent = u := by simp [mgetD, mget, hne]
    simp only [tickStep, hg]
    split <;> simp [mset, hne]
  rw [h1]
  generalize (if dueB now span u = true then ({ u with at_ := now } : Sent) else u) = u'
  have hg : mgetD [(c, s), (e, u')] c zSent = s := by simp [mgetD, mget]
  simp only [tickStep, hg]
  split <;> simp [mset]
theorem tick_twoR (now span c e : Int) (s u : Sent) (h : c < e) : tickF now span [(c, s), (e, u)] =
    ([(c, if dueB now span s = true then { s with at_ := now } else s), (e, if dueB now span u = true then { u with at_ := now } else u)],
     (if dueB now span s = true then [s.Order] else []) ++ (if dueB now span u = true then [u.Order] else [])) := by
  have hne : c ≠ e := by omega
  unfold tickF
  rw [show mkeys ([(c, s), (e, u)] : OM) = [c, e] from rfl, sortI_two (by omega)]
  simp only [List.foldl_cons, List.foldl_nil]
  have h1 : tickStep now span ([(c, s), (e, u)], []) c = ([(c, if dueB now span s = true then { s with at_ := now } else s), (e, u)], if dueB now span s = true then [s.Order] else []) := by
    have hg : mgetD [(c, s), (e, u)] c zSent = s := by simp [mgetD, mget]
    simp only [tickStep, hg]
    split <;> simp [mset]
  rw [h1]
  generalize (if dueB now span s = true then ({ s with at_ := now } : Sent) else s) = s'
  have hg : mgetD [(c, s'), (e, u)] e zSent = u := by simp [mgetD, mget, hne]
  simp only [tickStep, hg]
  split <;> simp [mset, hne]
theorem out_nil (now : Int) : OutOk now [] := ⟨fun p hp => (by cases hp), by decide⟩
theorem told_nil (now : Int) : ToldOk now [] := ⟨fun p hp => (by cases hp), by decide⟩
theorem tick_ok {now span : Int} {out : OM} (h : OutOk now out) (h0 : 0 ≤ now) : OutOk now (tickF now span out).1 := by
  have := (tick_inv (span := span) h h0 (sortI (mkeys out)) (fun c hc => sortI_mem.1 hc)).2.1
  exact this
theorem hear_ok {now span : Int} {out : OM} {told : TM} (h : ToldOk now told) (h0 : 0 ≤ now) (l : List Rep_) (hw : ∀ r ∈ l, I64 r.Cluster) (hb : told.length + l.length ≤ 1000000) : ToldOk now (hearF now span out told l).1 :=
  ⟨(hear_inv h h0 l hw).1, Nat.le_trans (hear_inv h h0 l hw).2.1 hb⟩
/-! ### Again -/
def mine : Ord := ⟨9, 1, 50, 0⟩
def atF (i n : Nat) : Int := (n * ((i - 1) / n) + 1 : Nat)
def AgI (i n : Nat) (O : OM) : Prop := (i = 0 ∧ O = []) ∨ (0 < i ∧ ∃ rest : OM, O = (50, ⟨mine, atF i n⟩) :: rest ∧ rest.length ≤ 1 ∧ ∀ p ∈ rest, 0 ≤ p.1 ∧ p.1 < 40 ∧ p.2.Order.ID < 100 + i ∧ -1 ≤ p.2.at_ ∧ p.2.at_ ≤ i)
def setL (o : Option Ord) : List Ord := mine :: o.toList
def OthOk (i : Nat) (o : Option Ord) : Prop := ∀ x, o = some x → x.ID = 100 + i ∧ 0 ≤ x.Cluster ∧ x.Cluster < 40
theorem AgI.get {i n : Nat} {O : OM} (h : AgI i n O) : (0 < i → keepF O mine = ⟨mine, atF i n⟩) ∧ (i = 0 → keepF O mine = ⟨mine, -1⟩) ∧ ∀ x : Ord, x.ID = 100 + i → x.Cluster < 40 → keepF O x = ⟨x, -1⟩ := by
  rcases h with ⟨h0, rfl⟩ | ⟨h0, rest, rfl, hl, hr⟩
  · refine ⟨fun h => by omega, fun _ => by rfl, fun x _ _ => by rfl⟩
  · refine ⟨fun _ => ?_, fun h => by omega, fun x hx hc => ?_⟩
    · unfold keepF keepB
      simp [mhas, mgetD, mget, mine]
    · unfold keepF
      rw [if_neg]
      unfold keepB
      intro hb
      simp only [Bool.and_eq_true, decide_eq_true_eq] at hb
      obtain ⟨hb1, hb2⟩ := hb
      rw [ordL_eq] at hb2
      have hne : (50 : Int) ≠ x.Cluster := by omega
      have hm : mget ((50, ⟨mine, atF i n⟩) :: rest) x.Cluster = mget rest x.Cluster := by simp [mget, hne]
      unfold mhas at hb1; unfold mgetD at hb2
      rw [hm] at hb1 hb2
      cases hg : mget rest x.Cluster with
      | none => rw [hg] at hb1; cases hb1
      | some u =>
        rw [hg] at hb2
        have := (hr _ (mget_some hg)).2.2.1
        simp only [Option.getD_some] at hb2
        rw [hb2] at this
        omega
theorem set_L {i n : Nat} {O : OM} (h : AgI i n O) {o : Option Ord} (ho : OthOk i o) : setF O (setL o) = (50, keepF O mine) :: (o.toList.map fun x => (x.Cluster, (⟨x, -1⟩ : Sent))) := by
  unfold setF setL
  cases o with
  | none => simp [setStep, mset, mine]
  | some x =>
    obtain ⟨h1, h2, h3⟩ := ho x rfl
    have hne : (50 : Int) ≠ x.Cluster := by omega
    simp only [Option.toList_some, List.foldl_cons, List.foldl_nil, List.map_cons, List.map_nil]
    simp [setStep, mset, mine, hne, h.get.2.2 x h1 h3]
theorem due_at {i n : Nat} (hn : 0 < n) (hi : 0 < i) : dueB ((i : Int) + 1) n ⟨mine, atF i n⟩ = decide (i % n = 0) := by
  unfold dueB atF
  have h1 := Nat.div_add_mod (i - 1) n
  have h2 := Nat.mod_lt (i - 1) hn
  have h3 := Nat.div_add_mod i n
  have h4 := Nat.mod_lt i hn
  have hneg : decide ((((n * ((i - 1) / n) + 1 : Nat) : Int)) < 0) = false := decide_eq_false (by omega)
  show (decide (((n * ((i - 1) / n) + 1 : Nat) : Int) < 0) || decide ((n : Int) ≤ (i : Int) + 1 - ((n * ((i - 1) / n) + 1 : Nat) : Int))) = _
  rw [hneg, Bool.false_or, decide_eq_decide]
  constructor
  · intro h
    have hm : (i - 1) % n = n - 1 := by omega
    have : i = n * ((i - 1) / n + 1) := by rw [Nat.mul_add]; omega
    rw [this]; exact Nat.mul_mod_right _ _
  · intro h
    obtain ⟨q, hq⟩ := Nat.dvd_of_mod_eq_zero h
    have hq0 : 0 < q := by rcases Nat.eq_zero_or_pos q with rfl | h; · omega
                           · exact h
    have : (i - 1) / n = q - 1 := by
      have e : i - 1 = n * (q - 1) + (n - 1) := by
        have : n * q = n * (q - 1) + n := by rw [← Nat.mul_succ]; congr 1; omega
        omega
      rw [e, Nat.mul_add_div hn, Nat.div_eq_of_lt (by omega)]; omega
    rw [this]
    have : n * q = n * (q - 1) + n := by rw [← Nat.mul_succ]; congr 1; omega
    omega
theorem at_next {i n : Nat} (hn : 0 < n) (hi : 0 < i) : atF (i + 1) n = if i % n = 0 then (i : Int) + 1 else atF i n := by
  unfold atF
  rw [Nat.add_sub_cancel]
  have h3 := Nat.div_add_mod i n
  split
  · rename_i h; omega
  · rename_i h
    have h1 := Nat.div_add_mod (i - 1) n
    have h2 := Nat.mod_lt (i - 1) hn
    have h4 := Nat.mod_lt i hn
    have : i / n = (i - 1) / n := by
      generalize i % n = r at h h3 h4
      generalize i / n = q at h3
      have e : i - 1 = n * q + (r - 1) := by omega
      rw [e, Nat.mul_add_div hn, Nat.div_eq_of_lt (by omega)]; omega
    rw [this]
theorem again_tick {i n : Nat} {O : OM} (hn : 0 < n) (h : AgI i n O) {o : Option Ord} (ho : OthOk i o) :
    (tickF ((i : Int) + 1) n (setF O (setL o))).2 = o.toList ++ (if i % n = 0 then [mine] else []) ∧ AgI (i + 1) n (tickF ((i : Int) + 1) n (setF O (setL o))).1 := by
  have hd : dueB ((i : Int) + 1) n (keepF O mine) = decide (i % n = 0) := by
    rcases Nat.eq_zero_or_pos i with rfl | hi
    · rw [h.get.2.1 rfl]; simp [dueB, Nat.zero_mod]
    · rw [h.get.1 hi]; exact due_at hn hi
  have hko : (keepF O mine).Order = mine := by
    rcases Nat.eq_zero_or_pos i with rfl | hi
    · rw [h.get.2.1 rfl]
    · rw [h.get.1 hi]
  have hs' : (if dueB ((i : Int) + 1) n (keepF O mine) = true then ({ keepF O mine with at_ := (i : Int) + 1 } : Sent) else keepF O mine) = ⟨mine, atF (i + 1) n⟩ := by
    rw [hd]
    rcases Nat.eq_zero_or_pos i with rfl | hi
    · rw [h.get.2.1 rfl]; simp [Nat.zero_mod, atF]
    · rw [at_next hn hi, h.get.1 hi]
      by_cases e : i % n = 0
      · simp [e]
      · simp [e]
  rw [set_L h ho]
  cases o with
  | none =>
    simp only [Option.toList_none, List.map_nil, List.nil_append]
    rw [tick_one]
    have key : (if dueB ((i : Int) + 1) n (keepF O mine) = true then ([((50 : Int), ({ keepF O mine with at_ := (i : Int) + 1 } : Sent))], [(keepF O mine).Order]) else ([(50, keepF O mine)], [])) = ([(50, ⟨mine, atF (i + 1) n⟩)], if i % n = 0 then [mine] else []) := by
      rw [← hs', hd, hko]
      by_cases e : i % n = 0 <;> simp [e]
    rw [key]
    exact ⟨rfl, .inr ⟨by omega, [], rfl, by simp, fun p hp => by cases hp⟩⟩
  | some x =>
    obtain ⟨h1, h2, h3⟩ := ho x rfl
    simp only [Option.toList_some, List.map_cons, List.map_nil]
    have hdx : dueB ((i : Int) + 1) n ⟨x, -1⟩ = true := by simp [dueB]
    rw [tick_two _ _ _ _ _ _ (by omega), hs', hdx, hd, hko]
    refine ⟨by simp, .inr ⟨by omega, [(x.Cluster, ⟨x, (i : Int) + 1⟩)], by simp, by simp, fun p hp => ?_⟩⟩
    rw [List.mem_singleton.1 hp]
    exact ⟨h2, h3, by show x.ID < _; omega, by show -1 ≤ (i : Int) + 1; omega, by show (i : Int) + 1 ≤ ((i + 1 : Nat) : Int); omega⟩
theorem AgI.outok {i n : Nat} {O : OM} (h : AgI i n O) : OutOk (i : Int) O := by
  rcases h with ⟨rfl, rfl⟩ | ⟨h0, rest, rfl, hl, hr⟩
  · exact out_nil _
  · refine ⟨fun p hp => ?_, by simp only [List.length_cons]; omega⟩
    rcases List.mem_cons.1 hp with rfl | hp
    · refine ⟨i64_small (z := 50) (by decide) (by decide), ?_, ?_⟩
      · show -1 ≤ atF i n; unfold atF; omega
      · show atF i n ≤ i
        unfold atF
        have := Nat.div_mul_le_self (i - 1) n
        rw [Nat.mul_comm] at this
        omega
    · obtain ⟨a1, a2, a3, a4, a5⟩ := hr p hp
      exact ⟨i64_small (by omega) (by omega), a4, a5⟩
theorem set_ok2 {i n : Nat} {O : OM} (h : AgI i n O) {o : Option Ord} (ho : OthOk i o) : OutOk (i : Int) (setF O (setL o)) := by
  refine set_inv h.outok (by omega) _ (fun x hx => ?_) (by cases o <;> simp [setL])
  rcases List.mem_cons.1 hx with rfl | hx
  · exact i64_small (by decide) (by decide)
  · cases o with
    | none => cases hx
    | some y =>
      obtain ⟨h1, h2, h3⟩ := ho y rfl
      simp only [Option.toList_some, List.mem_singleton] at hx
      rw [hx]; exact i64_small (by omega) (by omega)
def fndB (l : List Ord) : Bool := l.any fun o => decide (ordL o = ordL mine)
theorem fnd_succ (l : List Ord) (k : Nat) (h : k < l.length) : fndB (l.take (k + 1)) = (fndB (l.take k) || decide (ordL (l.getD k default) = ordL mine)) := by
  unfold fndB
  rw [take_succ_getD l k h, List.any_append]; simp
theorem fnd_all {i n : Nat} {o : Option Ord} (ho : OthOk i o) : fndB (o.toList ++ if i % n = 0 then [mine] else []) = decide (i % n = 0) := by
  have h1 : ∀ x, o = some x → ordL x ≠ ordL mine := fun x hx e => by
    rw [ordL_eq] at e
    have := (ho x hx).1
    rw [e] at this
    have h9 : mine.ID = 9 := rfl
    omega
  unfold fndB
  cases o with
  | none => by_cases e : i % n = 0 <;> simp [e]
  | some x =>
    have := h1 x rfl
    by_cases e : i % n = 0
    · simp [e]
    · simp only [if_neg e, Option.toList_some, List.append_nil, List.any_cons, List.any_nil, decide_eq_false this, Bool.or_false, decide_eq_false e]
theorem sent_is {i n : Nat} {o : Option Ord} {k : Nat} (hk : k < (o.toList ++ if i % n = 0 then [mine] else []).length) : (o.toList ++ if i % n = 0 then [mine] else []).getD k default = mine ∨ ∃ x, o = some x ∧ (o.toList ++ if i % n = 0 then [mine] else []).getD k default = x := by
  have hm := getD_mem _ k hk
  rcases List.mem_append.1 hm with h | h
  · cases o with
    | none => cases h
    | some x => right; exact ⟨x, rfl, by simpa using h⟩
  · left
    by_cases e : i % n = 0
    · rw [if_pos e] at h ⊢; exact List.mem_singleton.1 h
    · rw [if_neg e] at h; cases h
theorem chk_ok {i n : Nat} {o : Option Ord} {k : Nat} (hk : k < (o.toList ++ if i % n = 0 then [mine] else []).length) :
    (!decide (ordL ((o.toList ++ if i % n = 0 then [mine] else []).getD k default) = ordL mine) && (decide (((setL o).length : Int) < 2) || !decide (ordL ((o.toList ++ if i % n = 0 then [mine] else []).getD k default) = ordL ((setL o).getD 1 default)))) = false := by
  rcases sent_is hk with h | ⟨x, rfl, h⟩
  · rw [h]; simp
  · rw [h]
    have : (setL (some x)).getD 1 default = x := rfl
    rw [this]
    simp [setL]
theorem setL_len (o : Option Ord) : (setL o).length ≤ 2 := by cases o <;> simp [setL]
theorem sent_len (i n : Nat) (o : Option Ord) : (o.toList ++ if i % n = 0 then [mine] else []).length ≤ 2 := by
  cases o <;> by_cases e : i % n = 0 <;> simp [e]
theorem mod_dec (a n : Nat) : (decide (a % n = 0) != decide (((a % n : Nat) : Int) = 0)) = false := by
  rw [decide_eq_decide.2 (show a % n = 0 ↔ ((a % n : Nat) : Int) = 0 by omega)]; exact bne_self_eq_false _
end Go.Dsp
