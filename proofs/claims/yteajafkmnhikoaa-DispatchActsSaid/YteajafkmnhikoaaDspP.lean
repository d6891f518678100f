/-
  The dispatcher, as data: what each of its acts makes of it. No program in sight.
-/
import Derived.Test.YteajafkmnhikoaaDspT
import Derived.Test.YteajafkmnhikoaaSlR
set_option linter.unusedVariables false
set_option linter.unusedSimpArgs false
namespace Go.Dsp
open Go Go.SL

abbrev ordL (o : Ord) : List Int := [o.ID, o.Epoch, o.Cluster, o.Version]
theorem ordL_eq {a b : Ord} : ordL a = ordL b ↔ a = b := by
  constructor
  · intro h; cases a; cases b; simp_all
  · rintro rfl; rfl
abbrev OM := List (Int × Sent)
abbrev TM := List (Int × Told)
structure DD where
  span : Int
  now : Int
  bo : Nat
  bt : Nat
  out : OM
  told : TM
def keepB (old : OM) (o : Ord) : Bool := mhas old o.Cluster && decide (ordL (mgetD old o.Cluster zSent).Order = ordL o)
def keepF (old : OM) (o : Ord) : Sent := if keepB old o = true then mgetD old o.Cluster zSent else ⟨o, -1⟩
def setStep (old acc : OM) (o : Ord) : OM := mset acc o.Cluster (keepF old o)
def setF (old : OM) (os : List Ord) : OM := os.foldl (setStep old) []
def dueB (now span : Int) (s : Sent) : Bool := decide (s.at_ < 0) || decide (span ≤ now - s.at_)
def tickStep (now span : Int) (a : OM × List Ord) (c : Int) : OM × List Ord :=
  if dueB now span (mgetD a.1 c zSent) = true then (mset a.1 c { mgetD a.1 c zSent with at_ := now }, a.2 ++ [(mgetD a.1 c zSent).Order]) else a
def tickF (now span : Int) (out : OM) : OM × List Ord := (sortI (mkeys out)).foldl (tickStep now span) (out, [])
def outF (out : OM) : List Ord := (sortI (mkeys out)).map fun c => (mgetD out c zSent).Order
def doneB (now span : Int) (out : OM) (t : Told) (r : Rep_) : Bool := mhas out r.Cluster && decide ((mgetD out r.Cluster zSent).Order.ID = r.Done) && (!t.any || decide (t.done ≠ r.Done) || decide (span ≤ now - t.at_))
def opD (r : Rep_) : Op1 := ⟨6, r.Cluster, r.Done, false, zPln⟩
def opH (r : Rep_) : Op1 := ⟨7, r.Cluster, r.Number, r.Good, zPln⟩
def told1 (now : Int) (b : Bool) (t : Told) (r : Rep_) : Told := if b = true then { t with any := true, done := r.Done, at_ := now } else t
def newB (t : Told) (r : Rep_) : Bool := decide (t.number < r.Number)
def told2 (b : Bool) (t : Told) (r : Rep_) : Told := if b = true then { t with number := r.Number } else t
def hearStep (now span : Int) (out : OM) (a : TM × List Op1) (r : Rep_) : TM × List Op1 :=
  (mset a.1 r.Cluster (told2 (newB (mgetD a.1 r.Cluster zTold) r) (told1 now (doneB now span out (mgetD a.1 r.Cluster zTold) r) (mgetD a.1 r.Cluster zTold) r) r),
   a.2 ++ (if doneB now span out (mgetD a.1 r.Cluster zTold) r = true then [opD r] else []) ++ (if newB (mgetD a.1 r.Cluster zTold) r = true then [opH r] else []))
def hearF (now span : Int) (out : OM) (told : TM) (rs : List Rep_) : TM × List Op1 := rs.foldl (hearStep now span out) (told, [])

theorem foldl_take {α β : Type} [Inhabited α] (f : β → α → β) (b : β) (l : List α) (k : Nat) (hk : k < l.length) : (l.take (k + 1)).foldl f b = f ((l.take k).foldl f b) (l.getD k default) := by
  rw [take_succ_getD l k hk, List.foldl_append]; rfl
/-! ### Bounds -/
/-- orders that are out: clusters that are whole numbers of 64 bits; sent not later than now -/
def OutOk (now : Int) (m : OM) : Prop := (∀ p ∈ m, I64 p.1 ∧ -1 ≤ p.2.at_ ∧ p.2.at_ ≤ now) ∧ m.length ≤ 1000000
def ToldOk (now : Int) (m : TM) : Prop := (∀ p ∈ m, I64 p.1 ∧ 0 ≤ p.2.at_ ∧ p.2.at_ ≤ now) ∧ m.length ≤ 1000000
theorem get_ok {V : Type} {Q : V → Prop} {m : List (Int × V)} (h : ∀ p ∈ m, Q p.2) {z : V} (hz : Q z) (k : Int) : Q (mgetD m k z) := by
  unfold mgetD
  cases e : mget m k with
  | none => exact hz
  | some v => exact h _ (mget_some e)
theorem set_ok {V : Type} {Q : Int × V → Prop} {m : List (Int × V)} (h : ∀ p ∈ m, Q p) {k : Int} {v : V} (hv : Q (k, v)) : ∀ p ∈ mset m k v, Q p := by
  induction m with
  | nil => intro p hp; simp only [mset, List.mem_singleton] at hp; rw [hp]; exact hv
  | cons q m ih =>
    obtain ⟨a, u⟩ := q
    intro p hp
    simp only [mset] at hp
    split at hp
    · rcases List.mem_cons.1 hp with rfl | hp
      · exact hv
      · exact h _ (List.mem_cons_of_mem _ hp)
    · rcases List.mem_cons.1 hp with rfl | hp
      · exact h _ List.mem_cons_self
      · exact ih (fun q hq => h q (List.mem_cons_of_mem _ hq)) p hp
theorem OutOk.at_ {now : Int} {m : OM} (h : OutOk now m) (h0 : 0 ≤ now) (c : Int) : -1 ≤ (mgetD m c zSent).at_ ∧ (mgetD m c zSent).at_ ≤ now :=
  get_ok (Q := fun s : Sent => -1 ≤ s.at_ ∧ s.at_ ≤ now) (fun p hp => (h.1 p hp).2) ⟨by decide, h0⟩ c
theorem ToldOk.at_ {now : Int} {m : TM} (h : ToldOk now m) (h0 : 0 ≤ now) (c : Int) : 0 ≤ (mgetD m c zTold).at_ ∧ (mgetD m c zTold).at_ ≤ now :=
  get_ok (Q := fun s : Told => 0 ≤ s.at_ ∧ s.at_ ≤ now) (fun p hp => (h.1 p hp).2) ⟨by decide, h0⟩ c
theorem OutOk.up {now : Int} {m : OM} (h : OutOk now m) : OutOk (now + 1) m := ⟨fun p hp => ⟨(h.1 p hp).1, (h.1 p hp).2.1, by have := (h.1 p hp).2.2; omega⟩, h.2⟩
theorem ToldOk.up {now : Int} {m : TM} (h : ToldOk now m) : ToldOk (now + 1) m := ⟨fun p hp => ⟨(h.1 p hp).1, (h.1 p hp).2.1, by have := (h.1 p hp).2.2; omega⟩, h.2⟩
theorem mem_sorted_take {m : OM} {k : Nat} : ∀ c ∈ (sortI (mkeys m)).take k, c ∈ mkeys m := fun c hc => sortI_mem.1 (List.mem_of_mem_take hc)
theorem sorted_len {V : Type} (m : List (Int × V)) : (sortI (mkeys m)).length = m.length := by rw [sortI_len]; simp [mkeys]
theorem OutOk.keys {now : Int} {m : OM} (h : OutOk now m) : ∀ k ∈ mkeys m, I64 k := fun k hk => by
  obtain ⟨p, hp, rfl⟩ := List.mem_map.1 hk
  exact (h.1 p hp).1
theorem tickStep_keys {now span : Int} {a : OM × List Ord} {c : Int} (hc : c ∈ mkeys a.1) : mkeys (tickStep now span a c).1 = mkeys a.1 := by
  unfold tickStep
  split
  · rw [mkeys_set, if_pos hc]
  · rfl
theorem tick_inv {now span : Int} {out : OM} (h : OutOk now out) (h0 : 0 ≤ now) (l : List Int) (hl : ∀ c ∈ l, c ∈ mkeys out) : mkeys (l.foldl (tickStep now span) (out, [])).1 = mkeys out ∧ OutOk now (l.foldl (tickStep now span) (out, [])).1 ∧ (l.foldl (tickStep now span) (out, [])).2.length ≤ l.length := by
  have key : ∀ (l : List Int) (a : OM × List Ord), (∀ c ∈ l, c ∈ mkeys out) → mkeys a.1 = mkeys out → OutOk now a.1 → mkeys (l.foldl (tickStep now span) a).1 = mkeys out ∧ OutOk now (l.foldl (tickStep now span) a).1 ∧ (l.foldl (tickStep now span) a).2.length ≤ a.2.length + l.length := by
    intro l
    induction l with
    | nil => intro a _ h1 h2; exact ⟨h1, h2, by simp⟩
    | cons c l ih =>
      intro a hl h1 h2
      have hc : c ∈ mkeys a.1 := by rw [h1]; exact hl c List.mem_cons_self
      have hk := tickStep_keys (now := now) (span := span) hc
      have ho : OutOk now (tickStep now span a c).1 := by
        unfold tickStep
        split
        · refine ⟨set_ok h2.1 ⟨h2.keys c hc, by show -1 ≤ now; omega, Int.le_refl _⟩, ?_⟩
          have := congrArg List.length (show mkeys (mset a.1 c { mgetD a.1 c zSent with at_ := now }) = mkeys a.1 by rw [mkeys_set, if_pos hc])
          simp only [mkeys, List.length_map] at this
          rw [this]; exact h2.2
        · exact h2
      have hlen : (tickStep now span a c).2.length ≤ a.2.length + 1 := by unfold tickStep; split <;> simp
      obtain ⟨r1, r2, r3⟩ := ih _ (fun c hc => hl c (List.mem_cons_of_mem _ hc)) (hk.trans h1) ho
      exact ⟨r1, r2, by simp only [List.foldl_cons, List.length_cons] at r3 ⊢; omega⟩
  obtain ⟨r1, r2, r3⟩ := key l (out, []) hl rfl h
  exact ⟨r1, r2, by simpa using r3⟩
theorem set_inv {now : Int} {old : OM} (h : OutOk now old) (h0 : 0 ≤ now) (os : List Ord) (hw : ∀ o ∈ os, I64 o.Cluster) (hl : os.length ≤ 1000000) : OutOk now (setF old os) := by
  have key : ∀ (l : List Ord) (a : OM), (∀ o ∈ l, I64 o.Cluster) → (∀ p ∈ a, I64 p.1 ∧ -1 ≤ p.2.at_ ∧ p.2.at_ ≤ now) → (∀ p ∈ l.foldl (setStep old) a, I64 p.1 ∧ -1 ≤ p.2.at_ ∧ p.2.at_ ≤ now) ∧ (l.foldl (setStep old) a).length ≤ a.length + l.length := by
    intro l
    induction l with
    | nil => intro a _ h1; exact ⟨h1, by simp⟩
    | cons o l ih =>
      intro a hw h1
      have hk : -1 ≤ (keepF old o).at_ ∧ (keepF old o).at_ ≤ now := by
        unfold keepF
        split
        · exact h.at_ h0 _
        · exact ⟨Int.le_refl _, by show (-1 : Int) ≤ now; omega⟩
      obtain ⟨r1, r2⟩ := ih (setStep old a o) (fun o ho => hw o (List.mem_cons_of_mem _ ho)) (set_ok h1 ⟨hw o List.mem_cons_self, hk⟩)
      have := mset_len a o.Cluster (keepF old o)
      refine ⟨r1, ?_⟩
      simp only [List.foldl_cons, List.length_cons]
      have e : (setStep old a o).length ≤ a.length + 1 := this
      omega
  obtain ⟨r1, r2⟩ := key os [] hw (fun p hp => by cases hp)
  exact ⟨r1, by simp only [List.length_nil] at r2; show (os.foldl (setStep old) []).length ≤ _; omega⟩
theorem hear_inv {now span : Int} {out : OM} {told : TM} (h : ToldOk now told) (h0 : 0 ≤ now) : ∀ (l : List Rep_), (∀ r ∈ l, I64 r.Cluster) → (∀ p ∈ (hearF now span out told l).1, I64 p.1 ∧ 0 ≤ p.2.at_ ∧ p.2.at_ ≤ now) ∧ (hearF now span out told l).1.length ≤ told.length + l.length ∧ (hearF now span out told l).2.length ≤ 2 * l.length := by
  have key : ∀ (l : List Rep_) (a : TM × List Op1), (∀ r ∈ l, I64 r.Cluster) → (∀ p ∈ a.1, I64 p.1 ∧ 0 ≤ p.2.at_ ∧ p.2.at_ ≤ now) → (∀ p ∈ (l.foldl (hearStep now span out) a).1, I64 p.1 ∧ 0 ≤ p.2.at_ ∧ p.2.at_ ≤ now) ∧ (l.foldl (hearStep now span out) a).1.length ≤ a.1.length + l.length ∧ (l.foldl (hearStep now span out) a).2.length ≤ a.2.length + 2 * l.length := by
    intro l
    induction l with
    | nil => intro a _ h1; exact ⟨h1, by simp, by simp⟩
    | cons r l ih =>
      intro a hw h1
      have ha : 0 ≤ (mgetD a.1 r.Cluster zTold).at_ ∧ (mgetD a.1 r.Cluster zTold).at_ ≤ now := get_ok (Q := fun s : Told => 0 ≤ s.at_ ∧ s.at_ ≤ now) (fun p hp => (h1 p hp).2) ⟨by decide, h0⟩ _
      have ht : ∀ b b2, 0 ≤ (told2 b2 (told1 now b (mgetD a.1 r.Cluster zTold) r) r).at_ ∧ (told2 b2 (told1 now b (mgetD a.1 r.Cluster zTold) r) r).at_ ≤ now := by
        intro b b2
        have h1 : 0 ≤ (told1 now b (mgetD a.1 r.Cluster zTold) r).at_ ∧ (told1 now b (mgetD a.1 r.Cluster zTold) r).at_ ≤ now := by
          unfold told1
          split
          · exact ⟨h0, Int.le_refl _⟩
          · exact ha
        unfold told2
        split
        · exact h1
        · exact h1
      obtain ⟨r1, r2, r3⟩ := ih (hearStep now span out a r) (fun o ho => hw o (List.mem_cons_of_mem _ ho)) (set_ok h1 ⟨hw r List.mem_cons_self, ht _ _⟩)
      have e1 : (hearStep now span out a r).1.length ≤ a.1.length + 1 := mset_len _ _ _
      have e2 : (hearStep now span out a r).2.length ≤ a.2.length + 2 := by
        unfold hearStep
        simp only [List.length_append]
        split <;> split <;> simp
      refine ⟨r1, ?_, ?_⟩
      · simp only [List.foldl_cons, List.length_cons]; omega
      · simp only [List.foldl_cons, List.length_cons]; omega
  intro l hw
  obtain ⟨r1, r2, r3⟩ := key l (told, []) hw h.1
  exact ⟨r1, r2, by simp only [List.length_nil] at r3; show (l.foldl (hearStep now span out) (told, [])).2.length ≤ _; omega⟩
end Go.Dsp
