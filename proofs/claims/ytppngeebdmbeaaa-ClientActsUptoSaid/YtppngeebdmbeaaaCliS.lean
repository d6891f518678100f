/-
  The client and the reference's client go alike. No program in sight.
-/
import Derived.Test.YtppngeebdmbeaaaCliR
set_option linter.unusedSimpArgs false
set_option linter.unusedVariables false
namespace Go.Cli
open Go Go.SL
structure Rel (c : Cl) (r : Rc) : Prop where
  id : r.id = c.id
  span : r.span = c.span
  row : r.row.xs = c.row.xs
  at_ : r.at_ = c.at_
  seq : r.seq = c.seq
  on : r.on = c.on
  over : r.over = c.over
  last : r.last = c.last
  ask : r.ask = { c.ask with waves := r.ask.waves }
  wav : r.ask.waves.xs.map WvD = c.ask.waves.xs.map WvD
  tm : c.on = true → (c.st = 1 ∧ r.since = c.since ∧ 0 ≤ c.since) ∨ (c.st ≠ 1 ∧ r.since < 0)
theorem mod_next {a n : Nat} (h : a < n) : (a + 1) % n = if a + 1 = n then 0 else a + 1 := by
  split
  · rename_i e; rw [e, Nat.mod_self]
  · exact Nat.mod_eq_of_lt (by omega)
theorem rel_next {c : Cl} {r : Rc} (h : Rel c r) (ha : c.at_ < c.row.xs.length) : (rnext r).at_ = (nextF c).at_ := by
  unfold rnext
  show _ = (c.at_ + 1) % c.row.xs.length
  rw [mod_next ha, h.row, h.at_]
  split
  · rfl
  · rfl
theorem rel_idle {c : Cl} {r : Rc} (h : Rel c r) (hs : ¬ sendsF c) : (rtick r).2 = -1 ∧ Rel (tick1 c) (rtick r).1 := by
  cases ho : c.on with
  | false =>
    rw [rtick_off (h.on.trans ho)]
    exact ⟨rfl, h.id, h.span, h.row, h.at_, h.seq, h.on, h.over, h.last, h.ask, h.wav, fun q => by rw [show (tick1 c).on = c.on from rfl, ho] at q; cases q⟩
  | true =>
    rcases h.tm ho with ⟨t1, t2, t3⟩ | ⟨t1, t2⟩
    · have hlt : c.since + 1 < c.span := Classical.byContradiction fun q => hs ⟨ho, fun z => q z.2⟩
      rw [rtick_wait (h.on.trans ho) (by omega) (by rw [t2, h.span]; exact hlt)]
      exact ⟨rfl, h.id, h.span, h.row, h.at_, h.seq, h.on, h.over, h.last, h.ask, h.wav, fun _ => .inl ⟨t1, by show r.since + 1 = c.since + 1; rw [t2], by show 0 ≤ c.since + 1; omega⟩⟩
    · exact absurd ⟨ho, fun z => t1 z.1⟩ hs
theorem rnext_eq (r : Rc) : rnext r = { r with at_ := (rnext r).at_ } := by unfold rnext; split <;> rfl
theorem rel_send {c : Cl} {r : Rc} (h : Rel c r) (ha : c.at_ < c.row.xs.length) (hs : sendsF c) : (rtick r).2 = c.row.xs.getD (tick2 c).at_ default ∧ Rel (tick2 c) (rtick r).1 := by
  have ho := hs.1
  rcases h.tm ho with ⟨t1, t2, t3⟩ | ⟨t1, t2⟩
  · have hlt : ¬ c.since + 1 < c.span := fun q => hs.2 ⟨t1, q⟩
    rw [rtick_next (h.on.trans ho) (by omega) (by rw [t2, h.span]; exact hlt), tick2_yes t1]
    have hr1 : Rel (tick1 c) { r with since := r.since + 1 } := ⟨h.id, h.span, h.row, h.at_, h.seq, h.on, h.over, h.last, h.ask, h.wav, fun _ => .inl ⟨t1, by show r.since + 1 = c.since + 1; rw [t2], by show 0 ≤ c.since + 1; omega⟩⟩
    have hn := rel_next hr1 ha
    refine ⟨?_, ?_⟩
    · show r.row.xs.getD _ default = _
      rw [hn, h.row]
    · rw [rnext_eq]
      exact ⟨h.id, h.span, h.row, hn, h.seq, h.on, h.over, h.last, h.ask, h.wav, fun _ => .inl ⟨rfl, rfl, Int.le_refl 0⟩⟩
  · rw [rtick_now (h.on.trans ho) (by omega), tick2_no t1]
    refine ⟨?_, h.id, h.span, h.row, h.at_, h.seq, h.on, h.over, h.last, h.ask, h.wav, fun _ => .inl ⟨rfl, rfl, Int.le_refl 0⟩⟩
    show r.row.xs.getD r.at_ default = c.row.xs.getD c.at_ default
    rw [h.row, h.at_]
theorem rel_mine {c : Cl} {r : Rc} (h : Rel c r) (p : RepV) : rmine r p ↔ mineB c p := by unfold rmine mineB; rw [h.on, h.id, h.seq]
theorem rel_off {c : Cl} {r : Rc} (h : Rel c r) (p : RepV) : roff r p ↔ putOff c p := by
  have hk : r.ask.kind = c.ask.kind := by rw [h.ask]
  unfold roff putOff; rw [hk]
theorem rel_hear {c : Cl} {r : Rc} (h : Rel c r) (ha : c.at_ < c.row.xs.length) (p : RepV) : (rhear r p).2 = (hearF c p).2 ∧ Rel (hearF c p).1 (rhear r p).1 := by
  by_cases h1 : mineB c p
  · by_cases h2 : putOff c p
    · rw [hear_off h1 h2, rhear_off ((rel_mine h p).2 h1) ((rel_off h p).2 h2)]
      refine ⟨rfl, ?_⟩
      by_cases q : 0 ≤ idxF c.row.xs p.leads ∧ idxF c.row.xs p.leads ≠ (c.at_ : Int)
      · rw [lead_yes q.1 q.2, rlead_yes (by rw [h.row, h.at_]; exact q)]
        exact ⟨h.id, h.span, h.row, by show (idxF r.row.xs p.leads).toNat = _; rw [h.row], h.seq, h.on, h.over, h.last, h.ask, h.wav, fun _ => .inr ⟨(by decide : (2 : Int) ≠ 1), (by decide : (-1 : Int) < 0)⟩⟩
      · rw [lead_no q, rlead_no (by rw [h.row, h.at_]; exact q), rnext_eq]
        exact ⟨h.id, h.span, h.row, rel_next h ha, h.seq, h.on, h.over, h.last, h.ask, h.wav, fun _ => .inr ⟨(by decide : (2 : Int) ≠ 1), (by decide : (-1 : Int) < 0)⟩⟩
    · rw [hear_over h1 h2, rhear_over ((rel_mine h p).2 h1) (fun q => h2 ((rel_off h p).1 q))]
      exact ⟨rfl, h.id, h.span, h.row, h.at_, h.seq, rfl, rfl, rfl, h.ask, h.wav, fun q => by cases q⟩
  · rw [hear_no h1, rhear_no (fun q => h1 ((rel_mine h p).1 q))]
    exact ⟨rfl, h⟩

/-! ### The law over acts -/
structure ActV where
  kind : Int
  ask : AskV
  rs : SL RepV
instance : Inhabited ActV := ⟨⟨0, askZ, ⟨none, [], 0⟩⟩⟩
def encAct (a : ActV) : List Value := [.int .i64 a.kind, .int .i64 a.ask.kind, .int .i64 a.ask.client, .int .i64 a.ask.seq, .int .i64 a.ask.okind, .int .i64 a.ask.ocl, .int .i64 a.ask.onum, .bool a.ask.good, .int .i64 a.ask.bud, .int .i64 a.ask.bad, a.ask.waves.v, .int .i64 a.ask.cdo, .int .i64 a.ask.cid, a.rs.v]
theorem oneAct (a : ActV) : ∀ u ∈ encAct a, u.oneCell' = true := fun u hu => by
  simp [encAct] at hu
  rcases hu with rfl | rfl | rfl | rfl | rfl | rfl | rfl | rfl | rfl | rfl | rfl | rfl | rfl | rfl <;> rfl
def RepMem (q : RepV) (h : Hp) : Prop := q.places.ro encPl 5 h ∧ q.over.ro encO 1 h ∧ q.sicks.ro encI 1 h
def RepSm (q : RepV) : Prop := q.places.xs.length ≤ 100000 ∧ q.over.xs.length ≤ 100000 ∧ q.sicks.xs.length ≤ 100000
def ActMem (a : ActV) (h : Hp) : Prop := AskMem a.ask.waves h ∧ a.rs.ro encRep 13 h ∧ ∀ q ∈ a.rs.xs, RepMem q h
def ActBig (a : ActV) : Prop := Big a.ask.waves ∧ ∀ q ∈ a.rs.xs, q.places.xs.length ≤ 2000000 ∧ q.over.xs.length ≤ 2000000 ∧ q.sicks.xs.length ≤ 2000000
def Rc.new (id span : Int) (row : SL Int) : Rc := ⟨id, span, 0, 0, 0, row, false, false, askZ, repZ⟩
structure AI (ρ : Hp) (R0 : SL Int) (i : Nat) (c : Cl) (r : Rc) : Prop where
  rel : Rel c r
  ok : CliOk c
  since : 0 ≤ c.since ∧ c.since ≤ i
  seq : 0 ≤ c.seq ∧ c.seq ≤ i
  rsince : r.since ≤ i
  row : c.row.xs = R0.xs
  rrow : r.row = R0
  rm : AskMem r.ask.waves ρ
  rs : Small r.ask.waves
  lm : RepMem c.last ρ
  ls : RepSm c.last
theorem AI.up {ρ : Hp} {R0 : SL Int} {i : Nat} {c : Cl} {r : Rc} (h : AI ρ R0 i c r) : AI ρ R0 (i + 1) c r :=
  ⟨h.rel, h.ok, ⟨h.since.1, by have := h.since.2; omega⟩, ⟨h.seq.1, by have := h.seq.2; omega⟩, by have := h.rsince; omega, h.row, h.rrow, h.rm, h.rs, h.lm, h.ls⟩
theorem ai_new {ρ : Hp} (id span : Int) {a : Option Addr} {n : Nat} {R0 : SL Int} (h0 : 0 < R0.xs.length) (hl : R0.xs.length ≤ 1000) : AI ρ R0 0 (Cl.new id span ⟨a, R0.xs, n⟩) (Rc.new id span R0) :=
  ⟨⟨rfl, rfl, rfl, rfl, rfl, rfl, rfl, rfl, rfl, rfl, fun h => by cases h⟩, ⟨h0, by show R0.xs.length ≤ _; omega, small_nil⟩, ⟨Int.le_refl 0, Int.le_refl 0⟩, ⟨Int.le_refl 0, Int.le_refl 0⟩, Int.le_refl 0, rfl, rfl, askMem_nil _, small_nil, ⟨Ro.nil _ _, Ro.nil _ _, Ro.nil _ _⟩, ⟨by simp [Cl.new, repZ], by simp [Cl.new, repZ], by simp [Cl.new, repZ]⟩⟩
theorem AI.rlt {ρ : Hp} {R0 : SL Int} {i : Nat} {c : Cl} {r : Rc} (h : AI ρ R0 i c r) : r.at_ < r.row.xs.length := by
  rw [h.rel.at_, h.rel.row]; exact h.ok.at_lt
theorem smallM {w v : SL WvV} (h : w.xs.map WvD = v.xs.map WvD) (s : Small v) : Small w := by
  have hl : w.xs.length = v.xs.length := by simpa using congrArg List.length h
  refine ⟨by rw [hl]; exact s.1, fun u hu => ?_⟩
  have hm : WvD u ∈ v.xs.map WvD := by rw [← h]; exact List.mem_map_of_mem hu
  obtain ⟨u', hu', e⟩ := List.mem_map.1 hm
  have q := s.2 u' hu'
  simp only [WvD, Prod.mk.injEq] at e
  rw [← e.1, ← e.2.1]; exact q
theorem ai_begun {ρ : Hp} {R0 : SL Int} {i : Nat} {c : Cl} {r : Rc} (h : AI ρ R0 i c r) (a : AskV) {w : SL WvV} (hw : w.xs.map WvD = a.waves.xs.map WvD) (sm : Small a.waves) (am : AskMem a.waves ρ) : AI ρ R0 (i + 1) (begun c a w) (rbegun r a) := by
  have hr := h.rel
  refine ⟨⟨hr.id, hr.span, hr.row, hr.at_, by show r.seq + 1 = c.seq + 1; rw [hr.seq], rfl, hr.over, hr.last, ?_, hw.symm, fun _ => .inr ⟨(by decide : (0 : Int) ≠ 1), (by decide : (-1 : Int) < 0)⟩⟩, ⟨h.ok.at_lt, h.ok.row_le, smallM hw sm⟩, ?_, ?_, ?_, h.row, h.rrow, am, sm, h.lm, h.ls⟩
  · show ({ a with client := r.id, seq := r.seq + 1 } : AskV) = _
    rw [hr.id, hr.seq]; rfl
  · exact ⟨h.since.1, by have := h.since.2; show c.since ≤ ((i + 1 : Nat) : Int); omega⟩
  · exact ⟨by have := h.seq.1; show 0 ≤ c.seq + 1; omega, by have := h.seq.2; show c.seq + 1 ≤ ((i + 1 : Nat) : Int); omega⟩
  · show (-1 : Int) ≤ ((i + 1 : Nat) : Int); omega
theorem rnext_keep (r : Rc) : (rnext r).row = r.row ∧ (rnext r).ask = r.ask ∧ (rnext r).since = r.since := by unfold rnext; split <;> exact ⟨rfl, rfl, rfl⟩
theorem rtick_keep (r : Rc) : (rtick r).1.row = r.row ∧ (rtick r).1.ask = r.ask ∧ (rtick r).1.since ≤ max (r.since + 1) 0 := by
  cases ho : r.on with
  | false => rw [rtick_off ho]; exact ⟨rfl, rfl, by show r.since ≤ _; omega⟩
  | true =>
    by_cases h2 : 0 ≤ r.since
    · by_cases h3 : r.since + 1 < r.span
      · rw [rtick_wait ho h2 h3]; exact ⟨rfl, rfl, by show r.since + 1 ≤ _; omega⟩
      · rw [rtick_next ho h2 h3]
        obtain ⟨k1, k2, -⟩ := rnext_keep { r with since := r.since + 1 }
        exact ⟨k1, k2, by show (0 : Int) ≤ _; omega⟩
    · rw [rtick_now ho h2]; exact ⟨rfl, rfl, by show (0 : Int) ≤ _; omega⟩
theorem rhear_keep (r : Rc) (q : RepV) : (rhear r q).1.row = r.row ∧ (rhear r q).1.ask = r.ask ∧ (rhear r q).1.since ≤ max r.since 0 := by
  by_cases h1 : rmine r q
  · by_cases h2 : roff r q
    · rw [rhear_off h1 h2]
      have hk : (rlead r q).row = r.row ∧ (rlead r q).ask = r.ask := by
        unfold rlead; split
        · exact ⟨rfl, rfl⟩
        · exact ⟨(rnext_keep r).1, (rnext_keep r).2.1⟩
      exact ⟨hk.1, hk.2, by show (-1 : Int) ≤ _; omega⟩
    · rw [rhear_over h1 h2]; exact ⟨rfl, rfl, by show r.since ≤ _; omega⟩
  · rw [rhear_no h1]; exact ⟨rfl, rfl, by show r.since ≤ _; omega⟩
theorem hearF_keep (c : Cl) (q : RepV) : (hearF c q).1.row = c.row ∧ (hearF c q).1.since = c.since ∧ (hearF c q).1.seq = c.seq ∧ ((hearF c q).1.last = c.last ∨ (hearF c q).1.last = q) := by
  by_cases h1 : mineB c q
  · by_cases h2 : putOff c q
    · rw [hear_off h1 h2]
      have hk : (leadTo c q).row = c.row ∧ (leadTo c q).since = c.since ∧ (leadTo c q).seq = c.seq ∧ (leadTo c q).last = c.last := by unfold leadTo; split <;> exact ⟨rfl, rfl, rfl, rfl⟩
      exact ⟨hk.1, hk.2.1, hk.2.2.1, .inl hk.2.2.2⟩
    · rw [hear_over h1 h2]; exact ⟨rfl, rfl, rfl, .inr rfl⟩
  · rw [hear_no h1]; exact ⟨rfl, rfl, rfl, .inl rfl⟩
theorem tick2_keep (c : Cl) : (tick2 c).row = c.row ∧ (tick2 c).since = 0 ∧ (tick2 c).seq = c.seq ∧ (tick2 c).last = c.last ∧ (tick2 c).ask = c.ask := by
  by_cases h : c.st = 1
  · rw [tick2_yes h]; exact ⟨rfl, rfl, rfl, rfl, rfl⟩
  · rw [tick2_no h]; exact ⟨rfl, rfl, rfl, rfl, rfl⟩
theorem ai_idle {ρ : Hp} {R0 : SL Int} {i : Nat} {c : Cl} {r : Rc} (h : AI ρ R0 i c r) (hs : ¬ sendsF c) : (rtick r).2 = -1 ∧ AI ρ R0 (i + 1) (tick1 c) (rtick r).1 := by
  obtain ⟨e, hr⟩ := rel_idle h.rel hs
  obtain ⟨k1, k2, k3⟩ := rtick_keep r
  have := h.rsince
  refine ⟨e, hr, tick1_ok h.ok, ⟨by have := h.since.1; show 0 ≤ c.since + 1; omega, by have := h.since.2; show c.since + 1 ≤ ((i + 1 : Nat) : Int); omega⟩, ⟨h.seq.1, by have := h.seq.2; show c.seq ≤ ((i + 1 : Nat) : Int); omega⟩, by omega, h.row, k1.trans h.rrow, by rw [k2]; exact h.rm, by rw [k2]; exact h.rs, h.lm, h.ls⟩
theorem ai_send {ρ : Hp} {R0 : SL Int} {i : Nat} {c : Cl} {r : Rc} (h : AI ρ R0 i c r) (hs : sendsF c) : (rtick r).2 = c.row.xs.getD (tick2 c).at_ default ∧ AI ρ R0 (i + 1) (tick2 c) (rtick r).1 := by
  obtain ⟨e, hr⟩ := rel_send h.rel h.ok.at_lt hs
  obtain ⟨k1, k2, k3⟩ := rtick_keep r
  obtain ⟨q1, q2, q3, q4, q5⟩ := tick2_keep c
  have := h.rsince
  refine ⟨e, hr, tick2_ok h.ok, ⟨by rw [q2]; exact Int.le_refl 0, by rw [q2]; omega⟩, ⟨by rw [q3]; exact h.seq.1, by rw [q3]; have := h.seq.2; omega⟩, by omega, by rw [q1]; exact h.row, k1.trans h.rrow, by rw [k2]; exact h.rm, by rw [k2]; exact h.rs, by rw [q4]; exact h.lm, by rw [q4]; exact h.ls⟩
theorem ai_hear {ρ : Hp} {R0 : SL Int} {i : Nat} {c : Cl} {r : Rc} (h : AI ρ R0 i c r) {q : RepV} (hq : RepMem q ρ) (hs : RepSm q) : (rhear r q).2 = (hearF c q).2 ∧ AI ρ R0 i (hearF c q).1 (rhear r q).1 := by
  obtain ⟨e, hr⟩ := rel_hear h.rel h.ok.at_lt q
  obtain ⟨k1, k2, k3⟩ := rhear_keep r q
  obtain ⟨q1, q2, q3, q4⟩ := hearF_keep c q
  have := h.rsince
  refine ⟨e, hr, hear_ok q h.ok, by rw [q2]; exact h.since, by rw [q3]; exact h.seq, by omega, by rw [q1]; exact h.row, k1.trans h.rrow, by rw [k2]; exact h.rm, by rw [k2]; exact h.rs, ?_, ?_⟩
  · rcases q4 with q4 | q4 <;> rw [q4]
    · exact h.lm
    · exact hq
  · rcases q4 with q4 | q4 <;> rw [q4]
    · exact h.ls
    · exact hs
theorem ai_pos {ρ : Hp} {R0 : SL Int} {i : Nat} {c : Cl} {r : Rc} (h : AI ρ R0 i c r) (hp : ∀ z ∈ R0.xs, 0 ≤ z) : 0 ≤ c.row.xs.getD c.at_ default :=
  hp _ (by rw [← h.row]; exact getD_mem _ _ h.ok.at_lt)
structure CR where
  c : Cl
  r : Rc
structure AS where
  i : Nat
  c : Cl
  r : Rc
structure HS where
  k : Nat
  n : Nat
  r : Rc
def HI_ (ρ : Hp) (R0 : SL Int) (i : Nat) (c : Cl) (rs : List RepV) (y : HS) : Prop := y.k ≤ rs.length ∧ AI ρ R0 i (hearN c (rs.take y.k)).1 y.r ∧ y.n = (hearN c (rs.take y.k)).2 ∧ y.n ≤ y.k
theorem hi_next {ρ : Hp} {R0 : SL Int} {i : Nat} {c : Cl} {rs : List RepV} {y : HS} (h : HI_ ρ R0 i c rs y) (hk : y.k < rs.length) (hq : RepMem (rs.getD y.k default) ρ) (hs : RepSm (rs.getD y.k default)) :
    HI_ ρ R0 i c rs ⟨y.k + 1, y.n + if (rhear y.r (rs.getD y.k default)).2 = true then 1 else 0, (rhear y.r (rs.getD y.k default)).1⟩ := by
  obtain ⟨h1, h2, h3, h4⟩ := h
  obtain ⟨e, hr⟩ := ai_hear h2 hq hs
  refine ⟨by show y.k + 1 ≤ _; omega, ?_, ?_, ?_⟩
  · show AI ρ R0 i (hearN c (rs.take (y.k + 1))).1 _
    rw [hearN_succ c rs y.k hk]; exact hr
  · show y.n + _ = (hearN c (rs.take (y.k + 1))).2
    rw [hearN_succ c rs y.k hk, e, h3]
  · show y.n + _ ≤ y.k + 1
    split <;> omega
end Go.Cli
