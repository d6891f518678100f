/-
  The client's laws, plain: how her state goes on; the schedule of sendings; whose reply it is.
-/
import Derived.Test.YtppngeebdmbeaaaCliP
set_option linter.unusedSimpArgs false
set_option linter.unusedVariables false
namespace Go.Cli
open Go Go.SL

theorem or_yes {A X Y : Prop} (h : A) : (A ∧ X) ∨ (¬ A ∧ Y) → X := fun q => q.elim (·.2) (fun z => absurd h z.1)
theorem or_no {A X Y : Prop} (h : ¬ A) : (A ∧ X) ∨ (¬ A ∧ Y) → Y := fun q => q.elim (fun z => absurd z.1 h) (·.2)
theorem or_a {A X Y : Prop} (h : A) : (¬ A ∧ Y) ∨ (A ∧ X) → X := fun q => q.elim (fun z => absurd h z.1) (·.2)
theorem or_b {A X Y : Prop} (h : ¬ A) : (¬ A ∧ Y) ∨ (A ∧ X) → Y := fun q => q.elim (·.2) (fun z => absurd z.1 h)
theorem or_on {b : Bool} {X Y : Prop} (h : b = true) : (b = false ∧ Y) ∨ (b = true ∧ X) → X := fun q => q.elim (fun z => by rw [h] at z; cases z.1) (·.2)
theorem or_off {b : Bool} {X Y : Prop} (h : b = false) : (b = false ∧ Y) ∨ (b = true ∧ X) → Y := fun q => q.elim (·.2) (fun z => by rw [h] at z; cases z.1)
theorem or_beg {b : Bool} {A X Y Z : Prop} (h : b = false) (ha : A) : (b = true ∧ X) ∨ (b = false ∧ ¬ A ∧ Y) ∨ (b = false ∧ A ∧ Z) → Z := fun q => by
  rcases q with ⟨q, _⟩ | ⟨_, q, _⟩ | ⟨_, _, q⟩
  · rw [h] at q; cases q
  · exact absurd ha q
  · exact q
theorem or_busy {b : Bool} {A X Y Z : Prop} (h : b = true) : (b = true ∧ X) ∨ (b = false ∧ ¬ A ∧ Y) ∨ (b = false ∧ A ∧ Z) → X := fun q => by
  rcases q with ⟨_, q⟩ | ⟨q, _⟩ | ⟨q, _⟩
  · exact q
  · rw [h] at q; cases q
  · rw [h] at q; cases q
theorem small_map {w v : SL WvV} (h : w.xs.map WvD = v.xs.map WvD) (s : Small v) : Small w := by
  have hl : w.xs.length = v.xs.length := by simpa using congrArg List.length h
  refine ⟨by rw [hl]; exact s.1, fun x hx => ?_⟩
  have : WvD x ∈ v.xs.map WvD := h ▸ List.mem_map_of_mem hx
  obtain ⟨y, hy, e⟩ := List.mem_map.1 this
  have h2 := s.2 y hy
  have e1 : y.after.xs = x.after.xs := congrArg (·.1) e
  have e2 : y.clu.xs = x.clu.xs := congrArg (·.2.1) e
  rw [← e1, ← e2]; exact h2
/-- how a client stands -/
structure St (c : Cl) (i0 span0 : Int) (row0 : List Int) (at0 : Nat) (seq0 : Int) (on0 : Bool) (st0 since0 kind0 okind0 : Int) : Prop where
  id : c.id = i0
  span : c.span = span0
  row : c.row.xs = row0
  at_ : c.at_ = at0
  seq : c.seq = seq0
  on : c.on = on0
  st : c.st = st0
  since : c.since = since0
  kind : c.ask.kind = kind0
  okind : c.ask.okind = okind0
  who : on0 = true → c.ask.client = i0 ∧ c.ask.seq = seq0
  small : Small c.ask.waves
theorem St.ok {c : Cl} {id span : Int} {row : List Int} {at_ : Nat} {seq : Int} {on : Bool} {st since kind okind : Int} (s : St c id span row at_ seq on st since kind okind) (h : at_ < row.length) (hl : row.length ≤ 1000000000) : CliOk c :=
  ⟨by rw [s.at_, s.row]; exact h, by rw [s.row]; exact hl, s.small⟩
theorem st_new (id span : Int) (a : Option Addr) (row : List Int) (cap : Nat) : St (Cl.new id span ⟨a, row, cap⟩) id span row 0 0 false 0 0 0 0 := ⟨rfl, rfl, rfl, rfl, rfl, rfl, rfl, rfl, rfl, rfl, (fun h => by cases h), small_nil⟩
section
variable {c : Cl} {id span : Int} {row : List Int} {at_ : Nat} {seq : Int} {on : Bool} {st since kind okind : Int}
theorem st_begun {a : AskV} {w : SL WvV} (s : St c id span row at_ seq on st since kind okind) (hw : w.xs.map WvD = a.waves.xs.map WvD) (sm : Small a.waves) : St (begun c a w) id span row at_ (seq + 1) true 0 since a.kind a.okind :=
  ⟨s.id, s.span, s.row, s.at_, by show c.seq + 1 = _; rw [s.seq], rfl, rfl, s.since, rfl, rfl, fun _ => ⟨s.id, by show c.seq + 1 = _; rw [s.seq]⟩, small_map hw sm⟩
theorem st_tick1 (s : St c id span row at_ seq on st since kind okind) : St (tick1 c) id span row at_ seq on st (since + 1) kind okind :=
  ⟨s.id, s.span, s.row, s.at_, s.seq, s.on, s.st, by show c.since + 1 = _; rw [s.since], s.kind, s.okind, s.who, s.small⟩
theorem st_tick2y (s : St c id span row at_ seq on st since kind okind) (h : st = 1) : St (tick2 c) id span row ((at_ + 1) % row.length) seq on 1 0 kind okind := by
  rw [tick2_yes (s.st.trans h)]
  exact ⟨s.id, s.span, s.row, by show (c.at_ + 1) % c.row.xs.length = _; rw [s.at_, s.row], s.seq, s.on, rfl, rfl, s.kind, s.okind, s.who, s.small⟩
theorem st_tick2n (s : St c id span row at_ seq on st since kind okind) (h : ¬ st = 1) : St (tick2 c) id span row at_ seq on 1 0 kind okind := by
  rw [tick2_no (fun q => h (s.st.symm.trans q))]
  exact ⟨s.id, s.span, s.row, s.at_, s.seq, s.on, rfl, rfl, s.kind, s.okind, s.who, s.small⟩
theorem St.sends (s : St c id span row at_ seq on st since kind okind) (h1 : on = true) (h2 : ¬ (st = 1 ∧ since + 1 < span)) : sendsF c := ⟨s.on.trans h1, by rw [s.st, s.since, s.span]; exact h2⟩
theorem St.idle (s : St c id span row at_ seq on st since kind okind) (h2 : st = 1 ∧ since + 1 < span) : ¬ sendsF c := fun q => q.2 (by rw [s.st, s.since, s.span]; exact h2)
theorem St.mine {r : RepV} (s : St c id span row at_ seq on st since kind okind) (h : on = true ∧ r.client = id ∧ r.seq = seq) : mineB c r := ⟨s.on.trans h.1, h.2.1.trans s.id.symm, h.2.2.trans s.seq.symm⟩
theorem St.off {r : RepV} (s : St c id span row at_ seq on st since kind okind) : putOff c r ↔ (r.err = 90 ∨ r.err = 92 ∨ (r.err = 91 ∧ kind ≠ 1)) := by unfold putOff; rw [s.kind]
theorem st_lead {r : RepV} {j : Nat} (s : St c id span row at_ seq on st since kind okind) (hi : idxF row r.leads = (j : Int)) (hj : j ≠ at_) : St { leadTo c r with st := 2 } id span row j seq on 2 since kind okind := by
  rw [lead_yes (by rw [s.row, hi]; omega) (by rw [s.row, hi, s.at_]; omega)]
  exact ⟨s.id, s.span, s.row, by show (idxF c.row.xs r.leads).toNat = j; rw [s.row, hi]; omega, s.seq, s.on, rfl, s.since, s.kind, s.okind, s.who, s.small⟩
theorem st_over {r : RepV} (s : St c id span row at_ seq on st since kind okind) : St { c with on := false, over := true, last := r } id span row at_ seq false st since kind okind :=
  ⟨s.id, s.span, s.row, s.at_, s.seq, rfl, s.st, s.since, s.kind, s.okind, (fun h => by cases h), s.small⟩
/-- whatever is heard: of what it leaves alone -/
theorem st_hear (s : St c id span row at_ seq on st since kind okind) (hat : at_ < row.length) (r : RepV) : ∃ at' st', at' < row.length ∧ St (hearF c r).1 id span row at' seq (hearF c r).1.on st' since kind okind ∧ ((hearF c r).2 = false → (hearF c r).1.on = on) ∧ ((hearF c r).2 = true → (hearF c r).1.on = false ∧ on = true) := by
  by_cases h1 : mineB c r
  · by_cases h2 : putOff c r
    · rw [hear_off h1 h2]
      have : ∃ at', at' < row.length ∧ St { leadTo c r with st := 2 } id span row at' seq on 2 since kind okind := by
        by_cases h3 : 0 ≤ idxF c.row.xs r.leads ∧ idxF c.row.xs r.leads ≠ (c.at_ : Int)
        · rw [lead_yes h3.1 h3.2]
          refine ⟨_, ?_, ⟨s.id, s.span, s.row, rfl, s.seq, s.on, rfl, s.since, s.kind, s.okind, s.who, s.small⟩⟩
          have := idx_lt h3.1
          rw [s.row] at this ⊢
          exact this
        · rw [lead_no h3]
          refine ⟨(at_ + 1) % row.length, Nat.mod_lt _ (by omega), ⟨s.id, s.span, s.row, ?_, s.seq, s.on, rfl, s.since, s.kind, s.okind, s.who, s.small⟩⟩
          show (c.at_ + 1) % c.row.xs.length = _
          rw [s.at_, s.row]
      obtain ⟨at', h3, h4⟩ := this
      have h5 := h4.on
      refine ⟨at', 2, h3, ?_, fun _ => h5, fun h => by cases h⟩
      show St _ id span row at' seq ({ leadTo c r with st := 2 } : Cl).on 2 since kind okind
      rw [h5]; exact h4
    · rw [hear_over h1 h2]
      exact ⟨at_, st, hat, st_over s, (fun h => by cases h), fun _ => ⟨rfl, s.on.symm.trans h1.1⟩⟩
  · rw [hear_no h1]
    refine ⟨at_, st, hat, ?_, fun _ => s.on, fun h => by cases h⟩
    show St c id span row at_ seq c.on st since kind okind
    rw [s.on]; exact s
end
theorem hearN_one (c : Cl) (r : RepV) : hearN c [r] = ((hearF c r).1, 0 + if (hearF c r).2 = true then 1 else 0) := rfl
theorem hear_two {c : Cl} {r : RepV} : (hearF c r).2 = true ↔ mineB c r ∧ ¬ putOff c r := by
  by_cases h1 : mineB c r
  · by_cases h2 : putOff c r
    · rw [hear_off h1 h2]; simp [h2]
    · rw [hear_over h1 h2]; simp [h1, h2]
  · rw [hear_no h1]; simp [h1]

/-! ### The schedule -/
theorem step_mod (j n : Nat) (hn : 0 < n) : (j % n + 1 < n → (j + 1) % n = j % n + 1 ∧ (j + 1) / n = j / n) ∧ (¬ j % n + 1 < n → (j + 1) % n = 0 ∧ (j + 1) / n = j / n + 1) := by
  have e : j = n * (j / n) + j % n := (Nat.div_add_mod j n).symm
  have hr : j % n < n := Nat.mod_lt _ hn
  constructor
  · intro h
    have e2 : j + 1 = n * (j / n) + (j % n + 1) := by omega
    rw [e2, Nat.mul_add_mod, Nat.mul_add_div hn, Nat.mod_eq_of_lt h, Nat.div_eq_of_lt h]
    exact ⟨rfl, by rw [Nat.add_zero]⟩
  · intro h
    have e2 : j + 1 = n * (j / n + 1) := by rw [Nat.mul_add, Nat.mul_one]; omega
    rw [e2, Nat.mul_mod_right, Nat.mul_div_cancel_left _ hn]
    exact ⟨rfl, rfl⟩
theorem lt_cast {m n : Nat} (h : m + 1 < n) : (m : Int) + 1 < (n : Int) := by omega
theorem lt_back {m n : Nat} (h : (m : Int) + 1 < (n : Int)) : m + 1 < n := by omega
def TrI (n : Nat) (row : List Int) (i sent : Nat) (c : Cl) : Prop := ∃ at_ st since, St c 3 n row at_ 1 true st since 1 2 ∧
  ((i = 0 ∧ sent = 0 ∧ at_ = 0 ∧ st = 0 ∧ since = 0) ∨ (0 < i ∧ st = 1 ∧ since = (((i - 1) % n : Nat) : Int) ∧ sent = (i - 1) / n + 1 ∧ at_ = (sent - 1) % row.length))
theorem tri_ok {n : Nat} {row : List Int} {i sent : Nat} {c : Cl} (h : TrI n row i sent c) (hr : 0 < row.length) (hl : row.length ≤ 30) (hn : 0 < n) (hn2 : n ≤ 15) : CliOk c ∧ (0 ≤ c.since ∧ c.since ≤ 1000000000) := by
  obtain ⟨at_, st, since, s, h⟩ := h
  have hs := s.since
  rcases h with ⟨_, _, ha, _, hs2⟩ | ⟨_, _, hs2, _, ha⟩
  · exact ⟨s.ok (by omega) (by omega), by omega⟩
  · have := Nat.mod_lt (i - 1) hn
    exact ⟨s.ok (by rw [ha]; exact Nat.mod_lt _ hr) (by omega), by omega⟩
theorem tri_idle {n : Nat} {row : List Int} {i sent : Nat} {c : Cl} (h : TrI n row i sent c) (hn : 0 < n) (hs : ¬ sendsF c) : ¬ i % n = 0 ∧ TrI n row (i + 1) sent (tick1 c) := by
  obtain ⟨at_, st, since, s, h⟩ := h
  rcases h with ⟨_, _, _, h4, _⟩ | ⟨h1, h2, h3, h4, h5⟩
  · exact absurd (s.sends rfl (by omega)) hs
  · have h6 : since + 1 < n := by
      by_cases q : since + 1 < n
      · exact q
      · exact absurd (s.sends rfl (fun z => q z.2)) hs
    have h7 := (step_mod (i - 1) n hn).1 (by rw [h3] at h6; exact lt_back h6)
    rw [show i - 1 + 1 = i from by omega] at h7
    refine ⟨by omega, at_, st, since + 1, st_tick1 s, .inr ⟨by omega, h2, ?_, ?_, h5⟩⟩
    · rw [show i + 1 - 1 = i from by omega, h7.1, h3]; omega
    · rw [show i + 1 - 1 = i from by omega, h7.2]; exact h4
theorem tri_send {n : Nat} {row : List Int} {i sent : Nat} {c : Cl} (h : TrI n row i sent c) (hn : 0 < n) (hr : 0 < row.length) (hs : sendsF c) :
    i % n = 0 ∧ c.row.xs.getD (tick2 c).at_ default = row.getD (sent % row.length) default ∧ TrI n row (i + 1) (sent + 1) (tick2 c) ∧ c.ask.client = 3 ∧ c.ask.seq = 1 ∧ c.ask.okind = 2 := by
  obtain ⟨at_, st, since, s, h⟩ := h
  have hw := s.who rfl
  rcases h with ⟨h1, h2, h3, h4, h5⟩ | ⟨h1, h2, h3, h4, h5⟩
  · have t := st_tick2n s (by omega)
    subst h1 h2 h3
    refine ⟨Nat.zero_mod _, by rw [t.at_, s.row, Nat.zero_mod], ⟨_, _, _, t, .inr ⟨by omega, rfl, by simp, by simp, by simp⟩⟩, hw.1, hw.2, s.okind⟩
  · have t := st_tick2y s h2
    have h6 : ¬ (i - 1) % n + 1 < n := fun q => (hs.2 ⟨s.st.trans h2, by rw [s.since, s.span, h3]; exact lt_cast q⟩)
    have h7 := (step_mod (i - 1) n hn).2 h6
    rw [show i - 1 + 1 = i from by omega] at h7
    have hs1 : 0 < sent := by rw [h4]; exact Nat.succ_pos _
    have h8 : (at_ + 1) % row.length = sent % row.length := by
      rw [h5]
      conv => rhs; rw [show sent = (sent - 1) + 1 from by omega]
      rw [Nat.mod_add_mod]
    refine ⟨h7.1, by rw [t.at_, s.row, h8], ⟨_, _, _, t, .inr ⟨by omega, rfl, ?_, ?_, ?_⟩⟩, hw.1, hw.2, s.okind⟩
    · rw [show i + 1 - 1 = i from by omega, h7.1]; rfl
    · rw [show i + 1 - 1 = i from by omega, h7.2]; omega
    · rw [h8, show sent + 1 - 1 = sent from by omega]
theorem tri_on {n : Nat} {row : List Int} {i sent : Nat} {c : Cl} (h : TrI n row i sent c) : c.seq = 1 ∧ c.on = true := by
  obtain ⟨at_, st, since, s, h⟩ := h
  exact ⟨s.seq, s.on⟩
theorem chk_no {m : Nat} (h : ¬ m = 0) : (!(false == decide ((m : Int) = 0))) = false := by
  have : ¬ (m : Int) = 0 := by omega
  rw [decide_eq_false this]; rfl
theorem chk_yes {m : Nat} (h : m = 0) : (!(true == decide ((m : Int) = 0))) = false := by subst h; rfl
structure TS where
  i : Nat
  sent : Nat
  c : Cl

/-! ### Whose reply it is -/
structure NS where
  k : Nat
  seq : Nat
  ended : Nat
  c : Cl
def NI (me : Int) (seq ended : Nat) (c : Cl) : Prop := ∃ at_ st kind okind, at_ < 3 ∧ St c me 5 [0, 1, 2] at_ seq c.on st 0 kind okind ∧ (c.on = true → kind = 1 ∧ ended + 1 = seq) ∧ (c.on = false → ended = seq)
theorem ni_ok {me : Int} {seq ended : Nat} {c : Cl} (h : NI me seq ended c) : CliOk c ∧ c.seq = (seq : Int) := by
  obtain ⟨at_, st, kind, okind, h1, s, _, _⟩ := h
  exact ⟨s.ok h1 (by simp), s.seq⟩
theorem ni_le {me : Int} {seq ended : Nat} {c : Cl} (h : NI me seq ended c) : ended ≤ seq ∧ seq ≤ ended + 1 := by
  obtain ⟨at_, st, kind, okind, h1, s, h2, h3⟩ := h
  cases hb : c.on with
  | true => have := (h2 hb).2; omega
  | false => have := h3 hb; omega
theorem ni_begun {me : Int} {seq ended : Nat} {c : Cl} {a : AskV} {w : SL WvV} (h : NI me seq ended c) (ho : c.on = false) (hw : w.xs.map WvD = a.waves.xs.map WvD) (sm : Small a.waves) (hk : a.kind = 1) : NI me (seq + 1) ended (begun c a w) := by
  obtain ⟨at_, st, kind, okind, h1, s, h2, h3⟩ := h
  exact ⟨at_, 0, a.kind, a.okind, h1, st_begun s hw sm, fun _ => ⟨hk, by rw [h3 ho]⟩, fun q => by cases q⟩
theorem ni_who {me : Int} {seq ended : Nat} {c : Cl} (h : NI me seq ended c) (ho : c.on = true) : c.ask.client = me ∧ c.ask.seq = (seq : Int) := by
  obtain ⟨at_, st, kind, okind, h1, s, h2, h3⟩ := h
  exact s.who ho
theorem ni_over {me : Int} {seq ended : Nat} {c : Cl} {r : RepV} (h : NI me seq ended c) (ho : c.on = true) : (hearF c r).2 = true ↔ ((r.client = me ∧ r.seq = (seq : Int)) ∧ r.err ≠ 90 ∧ r.err ≠ 92) := by
  obtain ⟨at_, st, kind, okind, h1, s, h2, h3⟩ := h
  rw [hear_two, s.off, (h2 ho).1]
  unfold mineB
  rw [s.id, s.seq]
  constructor
  · rintro ⟨⟨_, q1, q2⟩, q3⟩
    exact ⟨⟨q1, q2⟩, fun z => q3 (.inl z), fun z => q3 (.inr (.inl z))⟩
  · rintro ⟨⟨q1, q2⟩, q3, q4⟩
    refine ⟨⟨ho, q1, q2⟩, ?_⟩
    rintro (z | z | ⟨_, z⟩)
    · exact q3 z
    · exact q4 z
    · exact z rfl
theorem ni_hear {me : Int} {seq ended : Nat} {c : Cl} {r : RepV} (h : NI me seq ended c) : NI me seq (ended + if (hearF c r).2 = true then 1 else 0) (hearF c r).1 ∧ ((hearF c r).2 = true → (hearF c r).1.on = false) := by
  obtain ⟨at_, st, kind, okind, h1, s, h2, h3⟩ := h
  obtain ⟨at', st', k1, k2, k3, k4⟩ := st_hear s h1 r
  refine ⟨⟨at', st', kind, okind, k1, k2, fun q => ?_, fun q => ?_⟩, fun q => (k4 q).1⟩
  · by_cases hb : (hearF c r).2 = true
    · rw [(k4 hb).1] at q; cases q
    · rw [if_neg hb]
      rw [k3 (by simpa using hb)] at q
      exact h2 q
  · by_cases hb : (hearF c r).2 = true
    · rw [if_pos hb]
      exact (h2 (k4 hb).2).2
    · rw [if_neg hb]
      rw [k3 (by simpa using hb)] at q
      exact h3 q
theorem hear_dead {c : Cl} {r : RepV} (h : c.on = false) : hearF c r = (c, false) := hear_no (fun q => by rw [q.1] at h; cases h)
end Go.Cli
