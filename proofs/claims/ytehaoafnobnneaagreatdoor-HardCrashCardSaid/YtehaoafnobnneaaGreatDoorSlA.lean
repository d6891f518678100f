/-
  The engine, part A: partial heaps, assertions over them, and the judgement 'Tr': from every state that fits an environment of slots and a list of assertions, the continuation holds. No program in sight.
-/
import Derived.WalkKit
import Derived.OrdersHeld
namespace Go.SL
open Go

abbrev Hp := Nat → Option Obj
def hp (w : World) : Hp := fun b => w.heap[b]?

structure Hp.le (h k : Hp) : Prop where
  at_ : ∀ b o, h b = some o → k b = some o
structure Hp.disj (h k : Hp) : Prop where
  at_ : ∀ b, h b = none ∨ k b = none
def Hp.join (h k : Hp) : Hp := fun b => match h b with | some o => some o | none => k b
def Hp.one (b : Nat) (o : Obj) : Hp := fun x => if x = b then some o else none
def Hp.none_ : Hp := fun _ => none

theorem Hp.le_refl (h : Hp) : h.le h := ⟨fun _ _ e => e⟩
theorem Hp.le.le_trans {a b c : Hp} (h : a.le b) (k : b.le c) : a.le c := ⟨fun x o e => k.at_ x o (h.at_ x o e)⟩
theorem Hp.none_le (h : Hp) : Hp.none_.le h := ⟨fun _ _ e => by cases e⟩
theorem Hp.none_disj (h : Hp) : Hp.none_.disj h := ⟨fun _ => .inl rfl⟩
theorem Hp.disj.disj_symm {h k : Hp} (d : h.disj k) : k.disj h := ⟨fun b => (d.at_ b).symm⟩
theorem Hp.disj.disj_le {h k h' : Hp} (d : h.disj k) (l : h'.le h) : h'.disj k := ⟨fun b => by
  rcases d.at_ b with e | e
  · left; cases e' : h' b with
    | none => rfl
    | some o => rw [l.at_ b o e'] at e; cases e
  · exact .inr e⟩
theorem Hp.disj.disj_le2 {h k k' : Hp} (d : h.disj k) (l : k'.le k) : h.disj k' := ((d.disj_symm).disj_le l).disj_symm
theorem Hp.le_joinL (h k : Hp) : h.le (h.join k) := ⟨fun b o e => by simp [Hp.join, e]⟩
theorem Hp.le_joinR {h k : Hp} (d : h.disj k) : k.le (h.join k) := ⟨fun b o e => by
  rcases d.at_ b with e' | e'
  · simp [Hp.join, e', e]
  · rw [e] at e'; cases e'⟩
theorem Hp.join_le {h k m : Hp} (a : h.le m) (b : k.le m) : (h.join k).le m := ⟨fun x o e => by
  unfold Hp.join at e
  cases e' : h x with
  | some o' => rw [e'] at e; cases e; exact a.at_ x o e'
  | none => rw [e'] at e; exact b.at_ x o e⟩
theorem Hp.disj_join {h k m : Hp} (a : m.disj h) (b : m.disj k) : m.disj (h.join k) := ⟨fun x => by
  rcases a.at_ x with e | e
  · exact .inl e
  · rcases b.at_ x with e' | e'
    · exact .inl e'
    · right; simp [Hp.join, e, e']⟩
theorem Hp.one_le {b : Nat} {o : Obj} {k : Hp} (h : k b = some o) : (Hp.one b o).le k := ⟨fun x o' e => by
  unfold Hp.one at e
  split at e
  · rename_i hx; subst hx; cases e; exact h
  · cases e⟩
theorem Hp.one_at (b : Nat) (o : Obj) : Hp.one b o b = some o := by simp [Hp.one]
theorem Hp.one_disj {b : Nat} {o : Obj} {k : Hp} (h : k b = none) : (Hp.one b o).disj k := ⟨fun x => by
  by_cases e : x = b
  · subst e; exact .inr h
  · left; simp [Hp.one, e]⟩
theorem Hp.disj.out {h k : Hp} (d : h.disj k) {b : Nat} {o : Obj} (e : h b = some o) : k b = none := by
  rcases d.at_ b with e' | e'
  · rw [e] at e'; cases e'
  · exact e'

/-- A cell of a partial heap. -/
def Hp.cell? (h : Hp) (a : Addr) : Option Value :=
  match h a.block with
  | some (.cells c _ _) => if a.spot.isSome then none else c[a.off]?
  | _ => none
theorem cell_of_le {h : Hp} {w : World} (l : h.le (hp w)) {a : Addr} {v : Value} (e : h.cell? a = some v) : w.cell? a = some v := by
  unfold Hp.cell? at e
  cases hb : h a.block with
  | none => rw [hb] at e; cases e
  | some o =>
    rw [hb] at e
    have := l.at_ _ _ hb
    unfold World.cell?
    unfold hp at this
    rw [this]
    exact e
theorem Hp.cell_le {h k : Hp} (l : h.le k) {a : Addr} {v : Value} (e : h.cell? a = some v) : k.cell? a = some v := by
  unfold Hp.cell? at *
  cases hb : h a.block with
  | none => rw [hb] at e; cases e
  | some o => rw [hb] at e; rw [l.at_ _ _ hb]; exact e

/-- a block's frozen range lies outside its cells -/
def Soft (size : Nat) (fz : Nat × Nat) : Prop := fz = (0, 0) ∨ size ≤ fz.1
/-- A row of n elements of sz cells each, of element type T, that begins its block (or is nil): '.slice a n cap' is the slice, cs the elements' cells. -/
def rowIn (h : Hp) (T : TypeId) (sz : Nat) (a : Option Addr) (n cap : Nat) (cs : List Value) : Prop :=
  cs.length = n * sz ∧ ((a = none ∧ n = 0 ∧ cap = 0) ∨
    ∃ g cur fz, a = some ⟨g, 0, none⟩ ∧ h g = some (.cells cur T fz) ∧ Soft cur.size fz ∧ n ≤ cap ∧ cap ≤ maxLen ∧ cur.size = cap * sz ∧ cur.toList.take (n * sz) = cs)

/-- What is said of a part of memory. -/
inductive Asn where
  | pts (b : Nat) (cs : List Value) (T : TypeId)
  | row (T : TypeId) (sz : Nat) (a : Option Addr) (n cap : Nat) (cs : List Value)
  | mp (b : Nat) (es : List MapEntry) (clock : Nat)
  | obj (b : Nat) (o : Obj)
  | raw (A : Hp → Prop)

def Asn.sat : Asn → Hp → Prop
  | .pts b cs T, h => h b = some (.cells cs.toArray T (0, 0))
  | .row T sz a n cap cs, h => rowIn h T sz a n cap cs
  | .mp b es clock, h => h b = some (.map es.toArray clock)
  | .obj b o, h => h b = some o
  | .raw A, h => A h

def star : List Asn → Hp → Prop
  | [], _ => True
  | A :: Γ, h => ∃ h1 h2, Hp.disj h1 h2 ∧ Hp.le h1 h ∧ Hp.le h2 h ∧ A.sat h1 ∧ star Γ h2

theorem star_up : ∀ {Γ : List Asn} {h k : Hp}, h.le k → star Γ h → star Γ k
  | [], _, _, _, _ => trivial
  | _ :: _, _, _, l, ⟨h1, h2, d, l1, l2, a, s⟩ => ⟨h1, h2, d, l1.le_trans l, l2.le_trans l, a, s⟩

theorem star_append : ∀ {B Γ : List Asn} {k1 k2 k : Hp}, star B k1 → star Γ k2 → k1.disj k2 → k1.le k → k2.le k → star (B ++ Γ) k
  | [], _, _, _, _, _, s, _, _, l => star_up l s
  | b :: B, Γ, k1, k2, k, ⟨a, c, d, la, lc, hb, sB⟩, s, dk, l1, l2 => by
    have dc : c.disj k2 := dk.disj_le lc
    have da : a.disj k2 := dk.disj_le la
    refine ⟨a, c.join k2, Hp.disj_join d da, la.le_trans l1, Hp.join_le (lc.le_trans l1) l2, hb, ?_⟩
    exact star_append sB s dc (Hp.le_joinL _ _) (Hp.le_joinR dc)

theorem star_split : ∀ {B Γ : List Asn} {k : Hp}, star (B ++ Γ) k → ∃ k1 k2, k1.disj k2 ∧ k1.le k ∧ k2.le k ∧ star B k1 ∧ star Γ k2
  | [], Γ, k, s => ⟨Hp.none_, k, Hp.none_disj k, Hp.none_le k, Hp.le_refl k, trivial, s⟩
  | b :: B, Γ, k, ⟨a, c, d, la, lc, hb, s⟩ => by
    obtain ⟨k1, k2, d', l1, l2, sB, sG⟩ := star_split s
    have d1 : a.disj k1 := d.disj_le2 l1
    have d2 : a.disj k2 := d.disj_le2 l2
    refine ⟨a.join k1, k2, (Hp.disj_join d2.disj_symm d'.disj_symm).disj_symm, Hp.join_le la (l1.le_trans lc), l2.le_trans lc, ?_, sG⟩
    exact ⟨a, k1, d1, Hp.le_joinL _ _, Hp.le_joinR d1, hb, sB⟩

/-- In Γ the assertion A, replaced by those of B, gives Γ'. -/
inductive Pick (A : Asn) (B : List Asn) : List Asn → List Asn → Prop
  | here {Γ : List Asn} : Pick A B (A :: Γ) (B ++ Γ)
  | there {C : Asn} {Γ Γ' : List Asn} : Pick A B Γ Γ' → Pick A B (C :: Γ) (C :: Γ')

theorem star_pick {A : Asn} {B : List Asn} {Γ Γ' : List Asn} (p : Pick A B Γ Γ') : ∀ {h : Hp}, star Γ h →
    ∃ h1 h2, Hp.disj h1 h2 ∧ h1.le h ∧ h2.le h ∧ A.sat h1 ∧ ∀ k1 k, Hp.disj k1 h2 → k1.le k → h2.le k → star B k1 → star Γ' k := by
  induction p with
  | here =>
    rintro h ⟨h1, h2, d, l1, l2, a, s⟩
    exact ⟨h1, h2, d, l1, l2, a, fun k1 k dk lk1 lk2 sB => star_append sB s dk lk1 lk2⟩
  | there _ ih =>
    rintro h ⟨c1, c2, d, l1, l2, c, s⟩
    obtain ⟨h1, h2, d', m1, m2, a, K⟩ := ih s
    have d1 : h1.disj c1 := (d.disj_symm).disj_le m1
    have d2 : c1.disj h2 := d.disj_le2 m2
    refine ⟨h1, c1.join h2, Hp.disj_join d1 d', m1.le_trans l2, Hp.join_le l1 (m2.le_trans l2), a, fun k1 k dk lk1 lk2 sB => ?_⟩
    have lc1 : c1.le k := (Hp.le_joinL _ _).le_trans lk2
    have lh2 : h2.le k := (Hp.le_joinR d2).le_trans lk2
    have dk1 : k1.disj c1 := dk.disj_le2 (Hp.le_joinL _ _)
    have dk2 : k1.disj h2 := dk.disj_le2 (Hp.le_joinR d2)
    refine ⟨c1, k1.join h2, Hp.disj_join dk1.disj_symm d2, lc1, Hp.join_le lk1 lh2, c, ?_⟩
    exact K k1 _ dk2 (Hp.le_joinL _ _) (Hp.le_joinR dk2) sB

/-- Γ says at least what Γ' says. -/
def Ent (Γ Γ' : List Asn) : Prop := ∀ h, star Γ h → star Γ' h
theorem Ent.refl (Γ : List Asn) : Ent Γ Γ := fun _ s => s
theorem Ent.trans {A B C : List Asn} (h : Ent A B) (k : Ent B C) : Ent A C := fun x s => k x (h x s)
theorem Ent.skip {A : Asn} {Γ Γ' : List Asn} (h : Ent Γ Γ') : Ent (A :: Γ) Γ' := fun _ ⟨_, _, _, _, l2, _, s⟩ => h _ (star_up l2 s)
theorem Ent.nil (Γ : List Asn) : Ent Γ [] := fun _ _ => trivial
theorem Ent.pick {A : Asn} {Γ Γ1 Γ' : List Asn} (p : Pick A [] Γ Γ1) (h : Ent Γ1 Γ') : Ent Γ (A :: Γ') := fun x s => by
  obtain ⟨h1, h2, d, l1, l2, a, K⟩ := star_pick p s
  exact ⟨h1, h2, d, l1, l2, a, h _ (K Hp.none_ h2 (Hp.none_disj _) (Hp.none_le _) (Hp.le_refl _) trivial)⟩
/-- one assertion put in the place of another, where the first says as much -/
theorem Ent.conv {A A' : Asn} {Γ Γ1 Γ' : List Asn} (p : Pick A [] Γ Γ1) (c : ∀ h, A.sat h → A'.sat h) (h : Ent Γ1 Γ') : Ent Γ (A' :: Γ') := fun x s => by
  obtain ⟨h1, h2, d, l1, l2, a, K⟩ := star_pick p s
  exact ⟨h1, h2, d, l1, l2, c _ a, h _ (K Hp.none_ h2 (Hp.none_disj _) (Hp.none_le _) (Hp.le_refl _) trivial)⟩
theorem Ent.cast {Γ Γ' : List Asn} (e : Γ = Γ') : Ent Γ Γ' := e ▸ Ent.refl Γ

/-- World w: the outside as at E; the shared part ρ of memory lies in it, and, apart from that, what Γ says. -/
def sat (E : World) (ρ : Hp) (Γ : List Asn) (w : World) : Prop :=
  (w.os = E.os ∧ w.tape = E.tape ∧ w.output = E.output) ∧ ρ.le (hp w) ∧ ∃ h, Hp.le h (hp w) ∧ h.disj ρ ∧ star Γ h

theorem sat.ent {E : World} {ρ : Hp} {Γ Γ' : List Asn} {w : World} (e : Ent Γ Γ') (s : sat E ρ Γ w) : sat E ρ Γ' w :=
  let ⟨x, l, h, lh, d, st⟩ := s
  ⟨x, l, h, lh, d, e _ st⟩

theorem sat.pick {A : Asn} {B : List Asn} {Γ Γ' : List Asn} (p : Pick A B Γ Γ') {E : World} {ρ : Hp} {w : World} (s : sat E ρ Γ w) :
    ∃ h1 hr, Hp.disj h1 hr ∧ h1.le (hp w) ∧ hr.le (hp w) ∧ A.sat h1 ∧
      ∀ w' k1, (w'.os = w.os ∧ w'.tape = w.tape ∧ w'.output = w.output) → star B k1 → Hp.disj k1 hr → k1.le (hp w') → hr.le (hp w') → sat E ρ Γ' w' := by
  obtain ⟨⟨x1, x2, x3⟩, l, h, lh, d, st⟩ := s
  obtain ⟨h1, h2, d', m1, m2, a, K⟩ := star_pick p st
  have dr : h2.disj ρ := d.disj_le m2
  refine ⟨h1, h2.join ρ, Hp.disj_join d' (d.disj_le m1), m1.le_trans lh, Hp.join_le (m2.le_trans lh) l, a, ?_⟩
  intro w' k1 ⟨e1, e2, e3⟩ sB dk lk1 lr
  have lh2 : h2.le (hp w') := (Hp.le_joinL _ _).le_trans lr
  have lρ : ρ.le (hp w') := (Hp.le_joinR dr).le_trans lr
  have dk2 : k1.disj h2 := dk.disj_le2 (Hp.le_joinL _ _)
  have dkρ : k1.disj ρ := dk.disj_le2 (Hp.le_joinR dr)
  exact ⟨⟨e1.trans x1, e2.trans x2, e3.trans x3⟩, lρ, k1.join h2, Hp.join_le lk1 lh2, (Hp.disj_join dkρ.disj_symm dr.disj_symm).disj_symm, K k1 _ dk2 (Hp.le_joinL _ _) (Hp.le_joinR dk2) sB⟩

theorem sat.drawn {E : World} {ρ : Hp} {Γ : List Asn} {w : World} (s : sat E ρ Γ w) (n : Nat) : sat E ρ Γ { w with drawn := n } := s

/-- a new block -/
theorem sat.alloc {E : World} {ρ : Hp} {Γ : List Asn} {w : World} (s : sat E ρ Γ w) (A : Asn) (o : Obj) (hA : A.sat (Hp.one w.heap.size o)) : sat E ρ (A :: Γ) (w.alloc o) := by
  obtain ⟨⟨x1, x2, x3⟩, l, h, lh, d, st⟩ := s
  have up : Hp.le (hp w) (hp (w.alloc o)) := ⟨fun b o' e => by
    have hlt : b < w.heap.size := (Array.getElem?_eq_some_iff.1 e).1
    show (w.heap.push o)[b]? = some o'
    rw [Array.getElem?_push, if_neg (by omega)]
    exact e⟩
  have new : hp (w.alloc o) w.heap.size = some o := by
    show (w.heap.push o)[w.heap.size]? = some o
    simp
  have out : ∀ {k : Hp}, k.le (hp w) → k w.heap.size = none := fun {k} lk => by
    cases e : k w.heap.size with
    | none => rfl
    | some o' =>
      have h1 : w.heap[w.heap.size]? = some o' := lk.at_ _ _ e
      simp at h1
  have d1 : (Hp.one w.heap.size o).disj h := Hp.one_disj (out lh)
  refine ⟨⟨x1, x2, x3⟩, l.le_trans up, (Hp.one w.heap.size o).join h, Hp.join_le (Hp.one_le new) (lh.le_trans up), (Hp.disj_join (Hp.one_disj (out l)).disj_symm d.disj_symm).disj_symm, ?_⟩
  exact ⟨_, h, d1, Hp.le_joinL _ _, Hp.le_joinR d1, hA, st⟩

/-- what is owned becomes shared -/
theorem sat.share {A : Asn} {Γ Γ' : List Asn} (p : Pick A [] Γ Γ') {E : World} {ρ : Hp} {w : World} (s : sat E ρ Γ w) : ∃ ρ', ρ.le ρ' ∧ (∃ h, Hp.le h ρ' ∧ A.sat h) ∧ sat E ρ' Γ' w := by
  obtain ⟨x, l, h, lh, d, st⟩ := s
  obtain ⟨h1, h2, d', m1, m2, a, K⟩ := star_pick p st
  have d1 : h1.disj ρ := d.disj_le m1
  refine ⟨h1.join ρ, Hp.le_joinR d1, ⟨h1, Hp.le_joinL _ _, a⟩, x, Hp.join_le (m1.le_trans lh) l, h2, m2.le_trans lh, ?_, K Hp.none_ h2 (Hp.none_disj _) (Hp.none_le _) (Hp.le_refl _) trivial⟩
  exact Hp.disj_join d'.disj_symm (d.disj_le m2)

/-! ### The slots -/
abbrev Slots := List (Nat × Value)
def get : Slots → Nat → Option Value
  | [], _ => none
  | (k, v) :: σ, t => bif Nat.beq k t then some v else get σ t

/-- an activation's frame: how many slots, and its deferred calls -/
structure Fz where
  n : Nat
  ds : List Deferred
structure Env (n : Fz) (σ : Slots) (a : Act) : Prop where
  defers : a.defers = n.ds
  size : a.tmps.size = n.n
  get : ∀ t v, get σ t = some v → a.tmps[t]? = some v

theorem Env.put {n : Fz} {σ : Slots} {a : Act} (h : Env n σ a) {d : Nat} (hd : Nat.ble n.n d = false) (v : Value) : Env n ((d, v) :: σ) (a.put (some d) v) := by
  have hd' : d < n.n := by
    rcases Nat.lt_or_ge d n.n with h | h
    · exact h
    · rw [Nat.ble_eq_true_of_le h] at hd; cases hd
  refine ⟨h.defers, by simp [Act.put, h.size], fun t u e => ?_⟩
  simp only [Go.SL.get] at e
  by_cases e' : d = t
  · subst e'
    have : Nat.beq d d = true := by simp
    rw [this] at e
    cases e
    simp [Act.put, h.size, hd']
  · have : Nat.beq d t = false := by cases hb : Nat.beq d t with | false => rfl | true => exact absurd (Nat.eq_of_beq_eq_true hb) e'
    rw [this] at e
    simp only [Act.put]
    rw [Array.getElem?_setIfInBounds_ne e']
    exact h.get t u e
theorem Env.skip {n : Fz} {σ : Slots} {a : Act} (h : Env n σ a) (v : Value) : Env n σ (a.put none v) := h

def EnvLe (σ' σ : Slots) : Prop := ∀ t v, get σ' t = some v → get σ t = some v
theorem EnvLe.refl (σ : Slots) : EnvLe σ σ := fun _ _ h => h
theorem EnvLe.nil (σ : Slots) : EnvLe [] σ := fun _ _ h => by cases h
theorem EnvLe.cons {σ' σ : Slots} {t : Nat} {u v : Value} (h : get σ t = some u) (e : u = v) (r : EnvLe σ' σ) : EnvLe ((t, v) :: σ') σ := fun s x hx => by
  simp only [get] at hx
  by_cases e' : t = s
  · subst e'
    have : Nat.beq t t = true := by simp
    rw [this] at hx
    cases hx
    rw [← e]; exact h
  · have : Nat.beq t s = false := by cases hb : Nat.beq t s with | false => rfl | true => exact absurd (Nat.eq_of_beq_eq_true hb) e'
    rw [this] at hx
    exact r s x hx
theorem Env.le {n : Fz} {σ σ' : Slots} {a : Act} (h : Env n σ a) (l : EnvLe σ' σ) : Env n σ' a := ⟨h.defers, h.size, fun t v e => h.get t v (l t v e)⟩

/-- what an operand is -/
def evo (σ : Slots) : Operand → Option Value
  | .tmp t => get σ t
  | .const v => some v
  | .global g => some (.pointer (some ⟨g, 0, none⟩))
  | .func f => some (.func (.func f) #[] #[])
theorem Env.eval {n : Fz} {σ : Slots} {a : Act} (h : Env n σ a) {x : Operand} {v : Value} (e : evo σ x = some v) : a.eval x = v := by
  cases x with
  | tmp t =>
    have := h.get t v e
    simp [Act.eval, this]
  | const u => simpa [evo, Act.eval] using e
  | global g => simpa [evo, Act.eval] using e
  | func f => simpa [evo, Act.eval] using e

/-! ### The judgement -/
def Tr (E : World) (ρ : Hp) (n : Fz) (σ : Slots) (Γ : List Asn) (K : Act → World → Prop) : Prop := ∀ a w, Env n σ a → sat E ρ Γ w → K a w

section
variable {E : World} {ρ : Hp} {n : Fz} {σ σ' : Slots} {Γ Γ' : List Asn} {K K' : Act → World → Prop}
theorem Tr.mono (h : Tr E ρ n σ Γ K) (k : ∀ a w, K a w → K' a w) : Tr E ρ n σ Γ K' := fun a w e s => k _ _ (h a w e s)
theorem Tr.env (l : EnvLe σ' σ) (h : Tr E ρ n σ' Γ K) : Tr E ρ n σ Γ K := fun a w e s => h a w (e.le l) s
theorem Tr.ent (l : Ent Γ Γ') (h : Tr E ρ n σ Γ' K) : Tr E ρ n σ Γ K := fun a w e s => h a w e (s.ent l)
theorem Tr.drop {A : Asn} (h : Tr E ρ n σ Γ K) : Tr E ρ n σ (A :: Γ) K := Tr.ent (Ent.skip (Ent.refl _)) h
/-- what is said by an assertion, taken out -/
theorem Tr.know {A : Asn} {Γ' : List Asn} (p : Pick A [A] Γ Γ') (φ : Prop) (hφ : ∀ h, A.sat h → φ) (h : φ → Tr E ρ n σ Γ K) : Tr E ρ n σ Γ K := fun a w e s => by
  obtain ⟨h1, _, _, _, _, hA, _⟩ := s.pick p
  exact h (hφ _ hA) a w e s
/-- an assertion comes to the front -/
theorem Tr.front {A : Asn} {Γ1 : List Asn} (p : Pick A [] Γ Γ1) (h : Tr E ρ n σ (A :: Γ1) K) : Tr E ρ n σ Γ K := Tr.ent (Ent.pick p (Ent.refl _)) h
/-- an assertion at the front that says 'there is' is opened -/
theorem Tr.unpack {A : Asn} {ι : Type} {B : ι → List Asn} (hA : ∀ h, A.sat h → ∃ i, star (B i) h) (h : ∀ i, Tr E ρ n σ (B i ++ Γ) K) : Tr E ρ n σ (A :: Γ) K := fun a w e s => by
  obtain ⟨x, l, h0, lh, d, h1, h2, d', m1, m2, hA1, st⟩ := s
  obtain ⟨i, hi⟩ := hA _ hA1
  exact h i a w e ⟨x, l, h0, lh, d, star_append hi st d' m1 m2⟩
/-- several assertions at the front become one -/
theorem Ent.pack {A : Asn} {B : List Asn} (hA : ∀ h, star B h → A.sat h) : Ent (B ++ Γ) (A :: Γ) := fun h s => by
  obtain ⟨k1, k2, d, l1, l2, sB, sG⟩ := star_split s
  exact ⟨k1, k2, d, l1, l2, hA _ sB, sG⟩
/-- what is owned is shared from now on -/
theorem Tr.share {A : Asn} {Γ1 : List Asn} (p : Pick A [] Γ Γ1) (h : ∀ ρ' : Hp, ρ.le ρ' → (∃ h, Hp.le h ρ' ∧ A.sat h) → Tr E ρ' n σ Γ1 K) : Tr E ρ n σ Γ K := fun a w e s => by
  obtain ⟨ρ', l, x, s'⟩ := s.share p
  exact h ρ' l x a w e s'
end
end Go.SL
