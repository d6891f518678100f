/- part -/
import Derived.WalkKit
import Derived.OrdersHeld
import Derived.ChangeKeysEq
import Derived.Laws.BytesString
import Derived.Laws.StructEq
import Derived.ProofKit
import Derived.OpenShut
import Derived.ShutString
import Derived.ChangeOld
import Derived.Below
import Derived.Deep.Slices
namespace Go
theorem dt_ {p : Prop} [Decidable p] : (decide p = true) = p := decide_eq_true_eq
theorem df_ {p : Prop} [Decidable p] : decide p = false ↔ ¬p := decide_eq_false_iff_not
theorem lc_ {α : Type _} {a : α} {b c : List α} : (a :: b) ++ c = a :: (b ++ c) := rfl
theorem ln_ {α : Type _} (a : List α) : [] ++ a = a := rfl
theorem lk_ {α : Type _} {a : α} {b : List α} : (a :: b).length = b.length + 1 := rfl
theorem le_ {α : Type _} : ([] : List α).length = 0 := rfl
end Go
namespace Go.SL
open Go
abbrev Hp := Nat → Option Obj
def hp (w : World) : Hp := fun b => w.heap[b]?
structure Hp.le (h k : Hp) : Prop where
  at_ : ∀ b o, h b = some o → k b = some o
structure Hp.disj (h k : Hp) : Prop where
  at_ : ∀ b, h b = none ∨ k b = none
def Hp.join (h k : Hp) : Hp := fun b => match h b with | some o => some o | none => k b
def Hp.one (b : Nat) (o : Obj) : Hp := fun x => if x = b then some o else none
def Hp.none_ : Hp := fun _ => none
theorem Hp.le_refl (h : Hp) : h.le h := ⟨fun _ _ e => e⟩
theorem Hp.le.le_trans {a b c : Hp} (h : a.le b) (k : b.le c) : a.le c := ⟨fun x o e => k.at_ x o (h.at_ x o e)⟩
theorem Hp.none_le (h : Hp) : Hp.none_.le h := ⟨fun _ _ e => by cases e⟩
theorem Hp.none_disj (h : Hp) : Hp.none_.disj h := ⟨fun _ => .inl rfl⟩
theorem Hp.disj.disj_symm {h k : Hp} (d : h.disj k) : k.disj h := ⟨fun b => (d.at_ b).symm⟩
theorem Hp.disj.disj_le {h k h' : Hp} (d : h.disj k) (l : h'.le h) : h'.disj k := ⟨fun b => by
  rcases d.at_ b with e | e
  · left; cases e' : h' b with
    | none => rfl
    | some o => rw [l.at_ b o e'] at e; cases e
  · exact .inr e⟩
theorem Hp.disj.disj_le2 {h k k' : Hp} (d : h.disj k) (l : k'.le k) : h.disj k' := ((d.disj_symm).disj_le l).disj_symm
theorem Hp.le_joinL (h k : Hp) : h.le (h.join k) := ⟨fun b o e => by simp [Hp.join, e]⟩
theorem Hp.le_joinR {h k : Hp} (d : h.disj k) : k.le (h.join k) := ⟨fun b o e => by
  rcases d.at_ b with e' | e'
  · simp [Hp.join, e', e]
  · rw [e] at e'; cases e'⟩
theorem Hp.join_le {h k m : Hp} (a : h.le m) (b : k.le m) : (h.join k).le m := ⟨fun x o e => by
  unfold Hp.join at e
  cases e' : h x with
  | some o' => rw [e'] at e; cases e; exact a.at_ x o e'
  | none => rw [e'] at e; exact b.at_ x o e⟩
theorem Hp.disj_join {h k m : Hp} (a : m.disj h) (b : m.disj k) : m.disj (h.join k) := ⟨fun x => by
  rcases a.at_ x with e | e
  · exact .inl e
  · rcases b.at_ x with e' | e'
    · exact .inl e'
    · right; simp [Hp.join, e, e']⟩
theorem Hp.one_le {b : Nat} {o : Obj} {k : Hp} (h : k b = some o) : (Hp.one b o).le k := ⟨fun x o' e => by
  unfold Hp.one at e
  split at e
  · rename_i hx; subst hx; cases e; exact h
  · cases e⟩
theorem Hp.one_at (b : Nat) (o : Obj) : Hp.one b o b = some o := by simp [Hp.one]
theorem Hp.one_disj {b : Nat} {o : Obj} {k : Hp} (h : k b = none) : (Hp.one b o).disj k := ⟨fun x => by
  by_cases e : x = b
  · subst e; exact .inr h
  · left; simp [Hp.one, e]⟩
theorem Hp.disj.out {h k : Hp} (d : h.disj k) {b : Nat} {o : Obj} (e : h b = some o) : k b = none := by
  rcases d.at_ b with e' | e'
  · rw [e] at e'; cases e'
  · exact e'
def Hp.cell? (h : Hp) (a : Addr) : Option Value :=
  match h a.block with
  | some (.cells c _ _) => if a.spot.isSome then none else c[a.off]?
  | _ => none
theorem cell_of_le {h : Hp} {w : World} (l : h.le (hp w)) {a : Addr} {v : Value} (e : h.cell? a = some v) : w.cell? a = some v := by
  unfold Hp.cell? at e
  cases hb : h a.block with
  | none => rw [hb] at e; cases e
  | some o =>
    rw [hb] at e; have := l.at_ _ _ hb; unfold World.cell?; unfold hp at this; rw [this]; exact e
theorem Hp.cell_le {h k : Hp} (l : h.le k) {a : Addr} {v : Value} (e : h.cell? a = some v) : k.cell? a = some v := by
  unfold Hp.cell? at *
  cases hb : h a.block with
  | none => rw [hb] at e; cases e
  | some o => rw [hb] at e; rw [l.at_ _ _ hb]; exact e
def Soft (size : Nat) (fz : Nat × Nat) : Prop := fz = (0, 0) ∨ size ≤ fz.1
def rowIn (h : Hp) (T : TypeId) (sz : Nat) (a : Option Addr) (n cap : Nat) (cs : List Value) : Prop :=
  cs.length = n * sz ∧ ((a = none ∧ n = 0 ∧ cap = 0) ∨
    ∃ g cur fz, a = some ⟨g, 0, none⟩ ∧ h g = some (.cells cur T fz) ∧ Soft cur.size fz ∧ n ≤ cap ∧ cap ≤ maxLen ∧ cur.size = cap * sz ∧ cur.toList.take (n * sz) = cs)
inductive Asn where
  | pts (b : Nat) (cs : List Value) (T : TypeId)
  | row (T : TypeId) (sz : Nat) (a : Option Addr) (n cap : Nat) (cs : List Value)
  | mp (b : Nat) (es : List MapEntry) (clock : Nat)
  | obj (b : Nat) (o : Obj)
  | raw (A : Hp → Prop)
def Asn.sat : Asn → Hp → Prop
  | .pts b cs T, h => h b = some (.cells cs.toArray T (0, 0))
  | .row T sz a n cap cs, h => rowIn h T sz a n cap cs
  | .mp b es clock, h => h b = some (.map es.toArray clock)
  | .obj b o, h => h b = some o
  | .raw A, h => A h
def star : List Asn → Hp → Prop
  | [], _ => True
  | A :: Γ, h => ∃ h1 h2, Hp.disj h1 h2 ∧ Hp.le h1 h ∧ Hp.le h2 h ∧ A.sat h1 ∧ star Γ h2
theorem star_up : ∀ {Γ : List Asn} {h k : Hp}, h.le k → star Γ h → star Γ k
  | [], _, _, _, _ => trivial
  | _ :: _, _, _, l, ⟨h1, h2, d, l1, l2, a, s⟩ => ⟨h1, h2, d, l1.le_trans l, l2.le_trans l, a, s⟩
theorem star_append : ∀ {B Γ : List Asn} {k1 k2 k : Hp}, star B k1 → star Γ k2 → k1.disj k2 → k1.le k → k2.le k → star (B ++ Γ) k
  | [], _, _, _, _, _, s, _, _, l => star_up l s
  | b :: B, Γ, k1, k2, k, ⟨a, c, d, la, lc, hb, sB⟩, s, dk, l1, l2 => by
    have dc : c.disj k2 := dk.disj_le lc; have da : a.disj k2 := dk.disj_le la; refine ⟨a, c.join k2, Hp.disj_join d da, la.le_trans l1, Hp.join_le (lc.le_trans l1) l2, hb, ?_⟩; exact star_append sB s dc (Hp.le_joinL _ _) (Hp.le_joinR dc)
theorem star_split : ∀ {B Γ : List Asn} {k : Hp}, star (B ++ Γ) k → ∃ k1 k2, k1.disj k2 ∧ k1.le k ∧ k2.le k ∧ star B k1 ∧ star Γ k2
  | [], Γ, k, s => ⟨Hp.none_, k, Hp.none_disj k, Hp.none_le k, Hp.le_refl k, trivial, s⟩
  | b :: B, Γ, k, ⟨a, c, d, la, lc, hb, s⟩ => by
    obtain ⟨k1, k2, d', l1, l2, sB, sG⟩ := star_split s; have d1 : a.disj k1 := d.disj_le2 l1; have d2 : a.disj k2 := d.disj_le2 l2; refine ⟨a.join k1, k2, (Hp.disj_join d2.disj_symm d'.disj_symm).disj_symm, Hp.join_le la (l1.le_trans lc), l2.le_trans lc, ?_, sG⟩; exact ⟨a, k1, d1, Hp.le_joinL _ _, Hp.le_joinR d1, hb, sB⟩
inductive Pick (A : Asn) (B : List Asn) : List Asn → List Asn → Prop
  | here {Γ : List Asn} : Pick A B (A :: Γ) (B ++ Γ)
  | there {C : Asn} {Γ Γ' : List Asn} : Pick A B Γ Γ' → Pick A B (C :: Γ) (C :: Γ')
theorem star_pick {A : Asn} {B : List Asn} {Γ Γ' : List Asn} (p : Pick A B Γ Γ') : ∀ {h : Hp}, star Γ h →
    ∃ h1 h2, Hp.disj h1 h2 ∧ h1.le h ∧ h2.le h ∧ A.sat h1 ∧ ∀ k1 k, Hp.disj k1 h2 → k1.le k → h2.le k → star B k1 → star Γ' k := by
  induction p with
  | here =>
    rintro h ⟨h1, h2, d, l1, l2, a, s⟩; exact ⟨h1, h2, d, l1, l2, a, fun k1 k dk lk1 lk2 sB => star_append sB s dk lk1 lk2⟩
  | there _ ih =>
    rintro h ⟨c1, c2, d, l1, l2, c, s⟩; obtain ⟨h1, h2, d', m1, m2, a, K⟩ := ih s; have d1 : h1.disj c1 := (d.disj_symm).disj_le m1; have d2 : c1.disj h2 := d.disj_le2 m2; refine ⟨h1, c1.join h2, Hp.disj_join d1 d', m1.le_trans l2, Hp.join_le l1 (m2.le_trans l2), a, fun k1 k dk lk1 lk2 sB => ?_⟩; have lc1 : c1.le k := (Hp.le_joinL _ _).le_trans lk2; have lh2 : h2.le k := (Hp.le_joinR d2).le_trans lk2; have dk1 : k1.disj c1 := dk.disj_le2 (Hp.le_joinL _ _); have dk2 : k1.disj h2 := dk.disj_le2 (Hp.le_joinR d2); refine ⟨c1, k1.join h2, Hp.disj_join dk1.disj_symm d2, lc1, Hp.join_le lk1 lh2, c, ?_⟩; exact K k1 _ dk2 (Hp.le_joinL _ _) (Hp.le_joinR dk2) sB
def Ent (Γ Γ' : List Asn) : Prop := ∀ h, star Γ h → star Γ' h
theorem Ent.refl (Γ : List Asn) : Ent Γ Γ := fun _ s => s
theorem Ent.trans {A B C : List Asn} (h : Ent A B) (k : Ent B C) : Ent A C := fun x s => k x (h x s)
theorem Ent.skip {A : Asn} {Γ Γ' : List Asn} (h : Ent Γ Γ') : Ent (A :: Γ) Γ' := fun _ ⟨_, _, _, _, l2, _, s⟩ => h _ (star_up l2 s)
theorem Ent.nil (Γ : List Asn) : Ent Γ [] := fun _ _ => trivial
theorem Ent.pick {A : Asn} {Γ Γ1 Γ' : List Asn} (p : Pick A [] Γ Γ1) (h : Ent Γ1 Γ') : Ent Γ (A :: Γ') := fun x s => by
  obtain ⟨h1, h2, d, l1, l2, a, K⟩ := star_pick p s; exact ⟨h1, h2, d, l1, l2, a, h _ (K Hp.none_ h2 (Hp.none_disj _) (Hp.none_le _) (Hp.le_refl _) trivial)⟩
theorem Ent.conv {A A' : Asn} {Γ Γ1 Γ' : List Asn} (p : Pick A [] Γ Γ1) (c : ∀ h, A.sat h → A'.sat h) (h : Ent Γ1 Γ') : Ent Γ (A' :: Γ') := fun x s => by
  obtain ⟨h1, h2, d, l1, l2, a, K⟩ := star_pick p s; exact ⟨h1, h2, d, l1, l2, c _ a, h _ (K Hp.none_ h2 (Hp.none_disj _) (Hp.none_le _) (Hp.le_refl _) trivial)⟩
theorem Ent.cast {Γ Γ' : List Asn} (e : Γ = Γ') : Ent Γ Γ' := e ▸ Ent.refl Γ
def sat (E : World) (ρ : Hp) (Γ : List Asn) (w : World) : Prop :=
  (w.os = E.os ∧ w.tape = E.tape ∧ w.output = E.output) ∧ ρ.le (hp w) ∧ ∃ h, Hp.le h (hp w) ∧ h.disj ρ ∧ star Γ h
theorem sat.ent {E : World} {ρ : Hp} {Γ Γ' : List Asn} {w : World} (e : Ent Γ Γ') (s : sat E ρ Γ w) : sat E ρ Γ' w :=
  let ⟨x, l, h, lh, d, st⟩ := s
  ⟨x, l, h, lh, d, e _ st⟩
theorem sat.pick {A : Asn} {B : List Asn} {Γ Γ' : List Asn} (p : Pick A B Γ Γ') {E : World} {ρ : Hp} {w : World} (s : sat E ρ Γ w) :
    ∃ h1 hr, Hp.disj h1 hr ∧ h1.le (hp w) ∧ hr.le (hp w) ∧ A.sat h1 ∧
      ∀ w' k1, (w'.os = w.os ∧ w'.tape = w.tape ∧ w'.output = w.output) → star B k1 → Hp.disj k1 hr → k1.le (hp w') → hr.le (hp w') → sat E ρ Γ' w' := by
  obtain ⟨⟨x1, x2, x3⟩, l, h, lh, d, st⟩ := s; obtain ⟨h1, h2, d', m1, m2, a, K⟩ := star_pick p st; have dr : h2.disj ρ := d.disj_le m2; refine ⟨h1, h2.join ρ, Hp.disj_join d' (d.disj_le m1), m1.le_trans lh, Hp.join_le (m2.le_trans lh) l, a, ?_⟩; intro w' k1 ⟨e1, e2, e3⟩ sB dk lk1 lr; have lh2 : h2.le (hp w') := (Hp.le_joinL _ _).le_trans lr; have lρ : ρ.le (hp w') := (Hp.le_joinR dr).le_trans lr; have dk2 : k1.disj h2 := dk.disj_le2 (Hp.le_joinL _ _); have dkρ : k1.disj ρ := dk.disj_le2 (Hp.le_joinR dr); exact ⟨⟨e1.trans x1, e2.trans x2, e3.trans x3⟩, lρ, k1.join h2, Hp.join_le lk1 lh2, (Hp.disj_join dkρ.disj_symm dr.disj_symm).disj_symm, K k1 _ dk2 (Hp.le_joinL _ _) (Hp.le_joinR dk2) sB⟩
theorem sat.drawn {E : World} {ρ : Hp} {Γ : List Asn} {w : World} (s : sat E ρ Γ w) (n : Nat) : sat E ρ Γ { w with drawn := n } := s
theorem sat.alloc {E : World} {ρ : Hp} {Γ : List Asn} {w : World} (s : sat E ρ Γ w) (A : Asn) (o : Obj) (hA : A.sat (Hp.one w.heap.size o)) : sat E ρ (A :: Γ) (w.alloc o) := by
  obtain ⟨⟨x1, x2, x3⟩, l, h, lh, d, st⟩ := s
  have up : Hp.le (hp w) (hp (w.alloc o)) := ⟨fun b o' e => by
    have hlt : b < w.heap.size := (Array.getElem?_eq_some_iff.1 e).1; show (w.heap.push o)[b]? = some o'; rw [Array.getElem?_push, if_neg (by omega)]; exact e⟩
  have new : hp (w.alloc o) w.heap.size = some o := by
    show (w.heap.push o)[w.heap.size]? = some o; simp
  have out : ∀ {k : Hp}, k.le (hp w) → k w.heap.size = none := fun {k} lk => by
    cases e : k w.heap.size with
    | none => rfl
    | some o' =>
      have h1 : w.heap[w.heap.size]? = some o' := lk.at_ _ _ e; simp at h1
  have d1 : (Hp.one w.heap.size o).disj h := Hp.one_disj (out lh); refine ⟨⟨x1, x2, x3⟩, l.le_trans up, (Hp.one w.heap.size o).join h, Hp.join_le (Hp.one_le new) (lh.le_trans up), (Hp.disj_join (Hp.one_disj (out l)).disj_symm d.disj_symm).disj_symm, ?_⟩; exact ⟨_, h, d1, Hp.le_joinL _ _, Hp.le_joinR d1, hA, st⟩
abbrev Slots := List (Nat × Value)
def get : Slots → Nat → Option Value
  | [], _ => none
  | (k, v) :: σ, t => bif Nat.beq k t then some v else get σ t
structure Fz where
  n : Nat
  ds : List Deferred
structure Env (n : Fz) (σ : Slots) (a : Act) : Prop where
  defers : a.defers = n.ds
  size : a.tmps.size = n.n
  get : ∀ t v, get σ t = some v → a.tmps[t]? = some v
theorem Env.put {n : Fz} {σ : Slots} {a : Act} (h : Env n σ a) {d : Nat} (hd : Nat.ble n.n d = false) (v : Value) : Env n ((d, v) :: σ) (a.put (some d) v) := by
  have hd' : d < n.n := by
    rcases Nat.lt_or_ge d n.n with h | h
    · exact h
    · rw [Nat.ble_eq_true_of_le h] at hd; cases hd
  refine ⟨h.defers, by simp [Act.put, h.size], fun t u e => ?_⟩; simp only [Go.SL.get] at e
  by_cases e' : d = t
  · subst e'; have : Nat.beq d d = true := by simp
    rw [this] at e
    cases e
    simp [Act.put, h.size, hd']
  · have : Nat.beq d t = false := by cases hb : Nat.beq d t with | false => rfl | true => exact absurd (Nat.eq_of_beq_eq_true hb) e'
    rw [this] at e; simp only [Act.put]; rw [Array.getElem?_setIfInBounds_ne e']; exact h.get t u e
theorem Env.skip {n : Fz} {σ : Slots} {a : Act} (h : Env n σ a) (v : Value) : Env n σ (a.put none v) := h
def EnvLe (σ' σ : Slots) : Prop := ∀ t v, get σ' t = some v → get σ t = some v
theorem EnvLe.refl (σ : Slots) : EnvLe σ σ := fun _ _ h => h
theorem EnvLe.nil (σ : Slots) : EnvLe [] σ := fun _ _ h => by cases h
theorem EnvLe.cons {σ' σ : Slots} {t : Nat} {u v : Value} (h : get σ t = some u) (e : u = v) (r : EnvLe σ' σ) : EnvLe ((t, v) :: σ') σ := fun s x hx => by
  simp only [get] at hx
  by_cases e' : t = s
  · subst e'; have : Nat.beq t t = true := by simp
    rw [this] at hx
    cases hx
    rw [← e]; exact h
  · have : Nat.beq t s = false := by cases hb : Nat.beq t s with | false => rfl | true => exact absurd (Nat.eq_of_beq_eq_true hb) e'
    rw [this] at hx; exact r s x hx
theorem Env.le {n : Fz} {σ σ' : Slots} {a : Act} (h : Env n σ a) (l : EnvLe σ' σ) : Env n σ' a := ⟨h.defers, h.size, fun t v e => h.get t v (l t v e)⟩
def evo (σ : Slots) : Operand → Option Value
  | .tmp t => get σ t
  | .const v => some v
  | .global g => some (.pointer (some ⟨g, 0, none⟩))
  | .func f => some (.func (.func f) #[] #[])
theorem Env.eval {n : Fz} {σ : Slots} {a : Act} (h : Env n σ a) {x : Operand} {v : Value} (e : evo σ x = some v) : a.eval x = v := by
  cases x with
  | tmp t =>
    have := h.get t v e; simp [Act.eval, this]
  | const u => simpa [evo, Act.eval] using e
  | global g => simpa [evo, Act.eval] using e
  | func f => simpa [evo, Act.eval] using e
def Tr (E : World) (ρ : Hp) (n : Fz) (σ : Slots) (Γ : List Asn) (K : Act → World → Prop) : Prop := ∀ a w, Env n σ a → sat E ρ Γ w → K a w
section
variable {E : World} {ρ : Hp} {n : Fz} {σ σ' : Slots} {Γ Γ' : List Asn} {K K' : Act → World → Prop}
theorem Tr.mono (h : Tr E ρ n σ Γ K) (k : ∀ a w, K a w → K' a w) : Tr E ρ n σ Γ K' := fun a w e s => k _ _ (h a w e s)
theorem Tr.env (l : EnvLe σ' σ) (h : Tr E ρ n σ' Γ K) : Tr E ρ n σ Γ K := fun a w e s => h a w (e.le l) s
theorem Tr.ent (l : Ent Γ Γ') (h : Tr E ρ n σ Γ' K) : Tr E ρ n σ Γ K := fun a w e s => h a w e (s.ent l)
theorem Tr.drop {A : Asn} (h : Tr E ρ n σ Γ K) : Tr E ρ n σ (A :: Γ) K := Tr.ent (Ent.skip (Ent.refl _)) h
theorem Ent.pack {A : Asn} {B : List Asn} (hA : ∀ h, star B h → A.sat h) : Ent (B ++ Γ) (A :: Γ) := fun h s => by
  obtain ⟨k1, k2, d, l1, l2, sB, sG⟩ := star_split s; exact ⟨k1, k2, d, l1, l2, hA _ sB, sG⟩
end
end Go.SL
namespace Go.SL
open Go
def exo (e : Operand → Value) (op : Op) (ty : TypeId) : Sem Next := execOp e { dst := none, op := op, type := ty, pos := "", after := #[], guard := none }
theorem exo_eq (e : Operand → Value) (d : Option Tmp) (op : Op) (ty : TypeId) (pos : String) (af : Array Edge) (g : Option (Nat × Bool)) :
    execOp e { dst := d, op := op, type := ty, pos := pos, after := af, guard := g } = exo e op ty := rfl
def OpQ (P : Program) (E : World) (ρ : Hp) (n : Fz) (σ : Slots) (Γ : List Asn) (op : Op) (ty : TypeId) (v : Value) : Prop :=
  ∀ a w, Env n σ a → sat E ρ Γ w → (exo a.eval op ty).run P w = .ok (.value v) w
def OpS (P : Program) (E : World) (ρ : Hp) (n : Fz) (σ : Slots) (Γ : List Asn) (op : Op) (ty : TypeId) (R : Value → List Asn → Prop) : Prop :=
  ∀ a w, Env n σ a → sat E ρ Γ w → ∃ nx w' v Γ', (nx = .value v ∨ (nx = .skip ∧ v = undef)) ∧ R v Γ' ∧ (exo a.eval op ty).run P w = .ok nx w' ∧ sat E ρ Γ' w'
def Spec (P : Program) (f : FuncId) (args : Array Value) (ρ : Hp) (Γ : List Asn) (R : Hp → Value → List Asn → Prop) : Prop :=
  ∀ (E : World) (Δ : List Asn) (w : World), sat E ρ (Γ ++ Δ) w →
    Calls P f args w fun e w' => ∃ ρ' v Γ', ρ.le ρ' ∧ R ρ' v Γ' ∧ e = .returned v ∧ sat E ρ' (Γ' ++ Δ) w'
def Spec0 (P : Program) (f : FuncId) (args : Array Value) (ρ : Hp) (Γ : List Asn) (R : Value → List Asn → Prop) : Prop :=
  Spec P f args ρ Γ fun ρ' v Γ' => ρ = ρ' ∧ R v Γ'
theorem sat.less {E : World} {ρ ρ' : Hp} {Γ : List Asn} {w : World} (l : ρ.le ρ') (s : sat E ρ' Γ w) : sat E ρ Γ w :=
  let ⟨x, lw, h, lh, d, st⟩ := s
  ⟨x, l.le_trans lw, h, lh, d.disj_le2 l, st⟩
section
variable {P : Program} {E : World} {ρ : Hp} {n : Fz} {σ σ' : Slots} {Γ Γ' : List Asn} {K : Act → World → Prop} {Q : Exit → Act → World → Prop}
variable {ops : Array Oper} {rest : List Oper} {d : Nat} {op : Op} {ty : TypeId} {pos : String} {af : Array Edge} {g : Option (Nat × Bool)} {v : Value} {R : Value → List Asn → Prop}
def Wanted (ops : Array Oper) (n : Fz) (σ : Slots) : Option (Nat × Bool) → Prop
  | none => True
  | some (j, want) => ∀ a, Env n σ a → yielded ops a.tmps j = some want
def Unwanted (ops : Array Oper) (n : Fz) (σ : Slots) : Option (Nat × Bool) → Prop
  | none => False
  | some (j, want) => ∀ a, Env n σ a → (yielded ops a.tmps j == some want) = false
theorem wn : Wanted ops n σ none := trivial
theorem wy {j dj : Nat} {want b : Bool} (h : (ops[j]?).bind (·.dst) = some dj) (e : get σ dj = some (.bool b)) (hb : b = want) : Wanted ops n σ (some (j, want)) := fun a ea => by
  have := ea.get _ _ e; simp [yielded, h, this, hb]
theorem wno {j dj : Nat} {want b : Bool} (h : (ops[j]?).bind (·.dst) = some dj) (e : get σ dj = some (.bool b)) (hb : b ≠ want) : Unwanted ops n σ (some (j, want)) := fun a ea => by
  have := ea.get _ _ e; simp [yielded, h, this, hb]
theorem wun {j dj : Nat} {want : Bool} (h : (ops[j]?).bind (·.dst) = some dj) (e : get σ dj = some undef) : Unwanted ops n σ (some (j, want)) := fun a ea => by
  have := ea.get _ _ e; simp [yielded, h, this, undef]
theorem Wanted.spec {o : Oper} (h : Wanted ops n σ o.guard) {a : Act} (e : Env n σ a) : Region.wanted o (yielded ops a.tmps) = true := by
  unfold Region.wanted
  cases hg : o.guard with
  | none => rfl
  | some x =>
    obtain ⟨j, want⟩ := x; rw [hg] at h; simp [h a e]
theorem Unwanted.spec {o : Oper} (h : Unwanted ops n σ o.guard) {a : Act} (e : Env n σ a) : Region.wanted o (yielded ops a.tmps) = false := by
  unfold Region.wanted
  cases hg : o.guard with
  | none => rw [hg] at h; exact h.elim
  | some x =>
    obtain ⟨j, want⟩ := x; rw [hg] at h; simpa using h a e
theorem upon_ok {o : Oper} {a : Act} {next : Act → World → Prop} {nx : Next} {w : World} {v : Value} (h : nx = .value v ∨ (nx = .skip ∧ v = undef)) (k : next (a.put o.dst v) w) : o.upon P a next Q (.ok nx w) := by
  rcases h with rfl | ⟨rfl, rfl⟩ <;> exact k
def Step (P : Program) (E : World) (ρ : Hp) (n : Fz) (σ : Slots) (Γ : List Asn) (o : Oper) (ops : Array Oper) (Q : Exit → Act → World → Prop) (K : Act → World → Prop) : Prop :=
  ∀ a w, Env n σ a → sat E ρ Γ w → if Region.wanted o (yielded ops a.tmps) then o.wp P a w K Q else K (a.put o.dst undef) w
theorem l_step {o : Oper} (h : Step P E ρ n σ Γ o ops Q (wpList P ops Q rest)) : Tr E ρ n σ Γ (wpList P ops Q (o :: rest)) := fun a w e s => by
  unfold wpList; have := h a w e s
  split
  · rename_i hw; rw [if_pos hw] at this; exact .inl this
  · rename_i hw; rw [if_neg hw] at this; exact this
theorem o_step {o : Oper} {i : Nat} (hi : ops[i]? = some o) (h : Step P E ρ n σ Γ o ops Q K) : Tr E ρ n σ Γ (wpOp P ops Q i K) := fun a w e s => by
  unfold wpOp; rw [hi]; have := h a w e s; dsimp only
  split
  · rename_i hw; rw [if_pos hw] at this; exact .inl this
  · rename_i hw; rw [if_neg hw] at this; exact this
theorem s_q (hd : Nat.ble n.n d = false) (hw : Wanted ops n σ g) (h : OpQ P E ρ n σ Γ op ty v) (k : Tr E ρ n ((d, v) :: σ) Γ K) :
    Step P E ρ n σ Γ { dst := some d, op := op, type := ty, pos := pos, after := af, guard := g } ops Q K := fun a w e s => by
  rw [if_pos (Wanted.spec (o := { dst := some d, op := op, type := ty, pos := pos, after := af, guard := g }) hw e)]; unfold Oper.wp; rw [exo_eq, h a w e s]; exact k _ _ (e.put hd v) s
theorem s_s (hd : Nat.ble n.n d = false) (hw : Wanted ops n σ g) (h : OpS P E ρ n σ Γ op ty R) (k : ∀ v Γ', R v Γ' → Tr E ρ n ((d, v) :: σ) Γ' K) :
    Step P E ρ n σ Γ { dst := some d, op := op, type := ty, pos := pos, after := af, guard := g } ops Q K := fun a w e s => by
  rw [if_pos (Wanted.spec (o := { dst := some d, op := op, type := ty, pos := pos, after := af, guard := g }) hw e)]; unfold Oper.wp; obtain ⟨nx, w', v, Γ', hn, hR, hr, s'⟩ := h a w e s; rw [exo_eq, hr]; exact upon_ok hn (k v Γ' hR _ _ (e.put hd v) s')
theorem s_s0 (hw : Wanted ops n σ g) (h : OpS P E ρ n σ Γ op ty R) (k : ∀ v Γ', R v Γ' → Tr E ρ n σ Γ' K) :
    Step P E ρ n σ Γ { dst := none, op := op, type := ty, pos := pos, after := af, guard := g } ops Q K := fun a w e s => by
  rw [if_pos (Wanted.spec (o := { dst := none, op := op, type := ty, pos := pos, after := af, guard := g }) hw e)]; unfold Oper.wp; obtain ⟨nx, w', v, Γ', hn, hR, hr, s'⟩ := h a w e s; rw [exo_eq, hr]; exact upon_ok hn (k v Γ' hR _ _ (e.skip v) s')
theorem s_no (hd : Nat.ble n.n d = false) (hw : Unwanted ops n σ g) (k : Tr E ρ n ((d, undef) :: σ) Γ K) :
    Step P E ρ n σ Γ { dst := some d, op := op, type := ty, pos := pos, after := af, guard := g } ops Q K := fun a w e s => by
  rw [if_neg (by rw [Unwanted.spec (o := { dst := some d, op := op, type := ty, pos := pos, after := af, guard := g }) hw e]; simp)]; exact k _ _ (e.put hd undef) s
inductive Sel : List Asn → List Asn → List Asn → Prop
  | nil {Δ : List Asn} : Sel [] Δ Δ
  | cons {A : Asn} {pre Γ Γ1 Δ : List Asn} : Pick A [] Γ Γ1 → Sel pre Γ1 Δ → Sel (A :: pre) Γ Δ
theorem Sel.ent {pre Γ Δ : List Asn} (h : Sel pre Γ Δ) : Ent Γ (pre ++ Δ) := by
  induction h with
  | nil => exact Ent.refl _
  | cons p _ ih => exact Ent.pick p ih
def evos (σ : Slots) : List Operand → Option (List Value)
  | [] => some []
  | x :: xs => match evo σ x, evos σ xs with
    | some v, some vs => some (v :: vs)
    | _, _ => none
theorem Env.evals {a : Act} (h : Env n σ a) : ∀ {xs : List Operand} {vs : List Value}, evos σ xs = some vs → xs.map a.eval = vs
  | [], vs, e => by simp [evos] at e; simp [← e]
  | x :: xs, vs, e => by
    simp only [evos] at e
    split at e
    · rename_i v vs' h1 h2
      cases e
      simp [h.eval h1, h.evals h2]
    · cases e
theorem t_split {d : Nat} {b : Bool} (h : get σ d = some (.bool b)) (ht : b = true → Tr E ρ n ((d, .bool true) :: σ) Γ K) (hf : b = false → Tr E ρ n ((d, .bool false) :: σ) Γ K) : Tr E ρ n σ Γ K := by
  have up : ∀ c, b = c → Tr E ρ n ((d, .bool c) :: σ) Γ K → Tr E ρ n σ Γ K := fun c hc k => Tr.env (.cons h (by rw [hc]) (EnvLe.refl _)) k
  cases b with
  | true => exact up true rfl (ht rfl)
  | false => exact up false rfl (hf rfl)
theorem l_nil (k : Tr E ρ n σ Γ (Q .normal)) : Tr E ρ n σ Γ (wpList P ops Q []) := fun a w e s => wpList_nil (k a w e s)
theorem c_region {id : Nat} {l : List Oper} (h : Tr E ρ n σ Γ (wpList P l.toArray Q l)) : Tr E ρ n σ Γ ((Code.region id l.toArray false).wp P Q) :=
  fun a w e s => wp_region_lit (h a w e s)
theorem c_draw {id m : Nat} {l : List Oper} {bs : Array Bool} (S : List Asn) (hm : P.follows .mixedOrders = true) (hn : l.toArray.size = m) (hb : Array.replicate l.toArray.size false = bs)
    (h : Tr E ρ n σ Γ (wpAnyH P .any l.toArray Q (sat E ρ S) m bs)) : Tr E ρ n σ Γ ((Code.region id l.toArray true).wp P Q) :=
  fun a w e s => wp_region_held (S := sat E ρ S) hm (by rw [hb, hn]; exact h a _ e (s.drawn _))
theorem r_take {ρ0 : Hp} {m i : Nat} {bs bs' : Array Bool} {S : List Asn} (hi : ops[i]? = some { dst := some d, op := op, type := ty, pos := pos, after := af, guard := g }) (hs : Region.noSelect ops = true)
    (hf : Region.free .any ops bs i = true) (hr : (Region.ready .any ops bs).contains i = true) (hQ : ∀ c a w, Q (.panic c) (a.put (some d) v) w → Q (.panic c) a w) (hd : Nat.ble n.n d = false)
    (hw : Wanted ops n σ g) (hq : OpQ P E ρ0 n σ S op ty v) (hl : ρ0.le ρ) (hΓ : Ent Γ S) (hb : bs.setIfInBounds i true = bs')
    (k : Tr E ρ n ((d, v) :: σ) Γ (wpAnyH P .any ops Q (sat E ρ0 S) m bs')) : Tr E ρ n σ Γ (wpAnyH P .any ops Q (sat E ρ0 S) (m + 1) bs) := fun a w e s =>
  wpAnyH_take hi hs hf hr hQ (.inl ⟨Wanted.spec (o := { dst := some d, op := op, type := ty, pos := pos, after := af, guard := g }) hw e, fun w' s' => by rw [exo_eq]; exact hq a w' e s'⟩) ((s.ent hΓ).less hl)
    (by rw [hb]; exact k _ _ (e.put hd v) s)
theorem r_skip {ρ0 : Hp} {m i : Nat} {bs bs' : Array Bool} {S : List Asn} (hi : ops[i]? = some { dst := some d, op := op, type := ty, pos := pos, after := af, guard := g }) (hs : Region.noSelect ops = true)
    (hf : Region.free .any ops bs i = true) (hr : (Region.ready .any ops bs).contains i = true) (hQ : ∀ c a w, Q (.panic c) (a.put (some d) undef) w → Q (.panic c) a w) (hd : Nat.ble n.n d = false)
    (hw : Unwanted ops n σ g) (hl : ρ0.le ρ) (hΓ : Ent Γ S) (hb : bs.setIfInBounds i true = bs')
    (k : Tr E ρ n ((d, undef) :: σ) Γ (wpAnyH P .any ops Q (sat E ρ0 S) m bs')) : Tr E ρ n σ Γ (wpAnyH P .any ops Q (sat E ρ0 S) (m + 1) bs) := fun a w e s =>
  wpAnyH_take hi hs hf hr hQ (.inr ⟨Unwanted.spec (o := { dst := some d, op := op, type := ty, pos := pos, after := af, guard := g }) hw e, rfl⟩) ((s.ent hΓ).less hl)
    (by rw [hb]; exact k _ _ (e.put hd undef) s)
theorem r_one {ρ0 : Hp} {m i : Nat} {bs bs' : Array Bool} {S : List Asn} (hr : Region.ready .any ops bs = [i]) (hb : bs.setIfInBounds i true = bs')
    (h : Tr E ρ n σ Γ (wpOp P ops Q i (fun a w => sat E ρ0 S w ∧ wpAnyH P .any ops Q (sat E ρ0 S) m bs' a w))) : Tr E ρ n σ Γ (wpAnyH P .any ops Q (sat E ρ0 S) (m + 1) bs) := fun a w e s =>
  wpAnyH_all hr (by simp) (fun j hj => by
    have : j = i := by simpa using hj
    subst this; rw [hb]; exact h a w e s)
theorem r_two {ρ0 : Hp} {m i j : Nat} {bs bi bj : Array Bool} {S : List Asn} (hr : Region.ready .any ops bs = [i, j]) (hbi : bs.setIfInBounds i true = bi) (hbj : bs.setIfInBounds j true = bj)
    (h : Tr E ρ n σ Γ (wpOp P ops Q i (fun a w => sat E ρ0 S w ∧ wpAnyH P .any ops Q (sat E ρ0 S) m bi a w)))
    (h' : Tr E ρ n σ Γ (wpOp P ops Q j (fun a w => sat E ρ0 S w ∧ wpAnyH P .any ops Q (sat E ρ0 S) m bj a w))) : Tr E ρ n σ Γ (wpAnyH P .any ops Q (sat E ρ0 S) (m + 1) bs) := fun a w e s =>
  wpAnyH_all hr (by simp) (fun x hx => by
    have : x = i ∨ x = j := by simpa using hx
    rcases this with rfl | rfl
    · rw [hbi]; exact h a w e s
    · rw [hbj]; exact h' a w e s)
theorem r_cont {ρ0 : Hp} {m : Nat} {bs : Array Bool} {S : List Asn} (hl : ρ0.le ρ) (hΓ : Ent Γ S) (h : Tr E ρ n σ Γ (wpAnyH P .any ops Q (sat E ρ0 S) m bs)) :
    Tr E ρ n σ Γ (fun a w => sat E ρ0 S w ∧ wpAnyH P .any ops Q (sat E ρ0 S) m bs a w) := fun a w e s => ⟨(s.ent hΓ).less hl, h a w e s⟩
theorem r_done {ρ0 : Hp} {m : Nat} {bs : Array Bool} {S : List Asn} (hr : Region.ready .any ops bs = []) (h : Tr E ρ n σ Γ (Q .normal)) :
    Tr E ρ n σ Γ (wpAnyH P .any ops Q (sat E ρ0 S) m bs) := fun a w e s => wpAnyH_done hr (h a w e s) m
variable {x y : Code} {id : Nat}
theorem c_seq (h : Tr E ρ n σ Γ (x.wp P (Exit.then (y.wp P Q) Q))) : Tr E ρ n σ Γ ((Code.seq x y).wp P Q) := fun a w e s => wp_seq (h a w e s)
theorem c_skip (h : Tr E ρ n σ Γ (Q .normal)) : Tr E ρ n σ Γ (Code.skip.wp P Q) := fun a w e s => wp_skip (h a w e s)
theorem c_exit (h : Tr E ρ n σ Γ (Q (.exit id))) : Tr E ρ n σ Γ ((Code.exit id).wp P Q) := fun a w e s => wp_exit (h a w e s)
theorem c_ret (h : Tr E ρ n σ Γ (Q .ret)) : Tr E ρ n σ Γ (Code.ret.wp P Q) := fun a w e s => wp_ret (h a w e s)
theorem c_block (h : Tr E ρ n σ Γ (x.wp P (Exit.inBlock id Q))) : Tr E ρ n σ Γ ((Code.block id x).wp P Q) := fun a w e s => wp_block (h a w e s)
theorem c_cond {c : Operand} {b : Bool} (hc : evo σ c = some (.bool b)) (ht : b = true → Tr E ρ n σ Γ (x.wp P Q)) (hf : b = false → Tr E ρ n σ Γ (y.wp P Q)) :
    Tr E ρ n σ Γ ((Code.cond c x y).wp P Q) := fun a w e s => wp_cond_split (e.eval hc) (fun h => ht h a w e s) (fun h => hf h a w e s)
theorem c_yes {c : Operand} (hc : evo σ c = some (.bool true)) (ht : Tr E ρ n σ Γ (x.wp P Q)) : Tr E ρ n σ Γ ((Code.cond c x y).wp P Q) := c_cond hc (fun _ => ht) (fun h => by cases h)
theorem c_no {c : Operand} (hc : evo σ c = some (.bool false)) (hf : Tr E ρ n σ Γ (y.wp P Q)) : Tr E ρ n σ Γ ((Code.cond c x y).wp P Q) := c_cond hc (fun h => by cases h) (fun _ => hf)
theorem c_sure {c : Operand} {b : Bool} (t : Bool) (hc : evo σ c = some (.bool b)) (hb : b = t) (h : Tr E ρ n σ Γ ((if t then x else y).wp P Q)) : Tr E ρ n σ Γ ((Code.cond c x y).wp P Q) :=
  fun a w e s => wp_cond (e.eval hc) (by rw [hb]; exact h a w e s)
theorem k_then_n (h : Tr E ρ n σ Γ K) : Tr E ρ n σ Γ (Exit.then K Q .normal) := h
theorem k_blk_n (h : Tr E ρ n σ Γ (Q .normal)) : Tr E ρ n σ Γ (Exit.inBlock id Q .normal) := h
theorem k_then_x (h : Tr E ρ n σ Γ (Q (.exit id))) : Tr E ρ n σ Γ (Exit.then K Q (.exit id)) := h
theorem k_blk_x (h : Tr E ρ n σ Γ (Q .normal)) : Tr E ρ n σ Γ (Exit.inBlock id Q (.exit id)) := fun a w e s => by
  simp only [Exit.inBlock, if_true]; exact h a w e s
theorem k_blk_xo {id' : Nat} (hne : Nat.beq id' id = false) (h : Tr E ρ n σ Γ (Q (.exit id'))) : Tr E ρ n σ Γ (Exit.inBlock id Q (.exit id')) := fun a w e s => by
  have : id' ≠ id := fun e => by subst e; simp at hne
  simp only [Exit.inBlock, if_neg this]; exact h a w e s
theorem k_then_r (h : Tr E ρ n σ Γ (Q .ret)) : Tr E ρ n σ Γ (Exit.then K Q .ret) := h
theorem k_blk_r (h : Tr E ρ n σ Γ (Q .ret)) : Tr E ρ n σ Γ (Exit.inBlock id Q .ret) := h
def Next_ {ι : Type} (E : World) (ρ : Hp) (n : Fz) (J : ι → Prop) (σI : ι → Slots) (ΓI : ι → List Asn) (a : Act) (w : World) : Prop := ∃ j, J j ∧ Env n (σI j) a ∧ sat E ρ (ΓI j) w
theorem t_loop {ι : Type} (J : ι → Prop) (μ : ι → Nat) (σI : ι → Slots) (ΓI : ι → List Asn) (i0 : ι) (h0 : J i0) (hσ : EnvLe (σI i0) σ) (hΓ : Ent Γ (ΓI i0))
    (round : ∀ i, J i → Tr E ρ n (σI i) (ΓI i) (x.wp P (Exit.then (Next_ E ρ n (fun j => J j ∧ μ j < μ i) σI ΓI) Q))) : Tr E ρ n σ Γ ((Code.loop x).wp P Q) := fun a w e s => by
  have key : ∀ m i a w, μ i = m → J i → Env n (σI i) a → sat E ρ (ΓI i) w → (Code.loop x).wp P Q a w := by
    intro m i a w hm hJ he hs
    refine wp_loop (P := P) (Q := Q) (c := x) (fun a w => ∃ i, J i ∧ Env n (σI i) a ∧ sat E ρ (ΓI i) w ∧ True)
      (fun a w => Classical.epsilon fun m => (∃ i, J i ∧ Env n (σI i) a ∧ sat E ρ (ΓI i) w ∧ μ i = m) ∧ ∀ m', (∃ i, J i ∧ Env n (σI i) a ∧ sat E ρ (ΓI i) w ∧ μ i = m') → m ≤ m') ⟨i, hJ, he, hs, trivial⟩ ?_
    clear hm hJ he hs a w i m; rintro a w ⟨i, hJ, he, hs, -⟩
    have ex : ∃ m, (∃ i, J i ∧ Env n (σI i) a ∧ sat E ρ (ΓI i) w ∧ μ i = m) ∧ ∀ m', (∃ i, J i ∧ Env n (σI i) a ∧ sat E ρ (ΓI i) w ∧ μ i = m') → m ≤ m' := by
      have : ∀ k, (∃ i, J i ∧ Env n (σI i) a ∧ sat E ρ (ΓI i) w ∧ μ i = k) → ∃ m, (∃ i, J i ∧ Env n (σI i) a ∧ sat E ρ (ΓI i) w ∧ μ i = m) ∧ ∀ m', (∃ i, J i ∧ Env n (σI i) a ∧ sat E ρ (ΓI i) w ∧ μ i = m') → m ≤ m' := by
        intro k
        induction k using Nat.strongRecOn with
        | _ k ih =>
          intro hk
          by_cases hl : ∃ m', m' < k ∧ ∃ i, J i ∧ Env n (σI i) a ∧ sat E ρ (ΓI i) w ∧ μ i = m'
          · obtain ⟨m', h1, h2⟩ := hl; exact ih m' h1 h2
          · refine ⟨k, hk, fun m' hm' => ?_⟩
            rcases Nat.lt_or_ge m' k with h | h
            · exact absurd ⟨m', h, hm'⟩ hl
            · exact h
      exact this (μ i) ⟨i, hJ, he, hs, rfl⟩
    have sp := Classical.epsilon_spec ex; obtain ⟨⟨i', hJ', he', hs', hm'⟩, -⟩ := sp; refine Code.wp_mono ?_ (round i' hJ' a w he' hs'); intro ex' a' w' hq
    cases ex' with
    | normal =>
      obtain ⟨j, ⟨hj1, hj2⟩, hj3, hj4⟩ := hq; refine ⟨⟨j, hj1, hj3, hj4, trivial⟩, ?_⟩
      have ex2 : ∃ m, (∃ i, J i ∧ Env n (σI i) a' ∧ sat E ρ (ΓI i) w' ∧ μ i = m) ∧ ∀ m', (∃ i, J i ∧ Env n (σI i) a' ∧ sat E ρ (ΓI i) w' ∧ μ i = m') → m ≤ m' := by
        have : ∀ k, (∃ i, J i ∧ Env n (σI i) a' ∧ sat E ρ (ΓI i) w' ∧ μ i = k) → ∃ m, (∃ i, J i ∧ Env n (σI i) a' ∧ sat E ρ (ΓI i) w' ∧ μ i = m) ∧ ∀ m', (∃ i, J i ∧ Env n (σI i) a' ∧ sat E ρ (ΓI i) w' ∧ μ i = m') → m ≤ m' := by
          intro k
          induction k using Nat.strongRecOn with
          | _ k ih =>
            intro hk
            by_cases hl : ∃ m', m' < k ∧ ∃ i, J i ∧ Env n (σI i) a' ∧ sat E ρ (ΓI i) w' ∧ μ i = m'
            · obtain ⟨m', h1, h2⟩ := hl; exact ih m' h1 h2
            · refine ⟨k, hk, fun m' hm' => ?_⟩
              rcases Nat.lt_or_ge m' k with h | h
              · exact absurd ⟨m', h, hm'⟩ hl
              · exact h
        exact this (μ j) ⟨j, hj1, hj3, hj4, rfl⟩
      have sp2 := (Classical.epsilon_spec ex2).2 (μ j) ⟨j, hj1, hj3, hj4, rfl⟩; exact Nat.lt_of_le_of_lt sp2 (by rw [← hm']; exact hj2)
    | exit _ => exact hq
    | goto _ => exact hq
    | ret => exact hq
    | panic _ => exact hq
    | outgrown => exact hq
  exact key _ i0 a w rfl h0 (e.le hσ) (s.ent hΓ)
theorem t_next {ι : Type} {J : ι → Prop} {σI : ι → Slots} {ΓI : ι → List Asn} (j : ι) (hj : J j) (hσ : EnvLe (σI j) σ) (hΓ : Ent Γ (ΓI j)) : Tr E ρ n σ Γ (Next_ E ρ n J σI ΓI) :=
  fun _ _ e s => ⟨j, hj, e.le hσ, s.ent hΓ⟩
end
def enumS : List Value → Nat → Slots
  | [], _ => []
  | v :: vs, i => (i, v) :: enumS vs (i + 1)
theorem get_enumS : ∀ (vs : List Value) (i t : Nat) (v : Value), get (enumS vs i) t = some v → i ≤ t ∧ vs[t - i]? = some v
  | [], _, _, _, h => by cases h
  | u :: vs, i, t, v, h => by
    simp only [enumS, get] at h
    by_cases e : i = t
    · subst e; have : Nat.beq i i = true := by simp
      rw [this] at h
      cases h
      simp
    · have hb : Nat.beq i t = false := by cases hb : Nat.beq i t with | false => rfl | true => exact absurd (Nat.eq_of_beq_eq_true hb) e
      rw [hb] at h; obtain ⟨h1, h2⟩ := get_enumS vs (i + 1) t v h; refine ⟨by omega, ?_⟩; rw [show t - i = (t - (i + 1)) + 1 from by omega]; simpa using h2
theorem spec_of {P : Program} {f : FuncId} {fn : Func} {c : Code} {n : Nat} {vs : List Value} {σ : Slots} {ρ : Hp} {Γ : List Asn} {R : Hp → Value → List Asn → Prop} (hf : P.funcs[f]? = some fn) (hb : fn.body = some c)
    (hn : fn.ntmps = n) (hl : Nat.ble vs.length n = true) (hσ : enumS vs 0 = σ)
    (h : ∀ (E : World) (Δ : List Asn), Tr E ρ ⟨n, []⟩ σ (Γ ++ Δ) (c.wp P (bodyPost P fn fun e w' => ∃ ρ' v Γ', ρ.le ρ' ∧ R ρ' v Γ' ∧ e = .returned v ∧ sat E ρ' (Γ' ++ Δ) w'))) : Spec P f vs.toArray ρ Γ R := by
  intro E Δ w s; refine calls_of_wp hf hb (h E Δ _ w ⟨rfl, ?_, ?_⟩ s)
  · have : vs.length ≤ n := by simpa using hl
    simp [hn]; omega
  · intro t v e; rw [← hσ] at e; obtain ⟨-, e'⟩ := get_enumS vs 0 t v e; simp only [Nat.sub_zero] at e'; have hlt : t < vs.length := (List.getElem?_eq_some_iff.1 e').1; simp [Array.getElem?_append, hlt]; rw [List.getElem?_eq_getElem hlt] at e'; simpa using e'
inductive Res (P : Program) (σ : Slots) (Γ : List Asn) : List ResultVar → List Value → Prop
  | nil : Res P σ Γ [] []
  | tmp {t : Nat} {v : Value} {rs : List ResultVar} {vs : List Value} : get σ t = some v → Res P σ Γ rs vs → Res P σ Γ (.tmp t :: rs) (v :: vs)
  | cell {p b : Nat} {T T' : TypeId} {cs : List Value} {v : Value} {rs : List ResultVar} {vs : List Value} : get σ p = some (.pointer (some ⟨b, 0, none⟩)) → Pick (.pts b cs T') [.pts b cs T'] Γ Γ →
      (∀ w, hp w b = some (.cells cs.toArray T' (0, 0)) → (loadVar T ⟨b, 0, none⟩).run P w = .ok v w) → Res P σ Γ rs vs → Res P σ Γ (.cell p T :: rs) (v :: vs)
theorem getD_of {tm : Array Value} {t : Nat} {v : Value} (h : tm[t]? = some v) : tm.getD t undef = v := by rw [Array.getD_eq_getD_getElem?, h]; rfl
def resOf (tm : Array Value) : ResultVar → Sem Value
  | .tmp t => pure (tm.getD t undef)
  | .cell p t => do loadVar t (← asAddr (tm.getD p undef))
theorem Res.run {P : Program} {σ : Slots} {Γ : List Asn} {rs : List ResultVar} {vs : List Value} (h : Res P σ Γ rs vs) {E : World} {ρ : Hp} {n : Fz} {a : Act} {w : World} (e : Env n σ a) (s : sat E ρ Γ w) :
    (rs.mapM (resOf a.tmps)).run P w = Result.ok vs w := by
  induction h with
  | nil => rfl
  | tmp h1 _ ih =>
    have h3 := getD_of (e.get _ _ h1); simp only [List.mapM_cons, Sem.run_bind, resOf, h3, Sem.run_pure, Result.andThen_ok, ih]
  | cell h1 hp h2 _ ih =>
    have h3 := getD_of (e.get _ _ h1); obtain ⟨k1, _, _, l1, _, hA, _⟩ := s.pick hp; have h4 := h2 w (l1.at_ _ _ hA); have h5 : ∀ x : Addr, (asAddr (.pointer (some x))).run P w = .ok x w := fun _ => rfl; simp only [List.mapM_cons, Sem.run_bind, resOf, h3, Sem.run_pure, Result.andThen_ok, ih, h4, h5]
theorem results_eq (fn : Func) (tm : Array Value) : results fn tm = (do let vs ← fn.results.mapM (resOf tm); pure (if h : vs.size = 1 then vs[0] else .tuple vs)) := rfl
def pack : List Value → Value
  | [v] => v
  | vs => .tuple vs.toArray
theorem t_ret {P : Program} {E : World} {ρ0 ρ : Hp} {n : Nat} {σ : Slots} {Γ Δ : List Asn} {fn : Func} {R : Hp → Value → List Asn → Prop} {rs : List ResultVar} {vs : List Value} {v : Value} (Γ' : List Asn)
    (hr : fn.results = rs.toArray) (hv : Res P σ Γ rs vs) (hp : pack vs = v) (hl : ρ0.le ρ) (hR : R ρ v Γ') (hΓ : Ent Γ (Γ' ++ Δ)) :
    Tr E ρ ⟨n, []⟩ σ Γ (bodyPost P fn (fun e w' => ∃ ρ' v Γ', ρ0.le ρ' ∧ R ρ' v Γ' ∧ e = .returned v ∧ sat E ρ' (Γ' ++ Δ) w') .ret) := fun a w e s => by
  refine ⟨e.defers, v, ?_, ρ, v, Γ', hl, hR, rfl, s.ent hΓ⟩; have h1 := hv.run e s; rw [results_eq, hr]; simp only [List.mapM_toArray, Sem.run_bind, Sem.run_map, h1, Result.andThen_ok, Sem.run_pure]; subst hp
  match vs with
  | [] => rfl
  | [v] => rfl
  | _ :: _ :: _ => simp [pack]
end Go.SL
namespace Go.SL
open Go
def setBlk (w : World) (b : Nat) (o : Obj) : World := { w with heap := w.heap.setIfInBounds b o }
theorem hp_setBlk {w : World} {b : Nat} {o o0 : Obj} (h : hp w b = some o0) : hp (setBlk w b o) b = some o := by
  have hlt : b < w.heap.size := (Array.getElem?_eq_some_iff.1 h).1; simp [hp, setBlk, hlt]
theorem hp_setBlk_ne {w : World} {b x : Nat} {o : Obj} (h : x ≠ b) : hp (setBlk w b o) x = hp w x := by
  simp [hp, setBlk, Array.getElem?_setIfInBounds_ne (Ne.symm h)]
theorem setBlk_setBlk (w : World) (b : Nat) (o o' : Obj) : setBlk (setBlk w b o) b o' = setBlk w b o' := by simp [setBlk]
theorem setCell_eq {w : World} {b off : Nat} {c : Array Value} {T : TypeId} {fz : Nat × Nat} (h : hp w b = some (.cells c T fz)) (v : Value) :
    w.setCell ⟨b, off, none⟩ v = setBlk w b (.cells (c.setIfInBounds off v) T fz) := by
  obtain ⟨hlt, hb⟩ := Array.getElem?_eq_some_iff.1 h; unfold World.setCell setBlk
  congr 1
  apply Array.ext
  · simp
  · intro i h1 h2
    by_cases e : i = b
    · subst e; simp [Array.getElem_modify, hb]
    · have e' : b ≠ i := fun h => e h.symm; rw [Array.getElem_setIfInBounds_ne (h := e') (hj := by simpa using h2)]; simp [Array.getElem_modify, e']
theorem cell_at {w : World} {b : Nat} {c : Array Value} {T : TypeId} {fz : Nat × Nat} (h : hp w b = some (.cells c T fz)) (off : Nat) : w.cell? ⟨b, off, none⟩ = c[off]? := by
  have h' : w.heap[b]? = some (.cells c T fz) := h; simp [World.cell?, h']
theorem soft_at {w : World} {b : Nat} {c : Array Value} {T : TypeId} {fz : Nat × Nat} (h : hp w b = some (.cells c T fz)) (hs : Soft c.size fz) {off : Nat} (ho : off < c.size) : w.frozen? ⟨b, off, none⟩ = false := by
  have h' : w.heap[b]? = some (.cells c T fz) := h; obtain ⟨lo, hi⟩ := fz; simp only [World.frozen?, h']
  rcases hs with hs | hs
  · cases hs; simp
  · simp at hs ⊢; omega
def wr : Array Value → Nat → List Value → Array Value
  | c, _, [] => c
  | c, o, v :: vs => wr (c.setIfInBounds o v) (o + 1) vs
theorem wr_size : ∀ (vs : List Value) (c : Array Value) (o : Nat), (wr c o vs).size = c.size
  | [], _, _ => rfl
  | v :: vs, c, o => by rw [wr, wr_size]; simp
theorem wr_get : ∀ (vs : List Value) (c : Array Value) (o i : Nat), o + vs.length ≤ c.size → (wr c o vs)[i]? = if o ≤ i ∧ i < o + vs.length then vs[i - o]? else c[i]?
  | [], c, o, i, h => by
    have : ¬ (o ≤ i ∧ i < o + ([] : List Value).length) := fun h => by have h1 := h.1; have h2 := h.2; simp only [List.length_nil] at h2; omega
    simp only [wr]; rw [if_neg this]
  | v :: vs, c, o, i, h => by
    simp only [List.length_cons] at h; rw [wr, wr_get vs _ (o + 1) i (by simp; omega)]; simp only [List.length_cons]
    by_cases e : i = o
    · subst e; rw [if_neg (by omega), if_pos (by omega)]; have : i < c.size := by omega
      simp [this]
    · rw [Array.getElem?_setIfInBounds_ne (by omega)]
      by_cases e2 : o + 1 ≤ i ∧ i < o + 1 + vs.length
      · rw [if_pos e2, if_pos (by omega)]; rw [show i - o = (i - (o + 1)) + 1 from by omega]; simp
      · rw [if_neg e2, if_neg (by omega)]
theorem run_storeCells {P : Program} : ∀ (vs : List Value) (i : Nat) (w : World) (b off : Nat) (c : Array Value) (T : TypeId) (fz : Nat × Nat), hp w b = some (.cells c T fz) → Soft c.size fz → off + i + vs.length ≤ c.size → (∀ v ∈ vs, v.oneCell' = true) →
    (storeCells ⟨b, off, none⟩ vs i).run P w = .ok () (setBlk w b (.cells (wr c (off + i) vs) T fz))
  | [], i, w, b, off, c, T, fz, h, _, _, _ => by
    have hlt : b < w.heap.size := (Array.getElem?_eq_some_iff.1 h).1
    have e : setBlk w b (.cells c T fz) = w := by
      unfold setBlk
      congr 1
      apply Array.ext (by simp); intro j h1 h2
      by_cases e : b = j
      · subst e; have := (Array.getElem?_eq_some_iff.1 h).2; simp [this]
      · rw [Array.getElem_setIfInBounds_ne (h := e) (hj := h2)]
    simp only [storeCells, wr, e]; rfl
  | v :: vs, i, w, b, off, c, T, fz, h, hs, hl, h1 => by
    simp only [List.length_cons] at hl; have ea : (⟨b, off, none⟩ : Addr).add i = ⟨b, off + i, none⟩ := by unfold Addr.add; split <;> simp_all
    have hc := cell_at h (off + i); have hlt : off + i < c.size := by omega
    rw [Array.getElem?_eq_getElem hlt] at hc; have hf := soft_at h hs hlt; have hr := run_store P w ⟨b, off + i, none⟩ v .plain (h1 v (by simp)); rw [hc] at hr; rw [hf] at hr; rw [setCell_eq h] at hr
    replace hr : (store ⟨b, off + i, none⟩ v Mode.plain).run P w = .ok () (setBlk w b (.cells (c.setIfInBounds (off + i) v) T fz)) := hr
    have ih := run_storeCells (P := P) vs (i + 1) (setBlk w b (.cells (c.setIfInBounds (off + i) v) T fz)) b off (c.setIfInBounds (off + i) v) T fz (hp_setBlk h) (by simpa using hs) (by simp; omega) (fun u hu => h1 u (by simp [hu])); rw [setBlk_setBlk] at ih; simp only [storeCells, Sem.run_bind, ea]; rw [show store ⟨b, off + i, none⟩ v = store ⟨b, off + i, none⟩ v Mode.plain from rfl, hr]; simp only [Result.andThen_ok, ih]; rfl
theorem sat.put {A : Asn} {B : List Asn} {Γ Γ' : List Asn} (p : Pick A B Γ Γ') {E : World} {ρ : Hp} {w : World} (s : sat E ρ Γ w) {b : Nat} {o0 o : Obj} (hA : ∀ h, A.sat h → h b = some o0) (hB : ∀ h, h b = some o → star B h) : hp w b = some o0 ∧ sat E ρ Γ' (setBlk w b o) := by
  obtain ⟨h1, hr, d, l1, lr, a, K⟩ := s.pick p; have e := hA _ a; have e0 := l1.at_ _ _ e; refine ⟨e0, K _ (Hp.one b o) ⟨rfl, rfl, rfl⟩ (hB _ (Hp.one_at b o)) (Hp.one_disj (d.out e)) (Hp.one_le (hp_setBlk e0)) ⟨fun x ox hx => ?_⟩⟩; have hne : x ≠ b := fun e' => by subst e'; rw [d.out e] at hx; cases hx
  rw [hp_setBlk_ne hne]; exact lr.at_ _ _ hx
def isScalar (P : Program) (T : TypeId) : Bool := match P.underlying T with | some (.struct _) | some (.array ..) | none => false | _ => true
def aggSize (P : Program) (T : TypeId) : Option Nat := match P.underlying T with | some (.struct _) | some (.array ..) => (P.info? T).map (·.size) | _ => none
def sizeIs (P : Program) (T : TypeId) : Option Nat := (P.info? T).map (·.size)
def fieldOff (P : Program) (T : TypeId) (i : Nat) : Option (Nat × TypeId) := match P.underlying T with
  | some (.struct fs) => match fs[i]? with
    | some f => if sizeIs P f.type = some 0 ∨ sizeIs P f.type = none then none else some (f.offset, f.type)
    | none => none
  | _ => none
theorem run_isAgg_scalar {P : Program} {T : TypeId} (h : isScalar P T = true) (w : World) : (isAgg T).run P w = .ok false w := by
  unfold isScalar at h; unfold isAgg underlying
  cases hu : P.underlying T with
  | none => rw [hu] at h; cases h
  | some d => cases d <;> first | (rw [hu] at h; cases h; done) | simp [hu]
theorem run_isAgg_agg {P : Program} {T : TypeId} {k : Nat} (h : aggSize P T = some k) (w : World) : (isAgg T).run P w = .ok true w := by
  unfold aggSize at h; unfold isAgg underlying
  cases hu : P.underlying T with
  | none => rw [hu] at h; cases h
  | some d => cases d <;> first | (rw [hu] at h; cases h; done) | simp [hu]
theorem run_sizeOf {P : Program} {T : TypeId} {k : Nat} (h : sizeIs P T = some k) (w : World) : (sizeOf T).run P w = .ok k w := by
  unfold sizeIs at h; unfold sizeOf typeInfo
  cases hi : P.info? T with
  | none => rw [hi] at h; cases h
  | some i => rw [hi] at h; simp at h; simp [hi, h]
theorem aggSize_size {P : Program} {T : TypeId} {k : Nat} (h : aggSize P T = some k) : sizeIs P T = some k := by
  unfold aggSize at h; unfold sizeIs
  split at h <;> first | exact h | cases h
theorem run_loadVar_scalar {P : Program} {T : TypeId} (h : isScalar P T = true) {w : World} {a : Addr} {v : Value} (hc : w.cell? a = some v) : (loadVar T a).run P w = .ok v w := by
  simp [loadVar, run_isAgg_scalar h, hc]
theorem run_loadVar_agg {P : Program} {T : TypeId} {cs : List Value} (h : aggSize P T = some cs.length) {w : World} {a : Addr} (hc : ∀ j v, cs[j]? = some v → w.cell? (a.add j) = some v) : (loadVar T a).run P w = .ok (.agg cs.toArray) w := by
  simp [loadVar, run_isAgg_agg h, run_sizeOf (aggSize_size h), run_loadCells_list w a cs hc]
theorem addr_add (b off i : Nat) : (⟨b, off, none⟩ : Addr).add i = ⟨b, off + i, none⟩ := by unfold Addr.add; split <;> simp_all
theorem addr_add_add (a : Addr) (i j : Nat) : (a.add i).add j = a.add (i + j) := by
  unfold Addr.add
  by_cases hi : i = 0
  · subst hi; simp
  · by_cases hj : j = 0
    · subst hj; simp [hi]
    · simp [hi, hj]; omega
section
variable {P : Program} {E : World} {ρ : Hp} {n : Fz} {σ : Slots} {Γ Γ' : List Asn} {ty : TypeId} {x y z : Operand} {v u : Value}
theorem q_move (hx : evo σ x = some v) : OpQ P E ρ n σ Γ (.move x) ty v := fun a w e s => by
  simp [exo, execOp, e.eval hx]
theorem q_assign (hx : evo σ x = some v) : OpQ P E ρ n σ Γ (.assign x) ty v := fun a w e s => by
  simp [exo, execOp, e.eval hx]
theorem q_pick {b : Bool} (hz : evo σ z = some (.bool b)) (hx : evo σ x = some v) (hy : evo σ y = some u) : OpQ P E ρ n σ Γ (.pick z x y) ty (bif b then v else u) := fun a w e s => by
  cases b <;> simp [exo, execOp, e.eval hz, e.eval hx, e.eval hy, asBool]
theorem q_extract {vs : Array Value} {i : Nat} (hx : evo σ x = some (.tuple vs)) (hv : vs[i]? = some v) : OpQ P E ρ n σ Γ (.extract x i) ty v := fun a w e s => by
  simp [exo, execOp, e.eval hx, Instr.extract, hv]
theorem q_nilCheck {ad : Addr} (hx : evo σ x = some (.pointer (some ad))) : OpQ P E ρ n σ Γ (.nilCheck x) ty (.pointer (some ad)) := fun a w e s => by
  simp [exo, execOp, e.eval hx]
theorem q_makeFunc {fn : Fn} {xs ys : List Operand} {vs us : List Value} (hx : evos σ xs = some vs) (hy : evos σ ys = some us) : OpQ P E ρ n σ Γ (.makeFunc fn xs.toArray ys.toArray) ty (.func fn vs.toArray us.toArray) := fun a w e s => by
  simp [exo, execOp, e.evals hx, e.evals hy, Instr.makeFunc]
variable {k : IntKind} {a b : Int} {T T' : TypeId}
theorem run_binOp_int {op : BinOp} {x y : Operand} {V : Value} (hx : evo σ x = some (.int k a)) (hy : evo σ y = some (.int k b)) (hr : ∀ w, (binOp op T (.int k a) (.int k b)).run P w = .ok V w) : OpQ P E ρ n σ Γ (.binOp op T x y T') ty V := fun ac w e s => by
  have hg : ∀ w, (eqGuard op T x y (.int k a) (.int k b)).run P w = .ok () w := fun w => by
    unfold eqGuard
    split <;> simp
  simp [exo, execOp, e.eval hx, e.eval hy, hg, hr]
theorem q_addw (hx : evo σ x = some (.int k a)) (hy : evo σ y = some (.int k b)) : OpQ P E ρ n σ Γ (.binOp .add T x y T') ty (.int k (k.wrap (a + b))) :=
  run_binOp_int hx hy fun w => by cases k <;> simp [binOp, Op.intArith]
theorem q_subw (hx : evo σ x = some (.int k a)) (hy : evo σ y = some (.int k b)) : OpQ P E ρ n σ Γ (.binOp .sub T x y T') ty (.int k (k.wrap (a - b))) :=
  run_binOp_int hx hy fun w => by cases k <;> simp [binOp, Op.intArith]
theorem q_mulw (hx : evo σ x = some (.int k a)) (hy : evo σ y = some (.int k b)) : OpQ P E ρ n σ Γ (.binOp .mul T x y T') ty (.int k (k.wrap (a * b))) :=
  run_binOp_int hx hy fun w => by cases k <;> simp [binOp, Op.intArith]
theorem wrap_i64 {c : Int} (h1 : -9223372036854775808 ≤ c) (h2 : c ≤ 9223372036854775807) : IntKind.wrap .i64 c = c := by
  simp [IntKind.wrap, IntKind.bits, IntKind.signed]; omega
theorem wrap_u32 {c : Int} (h1 : 0 ≤ c) (h2 : c ≤ 4294967295) : IntKind.wrap .u32 c = c := by
  simp [IntKind.wrap, IntKind.bits, IntKind.signed]; omega
theorem wrap_u64 {c : Int} (h1 : 0 ≤ c) (h2 : c ≤ 18446744073709551615) : IntKind.wrap .u64 c = c := by
  simp [IntKind.wrap, IntKind.bits, IntKind.signed]; omega
theorem wrap_u8 {c : Int} (h1 : 0 ≤ c) (h2 : c ≤ 255) : IntKind.wrap .u8 c = c := by
  simp [IntKind.wrap, IntKind.bits, IntKind.signed]; omega
theorem q_add (hx : evo σ x = some (.int .i64 a)) (hy : evo σ y = some (.int .i64 b)) (h1 : -9223372036854775808 ≤ a + b) (h2 : a + b ≤ 9223372036854775807) : OpQ P E ρ n σ Γ (.binOp .add T x y T') ty (.int .i64 (a + b)) := by
  have := q_addw (P := P) (E := E) (ρ := ρ) (n := n) (Γ := Γ) (ty := ty) (T := T) (T' := T') hx hy
  rwa [wrap_i64 h1 h2] at this
theorem q_sub (hx : evo σ x = some (.int .i64 a)) (hy : evo σ y = some (.int .i64 b)) (h1 : -9223372036854775808 ≤ a - b) (h2 : a - b ≤ 9223372036854775807) : OpQ P E ρ n σ Γ (.binOp .sub T x y T') ty (.int .i64 (a - b)) := by
  have := q_subw (P := P) (E := E) (ρ := ρ) (n := n) (Γ := Γ) (ty := ty) (T := T) (T' := T') hx hy
  rwa [wrap_i64 h1 h2] at this
theorem q_mul (hx : evo σ x = some (.int .i64 a)) (hy : evo σ y = some (.int .i64 b)) (h1 : -9223372036854775808 ≤ a * b) (h2 : a * b ≤ 9223372036854775807) : OpQ P E ρ n σ Γ (.binOp .mul T x y T') ty (.int .i64 (a * b)) := by
  have := q_mulw (P := P) (E := E) (ρ := ρ) (n := n) (Γ := Γ) (ty := ty) (T := T) (T' := T') hx hy
  rwa [wrap_i64 h1 h2] at this
theorem q_lss (hx : evo σ x = some (.int k a)) (hy : evo σ y = some (.int k b)) : OpQ P E ρ n σ Γ (.binOp .lss T x y T') ty (.bool (decide (a < b))) :=
  run_binOp_int hx hy fun w => by cases k <;> simp [binOp, Op.intCmp]
theorem q_leq (hx : evo σ x = some (.int k a)) (hy : evo σ y = some (.int k b)) : OpQ P E ρ n σ Γ (.binOp .leq T x y T') ty (.bool (decide (a ≤ b))) :=
  run_binOp_int hx hy fun w => by cases k <;> simp [binOp, Op.intCmp]
theorem q_gtr (hx : evo σ x = some (.int k a)) (hy : evo σ y = some (.int k b)) : OpQ P E ρ n σ Γ (.binOp .gtr T x y T') ty (.bool (decide (b < a))) :=
  run_binOp_int hx hy fun w => by cases k <;> simp [binOp, Op.intCmp]
theorem q_geq (hx : evo σ x = some (.int k a)) (hy : evo σ y = some (.int k b)) : OpQ P E ρ n σ Γ (.binOp .geq T x y T') ty (.bool (decide (b ≤ a))) :=
  run_binOp_int hx hy fun w => by cases k <;> simp [binOp, Op.intCmp]
theorem q_eql (hx : evo σ x = some (.int k a)) (hy : evo σ y = some (.int k b)) : OpQ P E ρ n σ Γ (.binOp .eql T x y T') ty (.bool (decide (a = b))) :=
  run_binOp_int hx hy fun w => by cases k <;> simp [binOp, Op.intCmp] <;> rfl
theorem q_neq (hx : evo σ x = some (.int k a)) (hy : evo σ y = some (.int k b)) : OpQ P E ρ n σ Γ (.binOp .neq T x y T') ty (.bool (decide (a ≠ b))) :=
  run_binOp_int hx hy fun w => by
    have : (a != b) = decide (a ≠ b) := by by_cases h : a = b <;> simp [h]
    cases k <;> simp [binOp, Op.intCmp, this]
theorem q_rem (hx : evo σ x = some (.int k a)) (hy : evo σ y = some (.int k b)) (hb : b ≠ 0) : OpQ P E ρ n σ Γ (.binOp .rem T x y T') ty (.int k (a.tmod b)) :=
  run_binOp_int hx hy fun w => by cases k <;> simp [binOp, Op.intDiv, hb]
theorem q_remp (hx : evo σ x = some (.int k a)) (hy : evo σ y = some (.int k b)) (ha : 0 ≤ a) (hb : 0 < b) : OpQ P E ρ n σ Γ (.binOp .rem T x y T') ty (.int k (a % b)) := by
  have := q_rem (P := P) (E := E) (ρ := ρ) (n := n) (Γ := Γ) (ty := ty) (T := T) (T' := T') hx hy (by omega)
  rwa [Int.tmod_eq_emod_of_nonneg ha] at this
theorem q_quo (hx : evo σ x = some (.int k a)) (hy : evo σ y = some (.int k b)) (hb : b ≠ 0) : OpQ P E ρ n σ Γ (.binOp .quo T x y T') ty (.int k (k.wrap (a.tdiv b))) :=
  run_binOp_int hx hy fun w => by cases k <;> simp [binOp, Op.intDiv, hb]
theorem q_quop (hx : evo σ x = some (.int .i64 a)) (hy : evo σ y = some (.int .i64 b)) (ha : 0 ≤ a) (ha' : a ≤ 9223372036854775807) (hb : 0 < b) : OpQ P E ρ n σ Γ (.binOp .quo T x y T') ty (.int .i64 (a / b)) := by
  have := q_quo (P := P) (E := E) (ρ := ρ) (n := n) (Γ := Γ) (ty := ty) (T := T) (T' := T') hx hy (by omega); rw [Int.tdiv_eq_ediv_of_nonneg ha] at this
  rwa [wrap_i64 (by have := Int.ediv_nonneg ha (Int.le_of_lt hb); omega) (by have := Int.ediv_le_self b ha; omega)] at this
theorem q_and (hx : evo σ x = some (.int k a)) (hy : evo σ y = some (.int k b)) : OpQ P E ρ n σ Γ (.binOp .and T x y T') ty (.int k (k.wrap ((BitVec.ofInt k.bits a &&& BitVec.ofInt k.bits b).toNat : Int))) :=
  run_binOp_int hx hy fun w => by cases k <;> simp [binOp, Op.intBits]
theorem q_or (hx : evo σ x = some (.int k a)) (hy : evo σ y = some (.int k b)) : OpQ P E ρ n σ Γ (.binOp .or T x y T') ty (.int k (k.wrap ((BitVec.ofInt k.bits a ||| BitVec.ofInt k.bits b).toNat : Int))) :=
  run_binOp_int hx hy fun w => by cases k <;> simp [binOp, Op.intBits]
theorem q_xor (hx : evo σ x = some (.int k a)) (hy : evo σ y = some (.int k b)) : OpQ P E ρ n σ Γ (.binOp .xor T x y T') ty (.int k (k.wrap ((BitVec.ofInt k.bits a ^^^ BitVec.ofInt k.bits b).toNat : Int))) :=
  run_binOp_int hx hy fun w => by cases k <;> simp [binOp, Op.intBits]
theorem run_shift {op : BinOp} {k2 : IntKind} {m : Int} {V : Value} (hop : op = .shl ∨ op = .shr) (hx : evo σ x = some (.int k a)) (hy : evo σ y = some (.int k2 m)) (hr : ∀ w, (Op.shift op k a k2 m).run P w = .ok V w) : OpQ P E ρ n σ Γ (.binOp op T x y T') ty V := fun ac w e s => by
  have hg : ∀ w, (eqGuard op T x y (.int k a) (.int k2 m)).run P w = .ok () w := fun w => by
    unfold eqGuard
    split <;> simp
  rcases hop with rfl | rfl <;> simp [exo, execOp, e.eval hx, e.eval hy, hg, binOp, hr]
theorem q_shl {k2 : IntKind} {m : Int} (hx : evo σ x = some (.int k a)) (hy : evo σ y = some (.int k2 m)) (hm : 0 ≤ m) : OpQ P E ρ n σ Γ (.binOp .shl T x y T') ty (.int k (k.wrap (a * 2 ^ (min m.toNat k.bits)))) :=
  run_shift (.inl rfl) hx hy fun w => by simp [Op.shift, show ¬ m < 0 by omega]
theorem q_shr {k2 : IntKind} {m : Int} (hx : evo σ x = some (.int k a)) (hy : evo σ y = some (.int k2 m)) (hm : 0 ≤ m) : OpQ P E ρ n σ Γ (.binOp .shr T x y T') ty (.int k (a.fdiv (2 ^ (min m.toNat k.bits)))) :=
  run_shift (.inr rfl) hx hy fun w => by simp [Op.shift, show ¬ m < 0 by omega]
theorem q_not {c : Bool} (hx : evo σ x = some (.bool c)) : OpQ P E ρ n σ Γ (.unOp .not T x) ty (.bool (!c)) := fun ac w e s => by
  simp [exo, execOp, e.eval hx, Op.unary]
theorem q_negw (hx : evo σ x = some (.int k a)) : OpQ P E ρ n σ Γ (.unOp .neg T x) ty (.int k (k.wrap (0 - a))) := fun ac w e s => by
  simp [exo, execOp, e.eval hx, Op.unary, Op.intArith]
theorem q_compl (hx : evo σ x = some (.int k a)) : OpQ P E ρ n σ Γ (.unOp .xor T x) ty (.int k (k.wrap ((BitVec.ofInt k.bits (if k.signed then -1 else k.max) ^^^ BitVec.ofInt k.bits a).toNat : Int))) := fun ac w e s => by
  simp [exo, execOp, e.eval hx, Op.unary, Op.intBits]
theorem q_convw {k' : IntKind} {dsc : TypeDesc} (hx : evo σ x = some (.int k a)) (hT : P.underlying T = some dsc) (hT' : P.underlying T' = some (.int k')) : OpQ P E ρ n σ Γ (.convert T T' x) ty (.int k' (k'.wrap a)) := fun ac w e s => by
  simp [exo, execOp, e.eval hx, convert, underlying, hT, hT', Conv.intToInt]
theorem q_conv {k' : IntKind} {dsc : TypeDesc} (hx : evo σ x = some (.int k a)) (hT : P.underlying T = some dsc) (hT' : P.underlying T' = some (.int k')) (hw : k'.wrap a = a) : OpQ P E ρ n σ Γ (.convert T T' x) ty (.int k' a) := by
  have := q_convw (E := E) (ρ := ρ) (n := n) (Γ := Γ) (ty := ty) hx hT hT'
  rwa [hw] at this
theorem run_binOp_any {op : BinOp} {x y : Operand} {V v1 v2 : Value} (hx : evo σ x = some v1) (hy : evo σ y = some v2) (hg : ∀ w, (eqGuard op T x y v1 v2).run P w = .ok () w) (hr : ∀ w, (binOp op T v1 v2).run P w = .ok V w) : OpQ P E ρ n σ Γ (.binOp op T x y T') ty V := fun ac w e s => by
  simp [exo, execOp, e.eval hx, e.eval hy, hg, hr]
theorem equal_run {v1 v2 : Value} {r : Bool} {w : World} (h : ∀ d, (Op.equalIn (d + 1) T v1 v2).run P w = .ok r w) : (Op.equal T v1 v2).run P w = .ok r w := h 9999
theorem q_eqlv {v1 v2 : Value} {r : Bool} (hx : evo σ x = some v1) (hy : evo σ y = some v2) (hg : ∀ w, (eqGuard .eql T x y v1 v2).run P w = .ok () w)
    (hb : binOp .eql T v1 v2 = (do pure (.bool (← Op.equal T v1 v2)))) (hr : ∀ w d, (Op.equalIn (d + 1) T v1 v2).run P w = .ok r w) : OpQ P E ρ n σ Γ (.binOp .eql T x y T') ty (.bool r) :=
  run_binOp_any hx hy hg fun w => by rw [hb, Sem.run_bind, equal_run (hr w)]; rfl
theorem q_neqv {v1 v2 : Value} {r : Bool} (hx : evo σ x = some v1) (hy : evo σ y = some v2) (hg : ∀ w, (eqGuard .neq T x y v1 v2).run P w = .ok () w)
    (hb : binOp .neq T v1 v2 = (do pure (.bool (!(← Op.equal T v1 v2))))) (hr : ∀ w d, (Op.equalIn (d + 1) T v1 v2).run P w = .ok r w) : OpQ P E ρ n σ Γ (.binOp .neq T x y T') ty (.bool (!r)) :=
  run_binOp_any hx hy hg fun w => by rw [hb, Sem.run_bind, equal_run (hr w)]; rfl
theorem q_neqb {c d : Bool} (hx : evo σ x = some (.bool c)) (hy : evo σ y = some (.bool d)) (hT : P.underlying T = some .bool) : OpQ P E ρ n σ Γ (.binOp .neq T x y T') ty (.bool (!(c == d))) :=
  q_neqv hx hy (fun w => by simp [eqGuard]) rfl fun w d => by simp [Op.equalIn, underlying, hT]
theorem q_eqlp {c : Addr} {el : TypeId} (hx : evo σ x = some (.pointer (some c))) (hy : evo σ y = some (.pointer none)) (hT : P.underlying T = some (.pointer el)) : OpQ P E ρ n σ Γ (.binOp .eql T x y T') ty (.bool false) :=
  q_eqlv hx hy (fun w => by simp [eqGuard]) rfl fun w d => by simp [Op.equalIn, underlying, hT]
theorem q_neqp {c : Addr} {el : TypeId} (hx : evo σ x = some (.pointer (some c))) (hy : evo σ y = some (.pointer none)) (hT : P.underlying T = some (.pointer el)) : OpQ P E ρ n σ Γ (.binOp .neq T x y T') ty (.bool true) :=
  q_neqv (r := false) hx hy (fun w => by simp [eqGuard]) rfl fun w d => by simp [Op.equalIn, underlying, hT]
theorem q_eqlp0 {el : TypeId} (hx : evo σ x = some (.pointer none)) (hy : evo σ y = some (.pointer none)) (hT : P.underlying T = some (.pointer el)) : OpQ P E ρ n σ Γ (.binOp .eql T x y T') ty (.bool true) :=
  q_eqlv hx hy (fun w => by simp [eqGuard]) rfl fun w d => by simp [Op.equalIn, underlying, hT]
theorem q_neqp0 {el : TypeId} (hx : evo σ x = some (.pointer none)) (hy : evo σ y = some (.pointer none)) (hT : P.underlying T = some (.pointer el)) : OpQ P E ρ n σ Γ (.binOp .neq T x y T') ty (.bool false) :=
  q_neqv (r := true) hx hy (fun w => by simp [eqGuard]) rfl fun w d => by simp [Op.equalIn, underlying, hT]
theorem q_eqls {c d : ByteArray} (hx : evo σ x = some (.string c)) (hy : evo σ y = some (.string d)) : OpQ P E ρ n σ Γ (.binOp .eql T x y T') ty (.bool (decide (c = d))) :=
  run_binOp_any hx hy (fun w => by simp [eqGuard]) fun w => by
    have : (c.toList == d.toList) = decide (c = d) := by
      by_cases h : c = d
      · simp [h]
      · have h' : c.toList ≠ d.toList := fun e => h (by
          have : c.data.toList = d.data.toList := by simpa [ByteArray.toList_eq] using e
          cases c; cases d; simp_all [Array.ext_iff])
        simp [h, h']
    simp [binOp, Op.stringOp, this]
end
end Go.SL
namespace Go.SL
open Go
def ea (a : Option Addr) (k : Nat) : Value := .pointer (some ((a.getD ⟨0, 0, none⟩).add k))
def Ro (ρ : Hp) (sz : Nat) (a : Option Addr) (n cap : Nat) (cs : List Value) : Prop :=
  cs.length = n * sz ∧ n ≤ cap ∧ cap ≤ maxLen ∧ ∀ j c, cs[j]? = some c → ∃ ad, a = some ad ∧ ρ.cell? (ad.add j) = some c
def Rd (ρ : Hp) (Γ : List Asn) (sz : Nat) (a : Option Addr) (n cap : Nat) (cs : List Value) : Prop :=
  ∀ E w, sat E ρ Γ w → cs.length = n * sz ∧ n ≤ cap ∧ cap ≤ maxLen ∧ ∀ j c, cs[j]? = some c → ∃ ad, a = some ad ∧ w.cell? (ad.add j) = some c
theorem Ro.mono {ρ ρ' : Hp} (l : ρ.le ρ') {sz n cap : Nat} {a : Option Addr} {cs : List Value} (h : Ro ρ sz a n cap cs) : Ro ρ' sz a n cap cs :=
  ⟨h.1, h.2.1, h.2.2.1, fun j c e => let ⟨ad, e1, e2⟩ := h.2.2.2 j c e; ⟨ad, e1, Hp.cell_le l e2⟩⟩
theorem Ro.nil (ρ : Hp) (sz : Nat) : Ro ρ sz none 0 0 [] := ⟨by simp, Nat.le_refl _, by decide, fun j c e => by simp at e⟩
theorem rowIn.reads {h : Hp} {T : TypeId} {sz n cap : Nat} {a : Option Addr} {cs : List Value} (r : rowIn h T sz a n cap cs) :
    cs.length = n * sz ∧ n ≤ cap ∧ cap ≤ maxLen ∧ ∀ j c, cs[j]? = some c → ∃ ad, a = some ad ∧ h.cell? (ad.add j) = some c := by
  obtain ⟨hl, ⟨rfl, rfl, rfl⟩ | ⟨g, cur, fz, rfl, hg, hs, hn, hc, hz, ht⟩⟩ := r
  · refine ⟨hl, Nat.le_refl _, by decide, fun j c e => ?_⟩; have : cs = [] := List.eq_nil_of_length_eq_zero (by simpa using hl); subst this; simp at e
  · refine ⟨hl, hn, hc, fun j c e => ⟨_, rfl, ?_⟩⟩; rw [addr_add]; simp only [Hp.cell?, hg, Nat.zero_add]; rw [← ht, List.getElem?_take] at e
    split at e
    · simpa using e
    · cases e
theorem ro_of_row {ρ : Hp} {T : TypeId} {sz n cap : Nat} {a : Option Addr} {cs : List Value} (h : ∃ h, Hp.le h ρ ∧ (Asn.row T sz a n cap cs).sat h) : Ro ρ sz a n cap cs := by
  obtain ⟨h, l, r⟩ := h; obtain ⟨h1, h2, h3, h4⟩ := rowIn.reads r; exact ⟨h1, h2, h3, fun j c e => let ⟨ad, e1, e2⟩ := h4 j c e; ⟨ad, e1, Hp.cell_le l e2⟩⟩
theorem rd_ro {ρ : Hp} {Γ : List Asn} {sz n cap : Nat} {a : Option Addr} {cs : List Value} (h : Ro ρ sz a n cap cs) : Rd ρ Γ sz a n cap cs := fun _ _ s =>
  ⟨h.1, h.2.1, h.2.2.1, fun j c e => let ⟨ad, e1, e2⟩ := h.2.2.2 j c e; ⟨ad, e1, cell_of_le s.2.1 e2⟩⟩
theorem rd_row {ρ : Hp} {Γ : List Asn} {T : TypeId} {sz n cap : Nat} {a : Option Addr} {cs : List Value} (p : Pick (.row T sz a n cap cs) [.row T sz a n cap cs] Γ Γ) : Rd ρ Γ sz a n cap cs := fun _ _ s => by
  obtain ⟨h1, _, _, l1, _, hA, _⟩ := s.pick p; obtain ⟨x1, x2, x3, x4⟩ := rowIn.reads hA; exact ⟨x1, x2, x3, fun j c e => let ⟨ad, e1, e2⟩ := x4 j c e; ⟨ad, e1, cell_of_le l1 e2⟩⟩
theorem Ro.take {ρ : Hp} {sz n cap : Nat} {a : Option Addr} {cs : List Value} (h : Ro ρ sz a n cap cs) (m : Nat) (hm : m ≤ n) : Ro ρ sz a m cap (cs.take (m * sz)) := by
  obtain ⟨h1, h2, h3, h4⟩ := h; have : m * sz ≤ n * sz := Nat.mul_le_mul_right _ hm; refine ⟨by rw [List.length_take]; omega, by omega, h3, fun j c e => ?_⟩; rw [List.getElem?_take] at e
  split at e
  · exact h4 j c e
  · cases e
def sh (a : Option Addr) (cap k sz : Nat) : Option Addr := if cap = k then a else a.map (·.add (k * sz))
theorem Ro.drop {ρ : Hp} {sz n cap : Nat} {a : Option Addr} {cs : List Value} (h : Ro ρ sz a n cap cs) (k : Nat) (hk : k ≤ n) : Ro ρ sz (sh a cap k sz) (n - k) (cap - k) (cs.drop (k * sz)) := by
  obtain ⟨h1, h2, h3, h4⟩ := h; refine ⟨by rw [List.length_drop, h1, Nat.sub_mul], by omega, by omega, fun j c e => ?_⟩; rw [List.getElem?_drop] at e; obtain ⟨ad, rfl, e2⟩ := h4 _ c e; unfold sh
  by_cases hc : cap = k
  · exfalso
    have hlt := (List.getElem?_eq_some_iff.1 e).1; have : n = k := by omega
    subst this; omega
  · rw [if_neg hc]; exact ⟨_, rfl, by rw [addr_add_add]; exact e2⟩
section
variable {P : Program} {E : World} {ρ : Hp} {n : Fz} {σ : Slots} {Γ Γ' : List Asn} {ty : TypeId} {x y z : Operand} {v u : Value} {T T' : TypeId}
theorem q_fieldp {b off o i : Nat} {Tf : TypeId} (hx : evo σ x = some (.pointer (some ⟨b, off, none⟩))) (hf : fieldOff P T i = some (o, Tf)) : OpQ P E ρ n σ Γ (.fieldAddr T x i) ty (.pointer (some ⟨b, off + o, none⟩)) := fun ac w e s => by
  unfold fieldOff at hf
  split at hf
  · rename_i fs hu
    split at hf
    · rename_i f hfi
      split at hf
      · cases hf
      · rename_i hsz
        cases hf
        cases hi : P.info? f.type with
        | none => exact absurd (.inr (by simp [sizeIs, hi])) hsz
        | some inf =>
          have hsz' : ¬ inf.size = 0 := fun h => hsz (.inl (by simp [sizeIs, hi, h])); simp [exo, execOp, e.eval hx, Instr.fieldAt, underlying, hu, hfi, Instr.sureAddr, fieldPlace, sizeOf, typeInfo, hi, hsz', addr_add]
    · cases hf
  · cases hf
theorem q_fieldr {a : Option Addr} {k o i : Nat} {Tf : TypeId} (hx : evo σ x = some (ea a k)) (hf : fieldOff P T i = some (o, Tf)) : OpQ P E ρ n σ Γ (.fieldAddr T x i) ty (ea a (k + o)) := fun ac w e s => by
  unfold fieldOff at hf
  split at hf
  · rename_i fs hu
    split at hf
    · rename_i f hfi
      split at hf
      · cases hf
      · rename_i hsz
        cases hf
        cases hi : P.info? f.type with
        | none => exact absurd (.inr (by simp [sizeIs, hi])) hsz
        | some inf =>
          have hsz' : ¬ inf.size = 0 := fun h => hsz (.inl (by simp [sizeIs, hi, h])); simp [exo, execOp, e.eval hx, ea, Instr.fieldAt, underlying, hu, hfi, Instr.sureAddr, fieldPlace, sizeOf, typeInfo, hi, hsz', addr_add_add]
    · cases hf
  · cases hf
theorem q_index {a : Option Addr} {m cap sz : Nat} {cs : List Value} {el : TypeId} {k : IntKind} {i : Int} (hT : P.underlying T = some (.slice el)) (hs : sizeIs P el = some sz) (hz : 0 < sz) (hx : evo σ x = some (.slice a m cap)) (hy : evo σ y = some (.int k i))
    (rd : Rd ρ Γ sz a m cap cs) (h0 : 0 ≤ i) (h1 : i < m) : OpQ P E ρ n σ Γ (.indexAddr T x y) ty (ea a (i.toNat * sz)) := fun ac w e s => by
  obtain ⟨hl, _, _, hc⟩ := rd E w s; have hlt : 0 < cs.length := by rw [hl]; exact Nat.mul_pos (by omega) hz
  obtain ⟨ad, rfl, _⟩ := hc 0 cs[0] (by simp [hlt]); have hr := run_sizeOf hs w; simp [exo, execOp, e.eval hx, e.eval hy, ea, Instr.indexAt, asIntOf, underlying, hT, h0, h1, hr]
theorem q_loadp {b off : Nat} {cs : List Value} (hT : isScalar P T = true) (hx : evo σ x = some (.pointer (some ⟨b, off, none⟩))) (p : Pick (.pts b cs T') [.pts b cs T'] Γ Γ) (hc : cs[off]? = some v) : OpQ P E ρ n σ Γ (.load T x) ty v := fun ac w e s => by
  obtain ⟨h1, _, _, l1, _, hA, _⟩ := s.pick p; have hcell : w.cell? ⟨b, off, none⟩ = some v := by rw [cell_at (l1.at_ _ _ hA)]; simpa using hc
  have := run_loadVar_scalar (P := P) hT hcell; simp [exo, execOp, e.eval hx, Instr.loadAt, Instr.sureAddr, this]
theorem q_loadpa {b off : Nat} {cs vs : List Value} (hT : aggSize P T = some vs.length) (hx : evo σ x = some (.pointer (some ⟨b, off, none⟩))) (p : Pick (.pts b cs T') [.pts b cs T'] Γ Γ) (hc : (cs.drop off).take vs.length = vs) : OpQ P E ρ n σ Γ (.load T x) ty (.agg vs.toArray) := fun ac w e s => by
  obtain ⟨h1, _, _, l1, _, hA, _⟩ := s.pick p
  have hcell : ∀ j u, vs[j]? = some u → w.cell? ((⟨b, off, none⟩ : Addr).add j) = some u := fun j u hj => by
    rw [addr_add, cell_at (l1.at_ _ _ hA)]; rw [← hc, List.getElem?_take] at hj
    split at hj
    · simpa [List.getElem?_drop] using hj
    · cases hj
  have := run_loadVar_agg (P := P) hT hcell; simp [exo, execOp, e.eval hx, Instr.loadAt, Instr.sureAddr, this]
theorem q_loadr {a : Option Addr} {k sz m cap : Nat} {cs : List Value} (hT : isScalar P T = true) (hx : evo σ x = some (ea a k)) (rd : Rd ρ Γ sz a m cap cs) (hc : cs[k]? = some v) : OpQ P E ρ n σ Γ (.load T x) ty v := fun ac w e s => by
  obtain ⟨_, _, _, hcs⟩ := rd E w s; obtain ⟨ad, rfl, hcell⟩ := hcs k v hc; have := run_loadVar_scalar (P := P) hT hcell; simp [exo, execOp, e.eval hx, ea, Instr.loadAt, Instr.sureAddr, this]
theorem q_loadra {a : Option Addr} {k sz m cap : Nat} {cs vs : List Value} (hT : aggSize P T = some vs.length) (hp : 0 < vs.length) (hx : evo σ x = some (ea a k)) (rd : Rd ρ Γ sz a m cap cs) (hc : (cs.drop k).take vs.length = vs) : OpQ P E ρ n σ Γ (.load T x) ty (.agg vs.toArray) := fun ac w e s => by
  obtain ⟨_, _, _, hcs⟩ := rd E w s
  have hget : ∀ j u, vs[j]? = some u → cs[k + j]? = some u := fun j u hj => by
    rw [← hc, List.getElem?_take] at hj
    split at hj
    · simpa [List.getElem?_drop] using hj
    · cases hj
  obtain ⟨ad, rfl, _⟩ := hcs _ _ (hget 0 vs[0] (by simp [hp]))
  have hcell : ∀ j u, vs[j]? = some u → w.cell? ((ad.add k).add j) = some u := fun j u hj => by
    rw [addr_add_add]; obtain ⟨ad', e1, e2⟩ := hcs _ _ (hget j u hj)
    cases e1; exact e2
  have := run_loadVar_agg (P := P) hT hcell; simp [exo, execOp, e.eval hx, ea, Instr.loadAt, Instr.sureAddr, this]
theorem q_len {a : Option Addr} {m cap : Nat} {el : TypeId} (hT : P.underlying T = some (.slice el)) (hx : evo σ x = some (.slice a m cap)) : OpQ P E ρ n σ Γ (.call { callee := .builtin .len, args := #[x], argTypes := #[T] }) ty (.int .i64 m) := fun ac w e s => by
  simp [exo, execOp, resolve, invoke, builtin, Builtin.len_, e.eval hx, underlying, hT, goInt]
theorem q_lens {c : ByteArray} (hT : P.underlying T = some .string) (hx : evo σ x = some (.string c)) : OpQ P E ρ n σ Γ (.call { callee := .builtin .len, args := #[x], argTypes := #[T] }) ty (.int .i64 c.size) := fun ac w e s => by
  simp [exo, execOp, resolve, invoke, builtin, Builtin.len_, e.eval hx, underlying, hT, goInt]
theorem q_min2 {k : IntKind} {a b : Int} {ats : Array TypeId} (hx : evo σ x = some (.int k a)) (hy : evo σ y = some (.int k b)) : OpQ P E ρ n σ Γ (.call { callee := .builtin .min, args := #[x, y], argTypes := ats }) ty (.int k (if b < a then b else a)) := fun ac w e s => by
  simp [exo, execOp, resolve, invoke, builtin, Builtin.min_, Builtin.min2, e.eval hx, e.eval hy]
theorem q_max2 {k : IntKind} {a b : Int} {ats : Array TypeId} (hx : evo σ x = some (.int k a)) (hy : evo σ y = some (.int k b)) : OpQ P E ρ n σ Γ (.call { callee := .builtin .max, args := #[x, y], argTypes := ats }) ty (.int k (if b > a then b else a)) := fun ac w e s => by
  simp [exo, execOp, resolve, invoke, builtin, Builtin.max_, Builtin.max2, e.eval hx, e.eval hy]
theorem q_cut_hi {a : Option Addr} {m cap sz : Nat} {el : TypeId} {k : IntKind} {h : Int} (hT : P.underlying T = some (.slice el)) (hs : sizeIs P el = some sz) (hx : evo σ x = some (.slice a m cap)) (hy : evo σ y = some (.int k h)) (h0 : 0 ≤ h) (h1 : h ≤ cap) :
    OpQ P E ρ n σ Γ (.slice T x none (some y) none) ty (.slice a h.toNat cap) := fun ac w e s => by
  have hr := run_sizeOf hs w; have ha : ∀ q : Addr, q.add 0 = q := fun q => by simp [Addr.add]
  simp [exo, execOp, e.eval hx, e.eval hy, Instr.sliceAt, Instr.slice, underlying, hT, Instr.sliceBounds, Instr.sliceBound, asIntOf, h0, h1, hr]; intro _
  cases a <;> simp [ha]
theorem q_cut_lo {a : Option Addr} {m cap sz : Nat} {el : TypeId} {k : IntKind} {l : Int} (hT : P.underlying T = some (.slice el)) (hs : sizeIs P el = some sz) (hx : evo σ x = some (.slice a m cap)) (hy : evo σ y = some (.int k l)) (h0 : 0 ≤ l) (h1 : l ≤ m) :
    OpQ P E ρ n σ Γ (.slice T x (some y) none none) ty (.slice (sh a cap l.toNat sz) (m - l.toNat) (cap - l.toNat)) := fun ac w e s => by
  have hr := run_sizeOf hs w; simp [exo, execOp, e.eval hx, e.eval hy, Instr.sliceAt, Instr.slice, underlying, hT, Instr.sliceBounds, Instr.sliceBound, asIntOf, h0, h1, hr, sh]
theorem q_cut_lohi {a : Option Addr} {m cap sz : Nat} {el : TypeId} {k k' : IntKind} {l h : Int} (hT : P.underlying T = some (.slice el)) (hs : sizeIs P el = some sz) (hx : evo σ x = some (.slice a m cap)) (hy : evo σ y = some (.int k l)) (hz : evo σ z = some (.int k' h)) (h0 : 0 ≤ l) (h1 : l ≤ h) (h2 : h ≤ cap) :
    OpQ P E ρ n σ Γ (.slice T x (some y) (some z) none) ty (.slice (sh a cap l.toNat sz) (h.toNat - l.toNat) (cap - l.toNat)) := fun ac w e s => by
  have hr := run_sizeOf hs w; have h3 : (0 : Int) ≤ h := by omega
  have h5 : l ≤ max h 0 := by omega
  simp [exo, execOp, e.eval hx, e.eval hy, e.eval hz, Instr.sliceAt, Instr.slice, underlying, hT, Instr.sliceBounds, Instr.sliceBound, asIntOf, h0, h2, h3, h5, hr, sh]
theorem s_box {cs : List Value} (hx : evo σ x = some v) (hv : v.cells = cs.toArray) : OpS P E ρ n σ Γ (.box T x) ty (fun v Γ' => ∃ b, v = .pointer (some ⟨b, 0, none⟩) ∧ Γ' = .pts b cs T :: Γ) := fun ac w e s => by
  refine ⟨_, _, _, _, .inl rfl, ⟨w.heap.size, rfl, rfl⟩, ?_, s.alloc (.pts w.heap.size cs T) (.cells cs.toArray T (0, 0)) (Hp.one_at _ _)⟩; simp [exo, execOp, e.eval hx, Instr.box, newVar, newRow, hv]
theorem s_alloc {i : TypeInfo} {cs : List Value} (hi : P.info? T = some i) (hz : i.zero.map Value.cells = some cs.toArray) : OpS P E ρ n σ Γ (.alloc T) ty (fun v Γ' => ∃ b, v = .pointer (some ⟨b, 0, none⟩) ∧ Γ' = .pts b cs T :: Γ) := fun ac w e s => by
  refine ⟨_, _, _, _, .inl rfl, ⟨w.heap.size, rfl, rfl⟩, ?_, s.alloc (.pts w.heap.size cs T) (.cells cs.toArray T (0, 0)) (Hp.one_at _ _)⟩
  cases hz0 : i.zero with
  | none => rw [hz0] at hz; cases hz
  | some zv =>
    rw [hz0] at hz; simp at hz; simp [exo, execOp, Instr.alloc, zeroValue, typeInfo, hi, hz0, newVar, newRow, hz]
def zeroCs (P : Program) (T : TypeId) : Option (List Value) := ((P.info? T).bind (·.zero)).map (fun z => z.cells.toList)
theorem s_allocz {cs : List Value} (hz : zeroCs P T = some cs) : OpS P E ρ n σ Γ (.alloc T) ty (fun v Γ' => ∃ b, v = .pointer (some ⟨b, 0, none⟩) ∧ Γ' = .pts b cs T :: Γ) := by
  unfold zeroCs at hz
  cases hi : P.info? T with
  | none => rw [hi] at hz; cases hz
  | some i =>
    rw [hi] at hz; simp at hz; obtain ⟨zv, hz1, hz2⟩ := hz; exact s_alloc hi (by rw [hz1]; simp [← hz2])
theorem s_storep {b off : Nat} {cs cs' ws : List Value} {Γ' : List Asn} (hx : evo σ x = some (.pointer (some ⟨b, off, none⟩))) (hy : evo σ y = some v) (hv : v.cells = ws.toArray) (hs : sizeIs P T = some ws.length) (h1 : ∀ u ∈ ws, u.oneCell' = true)
    (hl : off + ws.length ≤ cs.length) (hc : cs.take off ++ ws ++ cs.drop (off + ws.length) = cs') (p : Pick (.pts b cs T') [.pts b cs' T'] Γ Γ') : OpS P E ρ n σ Γ (.store T x y) ty (fun v Γ2 => v = undef ∧ Γ2 = Γ') := fun ac w e s => by
  obtain ⟨e0, s'⟩ := s.put p (b := b) (o0 := .cells cs.toArray T' (0, 0)) (o := .cells cs'.toArray T' (0, 0)) (fun _ h => h) (fun h hb => ⟨h, Hp.none_, (Hp.none_disj h).disj_symm, Hp.le_refl _, Hp.none_le _, hb, trivial⟩); refine ⟨.skip, _, undef, Γ', .inr ⟨rfl, rfl⟩, ⟨rfl, rfl⟩, ?_, s'⟩; have hr := run_storeCells (P := P) ws 0 w b off cs.toArray T' (0, 0) e0 (.inl rfl) (by simpa using hl) h1
  have hw : wr cs.toArray (off + 0) ws = cs'.toArray := by
    rw [← hc]; apply Array.ext_getElem?; intro i; rw [wr_get _ _ _ _ (by simpa using hl)]; simp only [Nat.add_zero, List.getElem?_toArray]
    by_cases h : off ≤ i ∧ i < off + ws.length
    · rw [if_pos h, List.append_assoc, List.getElem?_append_right (by simp; omega), List.getElem?_append_left (by simp; omega)]
      congr 1
      simp; omega
    · rw [if_neg h]
      by_cases h2 : i < off
      · rw [List.append_assoc, List.getElem?_append_left (by simp; omega), List.getElem?_take_of_lt h2]
      · rw [List.getElem?_append_right (by simp; omega), List.getElem?_drop]
        congr 1
        simp; omega
  rw [hw] at hr; have hsz := run_sizeOf hs w; simp [exo, execOp, e.eval hx, e.eval hy, Instr.storeAt, Instr.sureAddr, storeVar, hv, hsz, hr]
theorem s_storer {a : Option Addr} {k sz m cap : Nat} {Te : TypeId} {cs cs' ws : List Value} {Γ' : List Asn} (hx : evo σ x = some (ea a k)) (hy : evo σ y = some v) (hv : v.cells = ws.toArray) (hs : sizeIs P T = some ws.length) (hpos : 0 < ws.length) (h1 : ∀ u ∈ ws, u.oneCell' = true)
    (hl : k + ws.length ≤ cs.length) (hc : cs.take k ++ ws ++ cs.drop (k + ws.length) = cs') (p : Pick (.row Te sz a m cap cs) [.row Te sz a m cap cs'] Γ Γ') : OpS P E ρ n σ Γ (.store T x y) ty (fun v Γ2 => v = undef ∧ Γ2 = Γ') := fun ac w e s => by
  obtain ⟨h0, hr0, d, l1, lr, hA, K⟩ := s.pick p; obtain ⟨hlen, ⟨rfl, rfl, rfl⟩ | ⟨g, cur, fz, rfl, hg, hsf, hn, hcap, hz, ht⟩⟩ := hA
  · have h00 : cs.length = 0 := by simpa using hlen
    omega
  have hlcur : m * sz ≤ cur.size := by rw [hz]; exact Nat.mul_le_mul_right _ hn
  have e0 : hp w g = some (.cells cur Te fz) := l1.at_ _ _ hg; have hbound : 0 + k + ws.length ≤ cur.size := by omega
  have hr := run_storeCells (P := P) ws 0 w g k cur Te fz e0 hsf (by omega) h1; refine ⟨.skip, setBlk w g (.cells (wr cur (k + 0) ws) Te fz), undef, Γ', .inr ⟨rfl, rfl⟩, ⟨rfl, rfl⟩, ?_, ?_⟩
  · have hsz := run_sizeOf hs w; simp [exo, execOp, e.eval hx, e.eval hy, ea, Instr.storeAt, Instr.sureAddr, storeVar, hv, hsz, addr_add]; simp only [Nat.add_zero] at hr; simp [hr]
  · refine K _ (Hp.one g (.cells (wr cur (k + 0) ws) Te fz)) ⟨rfl, rfl, rfl⟩ ⟨_, Hp.none_, (Hp.none_disj _).disj_symm, Hp.le_refl _, Hp.none_le _, ?_, trivial⟩ (Hp.one_disj (d.out hg)) (Hp.one_le (hp_setBlk e0)) ⟨fun q o hq => ?_⟩
    · refine ⟨by rw [← hc]; simp; omega, .inr ⟨g, _, fz, rfl, Hp.one_at _ _, by rwa [wr_size], hn, hcap, by rw [wr_size]; exact hz, ?_⟩⟩; rw [← hc, ← ht]; apply List.ext_getElem?; intro i; rw [List.getElem?_take]; have hlc : (cur.toList.take (m * sz)).length = m * sz := by simp; omega
      have hkw : k + ws.length ≤ m * sz := by omega
      by_cases h : k ≤ i ∧ i < k + ws.length
      · rw [if_pos (by omega), Array.getElem?_toList, wr_get _ _ _ _ (by omega), if_pos (by omega), List.append_assoc, List.getElem?_append_right (by simp; omega), List.getElem?_append_left (by simp; omega)]
        congr 1
        simp; omega
      · by_cases h2 : i < k
        · rw [if_pos (by omega), Array.getElem?_toList, wr_get _ _ _ _ (by omega), if_neg (by omega), List.append_assoc, List.getElem?_append_left (by simp; omega), List.getElem?_take_of_lt h2, List.getElem?_take_of_lt (by omega), Array.getElem?_toList]
        · rw [List.getElem?_append_right (by simp; omega), List.getElem?_drop]
          by_cases h3 : i < m * sz
          · rw [if_pos h3, Array.getElem?_toList, wr_get _ _ _ _ (by omega), if_neg (by omega), List.getElem?_take_of_lt (by simp; omega), Array.getElem?_toList]
            congr 1
            simp; omega
          · rw [if_neg h3, List.getElem?_eq_none (by simp; omega)]
    · have hne : q ≠ g := fun e' => by subst e'; rw [d.out hg] at hq; cases hq
      rw [hp_setBlk_ne hne]; exact lr.at_ _ _ hq
end
end Go.SL
namespace Go.SL
open Go
def pe (a : Option Addr) (j sz off : Nat) : Value := ea a (j * sz + off)
theorem flat_len {α : Type} {enc : α → List Value} {sz : Nat} (h : ∀ x, (enc x).length = sz) : ∀ xs : List α, (xs.flatMap enc).length = xs.length * sz
  | [] => by simp
  | x :: xs => by
    rw [List.flatMap_cons, List.length_append, h, flat_len h xs, List.length_cons, Nat.add_mul]; omega
theorem flat_get {α : Type} {enc : α → List Value} {sz : Nat} (h : ∀ x, (enc x).length = sz) : ∀ (xs : List α) (j off : Nat) (hj : j < xs.length), off < sz → (xs.flatMap enc)[j * sz + off]? = (enc xs[j])[off]?
  | x :: xs, 0, off, hj, ho => by
    rw [List.flatMap_cons, List.getElem?_append_left (by rw [h]; omega)]; simp
  | x :: xs, j + 1, off, hj, ho => by
    rw [List.flatMap_cons, List.getElem?_append_right (by rw [h, Nat.add_mul]; omega), h, show (j + 1) * sz + off - sz = j * sz + off from by rw [Nat.add_mul]; omega,
      flat_get h xs j off (by simpa using hj) ho]
    simp
theorem flat_drop {α : Type} {enc : α → List Value} {sz : Nat} (h : ∀ x, (enc x).length = sz) : ∀ (xs : List α) (j : Nat), (xs.flatMap enc).drop (j * sz) = (xs.drop j).flatMap enc
  | [], j => by simp
  | x :: xs, 0 => by simp
  | x :: xs, j + 1 => by
    rw [List.flatMap_cons, List.drop_append, h, show (j + 1) * sz - sz = j * sz from by rw [Nat.add_mul]; omega, flat_drop h xs j, List.drop_eq_nil_of_le (by rw [h, Nat.add_mul]; omega)]; simp
theorem flat_take {α : Type} {enc : α → List Value} {sz : Nat} (h : ∀ x, (enc x).length = sz) : ∀ (xs : List α) (j : Nat), (xs.flatMap enc).take (j * sz) = (xs.take j).flatMap enc
  | [], j => by simp
  | x :: xs, 0 => by simp
  | x :: xs, j + 1 => by
    rw [List.flatMap_cons, List.take_append, h, show (j + 1) * sz - sz = j * sz from by rw [Nat.add_mul]; omega, flat_take h xs j, List.take_of_length_le (by rw [h, Nat.add_mul]; omega)]; simp
theorem flat_set {α : Type} {enc : α → List Value} {sz : Nat} (h : ∀ x, (enc x).length = sz) (xs : List α) (j : Nat) (hj : j < xs.length) (y : α) :
    (xs.set j y).flatMap enc = (xs.flatMap enc).take (j * sz) ++ enc y ++ (xs.flatMap enc).drop ((j + 1) * sz) := by
  rw [flat_take h, flat_drop h, List.set_eq_take_append_cons_drop, if_pos hj]; simp
theorem flat_set_off {α : Type} {enc : α → List Value} {sz : Nat} (h : ∀ x, (enc x).length = sz) (xs : List α) (j : Nat) (hj : j < xs.length) (y : α) (off : Nat) (ws : List Value) (hw : off + ws.length ≤ sz)
    (he : (enc xs[j]).take off ++ ws ++ (enc xs[j]).drop (off + ws.length) = enc y) :
    (xs.flatMap enc).take (j * sz + off) ++ ws ++ (xs.flatMap enc).drop (j * sz + off + ws.length) = (xs.set j y).flatMap enc := by
  rw [flat_set h xs j hj y, ← he]; have hl := flat_len h xs; have h1 : j * sz + sz ≤ xs.length * sz := by rw [← Nat.succ_mul]; exact Nat.mul_le_mul_right _ hj
  have hx : ∀ o, o < sz → (xs.flatMap enc)[j * sz + o]? = (enc xs[j])[o]? := fun o ho => flat_get h xs j o hj ho; have hy := h xs[j]; have hj2 : (j + 1) * sz = j * sz + sz := Nat.succ_mul j sz
  generalize xs.flatMap enc = F at hl hx ⊢
  generalize enc xs[j] = G at hx hy ⊢
  generalize hM : j * sz = M at *
  rw [hj2]; apply List.ext_getElem?; intro i; simp only [List.append_assoc]
  by_cases c1 : i < M
  · rw [List.getElem?_append_left (by simp; omega), List.getElem?_append_left (by simp; omega), List.getElem?_take_of_lt (by omega), List.getElem?_take_of_lt (by omega)]
  · obtain ⟨o, rfl⟩ : ∃ o, i = M + o := ⟨i - M, by omega⟩
    rw [show ∀ (A B : List Value), (List.take M F ++ (A ++ B))[M + o]? = (A ++ B)[o]? from fun A B => by
      rw [List.getElem?_append_right (by simp; omega)]; congr 1; simp; omega]
    by_cases c2 : o < off
    · rw [List.getElem?_append_left (by simp; omega), List.getElem?_take_of_lt (by omega), hx o (by omega), List.getElem?_append_left (by simp; omega), List.getElem?_take_of_lt (by omega)]
    · by_cases c3 : o < off + ws.length
      · rw [List.getElem?_append_right (by simp; omega), List.getElem?_append_left (by simp; omega), List.getElem?_append_right (by simp; omega), List.getElem?_append_left (by simp; omega)]
        congr 1; simp; omega
      · by_cases c4 : o < sz
        · rw [List.getElem?_append_right (by simp; omega), List.getElem?_append_right (by simp; omega), List.getElem?_drop, List.getElem?_append_right (by simp; omega), List.getElem?_append_right (by simp; omega),
            List.getElem?_append_left (by simp; omega), List.getElem?_drop]
          rw [show M + off + ws.length + (M + o - (List.take (M + off) F).length - ws.length) = M + o from by simp; omega, hx o c4]
          congr 1; simp; omega
        · rw [List.getElem?_append_right (by simp; omega), List.getElem?_append_right (by simp; omega), List.getElem?_drop, List.getElem?_append_right (by simp; omega), List.getElem?_append_right (by simp; omega),
            List.getElem?_append_right (by simp; omega), List.getElem?_drop]
          congr 1; simp; omega
section
variable {P : Program} {E : World} {ρ : Hp} {n : Fz} {σ : Slots} {Γ Γ' : List Asn} {ty : TypeId} {x y z : Operand} {v u : Value} {T T' : TypeId} {α : Type} [Inhabited α] {enc : α → List Value} {sz : Nat} {a : Option Addr} {cap : Nat}
theorem q_indexe {m : Nat} {cs : List Value} {el : TypeId} {k : IntKind} {i : Int} (j : Nat) (hT : P.underlying T = some (.slice el)) (hs : sizeIs P el = some sz) (hx : evo σ x = some (.slice a m cap)) (hy : evo σ y = some (.int k i))
    (rd : Rd ρ Γ sz a m cap cs) (hz : 0 < sz) (hi : i = (j : Int)) (h1 : j < m) : OpQ P E ρ n σ Γ (.indexAddr T x y) ty (pe a j sz 0) := by
  have := q_index (P := P) (E := E) (n := n) (ty := ty) (ρ := ρ) (Γ := Γ) hT hs hz hx hy rd (by omega) (by omega); rw [hi] at this; exact this
theorem q_fielde {j off o i : Nat} {Tf : TypeId} (hx : evo σ x = some (pe a j sz off)) (hf : fieldOff P T i = some (o, Tf)) : OpQ P E ρ n σ Γ (.fieldAddr T x i) ty (pe a j sz (off + o)) := by
  have := q_fieldr (P := P) (E := E) (n := n) (ty := ty) (ρ := ρ) (Γ := Γ) (k := j * sz + off) hx hf; rw [Nat.add_assoc] at this; exact this
theorem q_loade {m j off : Nat} {xs : List α} (hT : isScalar P T = true) (hx : evo σ x = some (pe a j sz off)) (rd : Rd ρ Γ sz a m cap (xs.flatMap enc)) (he : ∀ x, (enc x).length = sz) (hj : j < xs.length) (ho : off < sz)
    (hv : (enc (xs.getD j default))[off]? = some v) : OpQ P E ρ n σ Γ (.load T x) ty v := by
  refine q_loadr (k := j * sz + off) hT hx rd ?_; rw [flat_get he xs j off hj ho]; simpa [List.getD, List.getElem?_eq_getElem hj] using hv
theorem q_loadea {m j off : Nat} {xs : List α} {vs : List Value} (hT : aggSize P T = some vs.length) (hx : evo σ x = some (pe a j sz off)) (rd : Rd ρ Γ sz a m cap (xs.flatMap enc)) (he : ∀ x, (enc x).length = sz) (hj : j < xs.length) (hp : 0 < vs.length) (ho : off + vs.length ≤ sz)
    (hv : ((enc (xs.getD j default)).drop off).take vs.length = vs) : OpQ P E ρ n σ Γ (.load T x) ty (.agg vs.toArray) := by
  refine q_loadra (k := j * sz + off) hT hp hx rd ?_; apply List.ext_getElem?; intro i; have hv' : ((enc xs[j]).drop off).take vs.length = vs := by simpa [List.getD, List.getElem?_eq_getElem hj] using hv
  by_cases c : i < vs.length
  · rw [List.getElem?_take_of_lt c, List.getElem?_drop, show j * sz + off + i = j * sz + (off + i) from by omega, flat_get he xs j (off + i) hj (by omega)]
    conv => rhs; rw [← hv']
    rw [List.getElem?_take_of_lt c, List.getElem?_drop]
  · rw [List.getElem?_eq_none (by simp; omega), List.getElem?_eq_none (by omega)]
theorem s_storee {m j off : Nat} {xs : List α} {Te : TypeId} {ws : List Value} {Γ' : List Asn} (w : α) (hx : evo σ x = some (pe a j sz off)) (hy : evo σ y = some v) (hv : v.cells = ws.toArray) (hs : sizeIs P T = some ws.length) (hpos : 0 < ws.length) (h1 : ∀ u ∈ ws, u.oneCell' = true)
    (p : Pick (.row Te sz a m cap (xs.flatMap enc)) [.row Te sz a m cap ((xs.set j w).flatMap enc)] Γ Γ') (he : ∀ x, (enc x).length = sz) (hj : j < xs.length) (ho : off + ws.length ≤ sz)
    (hw : (enc (xs.getD j default)).take off ++ ws ++ (enc (xs.getD j default)).drop (off + ws.length) = enc w) : OpS P E ρ n σ Γ (.store T x y) ty (fun v Γ2 => v = undef ∧ Γ2 = Γ') := by
  have hw' : (enc xs[j]).take off ++ ws ++ (enc xs[j]).drop (off + ws.length) = enc w := by simpa [List.getD, List.getElem?_eq_getElem hj] using hw
  have hl := flat_len he xs; have h2 : j * sz + sz ≤ xs.length * sz := by rw [← Nat.succ_mul]; exact Nat.mul_le_mul_right _ hj
  exact s_storer (k := j * sz + off) hx hy hv hs hpos h1 (by omega) (flat_set_off he xs j hj w off ws ho hw') p
theorem run_append {w : World} {ty e : TypeId} {i : TypeInfo} {zv : Value} {h : Hp} {m : Nat} {cs : List Value} {sa : Option Addr} {sm sc : Nat} {news : List Value} (ht : P.underlying T = some (.slice e)) (hi : P.info? e = some i) (hz : i.zero = some zv) (hsz : i.size = sz) (hzs : zv.cells.size = sz) (hs0 : 0 < sz)
    (hr : rowIn h e sz a m cap cs) (hl : h.le (hp w)) (hn : news.length = sm * sz) (hrd : ∀ j c, news[j]? = some c → ∃ ad, sa = some ad ∧ w.cell? (ad.add j) = some c) (h1 : ∀ u ∈ news, u.oneCell' = true) (hb : (m + sm) * i.bytes ≤ 140737488355328) (hm : m + sm ≤ 9223372036854775807) :
    ∃ a' cap' w' h', (Builtin.append_ #[T, T] ty #[.slice a m cap, .slice sa sm sc]).run P w = .ok (.slice a' (m + sm) cap') w' ∧ rowIn h' e sz a' (m + sm) cap' (cs ++ news) ∧ h'.le (hp w') ∧ (w'.os = w.os ∧ w'.tape = w.tape ∧ w'.output = w.output) ∧
      (∀ k : Hp, h.disj k → k.le (hp w) → h'.disj k ∧ k.le (hp w')) := by
  have hlen : (cs ++ news).length = (m + sm) * sz := by rw [List.length_append, hr.1, hn, Nat.add_mul]
  have fresh : ∀ (k : Hp) (o : Obj), k.le (hp w) → (Hp.one w.heap.size o).disj k ∧ k.le (hp (w.drew.alloc o)) := fun k o lk => by
    refine ⟨Hp.one_disj ?_, ⟨fun b o' e' => ?_⟩⟩
    · cases e' : k w.heap.size with
      | none => rfl
      | some o' =>
        have h1 : w.heap[w.heap.size]? = some o' := lk.at_ _ _ e'; simp at h1
    · have h1 : w.heap[b]? = some o' := lk.at_ _ _ e'; have hlt : b < w.heap.size := (Array.getElem?_eq_some_iff.1 h1).1; show (w.heap.push o)[b]? = some o'; rw [Array.getElem?_push, if_neg (by omega)]; exact h1
  have made : ∀ (cap' : Nat) (rest : Array Value), m + sm ≤ cap' → cap' ≤ maxLen → rest.size = (cap' - (m + sm)) * sz →
      rowIn (Hp.one w.heap.size (.cells ((cs ++ news).toArray ++ rest) e (0, 0))) e sz (some ⟨w.heap.size, 0, none⟩) (m + sm) cap' (cs ++ news) := fun cap' rest hc hc' hrs => by
    refine ⟨hlen, .inr ⟨_, _, _, rfl, Hp.one_at _ _, .inl rfl, hc, hc', ?_, ?_⟩⟩
    · rw [Array.size_append, hrs, List.size_toArray, hlen, ← Nat.add_mul]; congr 1; omega
    · rw [Array.toList_append, ← hlen]; exact List.take_left
  by_cases hm0 : sm = 0
  · 
    subst hm0; have hnn : news = [] := List.eq_nil_of_length_eq_zero (by simpa using hn); subst hnn; have hcap := hr.reads.2.1; refine ⟨a, cap, w, h, ?_, by simpa using hr, hl, ⟨rfl, rfl, rfl⟩, fun k d lk => ⟨d, lk⟩⟩
    have hfc : (Builtin.firstCells sz 0 (.slice sa 0 sc)).run P w = .ok #[] w := by
      cases sa <;> simp [Builtin.firstCells, loadCells, loadCellsFrom]
    have hfc' : (Builtin.firstCells i.size 0 (.slice sa 0 sc)).run P w = .ok #[] w := by rw [hsz]; exact hfc
    cases a <;> simp [Builtin.append_, run_underlying ht, sizeOf, typeInfo, hi, Builtin.lenOf, hcap, hfc', storeCells]
  have hsa : ∃ ad, sa = some ad := by
    have : 0 < news.length := by rw [hn]; exact Nat.mul_pos (by omega) hs0
    obtain ⟨ad, e1, _⟩ := hrd 0 news[0] (by simp [this]); exact ⟨ad, e1⟩
  obtain ⟨ad, rfl⟩ := hsa
  have hrd' : ∀ j c, news[j]? = some c → w.cell? (ad.add j) = some c := fun j c e' => by
    obtain ⟨ad', e1, e2⟩ := hrd j c e'
    cases e1; exact e2
  have hn' : news.length = sm * i.size := by rw [hsz]; exact hn
  rcases hr.2 with ⟨rfl, rfl, rfl⟩ | ⟨g, cur, fz, rfl, hg, hsf, hnc, hcm, hcs, htk⟩
  · have hcs0 : cs = [] := List.eq_nil_of_length_eq_zero (by simpa using hr.1); subst hcs0; have hrun := run_append_nil (P := P) w T ty e i zv ht hi hz ad sm sc news hn' hrd' (by omega) (by omega) (by have := hb; rw [Nat.zero_add] at this; omega); simp only [Nat.zero_add] at *; refine ⟨_, _, _, _, hrun, made _ _ (grownCap_ge w sm 0 e) (grownCap_le_maxLen w sm 0 e (by simp only [maxLen]; omega)) (by rw [size_zeroCells, hzs]), ?_, ⟨rfl, rfl, rfl⟩, fun k _ lk => fresh k _ lk⟩; refine Hp.one_le ?_; show (w.heap.push _)[w.heap.size]? = _; simp
  · by_cases hroom : m + sm ≤ cap
    · have e0 : hp w g = some (.cells cur e fz) := hl.at_ _ _ hg; have hfit : m * sz + 0 + news.length ≤ cur.size := by rw [hn, hcs, Nat.add_zero, ← Nat.add_mul]; exact Nat.mul_le_mul_right _ hroom
      have hst := run_storeCells (P := P) news 0 w g (m * sz) cur e fz e0 hsf hfit h1; have hf := run_firstCells_some (P := P) w i.size sm ad sm sc news hn' hrd'; refine ⟨some ⟨g, 0, none⟩, cap, setBlk w g (.cells (wr cur (m * sz + 0) news) e fz), Hp.one g (.cells (wr cur (m * sz + 0) news) e fz), ?_, ?_, Hp.one_le (hp_setBlk e0), ⟨rfl, rfl, rfl⟩, fun k d lk => ⟨Hp.one_disj (d.out hg), ⟨fun q o hq => ?_⟩⟩⟩
      · have ead : (⟨g, 0, none⟩ : Addr).add (m * i.size) = ⟨g, m * sz, none⟩ := by rw [addr_add, hsz]; simp
        simp [Builtin.append_, run_underlying ht, sizeOf, typeInfo, hi, Builtin.lenOf, hroom, hf, ead]; simp only [Nat.add_zero] at hst; simp [hst]
      · refine ⟨hlen, .inr ⟨g, _, fz, rfl, Hp.one_at _ _, by rwa [wr_size], hroom, hcm, by rw [wr_size]; exact hcs, ?_⟩⟩; apply List.ext_getElem?; intro i'; have hc1 : cs.length = m * sz := hr.1; rw [List.getElem?_take]
        by_cases c : i' < (m + sm) * sz
        · rw [if_pos c, Array.getElem?_toList, wr_get _ _ _ _ hfit]; rw [Nat.add_mul] at c
          by_cases c2 : i' < m * sz
          · rw [if_neg (by omega), List.getElem?_append_left (by omega), ← htk, List.getElem?_take_of_lt c2, Array.getElem?_toList]
          · rw [if_pos (by omega), List.getElem?_append_right (by omega), hc1]; simp
        · rw [if_neg c, List.getElem?_eq_none (by omega)]
      · have hne : q ≠ g := fun e' => by subst e'; rw [d.out hg] at hq; cases hq
        rw [hp_setBlk_ne hne]; exact lk.at_ _ _ hq
    · have holds : ∀ j c, cs[j]? = some c → w.cell? ((⟨g, 0, none⟩ : Addr).add j) = some c := fun j c e' => by
        obtain ⟨ad', e1, e2⟩ := hr.reads.2.2.2 j c e'
        cases e1; exact cell_of_le hl e2
      have hrun := run_append_grow (P := P) w T ty e i zv ht hi hz ⟨g, 0, none⟩ m cap cs (by rw [hsz]; exact hr.1) holds ad sm sc news hn' hrd' (by omega) (by omega) (growslice_fits (by omega) hb); refine ⟨_, _, _, _, hrun, ?_, ?_, ⟨rfl, rfl, rfl⟩, fun k _ lk => fresh k _ lk⟩
      · have := made (grownCap w (m + sm) cap e) (Builtin.zeroCells zv.cells (grownCap w (m + sm) cap e - (m + sm))) (grownCap_ge w _ _ e) (grownCap_le_maxLen w _ _ e (by simp only [maxLen]; omega)) (by rw [size_zeroCells, hzs]); simpa using this
      · refine Hp.one_le ?_; show (w.heap.push _)[w.heap.size]? = _; simp
def elemOk (P : Program) (e : TypeId) (sz bytes : Nat) : Bool := match P.info? e with
  | some i => (match i.zero with | some z => z.cells.size == sz | none => false) && i.size == sz && i.bytes == bytes
  | none => false
theorem elemOk_spec {e : TypeId} {bytes : Nat} (h : elemOk P e sz bytes = true) : ∃ i zv, P.info? e = some i ∧ i.zero = some zv ∧ zv.cells.size = sz ∧ i.size = sz ∧ i.bytes = bytes := by
  unfold elemOk at h
  cases hi : P.info? e with
  | none => rw [hi] at h; cases h
  | some i =>
    rw [hi] at h; dsimp only at h
    cases hz : i.zero with
    | none => rw [hz] at h; simp at h
    | some zv =>
      rw [hz] at h; simp at h; exact ⟨i, zv, rfl, hz, h.1.1, h.1.2, h.2⟩
theorem s_append {e : TypeId} {bytes m sm sc : Nat} {cs news : List Value} {sa : Option Addr} {Γ' : Option Addr → Nat → List Asn} (ht : P.underlying T = some (.slice e)) (hok : elemOk P e sz bytes = true) (hs0 : 0 < sz) (hx : evo σ x = some (.slice a m cap)) (hy : evo σ y = some (.slice sa sm sc))
    (rd : Rd ρ Γ sz sa sm sc news) (h1 : ∀ u ∈ news, u.oneCell' = true) (hb : (m + sm) * bytes ≤ 140737488355328) (hm : m + sm ≤ 9223372036854775807) (p : ∀ a' cap', Pick (.row e sz a m cap cs) [.row e sz a' (m + sm) cap' (cs ++ news)] Γ (Γ' a' cap')) :
    OpS P E ρ n σ Γ (.call { callee := .builtin .append, args := #[x, y], argTypes := #[T, T] }) ty (fun v Γ2 => ∃ a' cap', v = .slice a' (m + sm) cap' ∧ Γ2 = Γ' a' cap') := fun ac w ev s => by
  obtain ⟨i, zv, hi, hz, k1, k2, k3⟩ := elemOk_spec hok; obtain ⟨hn, _, _, hrd⟩ := rd E w s; obtain ⟨h0, hr0, d, l1, lr, hA, -⟩ := s.pick (p none 0); obtain ⟨a', cap', w', h', hrun, hrow, hle, hext, hfr⟩ := run_append (P := P) (w := w) (ty := ty) (sc := sc) ht hi hz k2 k1 hs0 hA l1 hn hrd h1 (by rw [k3]; exact hb) hm; refine ⟨.value (.slice a' (m + sm) cap'), w', _, Γ' a' cap', .inl rfl, ⟨a', cap', rfl, rfl⟩, ?_, ?_⟩
  · simp [exo, execOp, resolve, invoke, builtin, ev.eval hx, ev.eval hy, hrun]
  · obtain ⟨h0', hr0', d', l1', lr', hA', K'⟩ := s.pick (p a' cap'); obtain ⟨a2, cap2, w2, h2, hrun2, hrow2, hle2, hext2, hfr2⟩ := run_append (P := P) (w := w) (ty := ty) (sc := sc) ht hi hz k2 k1 hs0 hA' l1' hn hrd h1 (by rw [k3]; exact hb) hm; rw [hrun] at hrun2; simp only [Result.ok.injEq, Value.slice.injEq, true_and] at hrun2; obtain ⟨⟨rfl, rfl⟩, rfl⟩ := hrun2; obtain ⟨dd, ll⟩ := hfr2 hr0' d' lr'; exact K' _ h2 hext2 ⟨h2, Hp.none_, (Hp.none_disj _).disj_symm, Hp.le_refl _, Hp.none_le _, hrow2, trivial⟩ dd hle2 ll
def evp (σ : Slots) : List (Nat × Operand) → Option (List (Nat × Value))
  | [] => some []
  | (i, x) :: xs => match evo σ x, evp σ xs with
    | some v, some vs => some ((i, v) :: vs)
    | _, _ => none
theorem Env.evalp {ac : Act} (h : Env n σ ac) : ∀ {xs : List (Nat × Operand)} {vs : List (Nat × Value)}, evp σ xs = some vs → xs.map (fun (q : Nat × Operand) => (q.1, ac.eval q.2)) = vs
  | [], vs, e => by simp [evp] at e; simp [← e]
  | (i, x) :: xs, vs, e => by
    simp only [evp] at e
    split at e
    · rename_i v vs' h1 h2
      cases e
      simp [h.eval h1, Env.evalp h h2]
    · cases e
def litCells : List (Nat × Value) → List Value
  | [] => []
  | (_, v) :: ps => v.cells.toList ++ litCells ps
def litOk (sz : Nat) : List (Nat × Value) → Nat → Bool
  | [], _ => true
  | (i, v) :: ps, k => Nat.beq i k && Nat.beq v.cells.size sz && litOk sz ps (k + 1)
theorem zip_fold (off : Nat) : ∀ (vs : List Value) (k : Nat) (cs : Array Value), (vs.zipIdx k).foldl (fun cs (p : Value × Nat) => cs.setIfInBounds (off + p.2) p.1) cs = wr cs (off + k) vs
  | [], k, cs => rfl
  | v :: vs, k, cs => by
    rw [List.zipIdx_cons, List.foldl_cons, zip_fold off vs (k + 1), wr]; rfl
theorem fill_lit (sz : Nat) : ∀ (ps : List (Nat × Value)) (k : Nat) (cs : Array Value), litOk sz ps k = true → (k + ps.length) * sz ≤ cs.size → Instr.fill (fun i => some (i * sz, sz)) cs ps = some (wr cs (k * sz) (litCells ps))
  | [], k, cs, _, _ => rfl
  | (i, v) :: ps, k, cs, h, hl => by
    simp only [litOk, Bool.and_eq_true] at h; obtain ⟨⟨h1, h2⟩, h3⟩ := h; have e1 : i = k := Nat.eq_of_beq_eq_true h1; have e2 : v.cells.size = sz := Nat.eq_of_beq_eq_true h2; subst e1; simp only [List.length_cons] at hl
    have hb : i * sz + sz ≤ cs.size := by
      refine Nat.le_trans ?_ hl; rw [← Nat.succ_mul]; exact Nat.mul_le_mul_right _ (by omega)
    simp only [Instr.fill]; rw [if_neg (by simp [e2]; omega)]
    have hz : (v.cells.zipIdx.foldl (fun cs (p : Value × Nat) => cs.setIfInBounds (i * sz + p.2) p.1) cs) = wr cs (i * sz) v.cells.toList := by
      rw [← Array.foldl_toList, Array.toList_zipIdx, zip_fold]; rfl
    have hz' : (Array.foldl (fun cs x => match x with | (c, j) => cs.setIfInBounds (i * sz + j) c) cs v.cells.zipIdx) = wr cs (i * sz) v.cells.toList := hz; rw [hz', fill_lit sz ps (i + 1) _ h3 (by rw [wr_size]; have h9 : i + 1 + ps.length = i + (ps.length + 1) := (by omega); rw [h9]; exact hl)]; rw [litCells]
    congr 1
    have : ∀ (xs ys : List Value) (c : Array Value) (o : Nat), wr c o (xs ++ ys) = wr (wr c o xs) (o + xs.length) ys := by
      intro xs
      induction xs with
      | nil => intro ys c o; rfl
      | cons x xs ih => intro ys c o; simp only [List.cons_append, wr, ih, List.length_cons]; rw [show o + 1 + xs.length = o + (xs.length + 1) from by omega]
    rw [this, Array.length_toList, e2, Nat.succ_mul]
theorem litCells_len (sz : Nat) : ∀ (ps : List (Nat × Value)) (k : Nat), litOk sz ps k = true → (litCells ps).length = ps.length * sz
  | [], _, _ => by simp [litCells]
  | (i, v) :: ps, k, h => by
    simp only [litOk, Bool.and_eq_true] at h; obtain ⟨⟨h1, h2⟩, h3⟩ := h; have e2 : v.cells.size = sz := Nat.eq_of_beq_eq_true h2; rw [litCells, List.length_append, litCells_len sz ps (k + 1) h3, Array.length_toList, e2, List.length_cons, Nat.succ_mul]; omega
theorem s_buildSlice {e : TypeId} {bytes len : Nat} {ps : List (Nat × Operand)} {vs : List (Nat × Value)} {cs : List Value} (ht : P.underlying T = some (.slice e)) (hok : elemOk P e sz bytes = true) (hx : evp σ ps = some vs) (hl : litOk sz vs 0 = true) (hn : vs.length = len) (hc : litCells vs = cs) (hm : len * sz ≤ 16777216) (hm2 : len ≤ 16777216) :
    OpS P E ρ n σ Γ (.buildSlice T len ps.toArray) ty (fun v Γ2 => ∃ b, v = .slice (some ⟨b, 0, none⟩) len len ∧ Γ2 = .row e sz (some ⟨b, 0, none⟩) len len cs :: Γ) := fun ac w ev s => by
  obtain ⟨i, zv, hi, hzz, k1, k2, k3⟩ := elemOk_spec hok; have hcl : cs.length = len * sz := by rw [← hc, litCells_len sz vs 0 hl, hn]
  have hev : List.map (fun (q : Nat × Operand) => (q.1, ac.eval q.2)) ps = vs := Env.evalp ev hx
  have hfill : ∀ c0 : Array Value, c0.size = len * sz → Instr.fill (fun i => some (i * sz, sz)) c0 vs = some cs.toArray := fun c0 h0 => by
    rw [fill_lit sz vs 0 c0 hl (by rw [Nat.zero_add, hn]; omega), hc]
    congr 1
    apply Array.ext_getElem?; intro j; rw [wr_get _ _ _ _ (by omega)]
    by_cases hj : j < len * sz
    · rw [if_pos (by omega)]; simp
    · rw [if_neg (by omega), Array.getElem?_eq_none (by omega), Array.getElem?_eq_none (by simp only [List.size_toArray]; omega)]
  have hno : ¬ (16777216 < len * sz) := by omega
  have hfill2 : Instr.fill (fun j => some (j * i.size, i.size)) ((Array.range (len * i.size)).map (fun j => zv.cells[j % zv.cells.size]!)) vs = some cs.toArray := by rw [k2]; exact hfill _ (by simp)
  refine ⟨.value _, _, _, _, .inl rfl, ⟨w.heap.size, rfl, rfl⟩, ?_, s.alloc (.row e sz (some ⟨w.heap.size, 0, none⟩) len len cs) (.cells cs.toArray e (0, 0)) ?_⟩
  · by_cases h0 : len * i.size = 0
    · have hfill3 : Instr.fill (fun j => some (j * i.size, i.size)) ((Array.range (len * i.size)).map (fun j => (#[] : Array Value)[j % (#[] : Array Value).size]!)) vs = some cs.toArray := by rw [k2]; exact hfill _ (by simp)
      have h0' := h0; rw [k2] at h0'; simp only [exo, execOp, Instr.buildSlice, Sem.run_bind, run_underlying ht, Result.andThen_ok, sizeOf, typeInfo, run_program, hi, Sem.run_pure]; rw [if_neg (by rw [k2]; exact hno)]; simp only [h0, if_true, List.map_toArray, hev, Sem.run_pure, Result.andThen_ok, Sem.run_bind]; rw [h0] at hfill3; rw [hfill3]; rfl
    · simp only [exo, execOp, Instr.buildSlice, Sem.run_bind, run_underlying ht, Result.andThen_ok, sizeOf, typeInfo, run_program, hi, Sem.run_pure]; rw [if_neg (by rw [k2]; exact hno)]; simp only [h0, if_false, List.map_toArray, hev, Sem.run_pure, Result.andThen_ok, Sem.run_bind, zeroValue, typeInfo, run_program, hi, hzz]; rw [hfill2]; rfl
  · refine ⟨hcl, .inr ⟨_, _, _, rfl, Hp.one_at _ _, .inl rfl, Nat.le_refl _, by simp only [maxLen]; omega, by rw [List.size_toArray, hcl], ?_⟩⟩; rw [← hcl]; simp
end
end Go.SL
namespace Go.SL
open Go
section
variable {P : Program} {E : World} {ρ : Hp} {n : Fz} {σ : Slots} {Γ Γ' : List Asn} {ty : TypeId} {x y z : Operand} {v u : Value} {T T' : TypeId} {a b : Int}
theorem w32 (p : BitVec 32) : IntKind.wrap .u32 (p.toNat : Int) = (p.toNat : Int) := wrap_u32 (by omega) (by have := p.isLt; omega)
theorem ofInt32 (p : BitVec 32) : BitVec.ofInt (IntKind.bits .u32) (p.toNat : Int) = p := by
  show BitVec.ofInt 32 (p.toNat : Int) = p; simp
theorem q32_xor {p q : BitVec 32} (hx : evo σ x = some (.int .u32 a)) (hy : evo σ y = some (.int .u32 b)) (ha : a = (p.toNat : Int)) (hb : b = (q.toNat : Int)) : OpQ P E ρ n σ Γ (.binOp .xor T x y T') ty (.int .u32 ((p ^^^ q).toNat : Int)) := by
  have := q_xor (P := P) (E := E) (ρ := ρ) (n := n) (Γ := Γ) (ty := ty) (T := T) (T' := T') hx hy
  have e : IntKind.wrap .u32 ((BitVec.ofInt (IntKind.bits .u32) a ^^^ BitVec.ofInt (IntKind.bits .u32) b).toNat : Int) = ((p ^^^ q).toNat : Int) := by
    rw [ha, hb, ofInt32, ofInt32]; exact w32 _
  rw [e] at this; exact this
theorem q32_and {p q : BitVec 32} (hx : evo σ x = some (.int .u32 a)) (hy : evo σ y = some (.int .u32 b)) (ha : a = (p.toNat : Int)) (hb : b = (q.toNat : Int)) : OpQ P E ρ n σ Γ (.binOp .and T x y T') ty (.int .u32 ((p &&& q).toNat : Int)) := by
  have := q_and (P := P) (E := E) (ρ := ρ) (n := n) (Γ := Γ) (ty := ty) (T := T) (T' := T') hx hy
  have e : IntKind.wrap .u32 ((BitVec.ofInt (IntKind.bits .u32) a &&& BitVec.ofInt (IntKind.bits .u32) b).toNat : Int) = ((p &&& q).toNat : Int) := by
    rw [ha, hb, ofInt32, ofInt32]; exact w32 _
  rw [e] at this; exact this
theorem q32_shr {p : BitVec 32} {k : IntKind} {m : Nat} (hx : evo σ x = some (.int .u32 a)) (hy : evo σ y = some (.int k b)) (ha : a = (p.toNat : Int)) (hb : b = (m : Int)) (hm : m ≤ 32) : OpQ P E ρ n σ Γ (.binOp .shr T x y T') ty (.int .u32 ((p >>> m).toNat : Int)) := by
  have := q_shr (P := P) (E := E) (ρ := ρ) (n := n) (Γ := Γ) (ty := ty) (T := T) (T' := T') hx hy (by omega)
  have e : (a.fdiv (2 ^ (min b.toNat (IntKind.bits .u32)))) = ((p >>> m).toNat : Int) := by
    rw [ha, hb]; have : min (m : Int).toNat (IntKind.bits .u32) = m := by simp [IntKind.bits]; omega
    rw [this, Int.fdiv_eq_ediv_of_nonneg _ (by exact_mod_cast Nat.zero_le _)]; simp [BitVec.toNat_ushiftRight, Nat.shiftRight_eq_div_pow]
  rw [e] at this; exact this
theorem q32_shl {p : BitVec 32} {k : IntKind} {m : Nat} (hx : evo σ x = some (.int .u32 a)) (hy : evo σ y = some (.int k b)) (ha : a = (p.toNat : Int)) (hb : b = (m : Int)) (hm : m ≤ 32) : OpQ P E ρ n σ Γ (.binOp .shl T x y T') ty (.int .u32 ((p <<< m).toNat : Int)) := by
  have := q_shl (P := P) (E := E) (ρ := ρ) (n := n) (Γ := Γ) (ty := ty) (T := T) (T' := T') hx hy (by omega)
  have e : IntKind.wrap .u32 (a * 2 ^ (min b.toNat (IntKind.bits .u32))) = ((p <<< m).toNat : Int) := by
    rw [ha, hb]; have : min (m : Int).toNat (IntKind.bits .u32) = m := by simp [IntKind.bits]; omega
    rw [this]; simp [BitVec.toNat_shiftLeft, Nat.shiftLeft_eq, IntKind.wrap, IntKind.bits, IntKind.signed]
  rw [e] at this; exact this
theorem q32_neg {p : BitVec 32} (hx : evo σ x = some (.int .u32 a)) (ha : a = (p.toNat : Int)) : OpQ P E ρ n σ Γ (.unOp .neg T x) ty (.int .u32 ((-p).toNat : Int)) := by
  have := q_negw (P := P) (E := E) (ρ := ρ) (n := n) (Γ := Γ) (ty := ty) (T := T) hx
  have e : IntKind.wrap .u32 (0 - a) = ((-p).toNat : Int) := by
    rw [ha]; have := p.isLt; simp [BitVec.toNat_neg, IntKind.wrap, IntKind.bits, IntKind.signed]; omega
  rw [e] at this; exact this
theorem q32_compl {p : BitVec 32} (hx : evo σ x = some (.int .u32 a)) (ha : a = (p.toNat : Int)) : OpQ P E ρ n σ Γ (.unOp .xor T x) ty (.int .u32 ((~~~p).toNat : Int)) := by
  have := q_compl (P := P) (E := E) (ρ := ρ) (n := n) (Γ := Γ) (ty := ty) (T := T) hx
  have e : IntKind.wrap .u32 ((BitVec.ofInt (IntKind.bits .u32) (if IntKind.signed .u32 then -1 else IntKind.max .u32) ^^^ BitVec.ofInt (IntKind.bits .u32) a).toNat : Int) = ((~~~p).toNat : Int) := by
    rw [ha, ofInt32]
    have h : BitVec.ofInt (IntKind.bits .u32) (if IntKind.signed .u32 then -1 else IntKind.max .u32) = (BitVec.allOnes 32 : BitVec 32) := by
      show BitVec.ofInt 32 (if IntKind.signed .u32 then -1 else IntKind.max .u32) = BitVec.allOnes 32
      decide
    rw [h]; have h2 : (BitVec.allOnes 32 ^^^ p : BitVec 32) = ~~~p := BitVec.allOnes_xor; rw [← h2]; exact w32 (BitVec.allOnes 32 ^^^ p)
  rw [e] at this; exact this
theorem q32_or {p q : BitVec 32} (hx : evo σ x = some (.int .u32 a)) (hy : evo σ y = some (.int .u32 b)) (ha : a = (p.toNat : Int)) (hb : b = (q.toNat : Int)) : OpQ P E ρ n σ Γ (.binOp .or T x y T') ty (.int .u32 ((p ||| q).toNat : Int)) := by
  have := q_or (P := P) (E := E) (ρ := ρ) (n := n) (Γ := Γ) (ty := ty) (T := T) (T' := T') hx hy
  have e : IntKind.wrap .u32 ((BitVec.ofInt (IntKind.bits .u32) a ||| BitVec.ofInt (IntKind.bits .u32) b).toNat : Int) = ((p ||| q).toNat : Int) := by
    rw [ha, hb, ofInt32, ofInt32]; exact w32 _
  rw [e] at this; exact this
theorem w64 (p : BitVec 64) : IntKind.wrap .u64 (p.toNat : Int) = (p.toNat : Int) := wrap_u64 (by omega) (by have := p.isLt; omega)
theorem ofInt64 (p : BitVec 64) : BitVec.ofInt (IntKind.bits .u64) (p.toNat : Int) = p := by
  show BitVec.ofInt 64 (p.toNat : Int) = p; simp
theorem q64_xor {p q : BitVec 64} (hx : evo σ x = some (.int .u64 a)) (hy : evo σ y = some (.int .u64 b)) (ha : a = (p.toNat : Int)) (hb : b = (q.toNat : Int)) : OpQ P E ρ n σ Γ (.binOp .xor T x y T') ty (.int .u64 ((p ^^^ q).toNat : Int)) := by
  have := q_xor (P := P) (E := E) (ρ := ρ) (n := n) (Γ := Γ) (ty := ty) (T := T) (T' := T') hx hy
  have e : IntKind.wrap .u64 ((BitVec.ofInt (IntKind.bits .u64) a ^^^ BitVec.ofInt (IntKind.bits .u64) b).toNat : Int) = ((p ^^^ q).toNat : Int) := by
    rw [ha, hb, ofInt64, ofInt64]; exact w64 _
  rw [e] at this; exact this
theorem q64_xor32 {p q : BitVec 32} (hx : evo σ x = some (.int .u64 a)) (hy : evo σ y = some (.int .u64 b)) (ha : a = (p.toNat : Int)) (hb : b = (q.toNat : Int)) : OpQ P E ρ n σ Γ (.binOp .xor T x y T') ty (.int .u64 ((p ^^^ q).toNat : Int)) := by
  have h1 : ∀ r : BitVec 32, (r.toNat : Int) = ((r.setWidth 64).toNat : Int) := fun r => by
    have := r.isLt; rw [BitVec.toNat_setWidth, Nat.mod_eq_of_lt (by omega)]
  have := q64_xor (P := P) (E := E) (ρ := ρ) (n := n) (Γ := Γ) (ty := ty) (T := T) (T' := T') (p := p.setWidth 64) (q := q.setWidth 64) hx hy (by rw [ha, h1]) (by rw [hb, h1]); rw [← BitVec.setWidth_xor, ← h1] at this; exact this
end
def encB (b : UInt8) : List Value := [.int .u8 (b.toNat : Int)]
structure SB where
  a : Option Addr
  cap : Nat
  bs : List UInt8
  deriving Inhabited
theorem u32e {p q : BitVec 32} (h : p = q) : Value.int .u32 (p.toNat : Int) = Value.int .u32 (q.toNat : Int) := by rw [h]
theorem inte {k : IntKind} {p q : Int} (h : p = q) : Value.int k p = Value.int k q := by rw [h]
theorem boole {p q : Bool} (h : p = q) : Value.bool p = Value.bool q := by rw [h]
theorem take_succ_getD {α : Type} [Inhabited α] (l : List α) (k : Nat) (h : k < l.length) : l.take (k + 1) = l.take k ++ [l.getD k default] := by
  rw [List.take_succ_eq_append_getElem h]; simp [List.getD, List.getElem?_eq_getElem h]
theorem getD_mem {α : Type} [Inhabited α] (l : List α) (k : Nat) (h : k < l.length) : l.getD k default ∈ l := by
  simp [List.getD, List.getElem?_eq_getElem h]
theorem oneB (bs : List UInt8) : ∀ u ∈ bs.flatMap encB, u.oneCell' = true := fun u hu => by
  simp only [List.mem_flatMap, encB, List.mem_singleton] at hu; obtain ⟨_, _, rfl⟩ := hu; rfl
end Go.SL
namespace Go.SL
open Go
def placesOf (P : Program) (T : TypeId) : Option (List (Nat × Nat)) := match P.underlying T with
  | some (.struct fs) => fs.toList.mapM fun f => (sizeIs P f.type).map fun s => (f.offset, s)
  | some (.array n e) => (sizeIs P e).map fun s => (List.range n).map fun i => (i * s, s)
  | _ => none
def fillL (pl : List (Nat × Nat)) (cs : List Value) : List (Nat × Value) → Option (List Value)
  | [] => some cs
  | (i, v) :: ps => match pl[i]? with
    | none => none
    | some (off, size) => bif Nat.beq v.cells.toList.length size && Nat.ble (off + size) cs.length then fillL pl (cs.take off ++ v.cells.toList ++ cs.drop (off + size)) ps else none
theorem wr_eq (c : List Value) (off : Nat) (vs : List Value) (h : off + vs.length ≤ c.length) : (wr c.toArray off vs) = (c.take off ++ vs ++ c.drop (off + vs.length)).toArray := by
  apply Array.ext_getElem?; intro i; rw [wr_get _ _ _ _ (by simpa using h)]; simp only [List.getElem?_toArray]
  by_cases c1 : off ≤ i ∧ i < off + vs.length
  · rw [if_pos c1, List.append_assoc, List.getElem?_append_right (by simp; omega), List.getElem?_append_left (by simp; omega)]
    congr 1; simp; omega
  · rw [if_neg c1]
    by_cases c2 : i < off
    · rw [List.append_assoc, List.getElem?_append_left (by simp; omega), List.getElem?_take_of_lt c2]
    · rw [List.getElem?_append_right (by simp; omega), List.getElem?_drop]
      congr 1; simp; omega
theorem fill_fillL (place : Nat → Option (Nat × Nat)) (pl : List (Nat × Nat)) : ∀ (vs : List (Nat × Value)) (cs cs' : List Value), (∀ i x, pl[i]? = some x → place i = some x) → fillL pl cs vs = some cs' → Instr.fill place cs.toArray vs = some cs'.toArray
  | [], cs, cs', _, h => by simp only [fillL] at h; cases h; rfl
  | (i, v) :: ps, cs, cs', hp, h => by
    simp only [fillL] at h
    cases hi : pl[i]? with
    | none => rw [hi] at h; cases h
    | some x =>
      obtain ⟨off, size⟩ := x; rw [hi] at h; dsimp only at h
      cases hb : (Nat.beq v.cells.toList.length size && Nat.ble (off + size) cs.length) with
      | false => rw [hb] at h; cases h
      | true =>
        rw [hb] at h; simp only [Bool.and_eq_true] at hb; have e1 : v.cells.toList.length = size := Nat.eq_of_beq_eq_true hb.1; have e2 : off + size ≤ cs.length := Nat.le_of_ble_eq_true hb.2; have e3 : v.cells.size = size := by simpa using e1
        simp only [Instr.fill, hp i _ hi]; rw [if_neg (by simp [e3]; omega)]
        have hz : (Array.foldl (fun cs x => match x with | (c, j) => cs.setIfInBounds (off + j) c) cs.toArray v.cells.zipIdx) = wr cs.toArray off v.cells.toList := by
          have := zip_fold off v.cells.toList 0 cs.toArray; rw [← Array.toList_zipIdx, Array.foldl_toList] at this; exact this
        rw [hz, wr_eq cs off v.cells.toList (by omega), e1]; exact fill_fillL place pl ps _ _ hp h
section
variable {P : Program} {E : World} {ρ : Hp} {n : Fz} {σ : Slots} {Γ Γ' : List Asn} {ty : TypeId} {x y z : Operand} {v u : Value} {T T' : TypeId}
theorem run_mapM_places (fs : List Field) (w : World) : ∀ pl : List (Nat × Nat), fs.mapM (fun f => (sizeIs P f.type).map fun s => (f.offset, s)) = some pl → (fs.mapM fun f => (do pure (f.offset, ← sizeOf f.type) : Sem (Nat × Nat))).run P w = .ok pl w := by
  induction fs with
  | nil => intro pl h; simp at h; subst h; rfl
  | cons f fs ih =>
    intro pl h; simp only [List.mapM_cons, Option.bind_eq_bind, Option.pure_def, Option.bind_eq_some_iff, Option.map_eq_some_iff] at h; obtain ⟨_, ⟨s, hs, rfl⟩, rest, hr, h⟩ := h
    cases h
    have h1 := run_sizeOf hs w; simp only [List.mapM_cons, Sem.run_bind, h1, Result.andThen_ok, Sem.run_pure, ih rest hr]
theorem q_build {zc cs : List Value} {pl : List (Nat × Nat)} {ps : List (Nat × Operand)} {vs : List (Nat × Value)} (hz : zeroCs P T = some zc) (hp : placesOf P T = some pl) (hx : evp σ ps = some vs) (hc : fillL pl zc vs = some cs) :
    OpQ P E ρ n σ Γ (.build T ps.toArray) ty (.agg cs.toArray) := fun ac w ev s => by
  have hev : List.map (fun (q : Nat × Operand) => (q.1, ac.eval q.2)) ps = vs := Env.evalp ev hx; unfold zeroCs at hz
  cases hi : P.info? T with
  | none => rw [hi] at hz; cases hz
  | some inf =>
  rw [hi] at hz
  cases hzz : inf.zero with
  | none => simp [hzz] at hz
  | some zv =>
  simp [hzz] at hz; have hzv : (zeroValue T).run P w = .ok zv w := by simp [zeroValue, typeInfo, hi, hzz]
  unfold placesOf at hp
  cases hu : P.underlying T with
  | none => rw [hu] at hp; cases hp
  | some dsc =>
  rw [hu] at hp; have hzc : zv.cells = zc.toArray := by rw [← hz]
  cases dsc with
  | struct fs =>
    dsimp only at hp; have hpl := run_mapM_places (P := P) fs.toList w pl hp
    have hpl' : (fs.mapM fun f => (do pure (f.offset, ← sizeOf f.type) : Sem (Nat × Nat))).run P w = .ok pl.toArray w := by
      rw [Array.mapM_eq_mapM_toList, Sem.run_map, hpl]; rfl
    have hf := fill_fillL (fun i => pl.toArray[i]?) pl vs zc cs (fun i q hq => by simpa using hq) hc; simp only [exo, execOp, Instr.build, Sem.run_bind, hzv, run_underlying hu, Result.andThen_ok, hpl', List.map_toArray, hev, hzc]; rw [hf]; rfl
  | array m e =>
    dsimp only at hp; simp only [Option.map_eq_some_iff] at hp; obtain ⟨sz, hs, rfl⟩ := hp; have hsz := run_sizeOf hs w
    have hf := fill_fillL (fun i => some (i * sz, sz)) ((List.range m).map fun i => (i * sz, sz)) vs zc cs (fun i q hq => by
      rw [List.getElem?_map] at hq
      by_cases hi2 : i < m
      · rw [List.getElem?_range hi2] at hq; simpa using hq
      · rw [List.getElem?_eq_none (by simpa using hi2)] at hq; cases hq) hc
    simp only [exo, execOp, Instr.build, Sem.run_bind, hzv, run_underlying hu, Result.andThen_ok, hsz, List.map_toArray, hev, hzc]; rw [hf]; rfl
  | _ => cases hp
variable {a b : Int}
theorem q_quou (hx : evo σ x = some (.int .u64 a)) (hy : evo σ y = some (.int .u64 b)) (ha : 0 ≤ a) (ha' : a ≤ 18446744073709551615) (hb : 0 < b) : OpQ P E ρ n σ Γ (.binOp .quo T x y T') ty (.int .u64 (a / b)) := by
  have := q_quo (P := P) (E := E) (ρ := ρ) (n := n) (Γ := Γ) (ty := ty) (T := T) (T' := T') hx hy (by omega); rw [Int.tdiv_eq_ediv_of_nonneg ha] at this
  rwa [wrap_u64 (by have := Int.ediv_nonneg ha (Int.le_of_lt hb); omega) (by have := Int.ediv_le_self b ha; omega)] at this
end
end Go.SL
namespace Go.SL
open Go
section
variable {P : Program} {E : World} {ρ : Hp} {n : Fz} {σ : Slots} {Γ Γ' : List Asn} {ty : TypeId} {x y z : Operand} {v u : Value} {T T' : TypeId} {a sa : Option Addr} {cap sc sz : Nat}
theorem Ent.nilrow (T : TypeId) (sz : Nat) (Γ : List Asn) : Ent Γ (.row T sz none 0 0 [] :: Γ) := fun h s =>
  ⟨Hp.none_, h, Hp.none_disj _, Hp.none_le _, Hp.le_refl _, ⟨by simp, .inl ⟨rfl, rfl, rfl⟩⟩, s⟩
end
end Go.SL
namespace Go.SL
open Go
structure SL (α : Type) where
  a : Option Addr
  xs : List α
  cap : Nat
instance {α : Type} : Inhabited (SL α) := ⟨⟨none, [], 0⟩⟩
def SL.v {α : Type} (s : SL α) : Value := .slice s.a s.xs.length s.cap
def SL.ro {α : Type} (en : α → List Value) (sz : Nat) (s : SL α) (h : Hp) : Prop := Ro h sz s.a s.xs.length s.cap (s.xs.flatMap en)
def encI (z : Int) : List Value := [.int .i64 z]
theorem SL.ro_nil {α : Type} (en : α → List Value) (sz : Nat) (h : Hp) : (⟨none, [], 0⟩ : SL α).ro en sz h := Ro.nil h sz
theorem SL.ro_mono {α : Type} {en : α → List Value} {sz : Nat} {s : SL α} {h k : Hp} (l : h.le k) (r : s.ro en sz h) : s.ro en sz k := Ro.mono l r
theorem Ent.raw {A : Hp → Prop} (hA : ∀ h, A h) (Γ : List Asn) : Ent Γ (.raw A :: Γ) := fun h s =>
  ⟨Hp.none_, h, Hp.none_disj _, Hp.none_le _, Hp.le_refl _, hA _, s⟩
section
variable {P : Program} {E : World} {ρ : Hp} {n : Fz} {σ : Slots} {Γ Γ' : List Asn} {ty : TypeId} {x y z : Operand} {v u : Value} {T T' : TypeId} {a sa : Option Addr} {cap sc sz : Nat} {K : Act → World → Prop}
theorem t_rd {m : Nat} {cs : List Value} (rd : Rd ρ Γ sz a m cap cs) (k : cs.length = m * sz → m ≤ cap → cap ≤ maxLen → (a = none → cs = []) → Tr E ρ n σ Γ K) : Tr E ρ n σ Γ K := fun ac w e s => by
  obtain ⟨h1, h2, h3, h4⟩ := rd E w s; refine k h1 h2 h3 (fun ha => ?_) ac w e s
  cases cs with
  | nil => rfl
  | cons c cs =>
    obtain ⟨ad, e1, -⟩ := h4 0 c rfl; rw [ha] at e1; cases e1
theorem q_eqnil {el : TypeId} {m : Nat} (hT : P.underlying T = some (.slice el)) (hx : evo σ x = some (.slice a m cap)) (hy : evo σ y = some (.slice none 0 0)) : OpQ P E ρ n σ Γ (.binOp .eql T x y T') ty (.bool a.isNone) := by
  cases a with
  | none => exact q_eqlv hx hy (fun w => by simp [eqGuard]) rfl fun w d => by simp [Op.equalIn, underlying, hT]
  | some a => exact q_eqlv hx hy (fun w => by simp [eqGuard]) rfl fun w d => by simp [Op.equalIn, underlying, hT]
theorem ld_agg {w : World} {b : Nat} {cs : List Value} (h : aggSize P T = some cs.length) (hb : hp w b = some (.cells cs.toArray T' (0, 0))) : (loadVar T ⟨b, 0, none⟩).run P w = .ok (.agg cs.toArray) w :=
  run_loadVar_agg h (fun j u hj => by rw [addr_add, cell_at hb]; simpa using hj)
end
end Go.SL
namespace Go.SL
section
variable {P : Program} {E : World} {ρ : Hp} {n : Fz} {σ : Slots} {Γ : List Asn} {ty : TypeId} {x y : Operand} {T T' : TypeId} {k : IntKind} {a b : Int}
theorem Rd.take {sz m cap : Nat} {a : Option Addr} {cs : List Value} (h : Rd ρ Γ sz a m cap cs) (k : Nat) (hm : k ≤ m) : Rd ρ Γ sz a k cap (cs.take (k * sz)) := fun E w s => by
  obtain ⟨h1, h2, h3, h4⟩ := h E w s; have : k * sz ≤ m * sz := Nat.mul_le_mul_right _ hm; refine ⟨by rw [List.length_take]; omega, by omega, h3, fun j c e => ?_⟩; rw [List.getElem?_take] at e
  split at e
  · exact h4 j c e
  · cases e
end
end Go.SL
namespace Go.SL
theorem k_body_n {P : Program} {E : World} {ρ : Hp} {n : Fz} {σ : Slots} {Γ : List Asn} {fn : Func} {R : Ending → World → Prop} (h : Tr E ρ n σ Γ (bodyPost P fn R .ret)) : Tr E ρ n σ Γ (bodyPost P fn R .normal) := fun a w e s => h a w e s
end Go.SL
namespace Go.SL
open Go
theorem foldl_push : ∀ (bs : List UInt8) (s : ByteArray), (bs.map fun b => ((b.toNat : Int))).foldl (fun r n => r.push (UInt8.ofNat n.toNat)) s = ⟨s.data ++ bs.toArray⟩
  | [], s => by simp
  | b :: bs, s => by
    simp only [List.map_cons, List.foldl_cons]; rw [foldl_push bs]; have : UInt8.ofNat ((b.toNat : Int)).toNat = b := by simp
    rw [this]; show (⟨s.data.push b ++ bs.toArray⟩ : ByteArray) = _
    congr 1
    apply Array.toList_inj.1; simp
theorem flat_ints : ∀ bs : List UInt8, bs.flatMap encB = (bs.map fun b => ((b.toNat : Int))).map (Value.int .u8)
  | [] => rfl
  | b :: bs => by rw [List.flatMap_cons, flat_ints bs]; rfl
def strB (bs : List UInt8) : Value := .string ⟨bs.toArray⟩
section
variable {P : Program} {E : World} {ρ : Hp} {n : Fz} {σ : Slots} {Γ Γ' : List Asn} {ty : TypeId} {x y z : Operand} {T T' : TypeId} {a : Option Addr} {cap : Nat}
theorem q_tostr {e : TypeId} {bs : List UInt8} {m : Nat} (hs : P.underlying T = some (.slice e)) (he : P.underlying e = some (.int .u8)) (hd : P.underlying T' = some .string) (hx : evo σ x = some (.slice a m cap)) (rd : Rd ρ Γ 1 a m cap (bs.flatMap encB)) :
    OpQ P E ρ n σ Γ (.convert T T' x) ty (strB bs) := fun ac w ev s => by
  obtain ⟨h1, h2, h3, h4⟩ := rd E w s; rw [flat_len (sz := 1) (fun _ => rfl), Nat.mul_one, Nat.mul_one] at h1; subst h1
  have hr : (convert T T' (.slice a bs.length cap)).run P w = .ok (strB bs) w := by
    rw [run_convert_bytes_string w T T' e a _ _ hs he hd]
    cases a with
    | none =>
      have : bs = [] := by
        cases bs with
        | nil => rfl
        | cons b bs => obtain ⟨ad, e1, -⟩ := h4 0 _ rfl; cases e1
      subst this; rfl
    | some ad =>
      have hc : ∀ j v, (bs.flatMap encB)[j]? = some v → w.cell? (ad.add j) = some v := fun j v hj => by
        obtain ⟨ad', e1, e2⟩ := h4 j v hj
        cases e1; exact e2
      have hl := run_loadCells_list (P := P) w ad (bs.flatMap encB) hc; rw [flat_len (sz := 1) (fun _ => rfl), Nat.mul_one] at hl; rw [flat_ints] at hl; rw [run_bytesToString w ad _ cap _ hl, foldl_push]; simp [strB, ByteArray.empty, ByteArray.emptyWithCapacity]; rfl
  simp [exo, execOp, ev.eval hx, hr]
theorem strB_eq (p q : List UInt8) : ((⟨p.toArray⟩ : ByteArray) = ⟨q.toArray⟩) ↔ p = q := by
  constructor
  · intro h; have := congrArg ByteArray.data h; simpa using this
  · rintro rfl; rfl
theorem q_eqlsB {p q : List UInt8} (hx : evo σ x = some (strB p)) (hy : evo σ y = some (strB q)) : OpQ P E ρ n σ Γ (.binOp .eql T x y T') ty (.bool (decide (p = q))) := by
  have := q_eqls (P := P) (E := E) (ρ := ρ) (n := n) (Γ := Γ) (T := T) (T' := T') (ty := ty) hx hy
  rwa [decide_eq_decide.2 (strB_eq p q)] at this
end
end Go.SL
namespace Go.SL
def intFields (P : Program) (t : TypeId) : Option (List Nat) := match P.underlying t with
  | some (.struct fs) => if fs.toList.all (fun f => f.name != "_" && (match P.underlying f.type with | some (.int _) => true | _ => false)) && !P.stoodInHeld t && !P.eqGuardType P.depth t then some (fs.toList.map (·.offset)) else none
  | _ => none
section
variable {P : Program} {E : World} {ρ : Hp} {n : Fz} {σ : Slots} {Γ : List Asn} {ty : TypeId} {x y : Operand} {T T' : TypeId}
end
end Go.SL
namespace Go.SL
open Go Go.RowKit
theorem below_of_sat {w w' : World} {ρ' : Hp} {Γ' : List Asn} (l : (hp w).le ρ') (s : sat w ρ' Γ' w') : Below w.heap.size w w' := by
  obtain ⟨⟨h1, h2, h3⟩, l', -⟩ := s; have up := l.le_trans l'
  have at_ : ∀ k, k < w.heap.size → w'.heap[k]? = w.heap[k]? := fun k hk => by
    have e : w.heap[k]? = some w.heap[k] := Array.getElem?_eq_getElem hk; rw [e]; exact up.at_ k _ e
  refine ⟨h1, h2, h3, ?_, at_⟩
  rcases Nat.eq_zero_or_pos w.heap.size with h | h
  · omega
  · have e := at_ (w.heap.size - 1) (by omega); rw [Array.getElem?_eq_getElem (xs := w.heap) (by omega)] at e; have := (Array.getElem?_eq_some_iff.1 e).1; omega
theorem law_of_spec {P : Program} {f : FuncId} {args : Array Value} {w : World} (h : Spec P f args (hp w) [] fun _ v _ => v = .bool true) :
    Calls P f args w fun e w' => e = .returned (.bool true) ∧ Below w.heap.size w w' := by
  refine (h w [] w ⟨⟨rfl, rfl, rfl⟩, Hp.le_refl _, Hp.none_, Hp.none_le _, Hp.none_disj _, trivial⟩).mono ?_; rintro e w' ⟨ρ', v, Γ', l, rfl, rfl, s⟩; exact ⟨rfl, below_of_sat l s⟩
def Rdy {H : Type} (enc : TypeId × Value → H) (P : Program) (w : World) (t : TypeId) (cs : List Value) : Prop := ∃ fuel x, DataW.trod enc P w 0 (fun _ => true) true fuel t cs = some x
section
variable {H : Type} {enc : TypeId × Value → H} {P : Program} {w : World} {t e : TypeId} {cs : List Value} {v : Value}
theorem rdy_of {d : DataW H} {ps : List MemPlace} (h : DataW.Trod enc P w 0 (fun _ => true) true t v d ps) : Rdy enc P w t v.cells.toList :=
  let ⟨fuel, h⟩ := h; ⟨fuel, _, h⟩
theorem rdy_int {k : IntKind} (ht : P.underlying t = some (.int k)) (h : Rdy enc P w t cs) : ∃ n, cs = [.int k n] ∧ (Lit.int k n).wf = true := by
  obtain ⟨fuel, x, h⟩ := h; obtain ⟨m, rfl, _, hw⟩ := DataW.trod_int ht h; exact ⟨m, rfl, hw⟩
theorem rdy_byte (ht : P.underlying t = some (.int .u8)) (h : Rdy enc P w t cs) : ∃ b : UInt8, cs = encB b ∧ True := by
  obtain ⟨n, rfl, hw⟩ := rdy_int ht h
  have h2 : 0 ≤ n ∧ n ≤ 255 := by
    simp [Lit.wf, IntKind.min, IntKind.max, IntKind.signed, IntKind.bits] at hw; omega
  refine ⟨UInt8.ofNat n.toNat, ?_, trivial⟩; unfold encB
  have : ((UInt8.ofNat n.toNat).toNat : Int) = n := by
    rw [UInt8.toNat_ofNat', Nat.mod_eq_of_lt (by omega)]; omega
  rw [this]
theorem rdy_slice {α : Type} {en : α → List Value} {Q : α → Prop} {sz : Nat} (ht : P.underlying t = some (.slice e)) (hc : P.cellsOf e = sz) (hl : ∀ x, (en x).length = sz) (hd : ∀ cs, Rdy enc P w e cs → ∃ x, cs = en x ∧ Q x) (h : Rdy enc P w t cs) :
    ∃ (a : Option Addr) (cap : Nat) (xs : List α), cs = [.slice a xs.length cap] ∧ Ro (hp w) sz a xs.length cap (xs.flatMap en) ∧ ∀ x ∈ xs, Q x := by
  obtain ⟨fuel, y, h⟩ := h
  rcases Go.Deep.open_slice ht h with ⟨rfl, _⟩ | ⟨a, len, cap, m, n, D, Pl, rfl, _, hl1, hm, hmm, _, hx⟩
  · exact ⟨none, 0, [], rfl, Ro.nil _ _, by simp⟩
  simp only [if_true] at hmm; subst hmm
  have each : ∀ i, i < len → ∃ x : α, w.cells? 0 (a.add (i * sz)) sz = some (en x) ∧ Q x := fun i hi => by
    obtain ⟨cs', h1, h2⟩ := hx i (by omega); obtain ⟨x, rfl, hq⟩ := hd cs' ⟨n, _, h2⟩; rw [hc] at h1; exact ⟨x, h1, hq⟩
  have all : ∀ k, k ≤ len → ∃ xs : List α, xs.length = k ∧ (∀ x ∈ xs, Q x) ∧ ∀ i (hi : i < xs.length), w.cells? 0 (a.add (i * sz)) sz = some (en xs[i]) := by
    intro k
    induction k with
    | zero => exact fun _ => ⟨[], rfl, by simp, fun i hi => by simp at hi⟩
    | succ k ih =>
      intro hk; obtain ⟨xs, h1, h2, h3⟩ := ih (by omega); obtain ⟨x, h4, h5⟩ := each k (by omega); refine ⟨xs ++ [x], by simp [h1], fun z hz => ?_, fun i hi => ?_⟩
      · rcases List.mem_append.1 hz with hz | hz
        · exact h2 z hz
        · rw [List.mem_singleton.1 hz]; exact h5
      · by_cases hik : i < xs.length
        · rw [List.getElem_append_left hik]; exact h3 i hik
        · have : i = k := by simp at hi; omega
          subst this; rw [List.getElem_append_right (by omega)]; simpa [h1] using h4
  obtain ⟨xs, h1, h2, h3⟩ := all len (Nat.le_refl _); subst h1; refine ⟨some a, _, xs, rfl, ⟨flat_len hl xs, hl1, hm, fun j c hj => ⟨a, rfl, ?_⟩⟩, h2⟩; have hlt := (List.getElem?_eq_some_iff.1 hj).1; rw [flat_len hl] at hlt
  have hpos : 0 < sz := by rcases Nat.eq_zero_or_pos sz with h | h; · subst h; simp at hlt
                           · exact h
  have hdiv : j / sz < xs.length := (Nat.div_lt_iff_lt_mul hpos).2 hlt; have hmod : j % sz < sz := Nat.mod_lt _ hpos; have ej : j = j / sz * sz + j % sz := by rw [Nat.mul_comm]; exact (Nat.div_add_mod j sz).symm
  rw [ej, flat_get hl xs _ _ hdiv hmod] at hj; obtain ⟨_, _, hcell⟩ := World.cells?_some (h3 _ hdiv); have := hcell (j % sz) hmod; rw [hj, addr_add_add, ← ej] at this; unfold World.cell? at this; unfold Hp.cell? hp
  split at this <;> rename_i hh
  · rw [hh]; exact this
  · cases this
end
end Go.SL
namespace Go.SL
theorem lawish {P : Program} {f : FuncId} {args : Array Value} {ρ : Hp} (h : Spec0 P f args ρ [] fun v Γ' => v = .bool true ∧ Γ' = []) : Spec P f args ρ [] fun _ v _ => v = .bool true :=
  fun E Δ w s => (h E Δ w s).mono fun _ _ ⟨ρ', v, Γ', l, ⟨_, hv, _⟩, e, s'⟩ => ⟨ρ', v, Γ', l, hv, e, s'⟩
end Go.SL
