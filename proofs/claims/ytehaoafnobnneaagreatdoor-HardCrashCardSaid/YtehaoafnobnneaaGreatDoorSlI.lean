/-
  The engine, part I: slices as data; memory that is only said to read; nil slices; results in variables.
-/
import Derived.Test.YtehaoafnobnneaaGreatDoorSlH
namespace Go.SL
open Go

structure SL (α : Type) where
  a : Option Addr
  xs : List α
  cap : Nat
instance {α : Type} : Inhabited (SL α) := ⟨⟨none, [], 0⟩⟩
def SL.v {α : Type} (s : SL α) : Value := .slice s.a s.xs.length s.cap
def SL.ro {α : Type} (en : α → List Value) (sz : Nat) (s : SL α) (h : Hp) : Prop := Ro h sz s.a s.xs.length s.cap (s.xs.flatMap en)
def encI (z : Int) : List Value := [.int .i64 z]
def encO (b : Bool) : List Value := [.bool b]
theorem oneI (xs : List Int) : ∀ u ∈ xs.flatMap encI, u.oneCell' = true := fun u hu => by
  obtain ⟨b, _, hb⟩ := List.mem_flatMap.1 hu
  simp [encI] at hb
  subst hb; rfl
theorem oneO (xs : List Bool) : ∀ u ∈ xs.flatMap encO, u.oneCell' = true := fun u hu => by
  obtain ⟨b, _, hb⟩ := List.mem_flatMap.1 hu
  simp [encO] at hb
  subst hb; rfl
theorem SL.ro_nil {α : Type} (en : α → List Value) (sz : Nat) (h : Hp) : (⟨none, [], 0⟩ : SL α).ro en sz h := Ro.nil h sz
theorem SL.ro_mono {α : Type} {en : α → List Value} {sz : Nat} {s : SL α} {h k : Hp} (l : h.le k) (r : s.ro en sz h) : s.ro en sz k := Ro.mono l r
theorem SL.ro_row {α : Type} {en : α → List Value} {sz n : Nat} {T : TypeId} {s : SL α} {h : Hp} (hn : s.xs.length = n) (r : (Asn.row T sz s.a n s.cap (s.xs.flatMap en)).sat h) : s.ro en sz h := by
  subst hn
  exact ro_of_row ⟨h, Hp.le_refl _, r⟩
theorem Ent.raw {A : Hp → Prop} (hA : ∀ h, A h) (Γ : List Asn) : Ent Γ (.raw A :: Γ) := fun h s =>
  ⟨Hp.none_, h, Hp.none_disj _, Hp.none_le _, Hp.le_refl _, hA _, s⟩
/-- what a list of assertions says, said of the heap above all of them -/
theorem star_cons {A : Asn} {Γ : List Asn} {h : Hp} (s : star (A :: Γ) h) : ∃ h1 h2, Hp.le h1 h ∧ Hp.le h2 h ∧ A.sat h1 ∧ star Γ h2 :=
  let ⟨h1, h2, _, l1, l2, a, s⟩ := s; ⟨h1, h2, l1, l2, a, s⟩

section
variable {P : Program} {E : World} {ρ : Hp} {n : Fz} {σ : Slots} {Γ Γ' : List Asn} {ty : TypeId} {x y z : Operand} {v u : Value} {T T' : TypeId} {a sa : Option Addr} {cap sc sz : Nat} {K : Act → World → Prop}
theorem rd_raw {m : Nat} {cs : List Value} {A : Hp → Prop} (p : Pick (.raw A) [.raw A] Γ Γ) (h : ∀ h, A h → Ro h sz a m cap cs) : Rd ρ Γ sz a m cap cs := fun _ _ s => by
  obtain ⟨h1, _, _, l1, _, hA, _⟩ := s.pick p
  obtain ⟨x1, x2, x3, x4⟩ := h _ hA
  exact ⟨x1, x2, x3, fun j c e => let ⟨ad, e1, e2⟩ := x4 j c e; ⟨ad, e1, cell_of_le l1 e2⟩⟩
/-- what reading says of a slice's shape -/
theorem t_rd {m : Nat} {cs : List Value} (rd : Rd ρ Γ sz a m cap cs) (k : cs.length = m * sz → m ≤ cap → cap ≤ maxLen → (a = none → cs = []) → Tr E ρ n σ Γ K) : Tr E ρ n σ Γ K := fun ac w e s => by
  obtain ⟨h1, h2, h3, h4⟩ := rd E w s
  refine k h1 h2 h3 (fun ha => ?_) ac w e s
  cases cs with
  | nil => rfl
  | cons c cs =>
    obtain ⟨ad, e1, -⟩ := h4 0 c rfl
    rw [ha] at e1; cases e1
theorem pick_app {A : Asn} {B Γ Γ' : List Asn} (Δ : List Asn) (p : Pick A B Γ Γ') : Pick A B (Γ ++ Δ) (Γ' ++ Δ) := by
  induction p with
  | here => rw [List.cons_append, List.append_assoc]; exact Pick.here
  | there _ ih => exact Pick.there ih
theorem q_eqnil {el : TypeId} {m : Nat} (hT : P.underlying T = some (.slice el)) (hx : evo σ x = some (.slice a m cap)) (hy : evo σ y = some (.slice none 0 0)) : OpQ P E ρ n σ Γ (.binOp .eql T x y T') ty (.bool a.isNone) := by
  cases a with
  | none => exact q_eqlv hx hy (fun w => by simp [eqGuard]) rfl fun w d => by simp [Op.equalIn, underlying, hT]
  | some a => exact q_eqlv hx hy (fun w => by simp [eqGuard]) rfl fun w d => by simp [Op.equalIn, underlying, hT]
theorem q_neqnil {el : TypeId} {m : Nat} (hT : P.underlying T = some (.slice el)) (hx : evo σ x = some (.slice a m cap)) (hy : evo σ y = some (.slice none 0 0)) : OpQ P E ρ n σ Γ (.binOp .neq T x y T') ty (.bool (!a.isNone)) := by
  cases a with
  | none => exact q_neqv hx hy (fun w => by simp [eqGuard]) rfl fun w d => by simp [Op.equalIn, underlying, hT]
  | some a => exact q_neqv hx hy (fun w => by simp [eqGuard]) rfl fun w d => by simp [Op.equalIn, underlying, hT]
theorem ld_agg {w : World} {b : Nat} {cs : List Value} (h : aggSize P T = some cs.length) (hb : hp w b = some (.cells cs.toArray T' (0, 0))) : (loadVar T ⟨b, 0, none⟩).run P w = .ok (.agg cs.toArray) w :=
  run_loadVar_agg h (fun j u hj => by rw [addr_add, cell_at hb]; simpa using hj)
theorem ld_one {w : World} {b : Nat} {u : Value} (h : isScalar P T = true) (hb : hp w b = some (.cells [u].toArray T' (0, 0))) : (loadVar T ⟨b, 0, none⟩).run P w = .ok u w :=
  run_loadVar_scalar h (by rw [cell_at hb]; rfl)
end
end Go.SL
namespace Go.SL
section
variable {P : Program} {E : World} {ρ : Hp} {n : Fz} {σ : Slots} {Γ : List Asn} {ty : TypeId} {x y : Operand} {T T' : TypeId} {k : IntKind} {a b : Int}
theorem q_remn {m q : Nat} (hx : evo σ x = some (.int k a)) (hy : evo σ y = some (.int k b)) (ha : a = (m : Int)) (hb : b = (q : Int)) (hq : 0 < q) : OpQ P E ρ n σ Γ (.binOp .rem T x y T') ty (.int k ((m % q : Nat) : Int)) := by
  have := q_remp (P := P) (E := E) (ρ := ρ) (n := n) (Γ := Γ) (ty := ty) (T := T) (T' := T') hx hy (by omega) (by omega)
  have e : ((m % q : Nat) : Int) = (m : Int) % (q : Int) := by simp
  rw [ha, hb, ← e] at this
  exact this
theorem Rd.take {sz m cap : Nat} {a : Option Addr} {cs : List Value} (h : Rd ρ Γ sz a m cap cs) (k : Nat) (hm : k ≤ m) : Rd ρ Γ sz a k cap (cs.take (k * sz)) := fun E w s => by
  obtain ⟨h1, h2, h3, h4⟩ := h E w s
  have : k * sz ≤ m * sz := Nat.mul_le_mul_right _ hm
  refine ⟨by rw [List.length_take]; omega, by omega, h3, fun j c e => ?_⟩
  rw [List.getElem?_take] at e
  split at e
  · exact h4 j c e
  · cases e
end
end Go.SL
namespace Go.SL
theorem k_body_n {P : Program} {E : World} {ρ : Hp} {n : Fz} {σ : Slots} {Γ : List Asn} {fn : Func} {R : Ending → World → Prop} (h : Tr E ρ n σ Γ (bodyPost P fn R .ret)) : Tr E ρ n σ Γ (bodyPost P fn R .normal) := fun a w e s => h a w e s
end Go.SL
