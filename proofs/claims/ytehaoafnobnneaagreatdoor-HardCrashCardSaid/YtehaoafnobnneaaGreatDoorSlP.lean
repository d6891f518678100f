/-
  Bundles: a list of assertions held as one. Slices cut with three indices read on. Own work.
-/
import Derived.Test.YtehaoafnobnneaaGreatDoorSlO
set_option linter.unusedVariables false
namespace Go.SL
open Go
section
variable {E : World} {ρ : Hp} {Γ Γ' : List Asn} {A : Asn} {L : List Asn}
theorem Ent.app (A B : List Asn) : Ent (A ++ B) A := fun h s => by
  obtain ⟨k1, k2, d, l1, l2, s1, s2⟩ := star_split s
  exact star_up l1 s1
/-- what holds of no memory -/
def PU (p : Prop) : Asn := .raw fun _ => p
theorem pu_in {p : Prop} (h : p) (Γ : List Asn) : Ent Γ (PU p :: Γ) := Ent.raw (fun _ => h) Γ
theorem t_pu {n : Fz} {σ : Slots} {K : Act → World → Prop} {p : Prop} (q : Pick (PU p) [PU p] Γ Γ) (h : p → Tr E ρ n σ Γ K) : Tr E ρ n σ Γ K := Tr.know q p (fun _ h => h) h
theorem q_as {P : Program} {n : Fz} {σ : Slots} {op : Op} {ty : TypeId} {u v : Value} (h : OpQ P E ρ n σ Γ op ty u) (e : u = v) : OpQ P E ρ n σ Γ op ty v := e ▸ h
def Bun (L : List Asn) : Asn := .raw (star L)
theorem bun_in (L Γ : List Asn) : Ent (L ++ Γ) (Bun L :: Γ) := Ent.pack (fun h s => s)
theorem bun_out (L Γ : List Asn) : Ent (Bun L :: Γ) (L ++ Γ) := fun h ⟨_, _, d, l1, l2, a, s⟩ => star_append a s d l1 l2
theorem bun_nil (Γ : List Asn) : Ent Γ (Bun [] :: Γ) := bun_in [] Γ
theorem bun_snoc (A : Asn) (L Γ : List Asn) : Ent (A :: Bun L :: Γ) (Bun (L ++ [A]) :: Γ) := by
  refine Ent.trans (Ent.both (A := [A]) (Ent.refl _) (bun_out L Γ)) ?_
  refine Ent.trans (B := (L ++ [A]) ++ Γ) ?_ (bun_in _ _)
  refine Ent.trans (Ent.assoc [A] L Γ) (Ent.both (Ent.comm _ _) (Ent.refl _))
theorem pick_idx : ∀ (L : List Asn) (i : Nat) (h : i < L.length), Pick L[i] [] L (L.eraseIdx i)
  | _ :: _, 0, _ => Pick.here
  | _ :: L, i + 1, h => Pick.there (pick_idx L i (by simpa using h))
theorem bun_get (L : List Asn) (Γ : List Asn) (i : Nat) (h : i < L.length) : Ent (Bun L :: Γ) (L[i] :: Bun (L.eraseIdx i) :: Γ) := by
  refine Ent.trans (bun_out L Γ) ?_
  refine Ent.trans (Ent.both (Ent.pick (pick_idx L i h) (Ent.refl _)) (Ent.refl Γ)) ?_
  exact Ent.both (A := [L[i]]) (Ent.refl _) (bun_in _ _)
theorem bun_cons (A : Asn) (L Γ : List Asn) : Ent (Bun (A :: L) :: Γ) (A :: Bun L :: Γ) := bun_get (A :: L) Γ 0 (by simp)
theorem ent_set : ∀ (L : List Asn) (i : Nat) (A : Asn), i < L.length → Ent (A :: L.eraseIdx i) (L.set i A)
  | _ :: _, 0, _, _ => Ent.refl _
  | x :: L, i + 1, A, h => Ent.pick (Pick.there Pick.here) (ent_set L i A (by simpa using h))
theorem bun_set (L : List Asn) (Γ : List Asn) (i : Nat) (A : Asn) (h : i < L.length) : Ent (A :: Bun (L.eraseIdx i) :: Γ) (Bun (L.set i A) :: Γ) := by
  refine Ent.trans (Ent.both (A := [A]) (Ent.refl _) (bun_out _ Γ)) ?_
  refine Ent.trans (B := L.set i A ++ Γ) ?_ (bun_in _ _)
  exact Ent.both (A := A :: L.eraseIdx i) (ent_set L i A h) (Ent.refl _)
theorem star_idx {h : Hp} : ∀ {L : List Asn}, star L h → ∀ A ∈ L, ∃ h1, h1.le h ∧ A.sat h1
  | x :: L, ⟨h1, h2, _, l1, l2, a, s⟩, A, hm => by
    rcases List.mem_cons.1 hm with rfl | hm
    · exact ⟨h1, l1, a⟩
    · obtain ⟨h3, l3, a3⟩ := star_idx s A hm
      exact ⟨h3, l3.le_trans l2, a3⟩
theorem Lent.bun {ρ' : Hp} {Δ Δ' : List Asn} (l : Lent ρ ρ' Δ) (p : Pick (Bun L) [] Δ Δ') {T : TypeId} {sz m cap : Nat} {a : Option Addr} {cs : List Value} (hm : Asn.row T sz a m cap cs ∈ L) : Ro ρ' sz a m cap cs := by
  obtain ⟨-, h, hl, st⟩ := l
  obtain ⟨h1, _, _, l1, _, a1, _⟩ := star_pick p st
  obtain ⟨h2, l2, a2⟩ := star_idx a1 _ hm
  exact ro_of_row ⟨h2, l2.le_trans (l1.le_trans hl), a2⟩
theorem rd_bun {T : TypeId} {sz m cap : Nat} {a : Option Addr} {cs : List Value} (p : Pick (Bun L) [Bun L] Γ Γ) (hm : Asn.row T sz a m cap cs ∈ L) : Rd ρ Γ sz a m cap cs := fun _ _ s => by
  obtain ⟨h1, _, _, l1, _, hA, _⟩ := s.pick p
  obtain ⟨h2, l2, a2⟩ := star_idx hA _ hm
  obtain ⟨x1, x2, x3, x4⟩ := rowIn.reads a2
  exact ⟨x1, x2, x3, fun j c e => let ⟨ad, e1, e2⟩ := x4 j c e; ⟨ad, e1, cell_of_le (l2.le_trans l1) e2⟩⟩
theorem Ro.cut3 {sz n cap : Nat} {a : Option Addr} {cs : List Value} (h : Ro ρ sz a n cap cs) (i e : Nat) (h1 : i < e) (h2 : e ≤ n) : Ro ρ sz (sh a e i sz) (e - i) (e - i) ((cs.take (e * sz)).drop (i * sz)) := by
  have q := (h.take e h2).drop i (by omega)
  obtain ⟨q1, q2, q3, q4⟩ := q
  have hle := h.2.1
  refine ⟨q1, Nat.le_refl _, by omega, ?_⟩
  have e1 : sh a e i sz = sh a cap i sz := by unfold sh; rw [if_neg (by omega), if_neg (by omega)]
  rw [e1]; exact q4
theorem Ro.cut2e {α : Type} {enc : α → List Value} {sz n cap : Nat} {a : Option Addr} {xs : List α} (h : Ro ρ sz a n cap (xs.flatMap enc)) (he : ∀ x, (enc x).length = sz) (i e : Nat) (h1 : i ≤ e) (h2 : e ≤ n) : Ro ρ sz (sh a cap i sz) (e - i) (cap - i) (((xs.take e).drop i).flatMap enc) := by
  rw [← flat_drop he, ← flat_take he]; exact (h.take e h2).drop i h1
theorem Ro.cut3e {α : Type} {enc : α → List Value} {sz n cap : Nat} {a : Option Addr} {xs : List α} (h : Ro ρ sz a n cap (xs.flatMap enc)) (he : ∀ x, (enc x).length = sz) (i e : Nat) (h1 : i < e) (h2 : e ≤ n) : Ro ρ sz (sh a e i sz) (e - i) (e - i) (((xs.take e).drop i).flatMap enc) := by
  rw [← flat_drop he, ← flat_take he]; exact h.cut3 i e h1 h2
variable {P : Program} {n : Fz} {σ : Slots} {ty : TypeId} {x y : Operand} {T T' : TypeId}
theorem q_neqs {c d : ByteArray} (hx : evo σ x = some (.string c)) (hy : evo σ y = some (.string d)) : OpQ P E ρ n σ Γ (.binOp .neq T x y T') ty (.bool (!decide (c = d))) :=
  run_binOp_any hx hy (fun w => by simp [eqGuard]) fun w => by
    have : (c.toList == d.toList) = decide (c = d) := by
      by_cases h : c = d
      · simp [h]
      · have h' : c.toList ≠ d.toList := fun e => h (by
          have : c.data.toList = d.data.toList := by simpa [ByteArray.toList_eq] using e
          cases c; cases d; simp_all [Array.ext_iff])
        simp [h, h']
    simp [binOp, Op.stringOp, this]
theorem q_neqsB {p q : List UInt8} (hx : evo σ x = some (strB p)) (hy : evo σ y = some (strB q)) : OpQ P E ρ n σ Γ (.binOp .neq T x y T') ty (.bool (!decide (p = q))) := by
  have := q_neqs (P := P) (E := E) (ρ := ρ) (n := n) (Γ := Γ) (T := T) (T' := T') (ty := ty) hx hy
  rwa [decide_eq_decide.2 (strB_eq p q)] at this
theorem in_map {α : Type} [Inhabited α] {f : α → Asn} {l : List α} {A : Asn} (k : Nat) (h : k < l.length) (e : f (l.getD k default) = A) : A ∈ l.map f := List.mem_map.2 ⟨_, getD_mem l k h, e⟩
end
end Go.SL
