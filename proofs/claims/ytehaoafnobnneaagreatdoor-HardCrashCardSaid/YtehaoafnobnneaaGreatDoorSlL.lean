/-
  The engine, part L: the frame of a law: from a contract over the input's whole heap as the shared part to the row's step; the input's data opened, type by type.
-/
import Derived.Test.YtehaoafnobnneaaGreatDoorSlG
import Derived.ProofKit
import Derived.OpenShut
import Derived.ShutString
import Derived.ChangeOld
import Derived.Below
import Derived.Deep.Slices
namespace Go.SL
open Go Go.RowKit

theorem below_of_sat {w w' : World} {ρ' : Hp} {Γ' : List Asn} (l : (hp w).le ρ') (s : sat w ρ' Γ' w') : Below w.heap.size w w' := by
  obtain ⟨⟨h1, h2, h3⟩, l', -⟩ := s
  have up := l.le_trans l'
  have at_ : ∀ k, k < w.heap.size → w'.heap[k]? = w.heap[k]? := fun k hk => by
    have e : w.heap[k]? = some w.heap[k] := Array.getElem?_eq_getElem hk
    rw [e]
    exact up.at_ k _ e
  refine ⟨h1, h2, h3, ?_, at_⟩
  rcases Nat.eq_zero_or_pos w.heap.size with h | h
  · omega
  · have e := at_ (w.heap.size - 1) (by omega)
    rw [Array.getElem?_eq_getElem (xs := w.heap) (by omega)] at e
    have := (Array.getElem?_eq_some_iff.1 e).1
    omega
theorem law_of_spec {P : Program} {f : FuncId} {args : Array Value} {w : World} (h : Spec P f args (hp w) [] fun _ v _ => v = .bool true) :
    Calls P f args w fun e w' => e = .returned (.bool true) ∧ Below w.heap.size w w' := by
  refine (h w [] w ⟨⟨rfl, rfl, rfl⟩, Hp.le_refl _, Hp.none_, Hp.none_le _, Hp.none_disj _, trivial⟩).mono ?_
  rintro e w' ⟨ρ', v, Γ', l, rfl, rfl, s⟩
  exact ⟨rfl, below_of_sat l s⟩

/-! ### Data -/
def Rdy {H : Type} (enc : TypeId × Value → H) (P : Program) (w : World) (t : TypeId) (cs : List Value) : Prop := ∃ fuel x, DataW.trod enc P w 0 (fun _ => true) true fuel t cs = some x
section
variable {H : Type} {enc : TypeId × Value → H} {P : Program} {w : World} {t e : TypeId} {cs : List Value} {v : Value}
theorem rdy_of {d : DataW H} {ps : List MemPlace} (h : DataW.Trod enc P w 0 (fun _ => true) true t v d ps) : Rdy enc P w t v.cells.toList :=
  let ⟨fuel, h⟩ := h; ⟨fuel, _, h⟩
theorem rdy_int {k : IntKind} (ht : P.underlying t = some (.int k)) (h : Rdy enc P w t cs) : ∃ n, cs = [.int k n] ∧ (Lit.int k n).wf = true := by
  obtain ⟨fuel, x, h⟩ := h
  obtain ⟨m, rfl, _, hw⟩ := DataW.trod_int ht h
  exact ⟨m, rfl, hw⟩
theorem rdy_byte (ht : P.underlying t = some (.int .u8)) (h : Rdy enc P w t cs) : ∃ b : UInt8, cs = encB b ∧ True := by
  obtain ⟨n, rfl, hw⟩ := rdy_int ht h
  have h2 : 0 ≤ n ∧ n ≤ 255 := by
    simp [Lit.wf, IntKind.min, IntKind.max, IntKind.signed, IntKind.bits] at hw
    omega
  refine ⟨UInt8.ofNat n.toNat, ?_, trivial⟩
  unfold encB
  have : ((UInt8.ofNat n.toNat).toNat : Int) = n := by
    rw [UInt8.toNat_ofNat', Nat.mod_eq_of_lt (by omega)]
    omega
  rw [this]
theorem rdy_slice {α : Type} {en : α → List Value} {Q : α → Prop} {sz : Nat} (ht : P.underlying t = some (.slice e)) (hc : P.cellsOf e = sz) (hl : ∀ x, (en x).length = sz) (hd : ∀ cs, Rdy enc P w e cs → ∃ x, cs = en x ∧ Q x) (h : Rdy enc P w t cs) :
    ∃ (a : Option Addr) (cap : Nat) (xs : List α), cs = [.slice a xs.length cap] ∧ Ro (hp w) sz a xs.length cap (xs.flatMap en) ∧ ∀ x ∈ xs, Q x := by
  obtain ⟨fuel, y, h⟩ := h
  rcases Go.Deep.open_slice ht h with ⟨rfl, _⟩ | ⟨a, len, cap, m, n, D, Pl, rfl, _, hl1, hm, hmm, _, hx⟩
  · exact ⟨none, 0, [], rfl, Ro.nil _ _, by simp⟩
  simp only [if_true] at hmm
  subst hmm
  have each : ∀ i, i < len → ∃ x : α, w.cells? 0 (a.add (i * sz)) sz = some (en x) ∧ Q x := fun i hi => by
    obtain ⟨cs', h1, h2⟩ := hx i (by omega)
    obtain ⟨x, rfl, hq⟩ := hd cs' ⟨n, _, h2⟩
    rw [hc] at h1
    exact ⟨x, h1, hq⟩
  have all : ∀ k, k ≤ len → ∃ xs : List α, xs.length = k ∧ (∀ x ∈ xs, Q x) ∧ ∀ i (hi : i < xs.length), w.cells? 0 (a.add (i * sz)) sz = some (en xs[i]) := by
    intro k
    induction k with
    | zero => exact fun _ => ⟨[], rfl, by simp, fun i hi => by simp at hi⟩
    | succ k ih =>
      intro hk
      obtain ⟨xs, h1, h2, h3⟩ := ih (by omega)
      obtain ⟨x, h4, h5⟩ := each k (by omega)
      refine ⟨xs ++ [x], by simp [h1], fun z hz => ?_, fun i hi => ?_⟩
      · rcases List.mem_append.1 hz with hz | hz
        · exact h2 z hz
        · rw [List.mem_singleton.1 hz]; exact h5
      · by_cases hik : i < xs.length
        · rw [List.getElem_append_left hik]; exact h3 i hik
        · have : i = k := by simp at hi; omega
          subst this
          rw [List.getElem_append_right (by omega)]
          simpa [h1] using h4
  obtain ⟨xs, h1, h2, h3⟩ := all len (Nat.le_refl _)
  subst h1
  refine ⟨some a, _, xs, rfl, ⟨flat_len hl xs, hl1, hm, fun j c hj => ⟨a, rfl, ?_⟩⟩, h2⟩
  have hlt := (List.getElem?_eq_some_iff.1 hj).1
  rw [flat_len hl] at hlt
  have hpos : 0 < sz := by rcases Nat.eq_zero_or_pos sz with h | h; · subst h; simp at hlt
                           · exact h
  have hdiv : j / sz < xs.length := (Nat.div_lt_iff_lt_mul hpos).2 hlt
  have hmod : j % sz < sz := Nat.mod_lt _ hpos
  have ej : j = j / sz * sz + j % sz := by rw [Nat.mul_comm]; exact (Nat.div_add_mod j sz).symm
  rw [ej, flat_get hl xs _ _ hdiv hmod] at hj
  obtain ⟨_, _, hcell⟩ := World.cells?_some (h3 _ hdiv)
  have := hcell (j % sz) hmod
  rw [hj, addr_add_add, ← ej] at this
  -- a cell of the world is a cell of its heap
  unfold World.cell? at this
  unfold Hp.cell? hp
  split at this <;> rename_i hh
  · rw [hh]; exact this
  · cases this
theorem rdy_bytes {q : TypeId} (ht : P.underlying t = some (.slice q)) (hq : P.underlying q = some (.int .u8)) (hc : P.cellsOf q = 1) (h : Rdy enc P w t cs) :
    ∃ s : SB, cs = encS s ∧ Ro (hp w) 1 s.a s.bs.length s.cap (s.bs.flatMap encB) := by
  obtain ⟨a, cap, xs, rfl, hr, -⟩ := rdy_slice ht hc (fun _ => rfl) (fun cs h => rdy_byte hq h) h
  exact ⟨⟨a, cap, xs⟩, rfl, hr⟩
theorem rdy_bytess {q u : TypeId} (ht : P.underlying t = some (.slice u)) (hu : P.underlying u = some (.slice q)) (hq : P.underlying q = some (.int .u8)) (hcu : P.cellsOf u = 1) (hc : P.cellsOf q = 1) (h : Rdy enc P w t cs) :
    ∃ (a : Option Addr) (cap : Nat) (L : List SB), cs = [.slice a L.length cap] ∧ Ro (hp w) 1 a L.length cap (L.flatMap encS) ∧ ∀ s ∈ L, Ro (hp w) 1 s.a s.bs.length s.cap (s.bs.flatMap encB) := by
  exact rdy_slice ht hcu (fun _ => rfl) (fun cs h => rdy_bytes hu hq hc h) h
theorem rdy_array {n : Nat} {α : Type} {en : α → List Value} {Q : α → Prop} {sz : Nat} (ht : P.underlying t = some (.array n e)) (hc : P.cellsOf e = sz) (hct : P.cellsOf t = n * sz) (hd : ∀ cs, Rdy enc P w e cs → ∃ x, cs = en x ∧ Q x) (h : Rdy enc P w t cs) :
    ∃ xs : List α, xs.length = n ∧ cs = xs.flatMap en ∧ ∀ x ∈ xs, Q x := by
  obtain ⟨fuel, y, h⟩ := h
  obtain ⟨xs, m, _, _, hlen, hxl, hx⟩ := DataW.trod_array ht h
  rw [hct] at hlen
  rw [hc] at hx
  clear h ht hct hc
  have each : ∀ i, i < n → ∃ x : α, (cs.drop (i * sz)).take sz = en x ∧ Q x := fun i hi => by
    have := hx i hi
    rw [List.getElem?_eq_getElem (by omega)] at this
    exact hd _ ⟨m, _, this⟩
  clear hx
  have all : ∀ k, k ≤ n → ∃ xs : List α, xs.length = k ∧ cs.take (k * sz) = xs.flatMap en ∧ ∀ x ∈ xs, Q x := by
    intro k
    induction k with
    | zero => exact fun _ => ⟨[], rfl, by simp, by simp⟩
    | succ k ih =>
      intro hk
      obtain ⟨xs, h1, h2, h3⟩ := ih (by omega)
      obtain ⟨x, h4, h5⟩ := each k (by omega)
      refine ⟨xs ++ [x], by simp [h1], ?_, fun z hz => ?_⟩
      · rw [Nat.add_mul, Nat.one_mul, List.take_add, h2, h4]; simp
      · rcases List.mem_append.1 hz with hz | hz
        · exact h3 z hz
        · rw [List.mem_singleton.1 hz]; exact h5
  obtain ⟨ys, h1, h2, h3⟩ := all n (Nat.le_refl _)
  rw [List.take_of_length_le (by omega)] at h2
  exact ⟨ys, h1, h2, h3⟩
theorem val_one {u : Value} (h : v.cells.toList = [u]) (hn : ∀ cs, v ≠ .agg cs) : v = u := by
  cases v with
  | agg cs => exact absurd rfl (hn cs)
  | _ => simpa [Value.cells] using h
theorem u32_wf {n : Int} (h : (Lit.int .u32 n).wf = true) : ∃ x : BitVec 32, n = (x.toNat : Int) := by
  have h2 : 0 ≤ n ∧ n ≤ 4294967295 := by
    simp [Lit.wf, IntKind.min, IntKind.max, IntKind.signed, IntKind.bits] at h
    omega
  refine ⟨BitVec.ofNat 32 n.toNat, ?_⟩
  rw [BitVec.toNat_ofNat, Nat.mod_eq_of_lt (by omega)]
  omega
theorem i64_wf {n : Int} (h : (Lit.int .i64 n).wf = true) : -9223372036854775808 ≤ n ∧ n ≤ 9223372036854775807 := by
  simp [Lit.wf, IntKind.min, IntKind.max, IntKind.signed, IntKind.bits] at h
  omega
end
end Go.SL
namespace Go.SL
theorem lawish {P : Program} {f : FuncId} {args : Array Value} {ρ : Hp} (h : Spec0 P f args ρ [] fun v Γ' => v = .bool true ∧ Γ' = []) : Spec P f args ρ [] fun _ v _ => v = .bool true :=
  fun E Δ w s => (h E Δ w s).mono fun _ _ ⟨ρ', v, Γ', l, ⟨_, hv, _⟩, e, s'⟩ => ⟨ρ', v, Γ', l, hv, e, s'⟩
end Go.SL
