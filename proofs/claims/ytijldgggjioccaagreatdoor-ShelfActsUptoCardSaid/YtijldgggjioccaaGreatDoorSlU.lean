/- part -/
import Derived.Test.YtijldgggjioccaaGreatDoorRows
import Derived.Test.YtijldgggjioccaaGreatDoorSlEa
set_option linter.unusedVariables false
namespace Go.SL
open Go Go.Proofs.YtijldgggjioccaaGreatDoor
def RdyN {H : Type} (enc : TypeId × Value → H) (P : Program) (w : World) (t : TypeId) (cs : List Value) (N : Nat) : Prop := ∃ fuel x, DataW.trod enc P w 0 (fun _ => true) true fuel t cs = some x ∧ Rows.uptoBulk x.1 ≤ N
theorem bulk_mem {H : Type} {d : DataW H} {l : List (DataW H)} (h : d ∈ l) : Rows.uptoBulk d ≤ Rows.uptoBulkAll l := by
  induction l with
  | nil => cases h
  | cons x r ih =>
    simp only [Rows.uptoBulkAll]
    rcases List.mem_cons.1 h with e | e
    · subst e; omega
    · have := ih e; omega
theorem bulk_one {H : Type} (d : DataW H) : 1 ≤ Rows.uptoBulk d := by
  cases d with
  | lit l => cases l <;> simp [Rows.uptoBulk]
  | _ => simp [Rows.uptoBulk]
theorem bulk_len {H : Type} (l : List (DataW H)) : l.length ≤ Rows.uptoBulkAll l := by
  induction l with
  | nil => simp [Rows.uptoBulkAll]
  | cons x r ih => have := bulk_one x; simp only [Rows.uptoBulkAll, List.length_cons]; omega
section
variable {H : Type} {enc : TypeId × Value → H} {P : Program} {w : World} {t e : TypeId} {cs : List Value} {v : Value} {N : Nat}
theorem RdyN.rdy (h : RdyN enc P w t cs N) : Rdy enc P w t cs := let ⟨f, x, h1, _⟩ := h; ⟨f, x, h1⟩
theorem rdyN_of {d : DataW H} {ps : List MemPlace} (h : DataW.Trod enc P w 0 (fun _ => true) true t v d ps) (hb : Rows.uptoBulk d ≤ N) : RdyN enc P w t v.cells.toList N :=
  let ⟨fuel, h⟩ := h; ⟨fuel, _, h, hb⟩
theorem rdyN_slice {α : Type} {en : α → List Value} {Q : α → Prop} {sz : Nat} (ht : P.underlying t = some (.slice e)) (hc : P.cellsOf e = sz) (hl : ∀ x, (en x).length = sz) (hd : ∀ cs, RdyN enc P w e cs N → ∃ x, cs = en x ∧ Q x) (h : RdyN enc P w t cs N) :
    ∃ (a : Option Addr) (cap : Nat) (xs : List α), cs = [.slice a xs.length cap] ∧ Ro (hp w) sz a xs.length cap (xs.flatMap en) ∧ xs.length ≤ N ∧ ∀ x ∈ xs, Q x := by
  obtain ⟨fuel, y, h, hb⟩ := h; have hr : Rdy enc P w t cs := ⟨fuel, y, h⟩
  rcases Go.Deep.open_slice ht h with ⟨rfl, rfl⟩ | ⟨a, len, cap, m, n, D, Pl, rfl, hba, hl1, hm, hmm, rfl, hx⟩
  · exact ⟨none, 0, [], rfl, Ro.nil _ _, Nat.zero_le _, by simp⟩
  simp only [if_true] at hmm; subst hmm; simp only [Rows.uptoBulk] at hb; have b1 := bulk_len ((List.range len).map D); rw [List.length_map, List.length_range] at b1
  have each : ∀ i, i < len → ∃ x : α, w.cells? 0 (a.add (i * sz)) sz = some (en x) ∧ Q x := fun i hi => by
    obtain ⟨cs', h1, h2⟩ := hx i (by omega); obtain ⟨x, rfl, hq⟩ := hd cs' ⟨n, _, h2, Nat.le_trans (bulk_mem (l := (List.range len).map D) (List.mem_map.2 ⟨i, by simpa using hi, rfl⟩)) (by omega)⟩; rw [hc] at h1; exact ⟨x, h1, hq⟩
  have all : ∀ k, k ≤ len → ∃ xs : List α, xs.length = k ∧ (∀ x ∈ xs, Q x) ∧ ∀ i (hi : i < xs.length), w.cells? 0 (a.add (i * sz)) sz = some (en xs[i]) := by
    intro k
    induction k with
    | zero => exact fun _ => ⟨[], rfl, by simp, fun i hi => by simp at hi⟩
    | succ k ih =>
      intro hk; obtain ⟨xs, h1, h2, h3⟩ := ih (by omega); obtain ⟨x, h4, h5⟩ := each k (by omega); refine ⟨xs ++ [x], by simp [h1], fun z hz => ?_, fun i hi => ?_⟩
      · rcases List.mem_append.1 hz with hz | hz
        · exact h2 z hz
        · rw [List.mem_singleton.1 hz]; exact h5
      · by_cases hik : i < xs.length
        · rw [List.getElem_append_left hik]; exact h3 i hik
        · have : i = k := by simp at hi; omega
          subst this; rw [List.getElem_append_right (by omega)]; simpa [h1] using h4
  obtain ⟨xs, h1, h2, h3⟩ := all len (Nat.le_refl _); subst h1; refine ⟨some a, _, xs, rfl, ⟨flat_len hl xs, hl1, hm, fun j c hj => ⟨a, rfl, ?_⟩⟩, by omega, h2⟩; have hlt := (List.getElem?_eq_some_iff.1 hj).1; rw [flat_len hl] at hlt
  have hpos : 0 < sz := by rcases Nat.eq_zero_or_pos sz with h | h; · subst h; simp at hlt
                           · exact h
  have hdiv : j / sz < xs.length := (Nat.div_lt_iff_lt_mul hpos).2 hlt; have hmod : j % sz < sz := Nat.mod_lt _ hpos; have ej : j = j / sz * sz + j % sz := by rw [Nat.mul_comm]; exact (Nat.div_add_mod j sz).symm
  rw [ej, flat_get hl xs _ _ hdiv hmod] at hj; obtain ⟨_, _, hcell⟩ := World.cells?_some (h3 _ hdiv); have := hcell (j % sz) hmod; rw [hj, addr_add_add, ← ej] at this; unfold World.cell? at this; unfold Hp.cell? hp
  split at this <;> rename_i hh
  · rw [hh]; exact this
  · cases this
theorem rdyN_struct {fs : Array Field} (ht : P.underlying t = some (.struct fs)) (h : RdyN enc P w t cs N) :
    cs.length = P.cellsOf t ∧ ∀ f ∈ fs.toList, RdyN enc P w f.type ((cs.drop f.offset).take (P.cellsOf f.type)) N := by
  obtain ⟨fuel, x, h, hb⟩ := h
  cases fuel with
  | zero => simp [DataW.trod] at h
  | succ n =>
    unfold DataW.trod at h; rw [ht] at h
    by_cases hl : cs.length = P.cellsOf t
    · refine ⟨hl, fun f hf => ?_⟩; simp only [hl, if_true, Option.map_eq_some_iff] at h; obtain ⟨xs, hx, rfl⟩ := h; obtain ⟨i, hi, rfl⟩ := List.getElem_of_mem hf; have := mapM_some_get hx i _ (List.getElem?_eq_getElem hi); have hlen := mapM_some_length hx; rw [List.getElem?_eq_getElem (by omega)] at this; refine ⟨n, _, this, Nat.le_trans ?_ hb⟩; simp only [Rows.uptoBulk]; exact Nat.le_succ_of_le (bulk_mem (List.mem_map.2 ⟨_, List.getElem_mem _, rfl⟩))
    · simp [hl] at h
end
end Go.SL
