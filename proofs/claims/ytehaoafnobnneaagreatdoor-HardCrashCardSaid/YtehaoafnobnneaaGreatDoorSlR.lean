/-
  The engine, part R: slices.Sorted(maps.Keys(m)) at keys that are ints, slices.Sort at ints: the kit's contracts in the engine's words. Own work.
-/
import Derived.Test.YtehaoafnobnneaaGreatDoorSlQ
import Derived.Shelf.SlIterI.Nil
import Derived.Shelf.SortM.Plain
import Derived.Shelf.SortM.SortNone
import Derived.Below
import Derived.Maps.OwnSet
set_option linter.unusedVariables false
set_option linter.unusedSimpArgs false
set_option linter.unusedSectionVars false
namespace Go.SL
open Go Go.MapKept Go.Shelf Go.Proofs Go.WideElems Go.RowKit

def I64 (z : Int) : Prop := -9223372036854775808 ≤ z ∧ z ≤ 9223372036854775807
theorem wf_i64 {z : Int} : (Lit.int .i64 z).wf = true ↔ I64 z := by
  simp [Lit.wf, IntKind.min, IntKind.max, IntKind.signed, IntKind.bits, I64]
theorem i64_small {z : Int} (h1 : -1000000000000 ≤ z) (h2 : z ≤ 1000000000000) : I64 z := by unfold I64; omega
def sortI (l : List Int) : List Int := l.mergeSort leI
theorem sortI_len (l : List Int) : (sortI l).length = l.length := List.length_mergeSort l
theorem sortI_perm (l : List Int) : (sortI l).Perm l := List.mergeSort_perm l leI
theorem sortI_mem {l : List Int} {z : Int} : z ∈ sortI l ↔ z ∈ l := (sortI_perm l).mem_iff
theorem sortI_le (l : List Int) : (sortI l).Pairwise (fun a b => a ≤ b) := by
  have tr : ∀ a b c : Int, leI a b = true → leI b c = true → leI a c = true := fun a b c h1 h2 => by simp only [leI, decide_eq_true_eq] at *; exact Int.le_trans h1 h2
  have to : ∀ a b : Int, (leI a b || leI b a) = true := fun a b => by simp only [leI, Bool.or_eq_true, decide_eq_true_eq]; exact Int.le_total a b
  exact (List.pairwise_mergeSort tr to l).imp fun h => by simpa [leI] using h
theorem sortI_of_perm {l l' : List Int} (h : l.Perm l') : sortI l = sortI l' := mergeSort_of_perm_i h
theorem sortI_eq {l l' : List Int} (h : l.Perm l') (hs : l'.Pairwise (fun a b => a ≤ b)) : sortI l = l' := by
  refine List.Perm.eq_of_pairwise (le := fun a b => a ≤ b) (fun a b _ _ h1 h2 => Int.le_antisymm h1 h2) (sortI_le l) hs ((sortI_perm l).trans h)
theorem encZ_flat (l : List Int) : l.map (Value.int .i64) = l.flatMap encI := by
  induction l with
  | nil => rfl
  | cons x l ih => simp [encI, ih]

/-- what has grown, and what is new -/
theorem sat.below {E : World} {ρ : Hp} {Γ : List Asn} {w w' : World} (s : sat E ρ Γ w) (bl : Below w.heap.size w w') : sat E ρ Γ w' := by
  obtain ⟨⟨x1, x2, x3⟩, l, h, lh, d, st⟩ := s
  have up : ∀ {k : Hp}, k.le (hp w) → k.le (hp w') := fun {k} lk => ⟨fun b o e => by
    have h1 := lk.at_ b o e
    have hlt : b < w.heap.size := (Array.getElem?_eq_some_iff.1 h1).1
    show w'.heap[b]? = some o
    rw [bl.block b hlt]; exact h1⟩
  exact ⟨⟨bl.os.trans x1, bl.tape.trans x2, bl.output.trans x3⟩, up l, h, up lh, d, st⟩
theorem sat.fresh {E : World} {ρ : Hp} {Γ : List Asn} {w w' : World} {A : Asn} (s : sat E ρ Γ w) (bl : Below w.heap.size w w') (h1 : Hp) (hn : ∀ b o, h1 b = some o → w.heap.size ≤ b) (hl : h1.le (hp w')) (hA : A.sat h1) : sat E ρ (A :: Γ) w' := by
  obtain ⟨x', l', h', lh', d', st'⟩ := s.below bl
  obtain ⟨x, l, h, lh, d, st⟩ := s
  have out : ∀ {k : Hp}, k.le (hp w) → h1.disj k := fun {k} lk => ⟨fun b => by
    cases e : h1 b with
    | none => exact .inl rfl
    | some o =>
      right
      cases e2 : k b with
      | none => rfl
      | some o2 =>
        have hlt : b < w.heap.size := (Array.getElem?_eq_some_iff.1 (lk.at_ b o2 e2)).1
        have := hn b o e
        omega⟩
  have up : ∀ {k : Hp}, k.le (hp w) → k.le (hp w') := fun {k} lk => ⟨fun b o e => by
    have h1 := lk.at_ b o e
    have hlt : b < w.heap.size := (Array.getElem?_eq_some_iff.1 h1).1
    show w'.heap[b]? = some o
    rw [bl.block b hlt]; exact h1⟩
  exact ⟨x', up l, h1.join h, Hp.join_le hl (up lh), (Hp.disj_join (out l).disj_symm d.disj_symm).disj_symm, h1, h, out lh, Hp.le_joinL _ _, Hp.le_joinR (out lh), hA, st⟩
/-- a row that the kit says is owned, as ours -/
theorem sat.ownrow {E : World} {ρ : Hp} {Γ : List Asn} {w w' : World} {e : TypeId} {v : Value} {n : Nat} {cs : List Value} (s : sat E ρ Γ w) (bl : Below w.heap.size w w') (h : w'.ownsRow w.heap.size e 1 v n cs) :
    ∃ a cap, v = .slice a n cap ∧ sat E ρ (.row e 1 a n cap cs :: Γ) w' := by
  obtain ⟨h0, ⟨rfl, rfl⟩ | ⟨g, cap, cur, rfl, hg, hb, h1, h2, h3, h4⟩⟩ := h
  · exact ⟨none, 0, rfl, s.fresh bl Hp.none_ (fun b o e => by cases e) (Hp.none_le _) ⟨h0, .inl ⟨rfl, rfl, rfl⟩⟩⟩
  · refine ⟨_, cap, rfl, s.fresh bl (Hp.one g (.cells cur e (0, 0))) (fun b o q => ?_) (Hp.one_le hb) ⟨h0, .inr ⟨g, cur, (0, 0), rfl, Hp.one_at _ _, .inl rfl, h1, h2, h3, h4⟩⟩⟩
    unfold Hp.one at q
    split at q
    · rename_i e; rw [e]; exact hg
    · cases q

/-- any value of a map, as the kit reads it -/
def anyR : Value → Option (DataW Unit × List MemPlace) := fun _ => some (.lit (.bool true), [])
theorem owns_of {P : Program} {kt : TypeId} (hk : P.underlying kt = some (.int .i64)) {V : Type} {ev : V → Value} {b : Nat} {m : List (Int × V)} (hw : ∀ k ∈ mkeys m, I64 k) (hl : m.length ≤ 1000000000) {w : World} {es : Array MapEntry} {clock : Nat}
    (hb : w.heap[b]? = some (.map es clock)) (hs : Stamped es clock) (he : es.toList.map (fun e => (e.key, e.val)) = m.map fun p => (Value.int .i64 p.1, ev p.2)) :
    ∃ D0 : DataW Unit, w.ownsMap P kt anyR b m.length D0 ∧ Maps.size D0 = m.length ∧ (intKeys D0).Perm (mkeys m) := by
  have hsz : es.size = m.length := by simpa using congrArg List.length he
  have hkey : es.toList.map (·.key) = (mkeys m).map (Value.int .i64) := by
    have := congrArg (List.map (·.1)) he
    simpa [mkeys, Function.comp_def] using this
  have hr : ∀ x ∈ es.toList, ∃ k, I64 k ∧ x.key = .int .i64 k ∧ rd P kt anyR x = some (.int .i64 k, .lit (.bool true)) := fun x hx => by
    have : x.key ∈ es.toList.map (·.key) := List.mem_map.2 ⟨x, hx, rfl⟩
    rw [hkey] at this
    obtain ⟨k, hkm, e⟩ := List.mem_map.1 this
    have hi := hw k hkm
    refine ⟨k, hi, e.symm, ?_⟩
    unfold rd
    rw [← e, Maps.keyOf_int_mk hk (wf_i64.2 hi)]
    rfl
  refine ⟨_, ⟨es, clock, hb, ⟨by rw [hsz]; unfold maxLen; omega, hs, fun x hx => let ⟨k, _, _, h⟩ := hr x hx; ⟨_, h⟩⟩, Nat.le_of_eq hsz, rfl⟩, ?_, ?_⟩
  · rw [Maps.size_eq, length_read, hsz]
  · show (((es.toList.map (rg P kt anyR)).foldr DataW.insert []).map fun p => intOf p.1).Perm _
    refine ((WideShapes.sorted_perm _).map _).trans ?_
    rw [List.map_map]
    have : es.toList.map ((fun p : Lit × DataW Unit => intOf p.1) ∘ rg P kt anyR) = mkeys m := by
      have h2 : (es.toList.map (·.key)).map (fun v => match v with | .int _ n => n | _ => 0) = mkeys m := by rw [hkey, List.map_map]; simp [Function.comp_def]
      rw [← h2, List.map_map]
      refine List.map_congr_left fun x hx => ?_
      obtain ⟨k, _, e1, e2⟩ := hr x hx
      show intOf (rg P kt anyR x).1 = _
      rw [rg_of e2]
      simp [Function.comp_def, e1, intOf]
    rw [this]
/-- slices.Sort's two contracts, as slices.Sorted's asks them -/
theorem sorts_of {P : Program} {ρk : Ren} {ρs : Ren} (L : SlLaysM.n5 P ρk) (h : ρk.f 5 = ρs.f 9) (m : Nat) : AnyZI.SortsIn P ρs Fence.wide m :=
  ⟨fun blk off cap ss W hH hblk hsz => by rw [← h]; exact callsIn_wide.2 (AnyM.slices_Sort_int L blk off cap ss W hH hblk hsz),
   fun p cap W => by rw [← h]; exact callsIn_wide.2 (AnyM.slices_Sort_int_none L p cap W)⟩
/-- slices.Sorted(maps.Keys(m)), the iterator's value at hand -/
theorem sortedKeys {P : Program} {ρk ρs ρo : Ren} (Lk : SlLaysZI.n10 P ρk) (Ls : SlLaysZI.n6 P ρs) (Lo : SlLaysM.n5 P ρo) (ho : ρo.f 5 = ρs.f 9) (ht : ρk.t 26 = ρs.t 26)
    {kt T : TypeId} (hkt : ρs.t 26 = kt) {V : Type} {ev : V → Value} (b c : Nat) (m : List (Int × V)) (hw : ∀ k ∈ mkeys m, I64 k) (hl : m.length ≤ 1000000000) (ρ : Hp) :
    Spec0 P (ρs.f 6) #[.func (.func (ρk.f 10)) #[] #[.pointer (some ⟨c, 0, none⟩)]] ρ [.pts c [.map (some b)] T, MP (Value.int .i64) ev b m]
      (fun v Γ' => ∃ a cap, v = .slice a m.length cap ∧ Γ' = [.row kt 1 a m.length cap ((sortI (mkeys m)).flatMap encI), .pts c [.map (some b)] T, MP (Value.int .i64) ev b m]) := by
  intro E Δ w s
  obtain ⟨es, clock, hb, hs, he⟩ := mp_at (ek := Value.int .i64) (ev := ev) (m := m) (b := b) (Γ := .pts c [.map (some b)] T :: MP (Value.int .i64) ev b m :: Δ) (.there .here) s
  obtain ⟨h1, _, _, l1, _, hc, _⟩ := s.pick (A := .pts c [.map (some b)] T) (B := [.pts c [.map (some b)] T]) (Γ' := .pts c [.map (some b)] T :: MP (Value.int .i64) ev b m :: Δ) .here
  have hc' : w.heap[c]? = some (.cells #[.map (some b)] T (0, 0)) := l1.at_ _ _ hc
  have hcell : w.cell? ⟨c, 0, none⟩ = some (.map (some b)) := by rw [cell_at hc']; rfl
  have hclt : c < w.heap.size := (Array.getElem?_eq_some_iff.1 hc').1
  have hkd : P.underlying (ρk.t 26) = some (.int .i64) := Lk.t26
  obtain ⟨D0, hown, hD, hp⟩ := owns_of (P := P) (kt := ρk.t 26) hkd hw hl hb hs he
  have hseq := AnyZI.keys_gives Lk Fence.wide 1 trivial rfl (by omega) c b m.length D0 w hclt hcell hown
  rw [hD] at hseq
  obtain ⟨_, _, FG6⟩ := Ls.f6
  have e9 : ∀ args w, (callFunc (ρs.f 9) args).run P w = .ok (.enter (ρs.f 9) args) w := by rw [← ho]; exact (Lo.f5).enters rfl
  have eg : ∀ args w, (callFunc (ρk.f 10) args).run P w = .ok (.enter (ρk.f 10) args) w := Lk.f10.enters rfl
  have cS := AnyZI.sorted_in Ls Fence.wide 4 trivial trivial trivial trivial rfl (by omega) (sorts_of Lo ho _) e9 (ρk.f 10) #[.pointer (some ⟨c, 0, none⟩)] trivial eg _ m.length (by unfold maxLen; omega) (by omega) w hseq
  refine (callsIn_wide.1 cS).mono ?_
  rintro e w' ⟨v, ss, rfl, hS, hrow, -, hbl⟩
  have hpm : ss.Perm (mkeys m) := hS.trans hp
  have hlen : ss.length = m.length := by have := hpm.length_eq; simpa [mkeys] using this
  have hsrt : ss.mergeSort (fun x y => decide (x ≤ y)) = sortI (mkeys m) := sortI_of_perm hpm
  rw [hsrt, hlen, hkt] at hrow
  rw [show (sortI (mkeys m)).map encZ = (sortI (mkeys m)).flatMap encI from encZ_flat _] at hrow
  obtain ⟨a, cap, rfl, s'⟩ := s.ownrow hbl hrow
  exact ⟨ρ, _, _, Hp.le_refl _, ⟨rfl, a, cap, rfl, rfl⟩, rfl, s'⟩
end Go.SL
