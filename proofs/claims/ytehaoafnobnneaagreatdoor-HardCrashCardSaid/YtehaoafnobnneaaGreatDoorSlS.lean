/-
  The engine, part S: maps.DeleteFunc at int keys, slices.Sort at an owned row of ints: the kit's contracts in the engine's words. Own work.
-/
import Derived.Test.YtehaoafnobnneaaGreatDoorSlR
import Derived.Test.YtehaoafnobnneaaGreatDoorSlL
import Derived.Shelf.SlMaps.DeleteFunc
import Derived.Sort.OwnSortedInts
set_option linter.unusedVariables false
set_option linter.unusedSimpArgs false
set_option linter.unusedSectionVars false
namespace Go.SL
open Go Go.MapKept Go.Shelf Go.Proofs Go.WideElems Go.RowKit

/-- one block turned, others new -/
theorem sat.turn {A B : Asn} {Γ Γ' : List Asn} (p : Pick A [B] Γ Γ') {E : World} {ρ : Hp} {w w' : World} (s : sat E ρ Γ w) {b : Nat} {o0 o : Obj} (hA : ∀ h, A.sat h → h.le (hp w) → h b = some o0) (hB : B.sat (Hp.one b o)) (hb : w'.heap[b]? = some o) (hg : w.grownBy w' (some b)) : sat E ρ Γ' w' := by
  obtain ⟨h1, hr, d, l1, lr, a, K⟩ := s.pick p
  have e := hA _ a l1
  refine K w' (Hp.one b o) ⟨hg.os, hg.tape, hg.output⟩ ⟨Hp.one b o, Hp.none_, (Hp.none_disj _).disj_symm, Hp.le_refl _, Hp.none_le _, hB, trivial⟩ (Hp.one_disj (d.out e)) (Hp.one_le hb) ⟨fun x ox hx => ?_⟩
  have hne : x ≠ b := fun e' => by subst e'; rw [d.out e] at hx; cases hx
  have h0 : w.heap[x]? = some ox := lr.at_ _ _ hx
  have hlt : x < w.heap.size := (Array.getElem?_eq_some_iff.1 h0).1
  show w'.heap[x]? = some ox
  rw [hg.block x hlt (by simpa using hne)]
  exact h0

/-- slices.Sort at a row of ints -/
theorem sort_row {P : Program} {ρm : Ren} (L : SlLaysM.n5 P ρm) {t : TypeId} (a : Option Addr) (n cap : Nat) (xs : List Int) (hn : xs.length = n) (hl : n ≤ 1000000000) (ρ : Hp) :
    Spec0 P (ρm.f 5) #[.slice a n cap] ρ [.row t 1 a n cap (xs.flatMap encI)] (fun v Γ' => v = .tuple #[] ∧ Γ' = [.row t 1 a n cap ((sortI xs).flatMap encI)]) := by
  intro E Δ w s
  obtain ⟨h1, hr, d, l1, lr, ⟨hlen, hA⟩, K⟩ := s.pick (A := .row t 1 a n cap (xs.flatMap encI)) (B := [.row t 1 a n cap (xs.flatMap encI)]) (Γ' := .row t 1 a n cap (xs.flatMap encI) :: Δ) .here
  rcases hA with ⟨rfl, h0, rfl⟩ | ⟨g, cur, fz, rfl, hg, hs, h2, h3, h4, h5⟩
  · subst h0
    obtain rfl : xs = [] := List.eq_nil_of_length_eq_zero hn
    refine (AnyM.slices_Sort_int_none L none 0 w).mono ?_
    rintro e w' ⟨rfl, rfl⟩
    have e0 : sortI [] = [] := by simp [sortI]
    exact ⟨ρ, _, _, Hp.le_refl _, ⟨rfl, rfl, rfl⟩, rfl, by rw [e0]; exact s⟩
  · subst hn
    have hb : hp w g = some (.cells cur t fz) := l1.at_ _ _ hg
    have hglt : g < w.heap.size := (Array.getElem?_eq_some_iff.1 hb).1
    have hH : Sort.Holds (Value.int .i64) w g 0 xs.toArray := by
      intro j hj
      have hj' : j < xs.length := by simpa using hj
      refine ⟨?_, by rw [Nat.zero_add]; exact soft_at hb hs (by omega)⟩
      have h6 : (cur.toList.take xs.length)[j]? = (xs.map (Value.int .i64))[j]? := by rw [encZ_flat, ← h5, Nat.mul_one]
      rw [List.getElem?_take_of_lt hj'] at h6
      have hb' : w.heap[g]? = some (.cells cur t fz) := hb
      simp only [World.cell?, hb', Nat.zero_add]
      simp only [Option.isSome_none, Bool.false_eq_true, if_false]
      rw [← Array.getElem?_toList, h6]
      simp [hj']
    refine (AnyM.slices_Sort_int L g 0 cap xs w hH hglt (by omega)).mono ?_
    rintro e w' ⟨rfl, k, os, rfl⟩
    have hsrt : (xs.mergeSort fun x y => decide (x ≤ y)) = sortI xs := rfl
    have hl2 : (sortI xs).length = xs.length := sortI_len xs
    refine ⟨ρ, _, _, Hp.le_refl _, ⟨rfl, rfl, rfl⟩, rfl, ?_⟩
    refine sat.turn (A := .row t 1 (some ⟨g, 0, none⟩) xs.length cap (xs.flatMap encI)) (B := .row t 1 (some ⟨g, 0, none⟩) xs.length cap ((sortI xs).flatMap encI)) .here s (b := g) (o0 := .cells cur t fz) (o := .cells (Sort.putCells (Value.int .i64) 0 (sortI xs).toArray cur) t fz) ?_ ?_ ?_ ?_
    · rintro h ⟨_, ⟨h0, _⟩ | ⟨g', cur', fz', e1, hg', _⟩⟩ hle
      · cases h0
      · cases e1
        have := hle.at_ _ _ hg'
        rw [hb] at this
        rw [hg', this]
    · refine ⟨by rw [← encZ_flat]; simp [hl2], .inr ⟨g, _, fz, rfl, Hp.one_at _ _, ?_, h2, h3, ?_, ?_⟩⟩
      · simpa [Sort.putCells] using hs
      · simp [Sort.putCells, h4]
      · rw [Nat.mul_one, ← encZ_flat, ← hl2]
        exact take_putCellsI cur (sortI xs) (by omega)
    · rw [hsrt]; exact heap_sortedI _ hb
    · rw [hsrt]; exact grownBy_sortedI _

/-! ### maps.DeleteFunc -/
def heldR (v : Value) : Option (DataW Value × List MemPlace) := some (.held v, [])
theorem perm_map_inv {α β : Type} (f : α → β) {l L : List β} (h : l.Perm L) : ∀ L0 : List α, L = L0.map f → ∃ L1 : List α, L1.Perm L0 ∧ l = L1.map f := by
  induction h with
  | nil =>
    intro L0 e
    cases L0 with
    | nil => exact ⟨[], .refl _, rfl⟩
    | cons _ _ => cases e
  | cons x _ ih =>
    intro L0 e
    cases L0 with
    | nil => cases e
    | cons a L0 =>
      simp only [List.map_cons, List.cons.injEq] at e
      obtain ⟨L1, h1, h2⟩ := ih L0 e.2
      exact ⟨a :: L1, h1.cons a, by rw [h2, e.1, List.map_cons]⟩
  | swap x y l =>
    intro L0 e
    cases L0 with
    | nil => cases e
    | cons a L0 =>
      cases L0 with
      | nil => cases e
      | cons b L0 =>
        simp only [List.map_cons, List.cons.injEq] at e
        exact ⟨b :: a :: L0, .swap _ _ _, by rw [e.1, e.2.1, e.2.2]; rfl⟩
  | trans _ _ ih1 ih2 =>
    intro L0 e
    obtain ⟨L1, h1, h2⟩ := ih2 L0 e
    obtain ⟨L2, h3, h4⟩ := ih1 L1 h2
    exact ⟨L2, h3.trans h1, h4⟩
theorem map_other {α β γ δ : Type} (f : α → γ) (φ : β → γ) (g : α → δ) (ψ : β → δ) : ∀ (l : List α) (m : List β), l.map f = m.map φ → (∀ x ∈ l, ∀ p ∈ m, f x = φ p → g x = ψ p) → l.map g = m.map ψ
  | [], [], _, _ => rfl
  | [], _ :: _, e, _ => by cases e
  | _ :: _, [], e, _ => by cases e
  | x :: l, p :: m, e, h => by
    simp only [List.map_cons, List.cons.injEq] at e
    rw [List.map_cons, List.map_cons, h x (by simp) p (by simp) e.1, map_other f φ g ψ l m e.2 (fun x hx p hp => h x (by simp [hx]) p (by simp [hp]))]
theorem keyOf_int_inv {P : Program} {kt : TypeId} (hk : P.underlying kt = some (.int .i64)) {v : Value} {l : Lit} (h : keyOf P kt v = some l) : ∃ z, v = .int .i64 z ∧ l = .int .i64 z := by
  cases v <;> simp [keyOf, hk, mapKey] at h
  obtain ⟨⟨rfl, _⟩, rfl⟩ := h
  exact ⟨_, rfl, rfl⟩
def pdK (pd : Int → Bool) (l : Lit) (_ : DataW Value) : Bool := match l with | .int _ z => pd z | _ => false
def kvD {V : Type} (ev : V → Value) (p : Int × V) : Lit × DataW Value := (.int .i64 p.1, .held (ev p.2))
theorem deleteFunc {P : Program} {ρm : Ren} (L : SlLaysDf.n5 P ρm) {kt : TypeId} (hkt : ρm.t 26 = kt) (hk : P.underlying kt = some (.int .i64)) {V : Type} {ev : V → Value} (b c : Nat) (cs : List Value) (T : TypeId) (m : List (Int × V)) (hw : ∀ k ∈ mkeys m, I64 k) (hl : m.length ≤ 1000000000)
    (g : Nat) (eg : ∀ args w, (callFunc g args).run P w = .ok (.enter g args) w) (pd : Int → Bool) (ρ : Hp)
    (hg : ∀ ρ' : Hp, ρ.le ρ' → ∀ (k : Int) (u : Value), Spec0 P g #[.int .i64 k, u, .pointer (some ⟨c, 0, none⟩)] ρ' [.pts c cs T] (fun v Γ' => v = .bool (pd k) ∧ Γ' = [.pts c cs T])) :
    Spec0 P (ρm.f 5) #[.map (some b), .func (.func g) #[] #[.pointer (some ⟨c, 0, none⟩)]] ρ [.pts c cs T, MP (Value.int .i64) ev b m] (fun v Γ' => ∃ m', m'.Perm (m.filter fun p => !pd p.1) ∧ v = .tuple #[] ∧ Γ' = [.pts c cs T, MP (Value.int .i64) ev b m']) := by
  intro E Δ w s
  obtain ⟨es, clock, hb, hs, he⟩ := mp_at (ek := Value.int .i64) (ev := ev) (m := m) (b := b) (Γ := .pts c cs T :: MP (Value.int .i64) ev b m :: Δ) (.there .here) s
  obtain ⟨x, lρ, h, lh, d, st⟩ := id s
  obtain ⟨hA, hB, dAB, lA, lB, aA, hC, hD, dCD, lC, lD, aC, st2⟩ := st
  have aA' : hA c = some (.cells cs.toArray T (0, 0)) := aA
  have hc' : w.heap[c]? = some (.cells cs.toArray T (0, 0)) := lh.at_ _ _ (lA.at_ _ _ aA')
  have hclt : c < w.heap.size := (Array.getElem?_eq_some_iff.1 hc').1
  have hbc : c ≠ b := fun e => by subst e; rw [hc'] at hb; cases hb
  have hρc : ρ c = none := by
    rcases d.at_ c with q | q
    · rw [lA.at_ _ _ aA'] at q; cases q
    · exact q
  have hρb : ρ b = none := by
    obtain ⟨es2, clock2, hb2, _⟩ := aC
    rcases d.at_ b with q | q
    · rw [lB.at_ _ _ (lC.at_ _ _ hb2)] at q; cases q
    · exact q
  have hsz : es.size = m.length := by simpa using congrArg List.length he
  have hkey : ∀ y ∈ es.toList, ∃ k, I64 k ∧ y.key = .int .i64 k := fun y hy => by
    have h1 : (y.key, y.val) ∈ es.toList.map (fun e => (e.key, e.val)) := List.mem_map.2 ⟨y, hy, rfl⟩
    rw [he] at h1
    obtain ⟨p, hp, e⟩ := List.mem_map.1 h1
    exact ⟨p.1, hw _ (List.mem_map.2 ⟨p, hp, rfl⟩), (congrArg Prod.fst e).symm⟩
  have hr : ∀ y ∈ es.toList, ∃ k, y.key = .int .i64 k ∧ rd P kt heldR y = some (.int .i64 k, .held y.val) := fun y hy => by
    obtain ⟨k, hi, e⟩ := hkey y hy
    refine ⟨k, e, ?_⟩
    unfold rd
    rw [e, Maps.keyOf_int_mk hk (wf_i64.2 hi)]
    rfl
  have hread : es.toList.map (rg P kt heldR) = m.map (kvD ev) := by
    refine map_other (fun e => (e.key, e.val)) (fun p : Int × V => (Value.int .i64 p.1, ev p.2)) _ _ es.toList m he (fun y hy p hp e => ?_)
    obtain ⟨k, e1, e2⟩ := hr y hy
    rw [rg_of e2]
    simp only [Prod.mk.injEq] at e
    rw [e1] at e
    have e3 : k = p.1 := by have := e.1; injection this
    rw [e3, e.2]
    rfl
  have hown : w.ownsMap P (ρm.t 26) heldR b m.length (.map ((es.toList.map (rg P kt heldR)).foldr DataW.insert [])) := by
    rw [hkt]
    exact ⟨es, clock, hb, ⟨by rw [hsz]; unfold maxLen; omega, hs, fun y hy => let ⟨k, _, h⟩ := hr y hy; ⟨_, h⟩⟩, Nat.le_of_eq hsz, rfl⟩
  have hK : Maps.Keyed P (ρm.t 26) := by rw [hkt]; exact Maps.int_keyed hk
  refine (AnyDf.maps_DeleteFunc (H := Value) L hK heldR (pdK pd) g #[.pointer (some ⟨c, 0, none⟩)] b m.length _ w eg hown ?_).mono ?_
  · intro W key val kl yd yp hgW hky hv
    rw [hkt] at hky
    obtain ⟨z, rfl, rfl⟩ := keyOf_int_inv hk hky
    have hWc : W.heap[c]? = some (.cells cs.toArray T (0, 0)) := by rw [hgW.block c hclt (by simpa using hbc)]; exact hc'
    have hle : ρ.le (fun x => if x = c then none else hp W x) := ⟨fun x o hx => by
      have hxc : x ≠ c := fun e => by subst e; rw [hρc] at hx; cases hx
      have hxb : x ≠ b := fun e => by subst e; rw [hρb] at hx; cases hx
      have h0 : w.heap[x]? = some o := lρ.at_ _ _ hx
      have hlt : x < w.heap.size := (Array.getElem?_eq_some_iff.1 h0).1
      rw [if_neg hxc]
      show W.heap[x]? = some o
      rw [hgW.block x hlt (by simpa using hxb)]
      exact h0⟩
    have hsat : sat W (fun x => if x = c then none else hp W x) ([.pts c cs T] ++ []) W := by
      refine ⟨⟨rfl, rfl, rfl⟩, ⟨fun x o hx => ?_⟩, Hp.one c (.cells cs.toArray T (0, 0)), Hp.one_le hWc, ⟨fun x => ?_⟩, ⟨_, Hp.none_, (Hp.none_disj _).disj_symm, Hp.le_refl _, Hp.none_le _, Hp.one_at _ _, trivial⟩⟩
      · split at hx
        · cases hx
        · exact hx
      · by_cases e : x = c
        · right; simp [e]
        · left; simp [Hp.one, e]
    refine (hg _ hle z val W [] W hsat).mono ?_
    rintro e w' ⟨ρ', v, Γ', hle2, ⟨rfl, rfl, rfl⟩, rfl, s'⟩
    refine ⟨rfl, ?_⟩
    obtain ⟨ρ2, l2, ⟨h3, l3, a3⟩, s2⟩ := sat.share (A := .pts c cs T) (Γ' := []) .here s'
    have a3' : h3 c = some (.cells cs.toArray T (0, 0)) := a3
    have bl : Below W.heap.size W w' := below_of_sat ⟨fun x o hx => by
      by_cases e : x = c
      · subst e
        have hx' : W.heap[x]? = some o := hx
        rw [hWc] at hx'
        cases hx'
        exact l3.at_ _ _ a3'
      · exact l2.at_ _ _ (by rw [if_neg e]; exact hx)⟩ s2
    exact ⟨bl.os, bl.tape, bl.output, bl.size, fun k hk _ => bl.block k hk⟩
  · rintro e w' ⟨rfl, ⟨es', clock', hb', hfit, _, hD'⟩, hgr⟩
    rw [hkt] at hfit hD'
    have hD2 : ((es.toList.map (rg P kt heldR)).foldr DataW.insert []).filter (fun p => !pdK pd p.1 p.2) = (es'.toList.map (rg P kt heldR)).foldr DataW.insert [] := by
      have : DataW.map _ = DataW.map _ := hD'
      injection this
    have hp1 : (es'.toList.map (rg P kt heldR)).Perm ((m.filter fun p => !pd p.1).map (kvD ev)) := by
      refine (WideShapes.sorted_perm _).symm.trans ?_
      rw [← hD2]
      refine ((WideShapes.sorted_perm _).filter _).trans ?_
      rw [hread, List.filter_map]
      exact .refl _
    obtain ⟨m', hpm, hm'⟩ := perm_map_inv (kvD ev) hp1 _ rfl
    have he' : es'.toList.map (fun e => (e.key, e.val)) = m'.map fun p => (Value.int .i64 p.1, ev p.2) := by
      refine map_other (rg P kt heldR) (kvD ev) _ _ es'.toList m' hm' (fun y hy p hp e => ?_)
      obtain ⟨q, hq⟩ := hfit.reads y hy
      rw [rg_of hq] at e
      subst e
      unfold rd at hq
      cases hko : keyOf P kt y.key with
      | none => rw [hko] at hq; cases hq
      | some l =>
        rw [hko] at hq
        obtain ⟨z, e1, e2⟩ := keyOf_int_inv hk hko
        simp only [heldR, Option.bind_some, Option.map_some, kvD, Option.some.injEq, Prod.mk.injEq] at hq
        rw [e2] at hq
        have e3 : z = p.1 := by have := hq.1; injection this
        have e4 : y.val = ev p.2 := by have := hq.2; injection this
        rw [e1, e3, e4]
    refine ⟨ρ, _, _, Hp.le_refl _, ⟨rfl, m', hpm, rfl, rfl⟩, rfl, ?_⟩
    refine sat.turn (A := MP (Value.int .i64) ev b m) (B := MP (Value.int .i64) ev b m') (.there .here) s (b := b) (o0 := .map es clock) (o := .map es' clock') ?_ ⟨es', clock', Hp.one_at _ _, hfit.stamped, he'⟩ hb' hgr
    rintro h ⟨es2, clock2, h2, _⟩ hle
    have := hle.at_ _ _ h2
    have h3 : hp w b = some (.map es clock) := hb
    rw [h3] at this
    rw [h2, this]
end Go.SL
