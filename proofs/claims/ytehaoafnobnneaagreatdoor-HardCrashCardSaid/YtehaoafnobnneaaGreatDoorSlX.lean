/-
  The engine, part X: slices.Sorted(maps.Keys(m)) at keys that are strings, slices.Sort at an owned row of strings: the kit's contracts in the engine's words. Own work.
-/
import Derived.Test.YtehaoafnobnneaaGreatDoorSlR
import Derived.Test.YtehaoafnobnneaaGreatDoorSlS
import Derived.Shelf.SlIter.Nil
import Derived.Shelf.SlIter.Sorted
import Derived.Sort.OwnSorted
set_option linter.unusedVariables false
set_option linter.unusedSimpArgs false
set_option linter.unusedSectionVars false
namespace Go.SL
open Go Go.MapKept Go.Shelf Go.Proofs Go.WideElems Go.RowKit

def leS (x y : List UInt8) : Bool := decide (x ≤ y)
def sortS (l : List (List UInt8)) : List (List UInt8) := l.mergeSort fun x y => decide (x ≤ y)
theorem sortS_len (l : List (List UInt8)) : (sortS l).length = l.length := List.length_mergeSort l
theorem sortS_perm (l : List (List UInt8)) : (sortS l).Perm l := List.mergeSort_perm l _
theorem sortS_mem {l : List (List UInt8)} {z : List UInt8} : z ∈ sortS l ↔ z ∈ l := (sortS_perm l).mem_iff
theorem sortS_le (l : List (List UInt8)) : (sortS l).Pairwise (fun a b => a ≤ b) := by
  have tr : ∀ a b c : List UInt8, decide (a ≤ b) = true → decide (b ≤ c) = true → decide (a ≤ c) = true := fun a b c h1 h2 => by simp only [decide_eq_true_eq] at *; exact Std.le_trans h1 h2
  have to : ∀ a b : List UInt8, (decide (a ≤ b) || decide (b ≤ a)) = true := fun a b => by simp only [Bool.or_eq_true, decide_eq_true_eq]; exact Std.le_total
  exact (List.pairwise_mergeSort tr to l).imp fun h => by simpa using h
theorem sortS_of_perm {l l' : List (List UInt8)} (h : l.Perm l') : sortS l = sortS l' :=
  List.Perm.eq_of_pairwise (le := fun a b => a ≤ b) (fun a b _ _ h1 h2 => Std.le_antisymm h1 h2) (sortS_le l) (sortS_le l') ((sortS_perm l).trans (h.trans (sortS_perm l').symm))
theorem sortS_eq {l l' : List (List UInt8)} (h : l.Perm l') (hs : l'.Pairwise (fun a b => a ≤ b)) : sortS l = l' :=
  List.Perm.eq_of_pairwise (le := fun a b => a ≤ b) (fun a b _ _ h1 h2 => Std.le_antisymm h1 h2) (sortS_le l) hs ((sortS_perm l).trans h)
theorem strs_flat (l : List (List UInt8)) : l.map strB = l.flatMap Go.SL.encStr := by
  induction l with
  | nil => rfl
  | cons x l ih => simp [Go.SL.encStr, ih]
theorem keyOf_strB {P : Program} {kt : TypeId} (hk : P.underlying kt = some .string) {x : List UInt8} (hx : x.length ≤ maxLen) : keyOf P kt (strB x) = some (.string x) := by
  simp [keyOf, hk, mapKey, strB, hx, ByteArray.size]
theorem owns_of_s {P : Program} {kt : TypeId} (hk : P.underlying kt = some .string) {V : Type} {ev : V → Value} {b : Nat} {m : List (List UInt8 × V)} (hw : ∀ k ∈ mkeys m, k.length ≤ maxLen) (hl : m.length ≤ 1000000000) {w : World} {es : Array MapEntry} {clock : Nat}
    (hb : w.heap[b]? = some (.map es clock)) (hs : Stamped es clock) (he : es.toList.map (fun e => (e.key, e.val)) = m.map fun p => (strB p.1, ev p.2)) :
    ∃ D0 : DataW Unit, w.ownsMap P kt anyR b m.length D0 ∧ Maps.size D0 = m.length ∧ (strKeys D0).Perm (mkeys m) := by
  have hsz : es.size = m.length := by simpa using congrArg List.length he
  have hkey : es.toList.map (·.key) = (mkeys m).map strB := by
    have := congrArg (List.map (·.1)) he
    simpa [mkeys, Function.comp_def] using this
  have hr : ∀ x ∈ es.toList, ∃ k : List UInt8, k.length ≤ maxLen ∧ x.key = strB k ∧ rd P kt anyR x = some (.string k, .lit (.bool true)) := fun x hx => by
    have : x.key ∈ es.toList.map (·.key) := List.mem_map.2 ⟨x, hx, rfl⟩
    rw [hkey] at this
    obtain ⟨k, hkm, e⟩ := List.mem_map.1 this
    have hi := hw k hkm
    refine ⟨k, hi, e.symm, ?_⟩
    unfold rd
    rw [← e, keyOf_strB hk hi]
    rfl
  refine ⟨_, ⟨es, clock, hb, ⟨by rw [hsz]; unfold maxLen; omega, hs, fun x hx => let ⟨k, _, _, h⟩ := hr x hx; ⟨_, h⟩⟩, Nat.le_of_eq hsz, rfl⟩, ?_, ?_⟩
  · rw [Maps.size_eq, length_read, hsz]
  · show (((es.toList.map (rg P kt anyR)).foldr DataW.insert []).map fun p => strOf p.1).Perm _
    refine ((WideShapes.sorted_perm _).map _).trans ?_
    rw [List.map_map]
    have : es.toList.map ((fun p : Lit × DataW Unit => strOf p.1) ∘ rg P kt anyR) = mkeys m := by
      have h2 : (es.toList.map (·.key)).map (fun v => match v with | .string s => s.data.toList | _ => []) = mkeys m := by rw [hkey, List.map_map]; simp [Function.comp_def, strB]
      rw [← h2, List.map_map]
      refine List.map_congr_left fun x hx => ?_
      obtain ⟨k, _, e1, e2⟩ := hr x hx
      show strOf (rg P kt anyR x).1 = _
      rw [rg_of e2]
      simp [Function.comp_def, e1, strOf, strB]
    rw [this]
/-- slices.Sort's two contracts, as slices.Sorted's asks them -/
theorem sorts_of_s {P : Program} {ρk : Ren} {ρs : Ren} (L : SlLaysM.n6 P ρk) (h : ρk.f 6 = ρs.f 9) (m : Nat) (hn : ∀ (p : Option Addr) (cap : Nat) (W : World), Calls P (ρk.f 6) #[.slice p 0 cap] W fun e w' => e = .returned (.tuple #[]) ∧ w' = W) : AnyZ.SortsIn P ρs Fence.wide m :=
  ⟨fun blk off cap ss W hH hblk hsz => by rw [← h]; exact callsIn_wide.2 (AnyM.slices_Sort_string L blk off cap ss W hH hblk hsz),
   fun p cap W => by rw [← h]; exact callsIn_wide.2 (hn p cap W)⟩
/-- slices.Sorted(maps.Keys(m)), the iterator's value at hand -/
theorem sortedKeysS {P : Program} {ρk ρs ρo : Ren} (Lk : SlLaysZ.n10 P ρk) (Ls : SlLaysZ.n6 P ρs) (Lo : SlLaysM.n6 P ρo) (ho : ρo.f 6 = ρs.f 9)
    {kt T : TypeId} (hkt : ρs.t 26 = kt) {V : Type} {ev : V → Value} (b c : Nat) (m : List (List UInt8 × V)) (hw : ∀ k ∈ mkeys m, k.length ≤ maxLen) (hl : m.length ≤ 1000000000) (ρ : Hp) :
    Spec0 P (ρs.f 6) #[.func (.func (ρk.f 10)) #[] #[.pointer (some ⟨c, 0, none⟩)]] ρ [.pts c [.map (some b)] T, MP strB ev b m]
      (fun v Γ' => ∃ a cap, v = .slice a m.length cap ∧ Γ' = [.row kt 1 a m.length cap ((sortS (mkeys m)).flatMap Go.SL.encStr), .pts c [.map (some b)] T, MP strB ev b m]) := by
  intro E Δ w s
  obtain ⟨es, clock, hb, hs, he⟩ := mp_at (ek := strB) (ev := ev) (m := m) (b := b) (Γ := .pts c [.map (some b)] T :: MP strB ev b m :: Δ) (.there .here) s
  obtain ⟨h1, _, _, l1, _, hc, _⟩ := s.pick (A := .pts c [.map (some b)] T) (B := [.pts c [.map (some b)] T]) (Γ' := .pts c [.map (some b)] T :: MP strB ev b m :: Δ) .here
  have hc' : w.heap[c]? = some (.cells #[.map (some b)] T (0, 0)) := l1.at_ _ _ hc
  have hcell : w.cell? ⟨c, 0, none⟩ = some (.map (some b)) := by rw [cell_at hc']; rfl
  have hclt : c < w.heap.size := (Array.getElem?_eq_some_iff.1 hc').1
  have hkd : P.underlying (ρk.t 26) = some .string := Lk.t26
  obtain ⟨D0, hown, hD, hp⟩ := owns_of_s (P := P) (kt := ρk.t 26) hkd hw hl hb hs he
  have hseq := AnyZ.keys_gives Lk Fence.wide 1 trivial rfl (by omega) c b m.length D0 w hclt hcell hown
  rw [hD] at hseq
  obtain ⟨_, _, FG6⟩ := Ls.f6
  have e9 : ∀ args w, (callFunc (ρs.f 9) args).run P w = .ok (.enter (ρs.f 9) args) w := by rw [← ho]; exact (Lo.f6).enters rfl
  have eg : ∀ args w, (callFunc (ρk.f 10) args).run P w = .ok (.enter (ρk.f 10) args) w := Lk.f10.enters rfl
  have cS := AnyZ.sorted_in Ls Fence.wide 4 trivial trivial trivial trivial rfl (by omega) (sorts_of_s Lo ho _ (AnyM.slices_Sort_string_none Lo)) e9 (ρk.f 10) #[.pointer (some ⟨c, 0, none⟩)] trivial eg _ m.length (by unfold maxLen; omega) (by omega) w hseq
  refine (callsIn_wide.1 cS).mono ?_
  rintro e w' ⟨v, ss, rfl, hS, hrow, -, hbl⟩
  have hpm : ss.Perm (mkeys m) := hS.trans hp
  have hlen : ss.length = m.length := by have := hpm.length_eq; simpa [mkeys] using this
  have hsrt : ss.mergeSort (fun x y => decide (x ≤ y)) = sortS (mkeys m) := sortS_of_perm hpm
  rw [hsrt, hlen, hkt] at hrow
  rw [show (sortS (mkeys m)).map Go.Proofs.encStr = (sortS (mkeys m)).flatMap Go.SL.encStr from strs_flat _] at hrow
  obtain ⟨a, cap, rfl, s'⟩ := s.ownrow hbl hrow
  exact ⟨ρ, _, _, Hp.le_refl _, ⟨rfl, a, cap, rfl, rfl⟩, rfl, s'⟩
/-- slices.Sort at a row of strings -/
theorem sort_rowS {P : Program} {ρm : Ren} (L : SlLaysM.n6 P ρm) {t : TypeId} (a : Option Addr) (n cap : Nat) (xs : List (List UInt8)) (hn : xs.length = n) (hl : n ≤ 1000000000) (ρ : Hp) :
    Spec0 P (ρm.f 6) #[.slice a n cap] ρ [.row t 1 a n cap (xs.flatMap Go.SL.encStr)] (fun v Γ' => v = .tuple #[] ∧ Γ' = [.row t 1 a n cap ((sortS xs).flatMap Go.SL.encStr)]) := by
  intro E Δ w s
  obtain ⟨h1, hr, d, l1, lr, ⟨hlen, hA⟩, K⟩ := s.pick (A := .row t 1 a n cap (xs.flatMap Go.SL.encStr)) (B := [.row t 1 a n cap (xs.flatMap Go.SL.encStr)]) (Γ' := .row t 1 a n cap (xs.flatMap Go.SL.encStr) :: Δ) .here
  rcases hA with ⟨rfl, h0, rfl⟩ | ⟨g, cur, fz, rfl, hg, hs, h2, h3, h4, h5⟩
  · subst h0
    obtain rfl : xs = [] := List.eq_nil_of_length_eq_zero hn
    refine (AnyM.slices_Sort_string_none L none 0 w).mono ?_
    rintro e w' ⟨rfl, rfl⟩
    have e0 : sortS [] = [] := by simp [sortS]
    exact ⟨ρ, _, _, Hp.le_refl _, ⟨rfl, rfl, rfl⟩, rfl, by rw [e0]; exact s⟩
  · subst hn
    have hb : hp w g = some (.cells cur t fz) := l1.at_ _ _ hg
    have hglt : g < w.heap.size := (Array.getElem?_eq_some_iff.1 hb).1
    have hH : Sort.Holds strB w g 0 xs.toArray := by
      intro j hj
      have hj' : j < xs.length := by simpa using hj
      refine ⟨?_, by rw [Nat.zero_add]; exact soft_at hb hs (by omega)⟩
      have h6 : (cur.toList.take xs.length)[j]? = (xs.map strB)[j]? := by rw [strs_flat, ← h5, Nat.mul_one]
      rw [List.getElem?_take_of_lt hj'] at h6
      have hb' : w.heap[g]? = some (.cells cur t fz) := hb
      simp only [World.cell?, hb', Nat.zero_add]
      simp only [Option.isSome_none, Bool.false_eq_true, if_false]
      rw [← Array.getElem?_toList, h6]
      simp [hj']
    refine (AnyM.slices_Sort_string L g 0 cap xs w hH hglt (by omega)).mono ?_
    rintro e w' ⟨rfl, k, os, rfl⟩
    have hsrt : (xs.mergeSort fun x y => decide (x ≤ y)) = sortS xs := rfl
    have hl2 : (sortS xs).length = xs.length := sortS_len xs
    refine ⟨ρ, _, _, Hp.le_refl _, ⟨rfl, rfl, rfl⟩, rfl, ?_⟩
    refine sat.turn (A := .row t 1 (some ⟨g, 0, none⟩) xs.length cap (xs.flatMap Go.SL.encStr)) (B := .row t 1 (some ⟨g, 0, none⟩) xs.length cap ((sortS xs).flatMap Go.SL.encStr)) .here s (b := g) (o0 := .cells cur t fz) (o := .cells (Sort.putCells strB 0 (sortS xs).toArray cur) t fz) ?_ ?_ ?_ ?_
    · rintro h ⟨_, ⟨h0, _⟩ | ⟨g', cur', fz', e1, hg', _⟩⟩ hle
      · cases h0
      · cases e1
        have := hle.at_ _ _ hg'
        rw [hb] at this
        rw [hg', this]
    · refine ⟨by rw [← strs_flat]; simp [hl2], .inr ⟨g, _, fz, rfl, Hp.one_at _ _, ?_, h2, h3, ?_, ?_⟩⟩
      · simpa [Sort.putCells] using hs
      · simp [Sort.putCells, h4]
      · rw [Nat.mul_one, ← strs_flat, ← hl2]
        exact take_putCells cur (sortS xs) (by omega)
    · rw [hsrt]; exact heap_sorted _ hb
    · rw [hsrt]; exact grownBy_sorted _

end Go.SL
