/- part -/
import Derived.Test.YtijldgggjioccaaGreatDoorSlEb
import Derived.Shelf.SlIterI.Nil
import Derived.Shelf.SortM.Plain
import Derived.Shelf.SortM.SortNone
import Derived.Maps.OwnSet
import Derived.Shelf.SlMaps.DeleteFunc
import Derived.Sort.OwnSortedInts
import Derived.Shelf.SlIter.Nil
import Derived.Shelf.SlIter.Sorted
import Derived.Sort.OwnSorted
import Derived.Shelf.Strings.SlTrimAscii
import Derived.Shelf.Bytes.SlJoin
import Derived.Shelf.Slices.CompactS
import Derived.Sort.Walk0
import Derived.Shelf.Strconv.Itoa0
set_option linter.unusedVariables false
set_option linter.unusedSimpArgs false
set_option linter.unusedSectionVars false
namespace Go.SL
open Go Go.MapKept Go.Shelf Go.Proofs Go.WideElems Go.RowKit
def I64 (z : Int) : Prop := -9223372036854775808 ≤ z ∧ z ≤ 9223372036854775807
theorem wf_i64 {z : Int} : (Lit.int .i64 z).wf = true ↔ I64 z := by
  simp [Lit.wf, IntKind.min, IntKind.max, IntKind.signed, IntKind.bits, I64]
theorem sat.below {E : World} {ρ : Hp} {Γ : List Asn} {w w' : World} (s : sat E ρ Γ w) (bl : Below w.heap.size w w') : sat E ρ Γ w' := by
  obtain ⟨⟨x1, x2, x3⟩, l, h, lh, d, st⟩ := s
  have up : ∀ {k : Hp}, k.le (hp w) → k.le (hp w') := fun {k} lk => ⟨fun b o e => by
    have h1 := lk.at_ b o e; have hlt : b < w.heap.size := (Array.getElem?_eq_some_iff.1 h1).1; show w'.heap[b]? = some o; rw [bl.block b hlt]; exact h1⟩
  exact ⟨⟨bl.os.trans x1, bl.tape.trans x2, bl.output.trans x3⟩, up l, h, up lh, d, st⟩
theorem sat.fresh {E : World} {ρ : Hp} {Γ : List Asn} {w w' : World} {A : Asn} (s : sat E ρ Γ w) (bl : Below w.heap.size w w') (h1 : Hp) (hn : ∀ b o, h1 b = some o → w.heap.size ≤ b) (hl : h1.le (hp w')) (hA : A.sat h1) : sat E ρ (A :: Γ) w' := by
  obtain ⟨x', l', h', lh', d', st'⟩ := s.below bl; obtain ⟨x, l, h, lh, d, st⟩ := s
  have out : ∀ {k : Hp}, k.le (hp w) → h1.disj k := fun {k} lk => ⟨fun b => by
    cases e : h1 b with
    | none => exact .inl rfl
    | some o =>
      right
      cases e2 : k b with
      | none => rfl
      | some o2 =>
        have hlt : b < w.heap.size := (Array.getElem?_eq_some_iff.1 (lk.at_ b o2 e2)).1; have := hn b o e
        omega⟩
  have up : ∀ {k : Hp}, k.le (hp w) → k.le (hp w') := fun {k} lk => ⟨fun b o e => by
    have h1 := lk.at_ b o e; have hlt : b < w.heap.size := (Array.getElem?_eq_some_iff.1 h1).1; show w'.heap[b]? = some o; rw [bl.block b hlt]; exact h1⟩
  exact ⟨x', up l, h1.join h, Hp.join_le hl (up lh), (Hp.disj_join (out l).disj_symm d.disj_symm).disj_symm, h1, h, out lh, Hp.le_joinL _ _, Hp.le_joinR (out lh), hA, st⟩
theorem sat.ownrow {E : World} {ρ : Hp} {Γ : List Asn} {w w' : World} {e : TypeId} {v : Value} {n : Nat} {cs : List Value} (s : sat E ρ Γ w) (bl : Below w.heap.size w w') (h : w'.ownsRow w.heap.size e 1 v n cs) :
    ∃ a cap, v = .slice a n cap ∧ sat E ρ (.row e 1 a n cap cs :: Γ) w' := by
  obtain ⟨h0, ⟨rfl, rfl⟩ | ⟨g, cap, cur, rfl, hg, hb, h1, h2, h3, h4⟩⟩ := h
  · exact ⟨none, 0, rfl, s.fresh bl Hp.none_ (fun b o e => by cases e) (Hp.none_le _) ⟨h0, .inl ⟨rfl, rfl, rfl⟩⟩⟩
  · refine ⟨_, cap, rfl, s.fresh bl (Hp.one g (.cells cur e (0, 0))) (fun b o q => ?_) (Hp.one_le hb) ⟨h0, .inr ⟨g, cur, (0, 0), rfl, Hp.one_at _ _, .inl rfl, h1, h2, h3, h4⟩⟩⟩; unfold Hp.one at q
    split at q
    · rename_i e; rw [e]; exact hg
    · cases q
def anyR : Value → Option (DataW Unit × List MemPlace) := fun _ => some (.lit (.bool true), [])
end Go.SL
namespace Go.SL
open Go Go.MapKept Go.Shelf Go.Proofs Go.WideElems Go.RowKit
theorem sat.turn {A B : Asn} {Γ Γ' : List Asn} (p : Pick A [B] Γ Γ') {E : World} {ρ : Hp} {w w' : World} (s : sat E ρ Γ w) {b : Nat} {o0 o : Obj} (hA : ∀ h, A.sat h → h.le (hp w) → h b = some o0) (hB : B.sat (Hp.one b o)) (hb : w'.heap[b]? = some o) (hg : w.grownBy w' (some b)) : sat E ρ Γ' w' := by
  obtain ⟨h1, hr, d, l1, lr, a, K⟩ := s.pick p; have e := hA _ a l1; refine K w' (Hp.one b o) ⟨hg.os, hg.tape, hg.output⟩ ⟨Hp.one b o, Hp.none_, (Hp.none_disj _).disj_symm, Hp.le_refl _, Hp.none_le _, hB, trivial⟩ (Hp.one_disj (d.out e)) (Hp.one_le hb) ⟨fun x ox hx => ?_⟩; have hne : x ≠ b := fun e' => by subst e'; rw [d.out e] at hx; cases hx
  have h0 : w.heap[x]? = some ox := lr.at_ _ _ hx; have hlt : x < w.heap.size := (Array.getElem?_eq_some_iff.1 h0).1; show w'.heap[x]? = some ox; rw [hg.block x hlt (by simpa using hne)]; exact h0
end Go.SL
namespace Go.SL
open Go Go.MapKept Go.Shelf Go.Proofs Go.WideElems Go.RowKit
def sortS (l : List (List UInt8)) : List (List UInt8) := l.mergeSort fun x y => decide (x ≤ y)
theorem sortS_len (l : List (List UInt8)) : (sortS l).length = l.length := List.length_mergeSort l
theorem sortS_perm (l : List (List UInt8)) : (sortS l).Perm l := List.mergeSort_perm l _
theorem sortS_mem {l : List (List UInt8)} {z : List UInt8} : z ∈ sortS l ↔ z ∈ l := (sortS_perm l).mem_iff
theorem sortS_le (l : List (List UInt8)) : (sortS l).Pairwise (fun a b => a ≤ b) := by
  have tr : ∀ a b c : List UInt8, decide (a ≤ b) = true → decide (b ≤ c) = true → decide (a ≤ c) = true := fun a b c h1 h2 => by simp only [decide_eq_true_eq] at *; exact Std.le_trans h1 h2
  have to : ∀ a b : List UInt8, (decide (a ≤ b) || decide (b ≤ a)) = true := fun a b => by simp only [Bool.or_eq_true, decide_eq_true_eq]; exact Std.le_total
  exact (List.pairwise_mergeSort tr to l).imp fun h => by simpa using h
theorem sortS_of_perm {l l' : List (List UInt8)} (h : l.Perm l') : sortS l = sortS l' :=
  List.Perm.eq_of_pairwise (le := fun a b => a ≤ b) (fun a b _ _ h1 h2 => Std.le_antisymm h1 h2) (sortS_le l) (sortS_le l') ((sortS_perm l).trans (h.trans (sortS_perm l').symm))
theorem sortS_eq {l l' : List (List UInt8)} (h : l.Perm l') (hs : l'.Pairwise (fun a b => a ≤ b)) : sortS l = l' :=
  List.Perm.eq_of_pairwise (le := fun a b => a ≤ b) (fun a b _ _ h1 h2 => Std.le_antisymm h1 h2) (sortS_le l) hs ((sortS_perm l).trans h)
theorem strs_flat (l : List (List UInt8)) : l.map strB = l.flatMap Go.SL.encStr := by
  induction l with
  | nil => rfl
  | cons x l ih => simp [Go.SL.encStr, ih]
theorem keyOf_strB {P : Program} {kt : TypeId} (hk : P.underlying kt = some .string) {x : List UInt8} (hx : x.length ≤ maxLen) : keyOf P kt (strB x) = some (.string x) := by
  simp [keyOf, hk, mapKey, strB, hx, ByteArray.size]
theorem owns_of_s {P : Program} {kt : TypeId} (hk : P.underlying kt = some .string) {V : Type} {ev : V → Value} {b : Nat} {m : List (List UInt8 × V)} (hw : ∀ k ∈ mkeys m, k.length ≤ maxLen) (hl : m.length ≤ 1000000000) {w : World} {es : Array MapEntry} {clock : Nat}
    (hb : w.heap[b]? = some (.map es clock)) (hs : Stamped es clock) (he : es.toList.map (fun e => (e.key, e.val)) = m.map fun p => (strB p.1, ev p.2)) :
    ∃ D0 : DataW Unit, w.ownsMap P kt anyR b m.length D0 ∧ Maps.size D0 = m.length ∧ (strKeys D0).Perm (mkeys m) := by
  have hsz : es.size = m.length := by simpa using congrArg List.length he
  have hkey : es.toList.map (·.key) = (mkeys m).map strB := by
    have := congrArg (List.map (·.1)) he; simpa [mkeys, Function.comp_def] using this
  have hr : ∀ x ∈ es.toList, ∃ k : List UInt8, k.length ≤ maxLen ∧ x.key = strB k ∧ rd P kt anyR x = some (.string k, .lit (.bool true)) := fun x hx => by
    have : x.key ∈ es.toList.map (·.key) := List.mem_map.2 ⟨x, hx, rfl⟩; rw [hkey] at this; obtain ⟨k, hkm, e⟩ := List.mem_map.1 this; have hi := hw k hkm; refine ⟨k, hi, e.symm, ?_⟩; unfold rd; rw [← e, keyOf_strB hk hi]; rfl
  refine ⟨_, ⟨es, clock, hb, ⟨by rw [hsz]; unfold maxLen; omega, hs, fun x hx => let ⟨k, _, _, h⟩ := hr x hx; ⟨_, h⟩⟩, Nat.le_of_eq hsz, rfl⟩, ?_, ?_⟩
  · rw [Maps.size_eq, length_read, hsz]
  · show (((es.toList.map (rg P kt anyR)).foldr DataW.insert []).map fun p => strOf p.1).Perm _; refine ((WideShapes.sorted_perm _).map _).trans ?_; rw [List.map_map]
    have : es.toList.map ((fun p : Lit × DataW Unit => strOf p.1) ∘ rg P kt anyR) = mkeys m := by
      have h2 : (es.toList.map (·.key)).map (fun v => match v with | .string s => s.data.toList | _ => []) = mkeys m := by rw [hkey, List.map_map]; simp [Function.comp_def, strB]
      rw [← h2, List.map_map]; refine List.map_congr_left fun x hx => ?_; obtain ⟨k, _, e1, e2⟩ := hr x hx; show strOf (rg P kt anyR x).1 = _; rw [rg_of e2]; simp [Function.comp_def, e1, strOf, strB]
    rw [this]
theorem sorts_of_s {P : Program} {ρk : Ren} {ρs : Ren} (L : SlLaysM.n6 P ρk) (h : ρk.f 6 = ρs.f 9) (m : Nat) (hn : ∀ (p : Option Addr) (cap : Nat) (W : World), Calls P (ρk.f 6) #[.slice p 0 cap] W fun e w' => e = .returned (.tuple #[]) ∧ w' = W) : AnyZ.SortsIn P ρs Fence.wide m :=
  ⟨fun blk off cap ss W hH hblk hsz => by rw [← h]; exact callsIn_wide.2 (AnyM.slices_Sort_string L blk off cap ss W hH hblk hsz),
   fun p cap W => by rw [← h]; exact callsIn_wide.2 (hn p cap W)⟩
theorem sortedKeysS {P : Program} {ρk ρs ρo : Ren} (Lk : SlLaysZ.n10 P ρk) (Ls : SlLaysZ.n6 P ρs) (Lo : SlLaysM.n6 P ρo) (ho : ρo.f 6 = ρs.f 9)
    {kt T : TypeId} (hkt : ρs.t 26 = kt) {V : Type} {ev : V → Value} (b c : Nat) (m : List (List UInt8 × V)) (hw : ∀ k ∈ mkeys m, k.length ≤ maxLen) (hl : m.length ≤ 1000000000) (ρ : Hp) :
    Spec0 P (ρs.f 6) #[.func (.func (ρk.f 10)) #[] #[.pointer (some ⟨c, 0, none⟩)]] ρ [.pts c [.map (some b)] T, MP strB ev b m]
      (fun v Γ' => ∃ a cap, v = .slice a m.length cap ∧ Γ' = [.row kt 1 a m.length cap ((sortS (mkeys m)).flatMap Go.SL.encStr), .pts c [.map (some b)] T, MP strB ev b m]) := by
  intro E Δ w s; obtain ⟨es, clock, hb, hs, he⟩ := mp_at (ek := strB) (ev := ev) (m := m) (b := b) (Γ := .pts c [.map (some b)] T :: MP strB ev b m :: Δ) (.there .here) s; obtain ⟨h1, _, _, l1, _, hc, _⟩ := s.pick (A := .pts c [.map (some b)] T) (B := [.pts c [.map (some b)] T]) (Γ' := .pts c [.map (some b)] T :: MP strB ev b m :: Δ) .here; have hc' : w.heap[c]? = some (.cells #[.map (some b)] T (0, 0)) := l1.at_ _ _ hc; have hcell : w.cell? ⟨c, 0, none⟩ = some (.map (some b)) := by rw [cell_at hc']; rfl
  have hclt : c < w.heap.size := (Array.getElem?_eq_some_iff.1 hc').1; have hkd : P.underlying (ρk.t 26) = some .string := Lk.t26; obtain ⟨D0, hown, hD, hp⟩ := owns_of_s (P := P) (kt := ρk.t 26) hkd hw hl hb hs he; have hseq := AnyZ.keys_gives Lk Fence.wide 1 trivial rfl (by omega) c b m.length D0 w hclt hcell hown; rw [hD] at hseq; obtain ⟨_, _, FG6⟩ := Ls.f6; have e9 : ∀ args w, (callFunc (ρs.f 9) args).run P w = .ok (.enter (ρs.f 9) args) w := by rw [← ho]; exact (Lo.f6).enters rfl
  have eg : ∀ args w, (callFunc (ρk.f 10) args).run P w = .ok (.enter (ρk.f 10) args) w := Lk.f10.enters rfl; have cS := AnyZ.sorted_in Ls Fence.wide 4 trivial trivial trivial trivial rfl (by omega) (sorts_of_s Lo ho _ (AnyM.slices_Sort_string_none Lo)) e9 (ρk.f 10) #[.pointer (some ⟨c, 0, none⟩)] trivial eg _ m.length (by unfold maxLen; omega) (by omega) w hseq; refine (callsIn_wide.1 cS).mono ?_; rintro e w' ⟨v, ss, rfl, hS, hrow, -, hbl⟩; have hpm : ss.Perm (mkeys m) := hS.trans hp; have hlen : ss.length = m.length := by have := hpm.length_eq; simpa [mkeys] using this
  have hsrt : ss.mergeSort (fun x y => decide (x ≤ y)) = sortS (mkeys m) := sortS_of_perm hpm; rw [hsrt, hlen, hkt] at hrow; rw [show (sortS (mkeys m)).map Go.Proofs.encStr = (sortS (mkeys m)).flatMap Go.SL.encStr from strs_flat _] at hrow; obtain ⟨a, cap, rfl, s'⟩ := s.ownrow hbl hrow; exact ⟨ρ, _, _, Hp.le_refl _, ⟨rfl, a, cap, rfl, rfl⟩, rfl, s'⟩
theorem sort_rowS {P : Program} {ρm : Ren} (L : SlLaysM.n6 P ρm) {t : TypeId} (a : Option Addr) (n cap : Nat) (xs : List (List UInt8)) (hn : xs.length = n) (hl : n ≤ 1000000000) (ρ : Hp) :
    Spec0 P (ρm.f 6) #[.slice a n cap] ρ [.row t 1 a n cap (xs.flatMap Go.SL.encStr)] (fun v Γ' => v = .tuple #[] ∧ Γ' = [.row t 1 a n cap ((sortS xs).flatMap Go.SL.encStr)]) := by
  intro E Δ w s; obtain ⟨h1, hr, d, l1, lr, ⟨hlen, hA⟩, K⟩ := s.pick (A := .row t 1 a n cap (xs.flatMap Go.SL.encStr)) (B := [.row t 1 a n cap (xs.flatMap Go.SL.encStr)]) (Γ' := .row t 1 a n cap (xs.flatMap Go.SL.encStr) :: Δ) .here
  rcases hA with ⟨rfl, h0, rfl⟩ | ⟨g, cur, fz, rfl, hg, hs, h2, h3, h4, h5⟩
  · subst h0; obtain rfl : xs = [] := List.eq_nil_of_length_eq_zero hn; refine (AnyM.slices_Sort_string_none L none 0 w).mono ?_; rintro e w' ⟨rfl, rfl⟩; have e0 : sortS [] = [] := by simp [sortS]
    exact ⟨ρ, _, _, Hp.le_refl _, ⟨rfl, rfl, rfl⟩, rfl, by rw [e0]; exact s⟩
  · subst hn; have hb : hp w g = some (.cells cur t fz) := l1.at_ _ _ hg; have hglt : g < w.heap.size := (Array.getElem?_eq_some_iff.1 hb).1
    have hH : Sort.Holds strB w g 0 xs.toArray := by
      intro j hj; have hj' : j < xs.length := by simpa using hj
      refine ⟨?_, by rw [Nat.zero_add]; exact soft_at hb hs (by omega)⟩; have h6 : (cur.toList.take xs.length)[j]? = (xs.map strB)[j]? := by rw [strs_flat, ← h5, Nat.mul_one]
      rw [List.getElem?_take_of_lt hj'] at h6; have hb' : w.heap[g]? = some (.cells cur t fz) := hb; simp only [World.cell?, hb', Nat.zero_add]; simp only [Option.isSome_none, Bool.false_eq_true, if_false]; rw [← Array.getElem?_toList, h6]; simp [hj']
    refine (AnyM.slices_Sort_string L g 0 cap xs w hH hglt (by omega)).mono ?_; rintro e w' ⟨rfl, k, os, rfl⟩; have hsrt : (xs.mergeSort fun x y => decide (x ≤ y)) = sortS xs := rfl; have hl2 : (sortS xs).length = xs.length := sortS_len xs; refine ⟨ρ, _, _, Hp.le_refl _, ⟨rfl, rfl, rfl⟩, rfl, ?_⟩; refine sat.turn (A := .row t 1 (some ⟨g, 0, none⟩) xs.length cap (xs.flatMap Go.SL.encStr)) (B := .row t 1 (some ⟨g, 0, none⟩) xs.length cap ((sortS xs).flatMap Go.SL.encStr)) .here s (b := g) (o0 := .cells cur t fz) (o := .cells (Sort.putCells strB 0 (sortS xs).toArray cur) t fz) ?_ ?_ ?_ ?_
    · rintro h ⟨_, ⟨h0, _⟩ | ⟨g', cur', fz', e1, hg', _⟩⟩ hle
      · cases h0
      · cases e1
        have := hle.at_ _ _ hg'; rw [hb] at this; rw [hg', this]
    · refine ⟨by rw [← strs_flat]; simp [hl2], .inr ⟨g, _, fz, rfl, Hp.one_at _ _, ?_, h2, h3, ?_, ?_⟩⟩
      · simpa [Sort.putCells] using hs
      · simp [Sort.putCells, h4]
      · rw [Nat.mul_one, ← strs_flat, ← hl2]; exact take_putCells cur (sortS xs) (by omega)
    · rw [hsrt]; exact heap_sorted _ hb
    · rw [hsrt]; exact grownBy_sorted _
end Go.SL
namespace Go.SL
open Go Go.MapKept Go.Shelf Go.Proofs Go.WideElems Go.RowKit
def rob (sz : Nat) (a : Option Addr) (n cap : Nat) (cs : List Value) : Asn := .raw fun h => Ro h sz a n cap cs
theorem rd_rob {ρ : Hp} {Γ : List Asn} {sz n cap : Nat} {a : Option Addr} {cs : List Value} (p : Pick (rob sz a n cap cs) [rob sz a n cap cs] Γ Γ) : Rd ρ Γ sz a n cap cs := fun _ _ s => by
  obtain ⟨h1, _, _, l1, _, ⟨x1, x2, x3, x4⟩, _⟩ := s.pick p; exact ⟨x1, x2, x3, fun j c e => let ⟨ad, e1, e2⟩ := x4 j c e; ⟨ad, e1, cell_of_le l1 e2⟩⟩
theorem Lent.rob {ρ ρ' : Hp} {Δ Δ' : List Asn} (l : Lent ρ ρ' Δ) {sz n cap : Nat} {a : Option Addr} {cs : List Value} (p : Pick (rob sz a n cap cs) [] Δ Δ') : Ro ρ' sz a n cap cs := Lent.raw (B := fun h => Ro h sz a n cap cs) l p fun h hA hl => Ro.mono hl hA
theorem rob_nil (Γ : List Asn) (sz : Nat) : Ent Γ (rob sz none 0 0 [] :: Γ) := Ent.raw (fun h => Ro.nil h sz) Γ
theorem bytesOf_at {zs : List Int} {l : List UInt8} (hr : ∀ x ∈ zs, 0 ≤ x ∧ x < 256) (hb : Lib.bytesOf (zs.take l.length) = l) (i : Nat) (x : UInt8) (h : l[i]? = some x) : zs.getD i 0 = (x.toNat : Int) := by
  have hi : i < l.length := (List.getElem?_eq_some_iff.1 h).1; rw [← hb] at h; unfold Lib.bytesOf at h; rw [List.getElem?_map, List.getElem?_take_of_lt hi] at h
  cases hz : zs[i]? with
  | none => rw [hz] at h; cases h
  | some z =>
    rw [hz] at h; simp only [Option.map_some, Option.some.injEq] at h; have hm := hr z (List.mem_of_getElem? hz); rw [List.getD, hz, ← h]; show z = ((UInt8.ofNat z.toNat).toNat : Int); rw [UInt8.toNat_ofNat']; omega
theorem encB_at {l : List UInt8} {i : Nat} {c : Value} (h : (l.flatMap encB)[i]? = some c) : ∃ x, l[i]? = some x ∧ c = .int .u8 (x.toNat : Int) := by
  have e : l.flatMap encB = l.map fun x => Value.int .u8 (x.toNat : Int) := by
    clear h
    induction l with
    | nil => rfl
    | cons x l ih => rw [List.flatMap_cons, ih]; rfl
  rw [e, List.getElem?_map] at h
  cases hx : l[i]? with
  | none => rw [hx] at h; cases h
  | some x => rw [hx] at h; exact ⟨x, rfl, by simpa using h.symm⟩
theorem sat.freshB {E : World} {ρ : Hp} {Γ : List Asn} {w w' : World} {v : Value} {l : List UInt8} (s : sat E ρ Γ w) (bl : Below w.heap.size w w') (h : Lib.FreshBytes w.heap.size w' v l) :
    ∃ a cap, v = .slice a l.length cap ∧ sat E ρ (rob 1 a l.length cap (l.flatMap encB) :: Γ) w' := by
  obtain ⟨g, cap, zs, rfl, hg, hl, hc, hz, hr, hb, hcell, -⟩ := h; refine ⟨_, cap, rfl, ?_⟩
  by_cases h0 : l = []
  · subst h0; exact s.fresh bl Hp.none_ (fun b o e => by cases e) (Hp.none_le _) ⟨by simp, Nat.zero_le _, hc, fun j c e => by simp at e⟩
  · have hpos : 0 < l.length := List.length_pos_iff.2 h0; have hc0 := hcell 0 (by omega)
    obtain ⟨ob, hob⟩ : ∃ ob, w'.heap[g]? = some ob := by
      cases e : w'.heap[g]? with
      | none => unfold World.cell? at hc0; simp only [e] at hc0; cases hc0
      | some ob => exact ⟨ob, rfl⟩
    refine s.fresh bl (Hp.one g ob) (fun b o q => ?_) (Hp.one_le hob) ⟨flat_len (sz := 1) (fun _ => rfl) l, hl, hc, fun j c e => ?_⟩
    · unfold Hp.one at q
      split at q
      · rename_i e; rw [e]; exact hg
      · cases q
    · obtain ⟨x, hx, rfl⟩ := encB_at e; have hj : j < l.length := (List.getElem?_eq_some_iff.1 hx).1; refine ⟨_, rfl, ?_⟩; have h1 := hcell j (by omega); rw [bytesOf_at hr hb j x hx] at h1; rw [addr_add]; unfold World.cell? at h1; unfold Hp.cell?; rw [Hp.one_at]; simp only [hob] at h1
      cases ob <;> simp_all
theorem trim_s {P : Program} {ρk : Ren} (L : Lays.n160 P ρk) (h116 : (P.info? (ρk.t 116)).map (fun i => (i.zero, i.size)) = some (some (.agg (Array.replicate 256 (.bool false))), 256)) (s cutset : List UInt8) (hs : s.length ≤ 9223372036854775807) (hcs : cutset.length < 4294967281) (hascii : cutset.all (fun b => decide (b.toNat < 128)) = true) (ρ : Hp) :
    Spec0 P (ρk.f 160) #[strB s, strB cutset] ρ [] (fun v Γ' => v = strB (Lib.trimS s cutset) ∧ Γ' = []) := by
  intro E Δ w sa; refine (Any.strings_Trim_laid L h116 ⟨s.toArray⟩ ⟨cutset.toArray⟩ w (by simpa [ByteArray.size] using hs) (by simpa [ByteArray.size] using hcs) (by simpa using ascii_of_all hascii)).mono ?_; rintro e w' ⟨rfl, bl⟩; exact ⟨ρ, strB (Lib.trimS s cutset), [], Hp.le_refl _, ⟨rfl, rfl, rfl⟩, by simp [strB], sa.below bl⟩
theorem drop_all {p : UInt8 → Bool} : ∀ (l : List UInt8), l.dropWhile p = [] ↔ ∀ x ∈ l, p x = true
  | [] => by simp
  | x :: l => by
    rw [List.dropWhile_cons]
    by_cases h : p x = true
    · rw [if_pos h, drop_all l]; simp [h]
    · rw [if_neg h]; simp [h]
theorem drop_mem {p : UInt8 → Bool} {l : List UInt8} (h : ∀ x ∈ l.dropWhile p, p x = true) : ∀ x ∈ l, p x = true := by
  induction l with
  | nil => intro x hx; cases hx
  | cons y l ih =>
    rw [List.dropWhile_cons] at h
    by_cases q : p y = true
    · rw [if_pos q] at h; intro x hx
      rcases List.mem_cons.1 hx with rfl | hx
      · exact q
      · exact ih h x hx
    · rw [if_neg q] at h; exact absurd (h y List.mem_cons_self) q
theorem trim_nil (s cs : List UInt8) : Lib.trimS s cs = [] ↔ ∀ c ∈ s, cs.contains c = true := by
  unfold Lib.trimS Lib.trimLeftS Lib.trimRightS; rw [drop_all]
  constructor
  · intro h c hc; have : ∀ x ∈ s.reverse.dropWhile (cs.contains ·), cs.contains x = true := fun x hx => h x (List.mem_reverse.2 hx); exact drop_mem this c (List.mem_reverse.2 hc)
  · intro h c hc; exact h c (List.mem_reverse.1 ((List.dropWhile_sublist _).mem (List.mem_reverse.1 hc)))
theorem parts_of {w : World} {ρ : Hp} (hρ : ρ.le (hp w)) {b o : Nat} {n cap : Nat} {bs : List (SL UInt8)} (hro : Ro ρ 1 (some ⟨b, o, none⟩) n cap (bs.flatMap encSL)) (hm : ∀ s ∈ bs, s.ro encB 1 ρ) : Lib.PartsAt w ⟨b, o, none⟩ (bs.map SL.v) (bs.map (·.xs)) := by
  have e : bs.flatMap encSL = bs.map SL.v := by
    clear hro hm
    induction bs with
    | nil => rfl
    | cons x l ih => rw [List.flatMap_cons, ih]; rfl
  refine ⟨by simp, fun i v h => ?_, fun i v l h1 h2 => ?_⟩
  · obtain ⟨ad, e1, e2⟩ := hro.2.2.2 i v (by rw [e]; exact h)
    cases e1
    exact cell_of_le hρ e2
  · rw [List.getElem?_map] at h1 h2
    cases hs : bs[i]? with
    | none => rw [hs] at h1; cases h1
    | some s =>
      rw [hs] at h1 h2; simp only [Option.map_some, Option.some.injEq] at h1 h2; subst h1; subst h2; have hr := hm s (List.mem_of_getElem? hs); refine ⟨s.a, s.cap, rfl, fun h0 => ?_, fun a ha j x hx => ?_⟩
      · cases hxs : s.xs with
        | nil => rfl
        | cons x l =>
          obtain ⟨ad, e1, _⟩ := hr.2.2.2 0 (.int .u8 (x.toNat : Int)) (by rw [hxs]; rfl); rw [h0] at e1; cases e1
      · obtain ⟨ad, e1, e2⟩ := hr.2.2.2 j (.int .u8 (x.toNat : Int)) (by
          have q : s.xs.flatMap encB = s.xs.map fun x => Value.int .u8 (x.toNat : Int) := by
            generalize s.xs = l
            induction l with
            | nil => rfl
            | cons x l ih => rw [List.flatMap_cons, ih]; rfl
          rw [q, List.getElem?_map, hx]; rfl)
        rw [ha] at e1
        cases e1
        exact cell_of_le hρ e2
theorem lens_flat (bs : List (SL UInt8)) : Lib.lens (bs.map (·.xs)) = (bs.flatMap (·.xs)).length := by
  unfold Lib.lens
  induction bs with
  | nil => rfl
  | cons x l ih => simp only [List.map_cons, List.sum_cons, List.flatMap_cons, List.length_append, ih]
theorem join_flat (bs : List (SL UInt8)) : Lib.join (bs.map (·.xs)) [] = bs.flatMap (·.xs) := by
  cases bs with
  | nil => rfl
  | cons x l =>
    rw [List.map_cons, Lib.join_cons, List.flatMap_cons]
    congr 1
    unfold Lib.joinTail; rw [List.flatMap_def]
    congr 1
    rw [List.map_map]; exact List.map_congr_left fun y _ => rfl
theorem addr_of {ρ : Hp} {sz n cap : Nat} {a : Option Addr} {cs : List Value} (h : Ro ρ sz a n cap cs) (h0 : 0 < cs.length) : ∃ b o, a = some ⟨b, o, none⟩ := by
  obtain ⟨ad, e1, e2⟩ := h.2.2.2 0 cs[0] (List.getElem?_eq_getElem h0); obtain ⟨b, o, sp⟩ := ad; unfold Hp.cell? at e2
  cases sp with
  | none => exact ⟨b, o, e1⟩
  | some q =>
    exfalso
    split at e2
    · simp [Addr.add] at e2
    · cases e2
theorem join_s {P : Program} {ρj : Ren} (L : SlLaysJ.n14 P ρj) (a : Option Addr) (n cap : Nat) (bs : List (SL UInt8)) (hn : bs.length = n) (hn1 : n ≤ 1000000000) (hl : (bs.flatMap (·.xs)).length ≤ 1000000000000) (ρ : Hp) (hro : Ro ρ 1 a n cap (bs.flatMap encSL)) (hm : ∀ s ∈ bs, s.ro encB 1 ρ) :
    Spec0 P (ρj.f 14) #[.slice a n cap, .slice none 0 0] ρ [] (fun v Γ' => ∃ a' cap', v = .slice a' (bs.flatMap (·.xs)).length cap' ∧ Γ' = [rob 1 a' (bs.flatMap (·.xs)).length cap' ((bs.flatMap (·.xs)).flatMap encB)]) := by
  intro E Δ w s; have hρ : ρ.le (hp w) := s.2.1
  match bs, hn, hl, hro, hm with
  | [], hn, hl, hro, hm =>
    obtain rfl : n = 0 := hn.symm; refine (Any.bytes_Join_none L a cap (.slice none 0 0) w).mono ?_; rintro e w' ⟨rfl, rfl⟩; exact ⟨ρ, _, _, Hp.le_refl _, ⟨rfl, some ⟨w.heap.size, 0, none⟩, 0, rfl, rfl⟩, rfl, s.fresh ((Below.refl _ _).alloc (Nat.le_refl _) _) Hp.none_ (fun b o e => by cases e) (Hp.none_le _) ⟨by simp, Nat.le_refl _, by decide, fun j c e => by simp at e⟩⟩
  | [x], hn, hl, hro, hm =>
    obtain rfl : n = 1 := hn.symm; obtain ⟨b, o, rfl⟩ := addr_of hro (by simp [encSL]); have hP := parts_of hρ hro hm; have hc0 : w.cell? ⟨b, o, none⟩ = some (.slice x.a x.xs.length x.cap) := by have q := hP.2.1 0 x.v rfl; simpa [Addr.add, SL.v] using q
    obtain ⟨p0, c0, e0, hz, hcell⟩ := hP.2.2 0 x.v x.xs rfl rfl; have e0' : Value.slice x.a x.xs.length x.cap = .slice p0 x.xs.length c0 := e0; simp only [Value.slice.injEq] at e0'; obtain ⟨rfl, -, rfl⟩ := e0'; have hfl : [x].flatMap (·.xs) = x.xs := by simp
    rw [hfl] at hl ⊢
    by_cases h0 : x.xs = []
    · rw [h0] at hc0 ⊢; refine (Any.bytes_Join_one_empty L b o cap x.a x.cap (.slice none 0 0) w hc0).mono ?_; rintro e w' ⟨rfl, rfl⟩; exact ⟨ρ, _, _, Hp.le_refl _, ⟨rfl, none, 0, rfl, rfl⟩, rfl, s.ent (rob_nil _ 1)⟩
    · cases ha : x.a with
      | none => exact absurd (hz ha) h0
      | some ad0 =>
        rw [ha] at hc0; refine (Any.bytes_Join_one L b o cap ad0 x.cap x.xs (.slice none 0 0) w hc0 (hcell ad0 ha) (List.length_pos_iff.2 h0) (by omega)).mono ?_; rintro e w' ⟨v, rfl, hf, bl⟩; obtain ⟨a', cap', rfl, s'⟩ := s.freshB bl hf; exact ⟨ρ, _, _, Hp.le_refl _, ⟨rfl, a', cap', rfl, rfl⟩, rfl, s'⟩
  | x :: y :: l, hn, hl, hro, hm =>
    have hlen : (x :: y :: l).length = l.length + 2 := rfl; obtain ⟨b, o, rfl⟩ := addr_of hro (by simp [encSL]); have hP := parts_of hρ hro hm; refine (Any.bytes_Join_many L b o n cap _ _ (.slice none 0 0) [] w (by rw [List.length_map]; exact hn) (by omega) hP hro.2.1 ⟨none, 0, rfl, fun _ => rfl, fun a h => by cases h⟩ (by omega) (by rw [lens_flat]; simp only [List.length_nil, Nat.zero_mul]; omega)).mono ?_; rintro e w' ⟨v, rfl, hf, bl⟩; rw [join_flat] at hf; obtain ⟨a', cap', rfl, s'⟩ := s.freshB bl hf; exact ⟨ρ, _, _, Hp.le_refl _, ⟨rfl, a', cap', rfl, rfl⟩, rfl, s'⟩
theorem compact_s {P : Program} {ρc : Ren} (L : Lays.n194 P ρc) {t : TypeId} (a : Option Addr) (n cap : Nat) (zs : List (List UInt8)) (hn : zs.length = n) (hl : n ≤ 1000000000) (ρ : Hp) :
    Spec0 P (ρc.f 194) #[.slice a n cap] ρ [.row t 1 a n cap (zs.flatMap Go.SL.encStr)] (fun v Γ' => v = .slice a (Lib.compact zs).length cap ∧ Γ' = []) := by
  intro E Δ w s; obtain ⟨h1, hr, d, l1, lr, ⟨hlen, hA⟩, K⟩ := s.pick (A := .row t 1 a n cap (zs.flatMap Go.SL.encStr)) (B := [.row t 1 a n cap (zs.flatMap Go.SL.encStr)]) (Γ' := .row t 1 a n cap (zs.flatMap Go.SL.encStr) :: Δ) .here
  rcases hA with ⟨rfl, h0, rfl⟩ | ⟨g, cur, fz, rfl, hg, hs, h2, h3, h4, h5⟩
  · subst h0; obtain rfl : zs = [] := List.eq_nil_of_length_eq_zero hn; refine (Any.slices_Compact_string_empty L none 0 w).mono ?_; rintro e w' ⟨rfl, rfl⟩; exact ⟨ρ, _, _, Hp.le_refl _, ⟨rfl, rfl, rfl⟩, rfl, s.ent (Ent.skip (Ent.refl _))⟩
  · subst hn; have hb : hp w g = some (.cells cur t fz) := l1.at_ _ _ hg
    have hH : Sort.Holds strB w g 0 zs.toArray := by
      intro j hj; have hj' : j < zs.length := by simpa using hj
      refine ⟨?_, by rw [Nat.zero_add]; exact soft_at hb hs (by omega)⟩; have h6 : (cur.toList.take zs.length)[j]? = (zs.map strB)[j]? := by rw [strs_flat, ← h5, Nat.mul_one]
      rw [List.getElem?_take_of_lt hj'] at h6; have hb' : w.heap[g]? = some (.cells cur t fz) := hb; simp only [World.cell?, hb', Nat.zero_add]; simp only [Option.isSome_none, Bool.false_eq_true, if_false]; rw [← Array.getElem?_toList, h6]; simp [hj']
    refine (Any.slices_Compact_string L g 0 cap zs w hH (by omega) h2).mono ?_; rintro e w' ⟨rfl, q, rfl⟩; refine ⟨ρ, _, _, Hp.le_refl _, ⟨rfl, rfl, rfl⟩, rfl, ?_⟩; rw [← Sort.grow_empty (Sort.putRow _ _ _ _ _)]; refine (sat.turn (A := .row t 1 (some ⟨g, 0, none⟩) zs.length cap (zs.flatMap Go.SL.encStr)) (B := .raw fun _ => True) .here s (b := g) (o0 := .cells cur t fz) (o := .cells (Sort.putCells strB 0 _ cur) t fz) ?_ trivial (heap_sorted _ hb) (grownBy_sorted _)).ent (Ent.skip (Ent.refl _)); rintro h ⟨_, ⟨h0, _⟩ | ⟨g', cur', fz', e1, hg', _⟩⟩ hle
    · cases h0
    · cases e1
      have := hle.at_ _ _ hg'; rw [hb] at this; rw [hg', this]
theorem compact_len (zs : List (List UInt8)) : (Lib.compact zs).length ≤ zs.length := by
  unfold Lib.compact Lib.compactUpTo; rw [List.length_map]; exact Nat.le_trans (List.length_filter_le _ _) (by rw [List.length_range]; exact Nat.le_refl _)
theorem compact_nodup {zs : List (List UInt8)} (hs : zs.Pairwise (fun a b => a ≤ b)) : (Lib.compact zs).length = zs.length ↔ zs.Nodup := by
  have e1 : (Lib.compact zs).length = zs.length ↔ ∀ j, j < zs.length → Lib.keeps zs.toArray j = true := by
    unfold Lib.compact Lib.compactUpTo; rw [List.length_map]
    constructor
    · intro h j hj; have h2 : ((List.range zs.length).filter (Lib.keeps zs.toArray)).length = (List.range zs.length).length := by rw [h, List.length_range]
      exact (List.length_filter_eq_length_iff.1 h2) j (List.mem_range.2 hj)
    · intro h; have h2 : ((List.range zs.length).filter (Lib.keeps zs.toArray)).length = (List.range zs.length).length := List.length_filter_eq_length_iff.2 fun j hj => h j (List.mem_range.1 hj); rw [h2, List.length_range]
  have e2 : ∀ j (hj : j < zs.length), 0 < j → (Lib.keeps zs.toArray j = true ↔ zs[j] ≠ zs[j - 1]'(by omega)) := by
    intro j hj h0; have h1 : zs.toArray[j]! = zs[j] := by simp [hj]
    have h2 : zs.toArray[j - 1]! = zs[j - 1]'(by omega) := by
      have : j - 1 < zs.length := by omega
      simp [this]
    unfold Lib.keeps; rw [h1, h2, decide_eq_true_eq]
    constructor
    · rintro (h | h)
      · omega
      · exact h
    · exact .inr
  rw [e1]; have hp := List.pairwise_iff_getElem.1 hs
  constructor
  · intro h; refine List.pairwise_iff_getElem.2 fun i j hi hj hij e => ?_; have h1 := (e2 j hj (by omega)).1 (h j hj)
    by_cases q : i = j - 1
    · subst q; exact h1 e.symm
    · have h2 := hp i (j - 1) hi (by omega) (by omega); have h3 := hp (j - 1) j (by omega) hj (by omega); rw [e] at h2; exact h1 (Std.le_antisymm h2 h3)
  · intro h j hj
    by_cases h0 : j = 0
    · subst h0; simp [Lib.keeps]
    · exact (e2 j hj (by omega)).2 fun e => (List.pairwise_iff_getElem.1 h) (j - 1) j (by omega) hj (by omega) e.symm
end Go.SL
namespace Go.SL
open Go
section
variable {P : Program} {E : World} {ρ : Hp} {n : Fz} {σ : Slots} {Γ Γ' : List Asn} {ty : TypeId} {x y z : Operand} {T T' : TypeId}
theorem q_indexs {k : IntKind} {i : Int} {bs : List UInt8} (j : Nat) (hT : P.underlying T = some .string) (hx : evo σ x = some (strB bs)) (hy : evo σ y = some (.int k i)) (hij : i = (j : Int)) (hj : j < bs.length) :
    OpQ P E ρ n σ Γ (.index T x y) ty (.int .u8 ((bs.getD j default).toNat : Int)) := fun a w e s => by
  subst hij; have h1 : ¬ ((j : Int) < 0) := by omega
  have hr : (Instr.index T (strB bs) (.int k (j : Int))).run P w = .ok (.int .u8 ((bs.getD j default).toNat : Int)) w := by
    have hg : (⟨bs.toArray⟩ : ByteArray)[j]? = some (bs.getD j default) := by
      have hs : (⟨bs.toArray⟩ : ByteArray).size = bs.length := by simp [ByteArray.size]
      rw [getElem?_pos _ _ (by rw [hs]; exact hj)]; show some (bs.toArray[j]) = _; simp [List.getD, hj]
    simp only [Instr.index, asIntOf, Sem.run_bind, Sem.run_pure, run_underlying hT, Result.andThen, strB]; rw [if_pos (by omega), Int.toNat_natCast, hg]; rfl
  simp [exo, execOp, e.eval hx, e.eval hy, hr]
end
end Go.SL
namespace Go.SL
open Go
section
variable {P : Program} {E : World} {ρ : Hp} {n : Fz} {σ : Slots} {Γ Γ' : List Asn} {ty : TypeId} {x y z : Operand} {T T' : TypeId}
theorem strB_cut (bs : List UInt8) (l h : Nat) : (⟨bs.toArray⟩ : ByteArray).extract l h = ⟨((bs.take h).drop l).toArray⟩ := by
  apply ByteArray.ext; rw [ByteArray.data_extract]; apply Array.ext'; rw [Array.toList_extract]; show (bs.drop l).take (h - l) = (bs.take h).drop l; rw [List.drop_take]
theorem q_cuts_hi {k : IntKind} {i : Int} {bs : List UInt8} (hT : P.underlying T = some .string) (hx : evo σ x = some (strB bs)) (hy : evo σ y = some (.int k i)) (h0 : 0 ≤ i) (h1 : i ≤ bs.length) :
    OpQ P E ρ n σ Γ (.slice T x none (some y) none) ty (strB (bs.take i.toNat)) := fun a w e s => by
  have hs : (⟨bs.toArray⟩ : ByteArray).size = bs.length := by simp [ByteArray.size]
  have hc := strB_cut bs 0 i.toNat; rw [List.drop_zero] at hc; simp [exo, execOp, e.eval hx, e.eval hy, Instr.sliceAt, Instr.slice, underlying, hT, Instr.sliceBounds, Instr.sliceBound, asIntOf, strB, hs, h0, h1, hc]
theorem q_cuts_lo {k : IntKind} {i : Int} {bs : List UInt8} (hT : P.underlying T = some .string) (hx : evo σ x = some (strB bs)) (hy : evo σ y = some (.int k i)) (h0 : 0 ≤ i) (h1 : i ≤ bs.length) :
    OpQ P E ρ n σ Γ (.slice T x (some y) none none) ty (strB (bs.drop i.toNat)) := fun a w e s => by
  have hs : (⟨bs.toArray⟩ : ByteArray).size = bs.length := by simp [ByteArray.size]
  have hc := strB_cut bs i.toNat bs.length; rw [List.take_length] at hc; simp [exo, execOp, e.eval hx, e.eval hy, Instr.sliceAt, Instr.slice, underlying, hT, Instr.sliceBounds, Instr.sliceBound, asIntOf, strB, hs, h0, h1, hc]
theorem strB_toList (p : List UInt8) : (⟨p.toArray⟩ : ByteArray).toList = p := by rw [Lib.toList_data]
theorem q_lsssB {p q : List UInt8} (hx : evo σ x = some (strB p)) (hy : evo σ y = some (strB q)) : OpQ P E ρ n σ Γ (.binOp .lss T x y T') ty (.bool (decide (p < q))) :=
  run_binOp_any hx hy (fun w => by simp [eqGuard, strB]) fun w => by
    have h : Op.bytesLess (⟨p.toArray⟩ : ByteArray).toList (⟨q.toArray⟩ : ByteArray).toList = decide (p < q) := by rw [strB_toList, strB_toList]; exact Go.Proofs.bytesLess_eq p q
    show (Op.stringOp .lss ⟨p.toArray⟩ ⟨q.toArray⟩).run P w = _; unfold Op.stringOp; simp only [h]; rfl
end
end Go.SL
namespace Go.SL
open Go
section
variable {P : Program} {E : World} {ρ : Hp} {n : Fz} {σ σ' : Slots} {Γ Γ' : List Asn} {K : Act → World → Prop} {Q : Exit → Act → World → Prop}
variable {ops : Array Oper} {rest : List Oper} {d i : Nat} {op : Op} {ty : TypeId} {pos : String} {af : Array Edge} {g : Option (Nat × Bool)} {v : Value} {R : Value → List Asn → Prop} {x y z : Operand}
theorem pk_ {A : Asn} {B : List Asn} (h : Pick A B Γ Γ' := by repeat (first | exact Pick.here | apply Pick.there)) : Pick A B Γ Γ' := h
theorem en_ (h : Ent Γ Γ' := by repeat (first | exact Ent.nil _ | exact Ent.refl _ | (refine Ent.pick (by repeat (first | exact Pick.here | apply Pick.there)) ?_) | refine Ent.skip ?_)) : Ent Γ Γ' := h
theorem sl_ {pre Δ : List Asn} (h : Sel pre Γ Δ := by repeat (first | exact Sel.nil | exact Pick.here | apply Sel.cons | apply Pick.there)) : Sel pre Γ Δ := h
theorem ev_ (h : EnvLe σ' σ := by repeat (first | exact EnvLe.nil _ | refine EnvLe.cons rfl rfl ?_)) : EnvLe σ' σ := h
theorem EnvLe.c {t : Nat} {u v : Value} (r : EnvLe σ' σ) (h : get σ t = some u := by exact rfl) (e : u = v := by first | rfl | exact inte (by omega) | (simp; done) | (simp <;> omega) | simp [*]) : EnvLe ((t, v) :: σ') σ := EnvLe.cons h e r
theorem e_q (h : OpQ P E ρ n σ Γ op ty v) (k : Tr E ρ n ((d, v) :: σ) Γ (wpList P ops Q rest)) (hd : Nat.ble n.n d = false := by exact rfl) :
    Tr E ρ n σ Γ (wpList P ops Q ({ dst := some d, op := op, type := ty, pos := pos, after := af, guard := none } :: rest)) := l_step (s_q hd wn h k)
theorem e_qw (hw : Wanted ops n σ g) (h : OpQ P E ρ n σ Γ op ty v) (k : Tr E ρ n ((d, v) :: σ) Γ (wpList P ops Q rest)) (hd : Nat.ble n.n d = false := by exact rfl) :
    Tr E ρ n σ Γ (wpList P ops Q ({ dst := some d, op := op, type := ty, pos := pos, after := af, guard := g } :: rest)) := l_step (s_q hd hw h k)
theorem e_mv (hx : evo σ x = some v) (k : Tr E ρ n ((d, v) :: σ) Γ (wpList P ops Q rest)) (hd : Nat.ble n.n d = false := by exact rfl) :
    Tr E ρ n σ Γ (wpList P ops Q ({ dst := some d, op := .move x, type := ty, pos := pos, after := af, guard := none } :: rest)) := l_step (s_q hd wn (q_move hx) k)
theorem e_as (hx : evo σ x = some v) (k : Tr E ρ n ((d, v) :: σ) Γ (wpList P ops Q rest)) (hd : Nat.ble n.n d = false := by exact rfl) :
    Tr E ρ n σ Γ (wpList P ops Q ({ dst := some d, op := .assign x, type := ty, pos := pos, after := af, guard := none } :: rest)) := l_step (s_q hd wn (q_assign hx) k)
theorem e_no {j dj : Nat} {want b : Bool} (h : (ops[j]?).bind (·.dst) = some dj) (e : get σ dj = some (.bool b)) (k : Tr E ρ n ((d, undef) :: σ) Γ (wpList P ops Q rest)) (hb : b ≠ want := by decide) (hd : Nat.ble n.n d = false := by exact rfl) :
    Tr E ρ n σ Γ (wpList P ops Q ({ dst := some d, op := op, type := ty, pos := pos, after := af, guard := some (j, want) } :: rest)) := l_step (s_no hd (wno h e hb) k)
theorem e_s (h : OpS P E ρ n σ Γ op ty R) (k : ∀ v Γ', R v Γ' → Tr E ρ n ((d, v) :: σ) Γ' (wpList P ops Q rest)) (hd : Nat.ble n.n d = false := by exact rfl) :
    Tr E ρ n σ Γ (wpList P ops Q ({ dst := some d, op := op, type := ty, pos := pos, after := af, guard := none } :: rest)) := l_step (s_s hd wn h k)
theorem e_fn {f : FuncId} {fn : Func} {xs : List Operand} {vs : List Value} {ats : Array TypeId} {pre Δ : List Asn} {body : Code} (hfn : P.funcs[f]? = some fn) (hx : evos σ xs = some vs)
    (sel : Sel pre Γ Δ) (sp : ∀ ρ', Lent ρ ρ' Δ → Spec0 P f vs.toArray ρ' pre R) (k : ∀ v Γ', R v Γ' → Tr E ρ n ((d, v) :: σ) (Γ' ++ Δ) (wpList P ops Q rest))
    (hb : fn.body = some body := by exact rfl) (hne : (fn.name == "runtime.NumGoroutine") = false := by kernel_rfl) (hd : Nat.ble n.n d = false := by exact rfl) :
    Tr E ρ n σ Γ (wpList P ops Q ({ dst := some d, op := .call { callee := .value (.func f), args := xs.toArray, argTypes := ats }, type := ty, pos := pos, after := af, guard := none } :: rest)) := l_step (s_fnb hd wn hfn hb hne hx sel sp k)
theorem e_fnw {f : FuncId} {fn : Func} {xs : List Operand} {vs : List Value} {ats : Array TypeId} {pre Δ : List Asn} {body : Code} (hw : Wanted ops n σ g) (hfn : P.funcs[f]? = some fn) (hx : evos σ xs = some vs)
    (sel : Sel pre Γ Δ) (sp : ∀ ρ', Lent ρ ρ' Δ → Spec0 P f vs.toArray ρ' pre R) (k : ∀ v Γ', R v Γ' → Tr E ρ n ((d, v) :: σ) (Γ' ++ Δ) (wpList P ops Q rest))
    (hb : fn.body = some body := by exact rfl) (hne : (fn.name == "runtime.NumGoroutine") = false := by kernel_rfl) (hd : Nat.ble n.n d = false := by exact rfl) :
    Tr E ρ n σ Γ (wpList P ops Q ({ dst := some d, op := .call { callee := .value (.func f), args := xs.toArray, argTypes := ats }, type := ty, pos := pos, after := af, guard := g } :: rest)) := l_step (s_fnb hd hw hfn hb hne hx sel sp k)
theorem l_n (k : Tr E ρ n σ Γ K) : Tr E ρ n σ Γ (wpList P ops (Exit.then K Q) []) := l_nil (k_then_n k)
variable {c : Code} {id : Nat}
theorem sr {l : List Oper} (h : Tr E ρ n σ Γ (wpList P l.toArray (Exit.then (c.wp P Q) Q) l)) : Tr E ρ n σ Γ ((Code.seq (.region id l.toArray false) c).wp P Q) := c_seq (c_region h)
theorem d_r {l : List Oper} (m : Nat) (S : List Asn) (h : Tr E ρ n σ Γ (wpAnyH P .any l.toArray Q (sat E ρ S) m (Array.replicate m false))) (hm : P.follows .mixedOrders = true := by kernel_rfl) (hn : l.toArray.size = m := by exact rfl) :
    Tr E ρ n σ Γ ((Code.region id l.toArray true).wp P Q) := c_draw S hm hn (by rw [hn]) h
theorem d_t {ρ0 : Hp} {m : Nat} {bs : Array Bool} {S : List Asn} (i : Nat) (hi : ops[i]? = some { dst := some d, op := op, type := ty, pos := pos, after := af, guard := g })
    (hw : Wanted ops n σ g) (hq : OpQ P E ρ0 n σ S op ty v) (k : Tr E ρ n ((d, v) :: σ) Γ (wpAnyH P .any ops Q (sat E ρ0 S) m (bs.setIfInBounds i true)))
    (hs : Region.noSelect ops = true := by kernel_rfl) (hf : Region.free .any ops bs i = true := by kernel_rfl) (hr : (Region.ready .any ops bs).contains i = true := by kernel_rfl)
    (hQ : ∀ c a w, Q (.panic c) (a.put (some d) v) w → Q (.panic c) a w := by exact fun _ _ _ h => h) (hd : Nat.ble n.n d = false := by exact rfl) (hl : ρ0.le ρ := by exact Hp.le_refl _)
    (hΓ : Ent Γ S := by repeat (first | exact Ent.nil _ | exact Ent.refl _ | (refine Ent.pick (by repeat (first | exact Pick.here | apply Pick.there)) ?_) | refine Ent.skip ?_)) :
    Tr E ρ n σ Γ (wpAnyH P .any ops Q (sat E ρ0 S) (m + 1) bs) := r_take hi hs hf hr hQ hd hw hq hl hΓ rfl k
theorem d_g {ρ0 : Hp} {m : Nat} {bs : Array Bool} {S : List Asn} (i : Nat) (b : Bool) (hi : ops[i]? = some { dst := some d, op := op, type := ty, pos := pos, after := af, guard := g })
    (hw : Asks ops n σ g b) (hq : b = true → OpQ P E ρ0 n σ S op ty v) (k : Tr E ρ n ((d, gd b v) :: σ) Γ (wpAnyH P .any ops Q (sat E ρ0 S) m (bs.setIfInBounds i true)))
    (hs : Region.noSelect ops = true := by kernel_rfl) (hf : Region.free .any ops bs i = true := by kernel_rfl) (hr : (Region.ready .any ops bs).contains i = true := by kernel_rfl)
    (hQ : ∀ c a w, Q (.panic c) (a.put (some d) (gd b v)) w → Q (.panic c) a w := by exact fun _ _ _ h => h) (hd : Nat.ble n.n d = false := by exact rfl) (hl : ρ0.le ρ := by exact Hp.le_refl _)
    (hΓ : Ent Γ S := by repeat (first | exact Ent.nil _ | exact Ent.refl _ | (refine Ent.pick (by repeat (first | exact Pick.here | apply Pick.there)) ?_) | refine Ent.skip ?_)) :
    Tr E ρ n σ Γ (wpAnyH P .any ops Q (sat E ρ0 S) (m + 1) bs) := r_takeg hi hs hf hr hQ hd hw hq hl hΓ rfl k
theorem d_s {ρ0 : Hp} {m : Nat} {bs : Array Bool} {S : List Asn} (i : Nat) (hi : ops[i]? = some { dst := some d, op := op, type := ty, pos := pos, after := af, guard := g })
    (hw : Unwanted ops n σ g) (k : Tr E ρ n ((d, undef) :: σ) Γ (wpAnyH P .any ops Q (sat E ρ0 S) m (bs.setIfInBounds i true)))
    (hs : Region.noSelect ops = true := by kernel_rfl) (hf : Region.free .any ops bs i = true := by kernel_rfl) (hr : (Region.ready .any ops bs).contains i = true := by kernel_rfl)
    (hQ : ∀ c a w, Q (.panic c) (a.put (some d) undef) w → Q (.panic c) a w := by exact fun _ _ _ h => h) (hd : Nat.ble n.n d = false := by exact rfl) (hl : ρ0.le ρ := by exact Hp.le_refl _)
    (hΓ : Ent Γ S := by repeat (first | exact Ent.nil _ | exact Ent.refl _ | (refine Ent.pick (by repeat (first | exact Pick.here | apply Pick.there)) ?_) | refine Ent.skip ?_)) :
    Tr E ρ n σ Γ (wpAnyH P .any ops Q (sat E ρ0 S) (m + 1) bs) := r_skip hi hs hf hr hQ hd hw hl hΓ rfl k
theorem d_1 {ρ0 : Hp} {m : Nat} {bs : Array Bool} {S : List Asn} (i : Nat) (h : Tr E ρ n σ Γ (wpOp P ops Q i (fun a w => sat E ρ0 S w ∧ wpAnyH P .any ops Q (sat E ρ0 S) m (bs.setIfInBounds i true) a w))) (hr : Region.ready .any ops bs = [i] := by kernel_rfl) :
    Tr E ρ n σ Γ (wpAnyH P .any ops Q (sat E ρ0 S) (m + 1) bs) := r_one hr rfl h
theorem d_2 {ρ0 : Hp} {m : Nat} {bs : Array Bool} {S : List Asn} (i j : Nat)
    (h : Tr E ρ n σ Γ (wpOp P ops Q i (fun a w => sat E ρ0 S w ∧ wpAnyH P .any ops Q (sat E ρ0 S) m (bs.setIfInBounds i true) a w)))
    (h' : Tr E ρ n σ Γ (wpOp P ops Q j (fun a w => sat E ρ0 S w ∧ wpAnyH P .any ops Q (sat E ρ0 S) m (bs.setIfInBounds j true) a w))) (hr : Region.ready .any ops bs = [i, j] := by kernel_rfl) :
    Tr E ρ n σ Γ (wpAnyH P .any ops Q (sat E ρ0 S) (m + 1) bs) := r_two hr rfl rfl h h'
theorem d_c {ρ0 : Hp} {m : Nat} {bs : Array Bool} {S : List Asn} (h : Tr E ρ n σ Γ (wpAnyH P .any ops Q (sat E ρ0 S) m bs)) (hl : ρ0.le ρ := by exact Hp.le_refl _)
    (hΓ : Ent Γ S := by repeat (first | exact Ent.nil _ | exact Ent.refl _ | (refine Ent.pick (by repeat (first | exact Pick.here | apply Pick.there)) ?_) | refine Ent.skip ?_)) :
    Tr E ρ n σ Γ (fun a w => sat E ρ0 S w ∧ wpAnyH P .any ops Q (sat E ρ0 S) m bs a w) := r_cont hl hΓ h
theorem d_d {ρ0 : Hp} {m : Nat} {bs : Array Bool} {S : List Asn} (h : Tr E ρ n σ Γ (Q .normal)) (hr : Region.ready .any ops bs = [] := by kernel_rfl) : Tr E ρ n σ Γ (wpAnyH P .any ops Q (sat E ρ0 S) m bs) := r_done hr h
theorem t_nx {ι : Type} {J : ι → Prop} {σI : ι → Slots} {ΓI : ι → List Asn} (j : ι) (hj : J j) (hσ : EnvLe (σI j) σ)
    (hΓ : Ent Γ (ΓI j) := by repeat (first | exact Ent.nil _ | exact Ent.refl _ | (refine Ent.pick (by repeat (first | exact Pick.here | apply Pick.there)) ?_) | refine Ent.skip ?_)) : Tr E ρ n σ Γ (Next_ E ρ n J σI ΓI) := t_next j hj hσ hΓ
theorem t_rt {ρ0 : Hp} {n : Nat} {Δ : List Asn} {fn : Func} {R : Hp → Value → List Asn → Prop} {rs : List ResultVar} {vs : List Value} {v : Value} (Γ' : List Asn)
    (hr : fn.results = rs.toArray) (hv : Res P σ Γ rs vs) (hp : pack vs = v) (hR : R ρ v Γ')
    (hΓ : Ent Γ (Γ' ++ Δ) := by repeat (first | exact Ent.nil _ | exact Ent.refl _ | (refine Ent.pick (by repeat (first | exact Pick.here | apply Pick.there)) ?_) | refine Ent.skip ?_)) (hl : ρ0.le ρ := by exact Hp.le_refl _) :
    Tr E ρ ⟨n, []⟩ σ Γ (bodyPost P fn (fun e w' => ∃ ρ' v Γ', ρ0.le ρ' ∧ R ρ' v Γ' ∧ e = .returned v ∧ sat E ρ' (Γ' ++ Δ) w') .ret) := t_ret Γ' hr hv hp hl hR hΓ
end
end Go.SL
namespace Go.SL
open Go Go.Shelf Go.Proofs
theorem len64_s {P : Program} {ρk : Ren} (L : Lays.n129 P ρk) (x : Nat) (hx : x ≤ 18446744073709551615) (ρ : Hp) :
    Spec0 P (ρk.f 129) #[.int .u64 (x : Int)] ρ [] (fun v Γ' => v = .int .i64 (Lib.bitLen x : Int) ∧ Γ' = []) := by
  intro E Δ w sa; refine (Any.bits_Len64 L (x : Int) w (by omega) (by omega)).mono ?_; rintro e w' ⟨rfl, rfl⟩; exact ⟨ρ, .int .i64 (Lib.bitLen x : Int), [], Hp.le_refl _, ⟨rfl, rfl, rfl⟩, by simp, sa⟩
end Go.SL
namespace Go.SL
open Go
theorem b2w (c : UInt8) : (c.toNat : Int) = ((c.toBitVec.setWidth 32).toNat : Int) := by
  have h := c.toNat_lt; rw [BitVec.toNat_setWidth, UInt8.toNat_toBitVec]; omega
theorem w2b (m : Nat) : IntKind.wrap .u8 (m : Int) = ((UInt8.ofNat m).toNat : Int) := by
  simp [IntKind.wrap, IntKind.bits, IntKind.signed]
end Go.SL
