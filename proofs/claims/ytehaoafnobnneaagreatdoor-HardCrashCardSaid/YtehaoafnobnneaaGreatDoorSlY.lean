/-
  The engine, part Y: slices of which only the bytes are known (owned, read only); strings.Trim, bytes.Join, slices.Compact: the kit's contracts in the engine's words. Own work.
-/
import Derived.Test.YtehaoafnobnneaaGreatDoorSlX
import Derived.Test.YtehaoafnobnneaaGreatDoorSlW
import Derived.Shelf.Strings.SlTrimAscii
import Derived.Shelf.Bytes.SlJoin
import Derived.Shelf.Slices.CompactS
set_option linter.unusedVariables false
set_option linter.unusedSimpArgs false
set_option linter.unusedSectionVars false
namespace Go.SL
open Go Go.MapKept Go.Shelf Go.Proofs Go.WideElems Go.RowKit

/-- a slice that reads in a part of memory of one's own -/
def rob (sz : Nat) (a : Option Addr) (n cap : Nat) (cs : List Value) : Asn := .raw fun h => Ro h sz a n cap cs
theorem rd_rob {ρ : Hp} {Γ : List Asn} {sz n cap : Nat} {a : Option Addr} {cs : List Value} (p : Pick (rob sz a n cap cs) [rob sz a n cap cs] Γ Γ) : Rd ρ Γ sz a n cap cs := fun _ _ s => by
  obtain ⟨h1, _, _, l1, _, ⟨x1, x2, x3, x4⟩, _⟩ := s.pick p
  exact ⟨x1, x2, x3, fun j c e => let ⟨ad, e1, e2⟩ := x4 j c e; ⟨ad, e1, cell_of_le l1 e2⟩⟩
theorem Lent.rob {ρ ρ' : Hp} {Δ Δ' : List Asn} (l : Lent ρ ρ' Δ) {sz n cap : Nat} {a : Option Addr} {cs : List Value} (p : Pick (rob sz a n cap cs) [] Δ Δ') : Ro ρ' sz a n cap cs := Lent.raw (B := fun h => Ro h sz a n cap cs) l p fun h hA hl => Ro.mono hl hA
theorem rob_nil (Γ : List Asn) (sz : Nat) : Ent Γ (rob sz none 0 0 [] :: Γ) := Ent.raw (fun h => Ro.nil h sz) Γ
theorem bytesOf_at {zs : List Int} {l : List UInt8} (hr : ∀ x ∈ zs, 0 ≤ x ∧ x < 256) (hb : Lib.bytesOf (zs.take l.length) = l) (i : Nat) (x : UInt8) (h : l[i]? = some x) : zs.getD i 0 = (x.toNat : Int) := by
  have hi : i < l.length := (List.getElem?_eq_some_iff.1 h).1
  rw [← hb] at h
  unfold Lib.bytesOf at h
  rw [List.getElem?_map, List.getElem?_take_of_lt hi] at h
  cases hz : zs[i]? with
  | none => rw [hz] at h; cases h
  | some z =>
    rw [hz] at h
    simp only [Option.map_some, Option.some.injEq] at h
    have hm := hr z (List.mem_of_getElem? hz)
    rw [List.getD, hz, ← h]
    show z = ((UInt8.ofNat z.toNat).toNat : Int)
    rw [UInt8.toNat_ofNat']
    omega
theorem encB_at {l : List UInt8} {i : Nat} {c : Value} (h : (l.flatMap encB)[i]? = some c) : ∃ x, l[i]? = some x ∧ c = .int .u8 (x.toNat : Int) := by
  have e : l.flatMap encB = l.map fun x => Value.int .u8 (x.toNat : Int) := by
    clear h
    induction l with
    | nil => rfl
    | cons x l ih => rw [List.flatMap_cons, ih]; rfl
  rw [e, List.getElem?_map] at h
  cases hx : l[i]? with
  | none => rw [hx] at h; cases h
  | some x => rw [hx] at h; exact ⟨x, rfl, by simpa using h.symm⟩
/-- fresh bytes of the kit's, as ours -/
theorem sat.freshB {E : World} {ρ : Hp} {Γ : List Asn} {w w' : World} {v : Value} {l : List UInt8} (s : sat E ρ Γ w) (bl : Below w.heap.size w w') (h : Lib.FreshBytes w.heap.size w' v l) :
    ∃ a cap, v = .slice a l.length cap ∧ sat E ρ (rob 1 a l.length cap (l.flatMap encB) :: Γ) w' := by
  obtain ⟨g, cap, zs, rfl, hg, hl, hc, hz, hr, hb, hcell, -⟩ := h
  refine ⟨_, cap, rfl, ?_⟩
  by_cases h0 : l = []
  · subst h0
    exact s.fresh bl Hp.none_ (fun b o e => by cases e) (Hp.none_le _) ⟨by simp, Nat.zero_le _, hc, fun j c e => by simp at e⟩
  · have hpos : 0 < l.length := List.length_pos_iff.2 h0
    have hc0 := hcell 0 (by omega)
    obtain ⟨ob, hob⟩ : ∃ ob, w'.heap[g]? = some ob := by
      cases e : w'.heap[g]? with
      | none => unfold World.cell? at hc0; simp only [e] at hc0; cases hc0
      | some ob => exact ⟨ob, rfl⟩
    refine s.fresh bl (Hp.one g ob) (fun b o q => ?_) (Hp.one_le hob) ⟨flat_len (sz := 1) (fun _ => rfl) l, hl, hc, fun j c e => ?_⟩
    · unfold Hp.one at q
      split at q
      · rename_i e; rw [e]; exact hg
      · cases q
    · obtain ⟨x, hx, rfl⟩ := encB_at e
      have hj : j < l.length := (List.getElem?_eq_some_iff.1 hx).1
      refine ⟨_, rfl, ?_⟩
      have h1 := hcell j (by omega)
      rw [bytesOf_at hr hb j x hx] at h1
      rw [addr_add]
      unfold World.cell? at h1
      unfold Hp.cell?
      rw [Hp.one_at]
      simp only [hob] at h1
      cases ob <;> simp_all
/-! ### strings.Trim -/
theorem trim_s {P : Program} {ρk : Ren} (L : Lays.n160 P ρk) (h116 : (P.info? (ρk.t 116)).map (fun i => (i.zero, i.size)) = some (some (.agg (Array.replicate 256 (.bool false))), 256)) (s cutset : List UInt8) (hs : s.length ≤ 9223372036854775807) (hcs : cutset.length < 4294967281) (hascii : cutset.all (fun b => decide (b.toNat < 128)) = true) (ρ : Hp) :
    Spec0 P (ρk.f 160) #[strB s, strB cutset] ρ [] (fun v Γ' => v = strB (Lib.trimS s cutset) ∧ Γ' = []) := by
  intro E Δ w sa
  refine (Any.strings_Trim_laid L h116 ⟨s.toArray⟩ ⟨cutset.toArray⟩ w (by simpa [ByteArray.size] using hs) (by simpa [ByteArray.size] using hcs) (by simpa using ascii_of_all hascii)).mono ?_
  rintro e w' ⟨rfl, bl⟩
  exact ⟨ρ, strB (Lib.trimS s cutset), [], Hp.le_refl _, ⟨rfl, rfl, rfl⟩, by simp [strB], sa.below bl⟩
theorem drop_all {p : UInt8 → Bool} : ∀ (l : List UInt8), l.dropWhile p = [] ↔ ∀ x ∈ l, p x = true
  | [] => by simp
  | x :: l => by
    rw [List.dropWhile_cons]
    by_cases h : p x = true
    · rw [if_pos h, drop_all l]; simp [h]
    · rw [if_neg h]; simp [h]
theorem drop_mem {p : UInt8 → Bool} {l : List UInt8} (h : ∀ x ∈ l.dropWhile p, p x = true) : ∀ x ∈ l, p x = true := by
  induction l with
  | nil => intro x hx; cases hx
  | cons y l ih =>
    rw [List.dropWhile_cons] at h
    by_cases q : p y = true
    · rw [if_pos q] at h
      intro x hx
      rcases List.mem_cons.1 hx with rfl | hx
      · exact q
      · exact ih h x hx
    · rw [if_neg q] at h
      exact absurd (h y List.mem_cons_self) q
theorem trim_nil (s cs : List UInt8) : Lib.trimS s cs = [] ↔ ∀ c ∈ s, cs.contains c = true := by
  unfold Lib.trimS Lib.trimLeftS Lib.trimRightS
  rw [drop_all]
  constructor
  · intro h c hc
    have : ∀ x ∈ s.reverse.dropWhile (cs.contains ·), cs.contains x = true := fun x hx => h x (List.mem_reverse.2 hx)
    exact drop_mem this c (List.mem_reverse.2 hc)
  · intro h c hc
    exact h c (List.mem_reverse.1 ((List.dropWhile_sublist _).mem (List.mem_reverse.1 hc)))
/-! ### bytes.Join, nothing between the parts -/
theorem parts_of {w : World} {ρ : Hp} (hρ : ρ.le (hp w)) {b o : Nat} {n cap : Nat} {bs : List (SL UInt8)} (hro : Ro ρ 1 (some ⟨b, o, none⟩) n cap (bs.flatMap encSL)) (hm : ∀ s ∈ bs, s.ro encB 1 ρ) : Lib.PartsAt w ⟨b, o, none⟩ (bs.map SL.v) (bs.map (·.xs)) := by
  have e : bs.flatMap encSL = bs.map SL.v := by
    clear hro hm
    induction bs with
    | nil => rfl
    | cons x l ih => rw [List.flatMap_cons, ih]; rfl
  refine ⟨by simp, fun i v h => ?_, fun i v l h1 h2 => ?_⟩
  · obtain ⟨ad, e1, e2⟩ := hro.2.2.2 i v (by rw [e]; exact h)
    cases e1
    exact cell_of_le hρ e2
  · rw [List.getElem?_map] at h1 h2
    cases hs : bs[i]? with
    | none => rw [hs] at h1; cases h1
    | some s =>
      rw [hs] at h1 h2
      simp only [Option.map_some, Option.some.injEq] at h1 h2
      subst h1; subst h2
      have hr := hm s (List.mem_of_getElem? hs)
      refine ⟨s.a, s.cap, rfl, fun h0 => ?_, fun a ha j x hx => ?_⟩
      · cases hxs : s.xs with
        | nil => rfl
        | cons x l =>
          obtain ⟨ad, e1, _⟩ := hr.2.2.2 0 (.int .u8 (x.toNat : Int)) (by rw [hxs]; rfl)
          rw [h0] at e1; cases e1
      · obtain ⟨ad, e1, e2⟩ := hr.2.2.2 j (.int .u8 (x.toNat : Int)) (by
          have q : s.xs.flatMap encB = s.xs.map fun x => Value.int .u8 (x.toNat : Int) := by
            generalize s.xs = l
            induction l with
            | nil => rfl
            | cons x l ih => rw [List.flatMap_cons, ih]; rfl
          rw [q, List.getElem?_map, hx]; rfl)
        rw [ha] at e1
        cases e1
        exact cell_of_le hρ e2
theorem lens_flat (bs : List (SL UInt8)) : Lib.lens (bs.map (·.xs)) = (bs.flatMap (·.xs)).length := by
  unfold Lib.lens
  induction bs with
  | nil => rfl
  | cons x l ih => simp only [List.map_cons, List.sum_cons, List.flatMap_cons, List.length_append, ih]
theorem join_flat (bs : List (SL UInt8)) : Lib.join (bs.map (·.xs)) [] = bs.flatMap (·.xs) := by
  cases bs with
  | nil => rfl
  | cons x l =>
    rw [List.map_cons, Lib.join_cons, List.flatMap_cons]
    congr 1
    unfold Lib.joinTail
    rw [List.flatMap_def]
    congr 1
    rw [List.map_map]
    exact List.map_congr_left fun y _ => rfl
theorem addr_of {ρ : Hp} {sz n cap : Nat} {a : Option Addr} {cs : List Value} (h : Ro ρ sz a n cap cs) (h0 : 0 < cs.length) : ∃ b o, a = some ⟨b, o, none⟩ := by
  obtain ⟨ad, e1, e2⟩ := h.2.2.2 0 cs[0] (List.getElem?_eq_getElem h0)
  obtain ⟨b, o, sp⟩ := ad
  unfold Hp.cell? at e2
  cases sp with
  | none => exact ⟨b, o, e1⟩
  | some q =>
    exfalso
    split at e2
    · simp [Addr.add] at e2
    · cases e2
theorem join_s {P : Program} {ρj : Ren} (L : SlLaysJ.n14 P ρj) (a : Option Addr) (n cap : Nat) (bs : List (SL UInt8)) (hn : bs.length = n) (hn1 : n ≤ 1000000000) (hl : (bs.flatMap (·.xs)).length ≤ 1000000000000) (ρ : Hp) (hro : Ro ρ 1 a n cap (bs.flatMap encSL)) (hm : ∀ s ∈ bs, s.ro encB 1 ρ) :
    Spec0 P (ρj.f 14) #[.slice a n cap, .slice none 0 0] ρ [] (fun v Γ' => ∃ a' cap', v = .slice a' (bs.flatMap (·.xs)).length cap' ∧ Γ' = [rob 1 a' (bs.flatMap (·.xs)).length cap' ((bs.flatMap (·.xs)).flatMap encB)]) := by
  intro E Δ w s
  have hρ : ρ.le (hp w) := s.2.1
  match bs, hn, hl, hro, hm with
  | [], hn, hl, hro, hm =>
    obtain rfl : n = 0 := hn.symm
    refine (Any.bytes_Join_none L a cap (.slice none 0 0) w).mono ?_
    rintro e w' ⟨rfl, rfl⟩
    exact ⟨ρ, _, _, Hp.le_refl _, ⟨rfl, some ⟨w.heap.size, 0, none⟩, 0, rfl, rfl⟩, rfl, s.fresh ((Below.refl _ _).alloc (Nat.le_refl _) _) Hp.none_ (fun b o e => by cases e) (Hp.none_le _) ⟨by simp, Nat.le_refl _, by decide, fun j c e => by simp at e⟩⟩
  | [x], hn, hl, hro, hm =>
    obtain rfl : n = 1 := hn.symm
    obtain ⟨b, o, rfl⟩ := addr_of hro (by simp [encSL])
    have hP := parts_of hρ hro hm
    have hc0 : w.cell? ⟨b, o, none⟩ = some (.slice x.a x.xs.length x.cap) := by have q := hP.2.1 0 x.v rfl; simpa [Addr.add, SL.v] using q
    obtain ⟨p0, c0, e0, hz, hcell⟩ := hP.2.2 0 x.v x.xs rfl rfl
    have e0' : Value.slice x.a x.xs.length x.cap = .slice p0 x.xs.length c0 := e0
    simp only [Value.slice.injEq] at e0'
    obtain ⟨rfl, -, rfl⟩ := e0'
    have hfl : [x].flatMap (·.xs) = x.xs := by simp
    rw [hfl] at hl ⊢
    by_cases h0 : x.xs = []
    · rw [h0] at hc0 ⊢
      refine (Any.bytes_Join_one_empty L b o cap x.a x.cap (.slice none 0 0) w hc0).mono ?_
      rintro e w' ⟨rfl, rfl⟩
      exact ⟨ρ, _, _, Hp.le_refl _, ⟨rfl, none, 0, rfl, rfl⟩, rfl, s.ent (rob_nil _ 1)⟩
    · cases ha : x.a with
      | none => exact absurd (hz ha) h0
      | some ad0 =>
        rw [ha] at hc0
        refine (Any.bytes_Join_one L b o cap ad0 x.cap x.xs (.slice none 0 0) w hc0 (hcell ad0 ha) (List.length_pos_iff.2 h0) (by omega)).mono ?_
        rintro e w' ⟨v, rfl, hf, bl⟩
        obtain ⟨a', cap', rfl, s'⟩ := s.freshB bl hf
        exact ⟨ρ, _, _, Hp.le_refl _, ⟨rfl, a', cap', rfl, rfl⟩, rfl, s'⟩
  | x :: y :: l, hn, hl, hro, hm =>
    have hlen : (x :: y :: l).length = l.length + 2 := rfl
    obtain ⟨b, o, rfl⟩ := addr_of hro (by simp [encSL])
    have hP := parts_of hρ hro hm
    refine (Any.bytes_Join_many L b o n cap _ _ (.slice none 0 0) [] w (by rw [List.length_map]; exact hn) (by omega) hP hro.2.1 ⟨none, 0, rfl, fun _ => rfl, fun a h => by cases h⟩ (by omega) (by rw [lens_flat]; simp only [List.length_nil, Nat.zero_mul]; omega)).mono ?_
    rintro e w' ⟨v, rfl, hf, bl⟩
    rw [join_flat] at hf
    obtain ⟨a', cap', rfl, s'⟩ := s.freshB bl hf
    exact ⟨ρ, _, _, Hp.le_refl _, ⟨rfl, a', cap', rfl, rfl⟩, rfl, s'⟩
/-! ### slices.Compact at a row of strings: how long it gets -/
theorem compact_s {P : Program} {ρc : Ren} (L : Lays.n194 P ρc) {t : TypeId} (a : Option Addr) (n cap : Nat) (zs : List (List UInt8)) (hn : zs.length = n) (hl : n ≤ 1000000000) (ρ : Hp) :
    Spec0 P (ρc.f 194) #[.slice a n cap] ρ [.row t 1 a n cap (zs.flatMap Go.SL.encStr)] (fun v Γ' => v = .slice a (Lib.compact zs).length cap ∧ Γ' = []) := by
  intro E Δ w s
  obtain ⟨h1, hr, d, l1, lr, ⟨hlen, hA⟩, K⟩ := s.pick (A := .row t 1 a n cap (zs.flatMap Go.SL.encStr)) (B := [.row t 1 a n cap (zs.flatMap Go.SL.encStr)]) (Γ' := .row t 1 a n cap (zs.flatMap Go.SL.encStr) :: Δ) .here
  rcases hA with ⟨rfl, h0, rfl⟩ | ⟨g, cur, fz, rfl, hg, hs, h2, h3, h4, h5⟩
  · subst h0
    obtain rfl : zs = [] := List.eq_nil_of_length_eq_zero hn
    refine (Any.slices_Compact_string_empty L none 0 w).mono ?_
    rintro e w' ⟨rfl, rfl⟩
    exact ⟨ρ, _, _, Hp.le_refl _, ⟨rfl, rfl, rfl⟩, rfl, s.ent (Ent.skip (Ent.refl _))⟩
  · subst hn
    have hb : hp w g = some (.cells cur t fz) := l1.at_ _ _ hg
    have hH : Sort.Holds strB w g 0 zs.toArray := by
      intro j hj
      have hj' : j < zs.length := by simpa using hj
      refine ⟨?_, by rw [Nat.zero_add]; exact soft_at hb hs (by omega)⟩
      have h6 : (cur.toList.take zs.length)[j]? = (zs.map strB)[j]? := by rw [strs_flat, ← h5, Nat.mul_one]
      rw [List.getElem?_take_of_lt hj'] at h6
      have hb' : w.heap[g]? = some (.cells cur t fz) := hb
      simp only [World.cell?, hb', Nat.zero_add]
      simp only [Option.isSome_none, Bool.false_eq_true, if_false]
      rw [← Array.getElem?_toList, h6]
      simp [hj']
    refine (Any.slices_Compact_string L g 0 cap zs w hH (by omega) h2).mono ?_
    rintro e w' ⟨rfl, q, rfl⟩
    refine ⟨ρ, _, _, Hp.le_refl _, ⟨rfl, rfl, rfl⟩, rfl, ?_⟩
    rw [← Sort.grow_empty (Sort.putRow _ _ _ _ _)]
    refine (sat.turn (A := .row t 1 (some ⟨g, 0, none⟩) zs.length cap (zs.flatMap Go.SL.encStr)) (B := .raw fun _ => True) .here s (b := g) (o0 := .cells cur t fz) (o := .cells (Sort.putCells strB 0 _ cur) t fz) ?_ trivial (heap_sorted _ hb) (grownBy_sorted _)).ent (Ent.skip (Ent.refl _))
    rintro h ⟨_, ⟨h0, _⟩ | ⟨g', cur', fz', e1, hg', _⟩⟩ hle
    · cases h0
    · cases e1
      have := hle.at_ _ _ hg'
      rw [hb] at this
      rw [hg', this]
theorem compact_len (zs : List (List UInt8)) : (Lib.compact zs).length ≤ zs.length := by
  unfold Lib.compact Lib.compactUpTo
  rw [List.length_map]
  exact Nat.le_trans (List.length_filter_le _ _) (by rw [List.length_range]; exact Nat.le_refl _)
theorem compact_nodup {zs : List (List UInt8)} (hs : zs.Pairwise (fun a b => a ≤ b)) : (Lib.compact zs).length = zs.length ↔ zs.Nodup := by
  have e1 : (Lib.compact zs).length = zs.length ↔ ∀ j, j < zs.length → Lib.keeps zs.toArray j = true := by
    unfold Lib.compact Lib.compactUpTo
    rw [List.length_map]
    constructor
    · intro h j hj
      have h2 : ((List.range zs.length).filter (Lib.keeps zs.toArray)).length = (List.range zs.length).length := by rw [h, List.length_range]
      exact (List.length_filter_eq_length_iff.1 h2) j (List.mem_range.2 hj)
    · intro h
      have h2 : ((List.range zs.length).filter (Lib.keeps zs.toArray)).length = (List.range zs.length).length := List.length_filter_eq_length_iff.2 fun j hj => h j (List.mem_range.1 hj)
      rw [h2, List.length_range]
  have e2 : ∀ j (hj : j < zs.length), 0 < j → (Lib.keeps zs.toArray j = true ↔ zs[j] ≠ zs[j - 1]'(by omega)) := by
    intro j hj h0
    have h1 : zs.toArray[j]! = zs[j] := by simp [hj]
    have h2 : zs.toArray[j - 1]! = zs[j - 1]'(by omega) := by
      have : j - 1 < zs.length := by omega
      simp [this]
    unfold Lib.keeps
    rw [h1, h2, decide_eq_true_eq]
    constructor
    · rintro (h | h)
      · omega
      · exact h
    · exact .inr
  rw [e1]
  have hp := List.pairwise_iff_getElem.1 hs
  constructor
  · intro h
    refine List.pairwise_iff_getElem.2 fun i j hi hj hij e => ?_
    have h1 := (e2 j hj (by omega)).1 (h j hj)
    by_cases q : i = j - 1
    · subst q; exact h1 e.symm
    · have h2 := hp i (j - 1) hi (by omega) (by omega)
      have h3 := hp (j - 1) j (by omega) hj (by omega)
      rw [e] at h2
      exact h1 (Std.le_antisymm h2 h3)
  · intro h j hj
    by_cases h0 : j = 0
    · subst h0; simp [Lib.keeps]
    · exact (e2 j hj (by omega)).2 fun e => (List.pairwise_iff_getElem.1 h) (j - 1) j (by omega) hj (by omega) e.symm
end Go.SL
