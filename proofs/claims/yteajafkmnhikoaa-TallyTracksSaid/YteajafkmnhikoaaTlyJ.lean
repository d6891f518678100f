/-
  What a track is told: the reference's list, turned. No program in sight.
-/
import Derived.Test.YteajafkmnhikoaaTlyI
import Derived.Test.YteajafkmnhikoaaSlV
set_option linter.unusedVariables false
set_option linter.unusedSimpArgs false
namespace Go.Tly
open Go Go.SL
theorem getD_mem_ {α : Type} [Inhabited α] {l : List α} {k : Nat} (h : k < l.length) : l.getD k default ∈ l := by simp [List.getD, h]
def rupB1 (k idx : Int) (e : RPeer) : Bool := decide (k = 1) && decide (e.Match < idx)
def rupB2 (k idx : Int) (e : RPeer) : Bool := (decide (k = 2) && decide (idx = e.Next - 1)) && decide (e.Match < idx)
def rup1 (idx : Int) (e : RPeer) : RPeer := ⟨e.ID, idx, mx e.Next (idx + 1)⟩
def rup2 (idx hint : Int) (e : RPeer) : RPeer := ⟨e.ID, e.Match, mx (mn idx (mx hint 0 + 1)) (e.Match + 1)⟩
def rupE (k idx hint : Int) (e : RPeer) : RPeer := if rupB1 k idx e = true then rup1 idx e else if rupB2 k idx e = true then rup2 idx hint e else e
def rupS (k id idx hint : Int) (e : RPeer) : RPeer := if e.ID = id then rupE k idx hint e else e
def rwB (k id idx : Int) (e : RPeer) : Bool := decide (e.ID = id) && (rupB1 k idx e || rupB2 k idx e)
def rwant (k id idx : Int) (l : List RPeer) : Bool := l.any (rwB k id idx)
theorem rwant_succ {k id idx : Int} {l : List RPeer} {j : Nat} (hj : j < l.length) : rwant k id idx (l.take (j + 1)) = (rwant k id idx (l.take j) || rwB k id idx (l.getD j default)) := by
  unfold rwant
  rw [take_succ_getD l j hj, List.any_append]
  simp
theorem rup_no {k id idx hint : Int} {e : RPeer} (h : ¬ e.ID = id) : rupS k id idx hint e = e ∧ rwB k id idx e = false := by
  unfold rupS rwB
  rw [if_neg h, decide_eq_false h]
  exact ⟨rfl, rfl⟩
theorem rup_yes1 {k id idx hint : Int} {e : RPeer} (h : e.ID = id) (b : rupB1 k idx e = true) : rupS k id idx hint e = rup1 idx e ∧ rwB k id idx e = true := by
  unfold rupS rwB rupE
  rw [if_pos h, decide_eq_true h, b, if_pos rfl]
  exact ⟨rfl, rfl⟩
theorem rup_yes2 {k id idx hint : Int} {e : RPeer} (h : e.ID = id) (b : rupB1 k idx e = false) (b2 : rupB2 k idx e = true) : rupS k id idx hint e = rup2 idx hint e ∧ rwB k id idx e = true := by
  unfold rupS rwB rupE
  rw [if_pos h, decide_eq_true h, b, b2, if_pos rfl]
  exact ⟨rfl, rfl⟩
theorem rup_yes0 {k id idx hint : Int} {e : RPeer} (h : e.ID = id) (b : rupB1 k idx e = false) (b2 : rupB2 k idx e = false) : rupS k id idx hint e = e ∧ rwB k id idx e = false := by
  unfold rupS rwB rupE
  rw [if_pos h, decide_eq_true h, b, b2]
  exact ⟨rfl, rfl⟩
/-! ### The track turned -/
def mapT (f : Peer → Peer) (id : Int) (T : PT) : PT := T.map fun e => if e.1 = id then (e.1, e.2.1, f e.2.2) else e
theorem mapT_keys (f : Peer → Peer) (id : Int) (T : PT) : (mapT f id T).map (·.1) = T.map (·.1) := by
  unfold mapT
  rw [List.map_map]
  refine List.map_congr_left fun e _ => ?_
  show (if e.1 = id then (e.1, e.2.1, f e.2.2) else e).1 = e.1
  split <;> rfl
theorem mapT_len (f : Peer → Peer) (id : Int) (T : PT) : (mapT f id T).length = T.length := List.length_map ..
theorem mapT_tP (f : Peer → Peer) (id : Int) (T : PT) (i : Int) : tP (mapT f id T) i = if i = id then (tP T i).map f else tP T i := by
  unfold tP tE mapT
  induction T with
  | nil => simp
  | cons e T ih =>
    simp only [List.map_cons, List.find?_cons]
    have e1 : (if e.1 = id then (e.1, e.2.1, f e.2.2) else e).1 = e.1 := by split <;> rfl
    rw [e1]
    by_cases q : e.1 = i
    · subst q
      simp only [decide_true]
      by_cases r : e.1 = id
      · simp [r]
      · simp [r]
    · simp only [q, decide_false]
      exact ih
theorem tR_tP {T : PT} {i : Int} {p : Peer} (h : tP T i = some p) : tR T i = ⟨i, p.match_, p.next⟩ := by unfold tR; rw [match_tP, next_tP, h]
theorem tl_map {f : Peer → Peer} {id : Int} {T : PT} {g : RPeer → RPeer} (hg : ∀ p : Peer, g ⟨id, p.match_, p.next⟩ = ⟨id, (f p).match_, (f p).next⟩) : tl (mapT f id T) = (tl T).map fun e => if e.ID = id then g e else e := by
  unfold tl
  rw [pm_keys, pm_keys, mapT_keys, List.map_map]
  refine List.map_congr_left fun i hi => ?_
  have hk := (key_iff T i).1 (sortI_mem.1 hi)
  obtain ⟨p, hp⟩ := Option.ne_none_iff_exists'.1 hk
  show tR (mapT f id T) i = if (tR T i).ID = id then g (tR T i) else tR T i
  rw [tR_tP hp]
  by_cases q : i = id
  · subst q
    rw [tR_tP (p := f p) (by rw [mapT_tP, if_pos rfl, hp]; rfl), if_pos rfl, hg]
  · rw [tR_tP (p := p) (by rw [mapT_tP, if_neg q, hp]), if_neg q]
theorem tl_any {T : PT} {id : Int} {q : RPeer → Bool} : (tl T).any (fun e => decide (e.ID = id) && q e) = match tP T id with | some p => q ⟨id, p.match_, p.next⟩ | none => false := by
  rw [Bool.eq_iff_iff, List.any_eq_true]
  constructor
  · rintro ⟨e, he, h⟩
    obtain ⟨i, hi, rfl⟩ := (tl_mem T e).1 he
    simp only [Bool.and_eq_true, decide_eq_true_eq] at h
    obtain ⟨h1, h2⟩ := h
    have h1 : i = id := h1
    subst h1
    obtain ⟨p, hp⟩ := Option.ne_none_iff_exists'.1 ((key_iff T i).1 hi)
    rw [tR_tP hp] at h2
    rw [hp]
    exact h2
  · intro h
    cases c : tP T id with
    | none => rw [c] at h; cases h
    | some p =>
      rw [c] at h
      refine ⟨tR T id, (tl_mem T _).2 ⟨id, (key_iff T id).2 (by rw [c]; simp), rfl⟩, ?_⟩
      rw [tR_tP c]
      simpa using h
theorem tl_has (T : PT) (id : Int) : hasP (tl T) id = (tP T id).isSome := by
  have := tl_any (T := T) (id := id) (q := fun _ => true)
  simp only [Bool.and_true] at this
  unfold hasP
  rw [this]
  cases tP T id <;> rfl
structure TInv (T : PT) : Prop where
  ok : TOk T
  i64 : ∀ e ∈ T, I64 e.1
  len : T.length ≤ 30
theorem mapT_inv {f : Peer → Peer} {id : Int} {T : PT} (h : TInv T) (hf : ∀ p : Peer, 0 ≤ p.match_ ∧ p.match_ < p.next ∧ p.next ≤ 4398046511104 → 0 ≤ (f p).match_ ∧ (f p).match_ < (f p).next ∧ (f p).next ≤ 4398046511104) : TInv (mapT f id T) := by
  refine ⟨⟨by rw [mapT_keys]; exact h.ok.1, fun e he => ?_⟩, fun e he => ?_, by rw [mapT_len]; exact h.len⟩
  · obtain ⟨x, hx, rfl⟩ := List.mem_map.1 he
    have := h.ok.2 x hx
    split
    · exact hf _ this
    · exact this
  · obtain ⟨x, hx, rfl⟩ := List.mem_map.1 he
    have := h.i64 x hx
    split <;> exact this
theorem ack_tl (T : PT) (id idx hint : Int) : tl (ackT T id idx) = (tl T).map (rupS 1 id idx hint) := by
  refine tl_map (g := rupE 1 idx hint) fun p => ?_
  unfold rupE rupB1 rupB2 rup1 ackP
  by_cases h : p.match_ < idx
  · simp [h]
  · simp [h]
theorem back_tl (T : PT) (id idx hint : Int) : tl (backT T id idx hint) = (tl T).map (rupS 2 id idx hint) := by
  refine tl_map (g := rupE 2 idx hint) fun p => ?_
  unfold rupE rupB1 rupB2 rup2 backP backC
  by_cases h : idx = p.next - 1 <;> by_cases h2 : p.match_ < idx
  · rw [if_neg (by simp), if_pos (by simp [h2]; omega), if_pos (by simp [h2]; omega)]
  · rw [if_neg (by simp), if_neg (by simp; omega), if_neg (by simp; omega)]
  · rw [if_neg (by simp), if_neg (by simp; omega), if_neg (by simp; omega)]
  · rw [if_neg (by simp), if_neg (by simp; omega), if_neg (by simp; omega)]
theorem ack_want (T : PT) (id idx : Int) : rwant 1 id idx (tl T) = ackB T id idx := by
  unfold rwant rwB
  rw [tl_any]
  unfold ackB tP
  cases tE T id with
  | none => rfl
  | some e => simp [rupB1, rupB2]
theorem back_want (T : PT) (id idx : Int) : rwant 2 id idx (tl T) = backB T id idx := by
  unfold rwant rwB
  rw [tl_any]
  unfold backB tP
  cases tE T id with
  | none => rfl
  | some e => simp [rupB1, rupB2, backC]
theorem ack_inv {T : PT} (h : TInv T) {id idx : Int} (hi : idx ≤ 2199023255552) : TInv (ackT T id idx) := mapT_inv h fun p hp => by
  unfold ackP mx
  split
  · simp only []
    split <;> omega
  · exact hp
theorem back_inv {T : PT} (h : TInv T) {id idx hint : Int} (hi : idx ≤ 2199023255552) : TInv (backT T id idx hint) := mapT_inv h fun p hp => by
  unfold backP mx mn
  split
  · simp only []
    refine ⟨hp.1, ?_⟩
    repeat (first | omega | split)
  · exact hp
theorem only_inv {T T' : PT} {last : Int} {ids : List Int} (hT : TOk T) (hl : last ≤ 2199023255552) (h : OnlyI T last ids ids.length T') (hi : ∀ i ∈ ids, I64 i) (hn : ids.length ≤ 30) : TInv T' := by
  refine ⟨only_ok hT hl h, fun e he => hi _ (only_in h e he), ?_⟩
  have := ronly_len (tl T) last ids
  rw [only_tl hT.1 h, tl_len] at this
  omega
theorem nil_tl : tl [] = [] := List.eq_nil_of_length_eq_zero (tl_len [])
theorem nil_ok : TOk [] := ⟨List.nodup_nil, fun e he => by cases he⟩
theorem tl_at {T : PT} (h : TOk T) {k : Nat} (hk : k < T.length) : matchF T ((tl T).getD k default).ID = ((tl T).getD k default).Match ∧ nextF T ((tl T).getD k default).ID = ((tl T).getD k default).Next ∧ ((tl T).getD k default).Match < ((tl T).getD k default).Next ∧ (allF T).getD k default = ⟨((tl T).getD k default).ID, ((tl T).getD k default).Match⟩ := by
  have hl : k < (sortI (mkeys (pm T))).length := by rw [ks_len]; exact hk
  have e1 : (tl T).getD k default = tR T ((sortI (mkeys (pm T)))[k]) := by simp [tl, List.getD, hl]
  have e2 : (allF T).getD k default = ⟨(sortI (mkeys (pm T)))[k], matchF T ((sortI (mkeys (pm T)))[k])⟩ := by simp [allF, List.getD, hl]
  rw [e1, e2]
  refine ⟨rfl, rfl, ?_, rfl⟩
  have hi : (sortI (mkeys (pm T)))[k] ∈ T.map (·.1) := by rw [← pm_keys]; exact sortI_mem.1 (List.getElem_mem hl)
  obtain ⟨p, hp⟩ := Option.ne_none_iff_exists'.1 ((key_iff T _).1 hi)
  rw [tR_tP hp]
  unfold tP at hp
  cases c : tE T ((sortI (mkeys (pm T)))[k]) with
  | none => rw [c] at hp; cases hp
  | some y =>
    rw [c] at hp
    injection hp with hp
    have := h.2 y ((tE_iff h.1).1 c).1
    show p.match_ < p.next
    rw [← hp]
    exact this.2.1
theorem tl_bd {T : PT} (h : TOk T) {k : Nat} (hk : k < T.length) : 0 ≤ ((tl T).getD k default).Match ∧ ((tl T).getD k default).Match < ((tl T).getD k default).Next ∧ ((tl T).getD k default).Next ≤ 4398046511104 := by
  have hl : k < (tl T).length := by rw [tl_len]; exact hk
  have hm : (tl T).getD k default ∈ tl T := by simp [List.getD, hl]
  obtain ⟨i, hi, e⟩ := (tl_mem T _).1 hm
  rw [e]
  obtain ⟨p, hp⟩ := Option.ne_none_iff_exists'.1 ((key_iff T i).1 hi)
  rw [tR_tP hp]
  unfold tP at hp
  cases c : tE T i with
  | none => rw [c] at hp; cases hp
  | some y =>
    rw [c] at hp
    injection hp with hp
    have := h.2 y ((tE_iff h.1).1 c).1
    rw [← hp]
    exact this
/-- what the list of a told thing is in memory -/
def TActM (a : TAct) (ρ : Hp) : Prop := Ro ρ 1 a.IDs.a a.IDs.xs.length a.IDs.cap (a.IDs.xs.flatMap SL.encI) ∧ ∀ i ∈ a.IDs.xs, I64 i
theorem all_len (T : PT) : (allF T).length = T.length := by unfold allF; rw [List.length_map, ks_len]
theorem chk_m (T : PT) (id : Int) : (decide (matchF T id ≠ 0) && !hasP (tl T) id) = false := by
  rw [tl_has, match_tP]
  cases tP T id <;> simp
theorem chk_n (T : PT) (id : Int) : (decide (nextF T id ≠ 0) && !hasP (tl T) id) = false := by
  rw [tl_has, next_tP]
  cases tP T id <;> simp
theorem mx_bd (a : Int) : 0 ≤ mx a 0 ∧ a ≤ mx a 0 ∧ (mx a 0 = a ∨ mx a 0 = 0) := by
  unfold mx
  split <;> omega
end Go.Tly
