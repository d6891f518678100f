/-
  The reference's Only, in plain words: what it leaves is the track by rising numbers. No program in sight.
-/
import Derived.Test.YteajafkmnhikoaaTlyR
import Derived.Test.YteajafkmnhikoaaTlyS
set_option linter.unusedVariables false
set_option linter.unusedSimpArgs false
namespace Go.Tly
open Go Go.SL
def rkStep (id : Int) (p e : RPeer) : RPeer := if e.ID = id then e else p
def rkeep (L : List RPeer) (last id : Int) : RPeer := L.foldl (rkStep id) ⟨id, 0, mx last 0 + 1⟩
def atF (out : List RPeer) (id : Int) : Nat := (out.takeWhile fun e => decide (e.ID < id)).length
def hereB (out : List RPeer) (id : Int) : Bool := decide (atF out id < out.length) && decide ((out.getD (atF out id) default).ID = id)
def insF (out : List RPeer) (p : RPeer) : List RPeer := if hereB out p.ID = true then out else out.take (atF out p.ID) ++ [p] ++ out.drop (atF out p.ID)
def ronlyStep (L : List RPeer) (last : Int) (out : List RPeer) (id : Int) : List RPeer := insF out (rkeep L last id)
def ronlyF (L : List RPeer) (last : Int) (ids : List Int) : List RPeer := ids.foldl (ronlyStep L last) []
theorem at_le (out : List RPeer) (id : Int) : atF out id ≤ out.length := by
  induction out with
  | nil => exact Nat.le_refl _
  | cons e out ih =>
    unfold atF at ih ⊢
    rw [List.takeWhile_cons]
    split
    · simp only [List.length_cons]; omega
    · simp
theorem at_yes {e : RPeer} {out : List RPeer} {id : Int} (h : e.ID < id) : atF (e :: out) id = atF out id + 1 := by
  unfold atF
  rw [List.takeWhile_cons, if_pos (decide_eq_true h)]
  rfl
theorem at_no {e : RPeer} {out : List RPeer} {id : Int} (h : ¬ e.ID < id) : atF (e :: out) id = 0 := by
  unfold atF
  rw [List.takeWhile_cons, if_neg (by rw [decide_eq_false h]; decide)]
  rfl
theorem at_next : ∀ {out : List RPeer} {id : Int} {k : Nat}, k ≤ atF out id → k < out.length → (out.getD k default).ID < id → k + 1 ≤ atF out id
  | [], _, _, _, h, _ => by simp at h
  | e :: out, id, k, h1, h2, h3 => by
    by_cases q : e.ID < id
    · rw [at_yes q] at h1 ⊢
      cases k with
      | zero => omega
      | succ k =>
        have := at_next (out := out) (id := id) (k := k) (by omega) (by simpa using h2) (by simpa using h3)
        omega
    · rw [at_no q] at h1
      have : k = 0 := by omega
      subst this
      exact absurd h3 q
theorem at_end : ∀ {out : List RPeer} {id : Int} {k : Nat}, k ≤ atF out id → ¬ (k < out.length ∧ (out.getD k default).ID < id) → k = atF out id
  | [], _, k, h1, _ => by
    have : k ≤ 0 := h1
    show k = 0
    omega
  | e :: out, id, k, h1, h2 => by
    by_cases q : e.ID < id
    · rw [at_yes q] at h1 ⊢
      cases k with
      | zero => exact absurd ⟨by simp, q⟩ h2
      | succ k =>
        have := at_end (out := out) (id := id) (k := k) (by omega) (fun h => h2 ⟨by simpa using h.1, by simpa using h.2⟩)
        omega
    · rw [at_no q] at h1 ⊢
      omega
def insR : List RPeer → RPeer → List RPeer
  | [], p => [p]
  | e :: out, p => if e.ID < p.ID then e :: insR out p else if e.ID = p.ID then e :: out else p :: e :: out
theorem ins_eq : ∀ (out : List RPeer) (p : RPeer), insF out p = insR out p
  | [], p => rfl
  | e :: out, p => by
    unfold insR
    by_cases q : e.ID < p.ID
    · rw [if_pos q, ← ins_eq out p]
      unfold insF
      have e1 : hereB (e :: out) p.ID = hereB out p.ID := by
        unfold hereB
        rw [at_yes q]
        simp only [List.length_cons, Nat.add_lt_add_iff_right]
        rfl
      rw [e1, at_yes q]
      split
      · rfl
      · rfl
    · rw [if_neg q]
      unfold insF
      have e1 : hereB (e :: out) p.ID = decide (e.ID = p.ID) := by
        unfold hereB
        rw [at_no q]
        simp
      rw [e1, at_no q]
      by_cases r : e.ID = p.ID
      · rw [if_pos r, if_pos (decide_eq_true r)]
      · rw [if_neg r, if_neg (by rw [decide_eq_false r]; decide)]
        rfl
def SortedL (l : List RPeer) : Prop := l.Pairwise fun a b => a.ID < b.ID
theorem insR_sub : ∀ {out : List RPeer} {p z : RPeer}, z ∈ insR out p → z ∈ out ∨ z = p
  | [], p, z, h => .inr (by simpa [insR] using h)
  | e :: out, p, z, h => by
    unfold insR at h
    split at h
    · rcases List.mem_cons.1 h with rfl | h
      · exact .inl List.mem_cons_self
      · exact (insR_sub h).elim (fun h => .inl (List.mem_cons_of_mem _ h)) .inr
    · split at h
      · exact .inl h
      · rcases List.mem_cons.1 h with rfl | h
        · exact .inr rfl
        · exact .inl h
theorem insR_mem : ∀ {out : List RPeer} {p : RPeer}, (∀ x ∈ out, x.ID = p.ID → x = p) → ∀ z, z ∈ insR out p ↔ z ∈ out ∨ z = p
  | [], p, _, z => by simp [insR]
  | e :: out, p, hs, z => by
    unfold insR
    split
    · rw [List.mem_cons, insR_mem (fun x hx => hs x (List.mem_cons_of_mem _ hx)), List.mem_cons, or_assoc]
    · split
      · rename_i q
        have := hs e List.mem_cons_self q
        subst this
        simp only [List.mem_cons]
        exact ⟨.inl, fun h => h.elim id .inl⟩
      · simp only [List.mem_cons]
        exact ⟨fun h => h.elim .inr .inl, fun h => h.elim .inr .inl⟩
theorem insR_sorted : ∀ {out : List RPeer} {p : RPeer}, SortedL out → SortedL (insR out p)
  | [], p, _ => by simp [insR, SortedL]
  | e :: out, p, h => by
    unfold insR
    have h' := List.pairwise_cons.1 h
    split
    · rename_i q
      exact List.pairwise_cons.2 ⟨fun x hx => (insR_sub hx).elim (h'.1 x) fun e => e ▸ q, insR_sorted h'.2⟩
    · split
      · exact h
      · refine List.pairwise_cons.2 ⟨fun x hx => ?_, h⟩
        rcases List.mem_cons.1 hx with rfl | hx
        · omega
        · have := h'.1 x hx; omega
theorem sorted_ext : ∀ {l l' : List RPeer}, SortedL l → SortedL l' → (∀ z, z ∈ l ↔ z ∈ l') → l = l'
  | [], l', _, _, h => by
    cases l' with
    | nil => rfl
    | cons b l' => exact absurd ((h b).2 List.mem_cons_self) (by simp)
  | a :: l, [], _, _, h => absurd ((h a).1 List.mem_cons_self) (by simp)
  | a :: l, b :: l', h1, h2, h => by
    have p1 := List.pairwise_cons.1 h1
    have p2 := List.pairwise_cons.1 h2
    have e : a = b := by
      rcases List.mem_cons.1 ((h a).1 List.mem_cons_self) with e | ha
      · exact e
      · rcases List.mem_cons.1 ((h b).2 List.mem_cons_self) with e | hb
        · exact e.symm
        · have := p1.1 b hb; have := p2.1 a ha; omega
    subst e
    rw [sorted_ext p1.2 p2.2 fun z => ⟨fun hz => ?_, fun hz => ?_⟩]
    · rcases List.mem_cons.1 ((h z).1 (List.mem_cons_of_mem _ hz)) with e | g
      · have := p1.1 z hz; rw [e] at this; omega
      · exact g
    · rcases List.mem_cons.1 ((h z).2 (List.mem_cons_of_mem _ hz)) with e | g
      · have := p2.1 z hz; rw [e] at this; omega
      · exact g
theorem rk_id (L : List RPeer) (last id : Int) : (rkeep L last id).ID = id := by
  have key : ∀ (l : List RPeer) (p : RPeer), p.ID = id → (l.foldl (rkStep id) p).ID = id := by
    intro l
    induction l with
    | nil => intro p h; exact h
    | cons e l ih =>
      intro p h
      refine ih _ ?_
      unfold rkStep
      split
      · assumption
      · exact h
  exact key L _ rfl
theorem rk_none {id : Int} : ∀ {L : List RPeer} (p : RPeer), (∀ e ∈ L, e.ID ≠ id) → L.foldl (rkStep id) p = p
  | [], p, _ => rfl
  | e :: L, p, h => by
    rw [List.foldl_cons, show rkStep id p e = p from if_neg (h e List.mem_cons_self)]
    exact rk_none p fun x hx => h x (List.mem_cons_of_mem _ hx)
theorem rk_some {id : Int} {z : RPeer} (hz : z.ID = id) : ∀ {L : List RPeer} (p : RPeer), SortedL L → z ∈ L → L.foldl (rkStep id) p = z
  | [], p, _, h => by simp at h
  | e :: L, p, hs, h => by
    have p1 := List.pairwise_cons.1 hs
    rw [List.foldl_cons]
    by_cases q : e.ID = id
    · rw [show rkStep id p e = e from if_pos q, rk_none e fun x hx c => by have := p1.1 x hx; omega]
      rcases List.mem_cons.1 h with c | c
      · exact c.symm
      · have := p1.1 z c; omega
    · rw [show rkStep id p e = p from if_neg q]
      rcases List.mem_cons.1 h with c | c
      · subst c; exact absurd hz q
      · exact rk_some hz p p1.2 c
theorem ronly_inv (L : List RPeer) (last : Int) (ids : List Int) : SortedL (ronlyF L last ids) ∧ ∀ z, z ∈ ronlyF L last ids ↔ ∃ id ∈ ids, z = rkeep L last id := by
  have key : ∀ (l pre : List Int) (out : List RPeer), (SortedL out ∧ ∀ z, z ∈ out ↔ ∃ id ∈ pre, z = rkeep L last id) → SortedL (l.foldl (ronlyStep L last) out) ∧ ∀ z, z ∈ l.foldl (ronlyStep L last) out ↔ ∃ id ∈ pre ++ l, z = rkeep L last id := by
    intro l
    induction l with
    | nil => intro pre out h; simpa using h
    | cons i l ih =>
      intro pre out h
      have hs : ∀ x ∈ out, x.ID = (rkeep L last i).ID → x = rkeep L last i := by
        intro x hx e
        obtain ⟨j, _, rfl⟩ := (h.2 x).1 hx
        rw [rk_id, rk_id] at e
        rw [e]
      have := ih (pre ++ [i]) (ronlyStep L last out i) ⟨by unfold ronlyStep; rw [ins_eq]; exact insR_sorted h.1, fun z => by
        unfold ronlyStep
        rw [ins_eq, insR_mem hs, h.2]
        simp only [List.mem_append, List.mem_singleton]
        constructor
        · rintro (⟨j, hj, e⟩ | e)
          · exact ⟨j, .inl hj, e⟩
          · exact ⟨i, .inr rfl, e⟩
        · rintro ⟨j, hj | rfl, e⟩
          · exact .inl ⟨j, hj, e⟩
          · exact .inr e⟩
      simpa using this
  have := key ids [] [] ⟨List.Pairwise.nil, fun z => by simp⟩
  rw [List.nil_append] at this
  exact this
theorem ronly_len (L : List RPeer) (last : Int) (ids : List Int) : (ronlyF L last ids).length ≤ ids.length := by
  have hi : ∀ (out : List RPeer) (p : RPeer), (insR out p).length ≤ out.length + 1 := by
    intro out
    induction out with
    | nil => intro p; simp [insR]
    | cons e out ih =>
      intro p
      unfold insR
      split
      · have := ih p; simp only [List.length_cons]; omega
      · split <;> simp only [List.length_cons] <;> omega
  have key : ∀ (l : List Int) (out : List RPeer), (l.foldl (ronlyStep L last) out).length ≤ out.length + l.length := by
    intro l
    induction l with
    | nil => intro out; simp
    | cons i l ih =>
      intro out
      have h1 := ih (ronlyStep L last out i)
      have h2 : (ronlyStep L last out i).length ≤ out.length + 1 := by unfold ronlyStep; rw [ins_eq]; exact hi _ _
      simp only [List.foldl_cons, List.length_cons]
      omega
  have := key ids []
  simpa [ronlyF] using this
/-! ### The track as the reference has it -/
def tR (T : PT) (id : Int) : RPeer := ⟨id, matchF T id, nextF T id⟩
def tl (T : PT) : List RPeer := (sortI (mkeys (pm T))).map (tR T)
theorem tl_len (T : PT) : (tl T).length = T.length := by unfold tl; rw [List.length_map, ks_len]
theorem match_tP (T : PT) (id : Int) : matchF T id = match tP T id with | some p => p.match_ | none => 0 := by
  unfold matchF tP
  cases tE T id <;> rfl
theorem next_tP (T : PT) (id : Int) : nextF T id = match tP T id with | some p => p.next | none => 0 := by
  unfold nextF tP
  cases tE T id <;> rfl
theorem key_iff (T : PT) (id : Int) : id ∈ T.map (·.1) ↔ tP T id ≠ none := by
  unfold tP
  constructor
  · intro h e
    obtain ⟨x, hx, q⟩ := List.mem_map.1 h
    exact tE_mem (by cases c : tE T id with | none => rfl | some y => rw [c] at e; cases e) x hx q
  · intro h
    cases c : tE T id with
    | none => rw [c] at h; exact absurd rfl h
    | some y =>
      have h1 := List.mem_of_find?_eq_some c
      have h2 := List.find?_some c
      exact List.mem_map.2 ⟨y, h1, of_decide_eq_true h2⟩
theorem tl_mem (T : PT) (z : RPeer) : z ∈ tl T ↔ ∃ id ∈ T.map (·.1), z = tR T id := by
  unfold tl
  rw [List.mem_map]
  constructor
  · rintro ⟨id, h, rfl⟩; exact ⟨id, by rw [← pm_keys]; exact sortI_mem.1 h, rfl⟩
  · rintro ⟨id, h, rfl⟩; exact ⟨id, sortI_mem.2 (by rw [pm_keys]; exact h), rfl⟩
theorem tl_sorted {T : PT} (hn : (T.map (·.1)).Nodup) : SortedL (tl T) := by
  unfold SortedL tl
  rw [List.pairwise_map]
  have h1 := sortI_le (mkeys (pm T))
  have h2 : (sortI (mkeys (pm T))).Nodup := (sortI_perm _).nodup_iff.2 (by rw [pm_keys]; exact hn)
  refine (h1.and h2).imp fun {a b} h => ?_
  show a < b
  have := h.1
  have := h.2
  omega
theorem rk_tl {T : PT} (hn : (T.map (·.1)).Nodup) (last id : Int) : rkeep (tl T) last id = match tP T id with | some p => ⟨id, p.match_, p.next⟩ | none => ⟨id, 0, mx last 0 + 1⟩ := by
  unfold rkeep
  cases c : tP T id with
  | some p =>
    have hk : id ∈ T.map (·.1) := (key_iff T id).2 (by rw [c]; simp)
    have e : tR T id = ⟨id, p.match_, p.next⟩ := by unfold tR; rw [match_tP, next_tP, c]
    show _ = (⟨id, p.match_, p.next⟩ : RPeer)
    rw [← e]
    exact rk_some rfl _ (tl_sorted hn) ((tl_mem T _).2 ⟨id, hk, rfl⟩)
  | none =>
    refine rk_none _ fun e he q => ?_
    obtain ⟨i, hi, rfl⟩ := (tl_mem T e).1 he
    have q : i = id := q
    subst q
    exact (key_iff T i).1 hi c
theorem only_tl {T T' : PT} {last : Int} {ids : List Int} (hn : (T.map (·.1)).Nodup) (h : OnlyI T last ids ids.length T') : ronlyF (tl T) last ids = tl T' := by
  obtain ⟨h1, h2⟩ := ronly_inv (tl T) last ids
  have hg : ∀ id, tP T' id = if id ∈ ids then (match tP T id with | some p => some p | none => some (newP last)) else none := by
    intro id
    rw [h.got, List.take_length]
    by_cases c : id ∈ ids
    · simp only [c, if_true]; cases tP T id <;> rfl
    · simp only [c, if_false]
  have hk : ∀ id, id ∈ T'.map (·.1) ↔ id ∈ ids := by
    intro id
    rw [key_iff, hg]
    by_cases c : id ∈ ids
    · rw [if_pos c]; cases tP T id <;> simp [c]
    · rw [if_neg c]; simp [c]
  refine sorted_ext h1 (tl_sorted h.nd) fun z => ?_
  rw [h2, tl_mem]
  have he : ∀ id ∈ ids, rkeep (tl T) last id = tR T' id := by
    intro id hid
    rw [rk_tl hn]
    unfold tR
    rw [match_tP, next_tP, hg, if_pos hid]
    cases tP T id <;> rfl
  constructor
  · rintro ⟨id, hid, rfl⟩; exact ⟨id, (hk id).2 hid, he id hid⟩
  · rintro ⟨id, hid, rfl⟩; exact ⟨id, (hk id).1 hid, (he id ((hk id).1 hid)).symm⟩
theorem only_ok {T T' : PT} {last : Int} {ids : List Int} (hT : TOk T) (hl : last ≤ 2199023255552) (h : OnlyI T last ids ids.length T') : TOk T' := by
  refine ⟨h.nd, fun e he => ?_⟩
  have h1 : tP T' e.1 = some e.2.2 := by unfold tP; rw [(tE_iff h.nd).2 ⟨he, rfl⟩]; rfl
  have h2 := h.got e.1
  rw [h1] at h2
  split at h2
  · split at h2
    · rename_i p hp
      injection h2 with h2
      unfold tP at hp
      cases c : tE T e.1 with
      | none => rw [c] at hp; cases hp
      | some y =>
        rw [c] at hp
        injection hp with hp
        have := hT.2 y ((tE_iff hT.1).1 c).1
        rw [h2, ← hp]
        exact this
    · split at h2
      · injection h2 with h2
        rw [h2]
        unfold newP mx
        refine ⟨Int.le_refl _, ?_⟩
        show (0 : Int) < _ + 1 ∧ _ + 1 ≤ _
        split <;> omega
      · cases h2
  · cases h2
theorem only_in {T T' : PT} {last : Int} {ids : List Int} (h : OnlyI T last ids ids.length T') : ∀ e ∈ T', e.1 ∈ ids := by
  intro e he
  have h1 : e.1 ∈ T'.map (·.1) := List.mem_map.2 ⟨e, he, rfl⟩
  have h2 := (key_iff T' e.1).1 h1
  rw [h.got] at h2
  by_cases c : e.1 ∈ ids
  · exact c
  · rw [if_neg c] at h2; exact absurd rfl h2
end Go.Tly
