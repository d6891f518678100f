/-
  The track's peers: a map of pointers and the blocks behind them. No program in sight.
-/
import Derived.Test.YteajafkmnhikoaaTlyP
import Derived.Test.YteajafkmnhikoaaSlP
set_option linter.unusedVariables false
set_option linter.unusedSimpArgs false
namespace Go.Tly
open Go Go.SL
abbrev PT := List (Int × Nat × Peer)
def pm (T : PT) : List (Int × Option Nat) := T.map fun e => (e.1, some e.2.1)
def pL (t : TypeId) (T : PT) : List Asn := T.map fun e => .pts e.2.1 (encPeer e.2.2) t
def PB (t : TypeId) (T : PT) : Asn := Bun (pL t T)
def tE (T : PT) (id : Int) : Option (Int × Nat × Peer) := T.find? fun e => decide (e.1 = id)
theorem pm_keys (T : PT) : mkeys (pm T) = T.map (·.1) := by simp [mkeys, pm]
theorem look_none : ∀ {T : PT} {id : Int}, mgetD (pm T) id none = none → tE T id = none
  | [], _, _ => rfl
  | e :: T, id, h => by
    unfold tE
    rw [List.find?_cons]
    by_cases q : e.1 = id
    · simp [pm, mgetD, mget, q] at h
    · simp only [q, decide_false]
      refine look_none (T := T) ?_
      simpa [pm, mgetD, mget, q] using h
theorem look_some : ∀ {T : PT} {id : Int}, ¬ mgetD (pm T) id none = none → ∃ j b p, j < T.length ∧ T[j]? = some (id, b, p) ∧ tE T id = some (id, b, p) ∧ mgetD (pm T) id none = some b
  | [], _, h => absurd rfl h
  | (k, b, p) :: T, id, h => by
    by_cases q : k = id
    · subst q
      exact ⟨0, b, p, by simp, rfl, by simp [tE], by simp [pm, mgetD, mget]⟩
    · have h' : ¬ mgetD (pm T) id none = none := fun e => h (by simpa [pm, mgetD, mget, q] using e)
      obtain ⟨j, b', p', h1, h2, h3, h4⟩ := look_some h'
      refine ⟨j + 1, b', p', by simpa using h1, by simpa using h2, ?_, by simpa [pm, mgetD, mget, q] using h4⟩
      unfold tE at h3 ⊢
      rw [List.find?_cons]
      simp only [q, decide_false]
      exact h3
theorem peer_open {t : TypeId} {T : PT} {Γ Γ1 : List Asn} {j : Nat} {id : Int} {b : Nat} {p : Peer} (hj : T[j]? = some (id, b, p)) (q : Pick (PB t T) [] Γ Γ1) : Ent Γ (.pts b (encPeer p) t :: Bun ((pL t T).eraseIdx j) :: Γ1) := by
  have hlt : j < (pL t T).length := by have := (List.getElem?_eq_some_iff.1 hj).1; simpa [pL] using this
  have e1 : (pL t T)[j] = .pts b (encPeer p) t := by
    obtain ⟨h1, h2⟩ := List.getElem?_eq_some_iff.1 hj
    simp only [pL, List.getElem_map, h2]
  refine Ent.trans (Ent.pick q (Ent.refl _)) ?_
  rw [← e1]
  exact bun_get (pL t T) Γ1 j hlt
theorem peer_shut {t : TypeId} {T : PT} {Γ : List Asn} {j : Nat} {id : Int} {b : Nat} {p p' : Peer} (hj : T[j]? = some (id, b, p)) : Ent (.pts b (encPeer p') t :: Bun ((pL t T).eraseIdx j) :: Γ) (PB t (T.set j (id, b, p')) :: Γ) := by
  have hlt : j < (pL t T).length := by have := (List.getElem?_eq_some_iff.1 hj).1; simpa [pL] using this
  have e1 : pL t (T.set j (id, b, p')) = (pL t T).set j (.pts b (encPeer p') t) := by simp [pL, List.map_set]
  unfold PB
  rw [e1]
  exact bun_set (pL t T) Γ j _ hlt
theorem set_at {T : PT} {j : Nat} {e : Int × Nat × Peer} (hj : T[j]? = some e) : T.set j e = T := by
  obtain ⟨h1, h2⟩ := List.getElem?_eq_some_iff.1 hj
  rw [← h2]; exact List.set_getElem_self h1
theorem peer_same {t : TypeId} {T : PT} {Γ : List Asn} {j : Nat} {id : Int} {b : Nat} {p : Peer} (hj : T[j]? = some (id, b, p)) : Ent (.pts b (encPeer p) t :: Bun ((pL t T).eraseIdx j) :: Γ) (PB t T :: Γ) := by
  have := peer_shut (t := t) (Γ := Γ) (p' := p) hj
  rwa [set_at hj] at this
theorem pm_set {T : PT} {j : Nat} {id : Int} {b : Nat} {p p' : Peer} (hj : T[j]? = some (id, b, p)) : pm (T.set j (id, b, p')) = pm T := by
  unfold pm
  rw [List.map_set]
  apply List.ext_getElem?
  intro i
  by_cases e : j = i
  · subst e
    obtain ⟨h1, h2⟩ := List.getElem?_eq_some_iff.1 hj
    simp [List.getElem?_set, h1, h2]
  · rw [List.getElem?_set, if_neg e]
def matchF (T : PT) (id : Int) : Int := match tE T id with | some e => e.2.2.match_ | none => 0
def nextF (T : PT) (id : Int) : Int := match tE T id with | some e => e.2.2.next | none => 0
theorem map_set_ {T : PT} (hn : (T.map (·.1)).Nodup) {j : Nat} {id : Int} {b : Nat} {p : Peer} (hj : T[j]? = some (id, b, p)) (f : Peer → Peer) : T.set j (id, b, f p) = T.map fun e => if e.1 = id then (e.1, e.2.1, f e.2.2) else e := by
  apply List.ext_getElem?
  intro i
  rw [List.getElem?_set, List.getElem?_map]
  obtain ⟨h1, h2⟩ := List.getElem?_eq_some_iff.1 hj
  by_cases e : j = i
  · subst e; simp [h1, h2]
  · rw [if_neg e]
    cases hi : T[i]? with
    | none => rfl
    | some q =>
      have hne : q.1 ≠ id := fun eq => by
        have h5 : (T.map (·.1))[j]? = some id := by simp [hj]
        have h6 : (T.map (·.1))[i]? = some id := by simp [hi, eq]
        have hl : j < (T.map (·.1)).length := by simpa using h1
        exact e ((List.getElem?_inj hl hn).1 (h5.trans h6.symm))
      simp [hne]
def ackP (index : Int) (p : Peer) : Peer := if p.match_ < index then ⟨index, mx p.next (index + 1)⟩ else p
def ackT (T : PT) (id index : Int) : PT := T.map fun e => if e.1 = id then (e.1, e.2.1, ackP index e.2.2) else e
def ackB (T : PT) (id index : Int) : Bool := match tE T id with | some e => decide (e.2.2.match_ < index) | none => false
def mn (a b : Int) : Int := if b < a then b else a
def backC (index : Int) (p : Peer) : Bool := decide (index = p.next - 1) && decide (p.match_ < index)
def backP (index hint : Int) (p : Peer) : Peer := if backC index p = true then ⟨p.match_, mx (mn index (mx hint 0 + 1)) (p.match_ + 1)⟩ else p
def backT (T : PT) (id index hint : Int) : PT := T.map fun e => if e.1 = id then (e.1, e.2.1, backP index hint e.2.2) else e
def backB (T : PT) (id index : Int) : Bool := match tE T id with | some e => backC index e.2.2 | none => false
theorem tE_mem {T : PT} {id : Int} (h : tE T id = none) : ∀ e ∈ T, e.1 ≠ id := fun e he q => by
  have := List.find?_eq_none.1 h e he
  simp [q] at this
theorem map_no {T : PT} {id : Int} (h : tE T id = none) (f : Peer → Peer) : (T.map fun e => if e.1 = id then (e.1, e.2.1, f e.2.2) else e) = T := by
  refine (List.map_congr_left (g := fun e => e) fun e he => ?_).trans (List.map_id' T)
  rw [if_neg (tE_mem h e he)]
def TOk (T : PT) : Prop := (T.map (·.1)).Nodup ∧ ∀ e ∈ T, 0 ≤ e.2.2.match_ ∧ e.2.2.match_ < e.2.2.next ∧ e.2.2.next ≤ 4398046511104
theorem TOk.at_ {T : PT} (h : TOk T) {j : Nat} {id : Int} {b : Nat} {p : Peer} (hj : T[j]? = some (id, b, p)) : 0 ≤ p.match_ ∧ p.match_ < p.next ∧ p.next ≤ 4398046511104 := h.2 _ (List.mem_of_getElem? hj)
/-! ### slices.Index, slices.Contains -/
def idxI (l : List Int) (v : Int) : Int := if v ∈ l then (l.idxOf v : Int) else -1
theorem idxI_at {l : List Int} {v : Int} {k : Nat} (hk : k < l.length) (h : v ∉ l.take k) (e : v = l.getD k default) : idxI l v = (k : Int) := by
  have hm : v ∈ l := by rw [e]; simp [List.getD, hk]
  unfold idxI
  rw [if_pos hm]
  have e1 : l = l.take k ++ l.drop k := (List.take_append_drop k l).symm
  have e2 : l.drop k = v :: l.drop (k + 1) := by rw [List.drop_eq_getElem_cons hk, e]; simp [List.getD, hk]
  have : l.idxOf v = k := by rw [e1, List.idxOf_append, if_neg h, e2, List.idxOf_cons_self, List.length_take]; omega
  rw [this]
theorem idxI_none {l : List Int} {v : Int} (h : v ∉ l) : idxI l v = -1 := by unfold idxI; rw [if_neg h]
theorem idxI_mem (l : List Int) (v : Int) : decide (0 ≤ idxI l v) = decide (v ∈ l) := by
  unfold idxI
  by_cases h : v ∈ l
  · rw [if_pos h]; simp [h]
  · rw [if_neg h]; simp [h]
theorem not_take_succI {l : List Int} {v : Int} {k : Nat} (hk : k < l.length) (h : v ∉ l.take k) (e : ¬ v = l.getD k default) : v ∉ l.take (k + 1) := fun hm => by
  rw [take_succ_getD l k hk] at hm
  rcases List.mem_append.1 hm with h1 | h1
  · exact h h1
  · exact e (List.mem_singleton.1 h1)
end Go.Tly
