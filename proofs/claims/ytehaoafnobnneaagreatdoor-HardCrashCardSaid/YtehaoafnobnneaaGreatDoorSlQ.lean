/-
  The engine, part Q: maps, as lists of pairs in the order in which the keys came. Own work.
-/
import Derived.Test.YtehaoafnobnneaaGreatDoorSlP
import Derived.MapKept
set_option linter.unusedVariables false
set_option linter.unusedSimpArgs false
set_option linter.unusedSectionVars false
namespace Go.SL
open Go Go.MapKept

/-! ### Lists of pairs -/
section
variable {K V : Type} [DecidableEq K]
def mget : List (K × V) → K → Option V
  | [], _ => none
  | (a, v) :: m, k => if a = k then some v else mget m k
def mhas (m : List (K × V)) (k : K) : Bool := (mget m k).isSome
def mgetD (m : List (K × V)) (k : K) (z : V) : V := (mget m k).getD z
def mset : List (K × V) → K → V → List (K × V)
  | [], k, v => [(k, v)]
  | (a, u) :: m, k, v => if a = k then (k, v) :: m else (a, u) :: mset m k v
def mdel : List (K × V) → K → List (K × V)
  | [], _ => []
  | (a, u) :: m, k => if a = k then m else (a, u) :: mdel m k
def mkeys (m : List (K × V)) : List K := m.map (·.1)
theorem mget_set (m : List (K × V)) (k : K) (v : V) (k' : K) : mget (mset m k v) k' = if k = k' then some v else mget m k' := by
  induction m with
  | nil => simp [mset, mget]
  | cons p m ih =>
    obtain ⟨a, u⟩ := p
    simp only [mset]
    by_cases h : a = k
    · subst h
      by_cases h2 : a = k' <;> simp [mget, h2]
    · rw [if_neg h]
      simp only [mget, ih]
      by_cases h2 : a = k'
      · subst h2; simp [Ne.symm h]
      · simp [h2]
theorem mget_none {m : List (K × V)} {k : K} : mget m k = none ↔ k ∉ mkeys m := by
  induction m with
  | nil => simp [mget, mkeys]
  | cons p m ih =>
    obtain ⟨a, u⟩ := p
    simp only [mget, mkeys, List.map_cons, List.mem_cons] at ih ⊢
    by_cases h : a = k
    · subst h; simp
    · simp [h, ih, mkeys, Ne.symm h, eq_comm]
theorem mhas_iff {m : List (K × V)} {k : K} : mhas m k = true ↔ k ∈ mkeys m := by
  unfold mhas
  rw [Option.isSome_iff_ne_none, ne_eq, mget_none, Decidable.not_not]
theorem mkeys_set (m : List (K × V)) (k : K) (v : V) : mkeys (mset m k v) = if k ∈ mkeys m then mkeys m else mkeys m ++ [k] := by
  induction m with
  | nil => simp [mset, mkeys]
  | cons p m ih =>
    obtain ⟨a, u⟩ := p
    simp only [mset]
    by_cases h : a = k
    · subst h; simp [mkeys]
    · rw [if_neg h]
      simp only [mkeys, List.map_cons, List.mem_cons] at ih ⊢
      rw [ih]
      by_cases h2 : k ∈ List.map (·.1) m
      · simp [h2]
      · simp [h2, Ne.symm h]
theorem mset_nodup {m : List (K × V)} (h : (mkeys m).Nodup) (k : K) (v : V) : (mkeys (mset m k v)).Nodup := by
  rw [mkeys_set]
  split
  · exact h
  · rename_i hn
    exact List.nodup_append.2 ⟨h, by simp, fun a ha b hb => by simp at hb; subst hb; exact fun e => hn (e ▸ ha)⟩
theorem mset_len (m : List (K × V)) (k : K) (v : V) : (mset m k v).length ≤ m.length + 1 := by
  have := congrArg List.length (mkeys_set m k v)
  by_cases h : k ∈ mkeys m
  · rw [if_pos h] at this; simp only [mkeys, List.length_map] at this; omega
  · rw [if_neg h] at this; simp only [mkeys, List.length_map, List.length_append, List.length_singleton] at this; omega
theorem mkeys_del {m : List (K × V)} (k : K) : mkeys (mdel m k) = (mkeys m).erase k := by
  induction m with
  | nil => simp [mdel, mkeys]
  | cons p m ih =>
    obtain ⟨a, u⟩ := p
    simp only [mdel]
    by_cases h : a = k
    · subst h; simp [mkeys]
    · rw [if_neg h]
      simp only [mkeys, List.map_cons] at ih ⊢
      rw [ih, List.erase_cons_tail (by simpa using h)]
theorem mdel_nodup {m : List (K × V)} (h : (mkeys m).Nodup) (k : K) : (mkeys (mdel m k)).Nodup := by rw [mkeys_del]; exact h.erase k
theorem mget_del {m : List (K × V)} (h : (mkeys m).Nodup) (k k' : K) : mget (mdel m k) k' = if k = k' then none else mget m k' := by
  induction m with
  | nil => simp [mdel, mget]
  | cons p m ih =>
    obtain ⟨a, u⟩ := p
    have h1 := List.nodup_cons.1 h
    simp only [mdel]
    by_cases e : a = k
    · subst e
      rw [if_pos rfl]
      by_cases e2 : a = k'
      · subst e2; rw [if_pos rfl, mget_none]; exact h1.1
      · simp [mget, e2]
    · rw [if_neg e]
      simp only [mget, ih h1.2]
      by_cases e2 : a = k'
      · subst e2; simp [Ne.symm e]
      · simp [e2]
theorem mget_some {m : List (K × V)} {k : K} {v : V} (h : mget m k = some v) : (k, v) ∈ m := by
  induction m with
  | nil => cases h
  | cons p m ih =>
    obtain ⟨a, u⟩ := p
    simp only [mget] at h
    split at h
    · rename_i e; subst e; cases h; exact List.mem_cons_self
    · exact List.mem_cons_of_mem _ (ih h)
theorem mget_of_mem {m : List (K × V)} (hn : (mkeys m).Nodup) {k : K} {v : V} (h : (k, v) ∈ m) : mget m k = some v := by
  induction m with
  | nil => cases h
  | cons p m ih =>
    obtain ⟨a, u⟩ := p
    have h1 := List.nodup_cons.1 hn
    simp only [mget]
    rcases List.mem_cons.1 h with e | e
    · cases e; rw [if_pos rfl]
    · rw [if_neg (fun e2 => h1.1 (by show a ∈ _; rw [e2]; exact List.mem_map.2 ⟨_, e, rfl⟩))]
      exact ih h1.2 e
theorem mset_at : ∀ (m : List (K × V)) (j : Nat) (k : K) (u v : V), (mkeys m).Nodup → m[j]? = some (k, u) → mset m k v = m.set j (k, v)
  | [], j, _, _, _, _, h => by simp at h
  | (a, w) :: m, 0, k, u, v, _, h => by simp at h; obtain ⟨rfl, rfl⟩ := h; simp [mset]
  | (a, w) :: m, j + 1, k, u, v, hn, h => by
    have h1 := List.nodup_cons.1 hn
    have hm : (k, u) ∈ m := List.mem_of_getElem? (by simpa using h)
    have : a ≠ k := fun e => h1.1 (e ▸ List.mem_map.2 ⟨_, hm, rfl⟩)
    simp only [mset, if_neg this, List.set_cons_succ]
    rw [mset_at m j k u v h1.2 (by simpa using h)]
theorem mset_new : ∀ (m : List (K × V)) (k : K) (v : V), k ∉ mkeys m → mset m k v = m ++ [(k, v)]
  | [], _, _, _ => rfl
  | (a, w) :: m, k, v, h => by
    simp only [mkeys, List.map_cons, List.mem_cons, not_or] at h
    simp only [mset, if_neg (Ne.symm h.1), List.cons_append]
    rw [mset_new m k v h.2]
theorem mdel_at : ∀ (m : List (K × V)) (j : Nat) (k : K) (u : V), (mkeys m).Nodup → m[j]? = some (k, u) → mdel m k = m.eraseIdx j
  | [], j, _, _, _, h => by simp at h
  | (a, w) :: m, 0, k, u, _, h => by simp at h; obtain ⟨rfl, rfl⟩ := h; simp [mdel]
  | (a, w) :: m, j + 1, k, u, hn, h => by
    have h1 := List.nodup_cons.1 hn
    have hm : (k, u) ∈ m := List.mem_of_getElem? (by simpa using h)
    have : a ≠ k := fun e => h1.1 (e ▸ List.mem_map.2 ⟨_, hm, rfl⟩)
    simp only [mdel, if_neg this, List.eraseIdx_cons_succ]
    rw [mdel_at m j k u h1.2 (by simpa using h)]
theorem mdel_no : ∀ (m : List (K × V)) (k : K), k ∉ mkeys m → mdel m k = m
  | [], _, _ => rfl
  | (a, w) :: m, k, h => by
    simp only [mkeys, List.map_cons, List.mem_cons, not_or] at h
    simp only [mdel, if_neg (Ne.symm h.1)]
    rw [mdel_no m k h.2]
end

/-! ### Maps in memory -/
/-- block b holds a map with these entries, in the order in which they came -/
def mapIn (b : Nat) (kvs : List (Value × Value)) (h : Hp) : Prop :=
  ∃ es clock, h b = some (.map es clock) ∧ Stamped es clock ∧ es.toList.map (fun e => (e.key, e.val)) = kvs
def MP {K V : Type} (ek : K → Value) (ev : V → Value) (b : Nat) (m : List (K × V)) : Asn := .raw (mapIn b (m.map fun p => (ek p.1, ev p.2)))
/-- keys of type kt, that are ints or strings or bools -/
structure MKey (P : Program) (kt : TypeId) {K : Type} (ek : K → Value) : Prop where
  ex : ∃ d, P.underlying kt = some d ∧ ∀ k, IsKey d (ek k)
  inj : ∀ a b, ek a = ek b → a = b
theorem mkey_int {P : Program} {kt : TypeId} {q : IntKind} (h : P.underlying kt = some (.int q)) : MKey P kt (Value.int q) := ⟨⟨_, h, fun _ => rfl⟩, fun a b e => by cases e; rfl⟩
theorem mkey_str {P : Program} {kt : TypeId} (h : P.underlying kt = some .string) : MKey P kt strB := ⟨⟨_, h, fun _ => trivial⟩, fun a b e => by simpa [strB] using e⟩
def aggV {α : Type} (en : α → List Value) (x : α) : Value := .agg (en x).toArray

section
variable {P : Program} {E : World} {ρ : Hp} {n : Fz} {σ : Slots} {Γ Γ' : List Asn} {ty : TypeId} {x y z : Operand} {v u : Value} {T kt et : TypeId}
variable {K V : Type} [DecidableEq K] {ek : K → Value} {ev : V → Value} {b : Nat} {m : List (K × V)} {k : K}

/-- what a search finds -/
theorem find_at (hk : MKey P kt ek) {es : Array MapEntry} {clock : Nat} (hs : Stamped es clock) (he : es.toList.map (fun e => (e.key, e.val)) = m.map fun p => (ek p.1, ev p.2)) (k : K) :
    ∃ d, P.underlying kt = some d ∧ IsKey d (ek k) ∧ (mkeys m).Nodup ∧ (∀ x ∈ es.toList, IsKey d x.key) ∧
      ((k ∉ mkeys m ∧ Instr.findNow d (ek k) es.toList 0 = some none ∧ ∀ x ∈ es.toList, x.key ≠ ek k) ∨
       ∃ j v e, m[j]? = some (k, v) ∧ mget m k = some v ∧ Instr.findNow d (ek k) es.toList 0 = some (some (j, ev v)) ∧ es[j]? = some e ∧ e.key = ek k ∧ e.val = ev v) := by
  obtain ⟨⟨d, hd, hik⟩, inj⟩ := hk
  have hkeys : es.toList.map (·.key) = (mkeys m).map ek := by
    have := congrArg (List.map (·.1)) he
    simpa [mkeys, Function.comp_def] using this
  have hnd : (mkeys m).Nodup := by
    have h3 := hs.2.2
    rw [hkeys] at h3
    exact List.Pairwise.of_map ek (fun a b h e => h (by rw [e])) h3
  have hall : ∀ x ∈ es.toList, IsKey d x.key := fun x hx => by
    have : x.key ∈ es.toList.map (·.key) := List.mem_map.2 ⟨x, hx, rfl⟩
    rw [hkeys] at this
    obtain ⟨a, _, e⟩ := List.mem_map.1 this
    rw [← e]; exact hik a
  refine ⟨d, hd, hik k, hnd, hall, ?_⟩
  rcases findNow_spec (hik k) es.toList 0 hall with ⟨h1, h2⟩ | ⟨j, e, h1, h2, h3⟩
  · refine .inl ⟨fun hm => ?_, h1, h2⟩
    have : ek k ∈ es.toList.map (·.key) := by rw [hkeys]; exact List.mem_map.2 ⟨k, hm, rfl⟩
    obtain ⟨x, hx, e⟩ := List.mem_map.1 this
    exact h2 x hx e
  · right
    have hj := congrArg (fun l => l[j]?) he
    simp only [List.getElem?_map, h2, Option.map_some] at hj
    cases hm : m[j]? with
    | none => rw [hm] at hj; cases hj
    | some p =>
      rw [hm] at hj
      simp only [Option.map_some, Option.some.injEq, Prod.mk.injEq] at hj
      have e1 : p.1 = k := inj _ _ (by rw [← hj.1, h3])
      obtain ⟨a, v⟩ := p
      simp only at e1 hj
      subst e1
      refine ⟨j, v, e, hm, mget_of_mem hnd (List.mem_of_getElem? hm), by rw [h1, hj.2]; simp, by simpa using h2, h3, hj.2⟩
theorem mp_at (p : Pick (MP ek ev b m) [MP ek ev b m] Γ Γ) {w : World} (s : sat E ρ Γ w) : ∃ es clock, w.heap[b]? = some (.map es clock) ∧ Stamped es clock ∧ es.toList.map (fun e => (e.key, e.val)) = m.map fun p => (ek p.1, ev p.2) := by
  obtain ⟨h1, _, _, l1, _, ⟨es, clock, hb, hs, he⟩, _⟩ := s.pick p
  exact ⟨es, clock, l1.at_ _ _ hb, hs, he⟩
def zeroIs (P : Program) (t : TypeId) (v : Value) : Prop := (P.info? t).bind (·.zero) = some v
theorem run_zeroIs {v : Value} (h : zeroIs P et v) (w : World) : (zeroValue et).run P w = .ok v w := by
  unfold zeroIs at h
  unfold zeroValue typeInfo
  cases hi : P.info? et with
  | none => rw [hi] at h; cases h
  | some i => rw [hi] at h; simp at h; simp [hi, h]
theorem run_lookup_mp (hT : P.underlying T = some (.map kt et)) (hk : MKey P kt ek) {zv : V} (hz : zeroIs P et (ev zv)) (c : Bool) {w : World} {es : Array MapEntry} {clock : Nat} (hb : w.heap[b]? = some (.map es clock)) (hs : Stamped es clock) (he : es.toList.map (fun e => (e.key, e.val)) = m.map fun p => (ek p.1, ev p.2)) :
    (Instr.lookup T (.map (some b)) (ek k) c).run P w = .ok (if c then .tuple #[ev (mgetD m k zv), .bool (mhas m k)] else ev (mgetD m k zv)) w := by
  obtain ⟨d, hd, hik, hnd, hall, h⟩ := find_at hk hs he k
  rcases h with ⟨hn, h1, _⟩ | ⟨j, v, e, hm, hg, h1, _⟩
  · have hg := mget_none.2 hn
    simp [Instr.lookup, run_underlying hT, Go.MapKept.run_getObj_map hb, Go.MapKept.run_checkKey hd hik, Go.MapKept.run_findKey hd h1, run_zeroIs hz, mgetD, mhas, hg]
  · simp [Instr.lookup, run_underlying hT, Go.MapKept.run_getObj_map hb, Go.MapKept.run_checkKey hd hik, Go.MapKept.run_findKey hd h1, mgetD, mhas, hg]
theorem q_look {zv : V} (hT : P.underlying T = some (.map kt et)) (hk : MKey P kt ek) (hz : zeroIs P et (ev zv)) (hx : evo σ x = some (.map (some b))) (hy : evo σ y = some (ek k)) (p : Pick (MP ek ev b m) [MP ek ev b m] Γ Γ) (hv : ev (mgetD m k zv) = v) :
    OpQ P E ρ n σ Γ (.lookup T x y false) ty v := fun a w e s => by
  obtain ⟨es, clock, hb, hs, he⟩ := mp_at p s
  have := run_lookup_mp (k := k) hT hk hz false hb hs he
  simp [exo, execOp, e.eval hx, e.eval hy, this, hv]
theorem q_look2 {zv : V} (hT : P.underlying T = some (.map kt et)) (hk : MKey P kt ek) (hz : zeroIs P et (ev zv)) (hx : evo σ x = some (.map (some b))) (hy : evo σ y = some (ek k)) (p : Pick (MP ek ev b m) [MP ek ev b m] Γ Γ) (hv : ev (mgetD m k zv) = v) :
    OpQ P E ρ n σ Γ (.lookup T x y true) ty (.tuple #[v, .bool (mhas m k)]) := fun a w e s => by
  obtain ⟨es, clock, hb, hs, he⟩ := mp_at p s
  have := run_lookup_mp (k := k) hT hk hz true hb hs he
  simp [exo, execOp, e.eval hx, e.eval hy, this, hv]
theorem q_lenm (hT : P.underlying T = some (.map kt et)) (hx : evo σ x = some (.map (some b))) (p : Pick (MP ek ev b m) [MP ek ev b m] Γ Γ) : OpQ P E ρ n σ Γ (.call { callee := .builtin .len, args := #[x], argTypes := #[T] }) ty (.int .i64 (m.length : Int)) := fun a w e s => by
  obtain ⟨es, clock, hb, hs, he⟩ := mp_at p s
  have hl : es.size = m.length := by simpa using congrArg List.length he
  simp [exo, execOp, resolve, invoke, builtin, Builtin.len_, e.eval hx, underlying, hT, Go.MapKept.run_getObj_map hb, goInt, hl]
theorem sat.putm {A : Asn} {Γ Γ' : List Asn} {kvs kvs' : List (Value × Value)} {es : Array MapEntry} {clock : Nat} {w : World} (p : Pick (.raw (mapIn b kvs)) [.raw (mapIn b kvs')] Γ Γ') (s : sat E ρ Γ w) (h1 : Stamped es clock) (h2 : es.toList.map (fun e => (e.key, e.val)) = kvs') : sat E ρ Γ' { w with heap := w.heap.setIfInBounds b (.map es clock) } := by
  obtain ⟨h1', hr, d, l1, lr, ⟨es0, clock0, hb, _, _⟩, Kk⟩ := s.pick p
  have e0 := l1.at_ _ _ hb
  refine Kk (setBlk w b (.map es clock)) (Hp.one b (.map es clock)) ⟨rfl, rfl, rfl⟩ ⟨_, Hp.none_, (Hp.none_disj _).disj_symm, Hp.le_refl _, Hp.none_le _, ⟨es, clock, Hp.one_at _ _, h1, h2⟩, trivial⟩ (Hp.one_disj (d.out hb)) (Hp.one_le (hp_setBlk e0)) ⟨fun q o hq => ?_⟩
  have hne : q ≠ b := fun e' => by subst e'; rw [d.out hb] at hq; cases hq
  rw [hp_setBlk_ne hne]
  exact lr.at_ _ _ hq
theorem s_mset {v : V} {m' : List (K × V)} {vv : Value} (hT : P.underlying T = some (.map kt et)) (hk : MKey P kt ek) (hx : evo σ x = some (.map (some b))) (hy : evo σ y = some (ek k)) (hz : evo σ z = some vv) (hv : ev v = vv) (hm' : mset m k v = m') (p : Pick (MP ek ev b m) [MP ek ev b m'] Γ Γ') :
    OpS P E ρ n σ Γ (.mapUpdate T x y z) ty (fun v Γ2 => v = undef ∧ Γ2 = Γ') := fun a w e s => by
  subst hv; subst hm'
  obtain ⟨h1, _, _, l1, _, ⟨es, clock, hb0, hs, he⟩, _⟩ := s.pick p
  have hb : w.heap[b]? = some (.map es clock) := l1.at_ _ _ hb0
  obtain ⟨d, hd, hik, hnd, hall, h⟩ := find_at hk hs he k
  rcases h with ⟨hn, h1, h2⟩ | ⟨j, u, en, hm, hg, h1, hj, h3, h4⟩
  · refine ⟨.skip, _, undef, Γ', .inr ⟨rfl, rfl⟩, ⟨rfl, rfl⟩, ?_, sat.putm (es := es.push ⟨ek k, ev v, clock⟩) (clock := clock + 1) (A := MP ek ev b m) p s (stamped_push hs h2) ?_⟩
    · simp [exo, execOp, e.eval hx, e.eval hy, e.eval hz, Instr.mapUpdate, run_underlying hT, Go.MapKept.run_getObj_map hb, Go.MapKept.run_checkKey hd hik, Go.MapKept.run_findKey hd h1, Go.MapKept.run_setObj_map _ hb]
    · rw [mset_new m k v hn]; simp [he]
  · have hkey : ∀ e', es[j]? = some e' → ({ e' with key := ek k, val := ev v } : MapEntry).key = e'.key := fun e' he' => by rw [hj] at he'; cases he'; exact h3.symm
    refine ⟨.skip, _, undef, Γ', .inr ⟨rfl, rfl⟩, ⟨rfl, rfl⟩, ?_, sat.putm (es := es.modify j fun e => { e with key := ek k, val := ev v }) (clock := clock) (A := MP ek ev b m) p s (stamped_modify hs _ _ (fun _ _ => rfl) (fun e' _ he' => hkey e' he')) ?_⟩
    · simp [exo, execOp, e.eval hx, e.eval hy, e.eval hz, Instr.mapUpdate, run_underlying hT, Go.MapKept.run_getObj_map hb, Go.MapKept.run_checkKey hd hik, Go.MapKept.run_findKey hd h1, hj, h3, run_keyThatStays hik, Go.MapKept.run_setObj_map _ hb]
    · rw [mset_at m j k u v hnd hm]
      apply List.ext_getElem?
      intro i
      have hi := congrArg (fun l => l[i]?) he
      simp only [List.getElem?_map] at hi
      simp only [List.getElem?_map, Array.getElem?_toList, Array.getElem?_modify, List.getElem?_set]
      by_cases hij : j = i
      · subst hij
        have hlt : j < m.length := (List.getElem?_eq_some_iff.1 hm).1
        simp [hj, hlt]
      · simp only [if_neg hij]
        simpa using hi
theorem erase_map {α β : Type} (f : α → β) : ∀ (l : List α) (j : Nat), (l.eraseIdx j).map f = (l.map f).eraseIdx j
  | [], _ => rfl
  | _ :: _, 0 => rfl
  | x :: l, j + 1 => by simp [erase_map f l j]
theorem s_mdel {kt2 : TypeId} {m' : List (K × V)} (hT : P.underlying T = some (.map kt et)) (hk : MKey P kt ek) (hx : evo σ x = some (.map (some b))) (hy : evo σ y = some (ek k)) (hm' : mdel m k = m') (p : Pick (MP ek ev b m) [MP ek ev b m'] Γ Γ') :
    OpS P E ρ n σ Γ (.call { callee := .builtin .delete, args := #[x, y], argTypes := #[T, kt2] }) ty (fun v Γ2 => v = .tuple #[] ∧ Γ2 = Γ') := fun a w e s => by
  subst hm'
  obtain ⟨h1, _, _, l1, _, ⟨es, clock, hb0, hs, he⟩, _⟩ := s.pick p
  have hb : w.heap[b]? = some (.map es clock) := l1.at_ _ _ hb0
  obtain ⟨d, hd, hik, hnd, hall, h⟩ := find_at hk hs he k
  rcases h with ⟨hn, h1, h2⟩ | ⟨j, u, en, hm, hg, h1, hj, h3, h4⟩
  · refine ⟨.value (.tuple #[]), _, .tuple #[], Γ', .inl rfl, ⟨rfl, rfl⟩, ?_, sat.putm (es := es) (clock := clock) (A := MP ek ev b m) p s hs (by rw [mdel_no m k hn]; exact he)⟩
    simp [exo, execOp, resolve, invoke, builtin, e.eval hx, e.eval hy, Builtin.delete_, run_underlying hT, Go.MapKept.run_getObj_map hb, Go.MapKept.run_checkKey hd hik, Go.MapKept.run_findKey hd h1, Go.MapKept.run_setObj_map _ hb]
  · refine ⟨.value (.tuple #[]), _, .tuple #[], Γ', .inl rfl, ⟨rfl, rfl⟩, ?_, sat.putm (es := es.eraseIdxIfInBounds j) (clock := clock) (A := MP ek ev b m) p s (stamped_erase hs _) ?_⟩
    · simp [exo, execOp, resolve, invoke, builtin, e.eval hx, e.eval hy, Builtin.delete_, run_underlying hT, Go.MapKept.run_getObj_map hb, Go.MapKept.run_checkKey hd hik, Go.MapKept.run_findKey hd h1, Go.MapKept.run_setObj_map _ hb]
    · rw [mdel_at m j k u hnd hm]
      have hlt : j < es.size := (Array.getElem?_eq_some_iff.1 hj).1
      unfold Array.eraseIdxIfInBounds
      rw [dif_pos hlt, Array.toList_eraseIdx, erase_map, he, erase_map]
theorem s_makeMap : OpS P E ρ n σ Γ (.makeMap T none) ty (fun v Γ' => ∃ b, v = .map (some b) ∧ Γ' = MP ek ev b ([] : List (K × V)) :: Γ) := fun ac w e s => by
  refine ⟨_, _, _, _, .inl rfl, ⟨w.heap.size, rfl, rfl⟩, ?_, s.alloc (MP ek ev w.heap.size []) (.map #[] 0) ⟨#[], 0, Hp.one_at _ _, stamped_empty 0, rfl⟩⟩
  simp [exo, execOp, Instr.makeMap]
end
theorem mp_nodup {K V : Type} [DecidableEq K] {P : Program} {kt : TypeId} {ek : K → Value} {ev : V → Value} {b : Nat} {m : List (K × V)} {h : Hp} (hk : MKey P kt ek) (hA : (MP ek ev b m).sat h) : (mkeys m).Nodup := by
  obtain ⟨es, clock, _, hs, he⟩ := hA
  have hkeys : es.toList.map (·.key) = (mkeys m).map ek := by
    have := congrArg (List.map (·.1)) he
    simpa [mkeys, Function.comp_def] using this
  have h3 := hs.2.2
  rw [hkeys] at h3
  exact List.Pairwise.of_map ek (fun a b h e => h (by rw [e])) h3
end Go.SL
