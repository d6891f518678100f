/-
  The engine, part T: an entry's place in a map, and the store to it (m[k], l[j] = x, y). Own work.
-/
import Derived.Test.YtehaoafnobnneaaGreatDoorSlQ
import Derived.Test.YtehaoafnobnneaaGreatDoorSlM
set_option linter.unusedVariables false
set_option linter.unusedSimpArgs false
set_option linter.unusedSectionVars false
namespace Go.SL
open Go Go.MapKept
def mapInB (b : Nat) (kvs : List (Value × Value)) (key : Value) (st : Int) (h : Hp) : Prop :=
  ∃ es clock, h b = some (.map es clock) ∧ Stamped es clock ∧ es.toList.map (fun e => (e.key, e.val)) = kvs ∧ ∃ (j : Nat) (e : MapEntry), es[j]? = some e ∧ e.key = key ∧ (e.born : Int) = st
/-- a map, of which key k's entry is born at st -/
def MPB {K V : Type} (ek : K → Value) (ev : V → Value) (b : Nat) (m : List (K × V)) (k : K) (st : Int) : Asn := .raw (mapInB b (m.map fun p => (ek p.1, ev p.2)) (ek k) st)
section
variable {P : Program} {E : World} {ρ : Hp} {n : Fz} {σ : Slots} {Γ Γ' : List Asn} {ty : TypeId} {x y z : Operand} {v u : Value} {T kt et : TypeId}
variable {K V : Type} [DecidableEq K] {ek : K → Value} {ev : V → Value} {b : Nat} {m : List (K × V)} {k : K}
theorem mset_two : ∀ (m : List (K × V)) (k : K) (u v : V), mset (mset m k u) k v = mset m k v
  | [], k, u, v => by simp [mset]
  | (a, w) :: m, k, u, v => by
    by_cases h : a = k
    · simp [mset, h]
    · simp [mset, h, mset_two m k u v]
theorem sat.putr {A B : Asn} (p : Pick A [B] Γ Γ') {w : World} (s : sat E ρ Γ w) {o : Obj} (hA : ∀ h, A.sat h → ∃ o, h b = some o) (hB : B.sat (Hp.one b o)) : sat E ρ Γ' { w with heap := w.heap.setIfInBounds b o } := by
  obtain ⟨h1', hr, d, l1, lr, a, Kk⟩ := s.pick p
  obtain ⟨o0, hb⟩ := hA _ a
  have e0 := l1.at_ _ _ hb
  refine Kk (setBlk w b o) (Hp.one b o) ⟨rfl, rfl, rfl⟩ ⟨_, Hp.none_, (Hp.none_disj _).disj_symm, Hp.le_refl _, Hp.none_le _, hB, trivial⟩ (Hp.one_disj (d.out hb)) (Hp.one_le (hp_setBlk e0)) ⟨fun q o hq => ?_⟩
  have hne : q ≠ b := fun e' => by subst e'; rw [d.out hb] at hq; cases hq
  rw [hp_setBlk_ne hne]
  exact lr.at_ _ _ hq
theorem modify_map (es : Array MapEntry) (j : Nat) (f : MapEntry → MapEntry) (kv : Value × Value) (hf : ∀ e, es[j]? = some e → ((f e).key, (f e).val) = kv) :
    (es.modify j f).toList.map (fun e => (e.key, e.val)) = (es.toList.map fun e => (e.key, e.val)).set j kv := by
  apply List.ext_getElem?
  intro i
  simp only [List.getElem?_map, Array.getElem?_toList, Array.getElem?_modify, List.getElem?_set, List.length_map, Array.length_toList]
  by_cases hij : j = i
  · subst hij
    by_cases hlt : j < es.size
    · have h2 : es[j]? = some es[j] := Array.getElem?_eq_getElem hlt
      rw [if_pos rfl, if_pos rfl, if_pos hlt, h2]
      simp only [Option.map_some]
      rw [hf _ h2]
    · rw [if_pos rfl, if_pos rfl, if_neg hlt, Array.getElem?_eq_none (by omega)]
      rfl
  · simp only [if_neg hij]
theorem s_mapEntry {zv : V} {m' : List (K × V)} {Γs : Int → List Asn} (hT : P.underlying T = some (.map kt et)) (hk : MKey P kt ek) (hz : zeroIs P et (ev zv)) (hx : evo σ x = some (.map (some b))) (hy : evo σ y = some (ek k)) (hm' : mset m k (mgetD m k zv) = m') (p : ∀ st, Pick (MP ek ev b m) [MPB ek ev b m' k st] Γ (Γs st)) :
    OpS P E ρ n σ Γ (.mapEntry T x y) ty (fun v Γ2 => ∃ st, v = .tuple #[ev (mgetD m k zv), .int .i64 st] ∧ Γ2 = Γs st) := fun a w e s => by
  subst hm'
  obtain ⟨h1, _, _, l1, _, ⟨es, clock, hb0, hs, he⟩, _⟩ := s.pick (p 0)
  have hb : w.heap[b]? = some (.map es clock) := l1.at_ _ _ hb0
  have hA : ∀ h, (MP ek ev b m).sat h → ∃ o, h b = some o := fun h ⟨_, _, q, _⟩ => ⟨_, q⟩
  obtain ⟨d, hd, hik, hnd, hall, h⟩ := find_at hk hs he k
  rcases h with ⟨hn, h1, h2⟩ | ⟨j, u, en, hm, hg, h1, hj, h3, h4⟩
  · have hg := mget_none.2 hn
    have hv : mgetD m k zv = zv := by simp [mgetD, hg]
    rw [hv]
    refine ⟨.value (.tuple #[ev zv, .int .i64 clock]), _, _, _, .inl rfl, ⟨(clock : Int), rfl, rfl⟩, ?_, sat.putr (o := .map (es.push ⟨ek k, ev zv, clock⟩) (clock + 1)) (p clock) s hA ⟨_, _, Hp.one_at _ _, stamped_push hs h2, ?_, es.size, ⟨ek k, ev zv, clock⟩, by simp, rfl, rfl⟩⟩
    · simp [exo, execOp, e.eval hx, e.eval hy, Instr.mapEntry, run_underlying hT, Go.MapKept.run_getObj_map hb, Go.MapKept.run_checkKey hd hik, Go.MapKept.run_findKey hd h1, run_zeroIs hz, Go.MapKept.run_setObj_map _ hb, goInt]
    · rw [hv, mset_new m k zv hn]; simp [he]
  · have hv : mgetD m k zv = u := by simp [mgetD, hg]
    rw [hv]
    have hkey : ∀ e', es[j]? = some e' → ({ e' with key := ek k } : MapEntry).key = e'.key := fun e' he' => by rw [hj] at he'; cases he'; exact h3.symm
    refine ⟨.value (.tuple #[ev u, .int .i64 en.born]), _, _, _, .inl rfl, ⟨(en.born : Int), rfl, rfl⟩, ?_, sat.putr (o := .map (es.modify j fun e => { e with key := ek k }) clock) (p en.born) s hA ⟨_, _, Hp.one_at _ _, stamped_modify hs _ _ (fun _ _ => rfl) (fun e' _ he' => hkey e' he'), ?_, j, { en with key := ek k }, by simp [Array.getElem?_modify, hj], rfl, rfl⟩⟩
    · simp [exo, execOp, e.eval hx, e.eval hy, Instr.mapEntry, run_underlying hT, Go.MapKept.run_getObj_map hb, Go.MapKept.run_checkKey hd hik, Go.MapKept.run_findKey hd h1, hj, h3, run_keyThatStays hik, Go.MapKept.run_setObj_map _ hb, goInt]
    · rw [hv, mset_at m j k u u hnd hm, modify_map es j _ (ek k, ev u) (fun e' he' => by rw [hj] at he'; cases he'; simp [h4]), he]
      apply List.ext_getElem?
      intro i
      simp only [List.getElem?_map, List.getElem?_set, List.length_map]
      by_cases hij : j = i
      · subst hij; have hlt : j < m.length := (List.getElem?_eq_some_iff.1 hm).1; simp [hlt]
      · simp only [if_neg hij]
theorem s_entryStore {st : Int} {v : V} {m' : List (K × V)} {vv : Value} (hk : MKey P kt ek) (hx : evo σ x = some (.map (some b))) (hy : evo σ y = some (.int .i64 st)) (hz : evo σ z = some vv) (hv : ev v = vv) (hm' : mset m k v = m') (p : Pick (MPB ek ev b m k st) [MP ek ev b m'] Γ Γ') :
    OpS P E ρ n σ Γ (.entryStore T x y z) ty (fun v Γ2 => v = undef ∧ Γ2 = Γ') := fun a w e s => by
  subst hv; subst hm'
  obtain ⟨h1, _, _, l1, _, ⟨es, clock, hb0, hs, he, j0, en0, hj0, hk0, hst⟩, _⟩ := s.pick p
  have hb : w.heap[b]? = some (.map es clock) := l1.at_ _ _ hb0
  have hA : ∀ h, (MPB ek ev b m k st).sat h → ∃ o, h b = some o := fun h ⟨_, _, q, _⟩ => ⟨_, q⟩
  obtain ⟨d, hd, hik, hnd, hall, h⟩ := find_at hk hs he k
  rcases h with ⟨hn, h1, h2⟩ | ⟨j, u, en, hm, hg, h1, hj, h3, h4⟩
  · exact absurd hk0 (h2 en0 (by have := Array.mem_toList_iff.2 (Array.mem_of_getElem? hj0); exact this))
  · have hfi : es.findIdx? (fun e => (e.born : Int) == st) = some j := by
      have hjj : j0 = j := by
        have h5 : (es.toList.map (·.key))[j0]? = some (ek k) := by simp [hj0, hk0]
        have h6 : (es.toList.map (·.key))[j]? = some (ek k) := by simp [hj, h3]
        have hl : j0 < (es.toList.map (·.key)).length := (List.getElem?_eq_some_iff.1 h5).1
        exact (List.getElem?_inj hl hs.2.2).1 (h5.trans h6.symm)
      subst hjj
      rw [hj0] at hj
      cases hj
      cases hf : es.findIdx? (fun e => (e.born : Int) == st) with
      | none =>
        rw [Array.findIdx?_eq_none_iff] at hf
        have := hf en0 (Array.mem_of_getElem? hj0)
        simp [hst] at this
      | some i =>
        rw [Array.findIdx?_eq_some_iff_getElem] at hf
        obtain ⟨hi, hp, _⟩ := hf
        have hbi : es[i].born = en0.born := by
          have : (es[i].born : Int) = st := by simpa using hp
          omega
        have h5 : (es.toList.map (·.born))[j0]? = some en0.born := by simp [hj0]
        have h6 : (es.toList.map (·.born))[i]? = some en0.born := by simp [hi, hbi]
        have hl : i < (es.toList.map (·.born)).length := by simpa using hi
        rw [(List.getElem?_inj hl hs.2.1).1 (h6.trans h5.symm)]
    refine ⟨.skip, _, undef, Γ', .inr ⟨rfl, rfl⟩, ⟨rfl, rfl⟩, ?_, sat.putr (o := .map (es.modify j fun e => { e with val := ev v }) clock) p s hA ⟨_, _, Hp.one_at _ _, stamped_modify hs _ _ (fun _ _ => rfl) (fun _ _ _ => rfl), ?_⟩⟩
    · simp [exo, execOp, e.eval hx, e.eval hy, e.eval hz, Instr.entryStore, Go.MapKept.run_getObj_map hb, asInt, asIntOf, hfi, Go.MapKept.run_setObj_map _ hb]
    · rw [mset_at m j k u v hnd hm, modify_map es j _ (ek k, ev v) (fun e' he' => by rw [hj] at he'; cases he'; simp [h3]), he]
      apply List.ext_getElem?
      intro i
      simp only [List.getElem?_map, List.getElem?_set, List.length_map]
      by_cases hij : j = i
      · subst hij; have hlt : j < m.length := (List.getElem?_eq_some_iff.1 hm).1; simp [hlt]
      · simp only [if_neg hij]
end
/-! ### pointers that may be nil -/
section
variable {P : Program} {E : World} {ρ : Hp} {n : Fz} {σ : Slots} {Γ : List Asn} {ty T T' : TypeId} {x y : Operand}
theorem q_eqlo {e : Option Nat} {el : TypeId} (hx : evo σ x = some (ptV e)) (hy : evo σ y = some (.pointer none)) (hT : P.underlying T = some (.pointer el)) : OpQ P E ρ n σ Γ (.binOp .eql T x y T') ty (.bool e.isNone) := by
  cases e with
  | none => exact q_eqlp0 hx hy hT
  | some b => exact q_eqlp hx hy hT
theorem q_neqo {e : Option Nat} {el : TypeId} (hx : evo σ x = some (ptV e)) (hy : evo σ y = some (.pointer none)) (hT : P.underlying T = some (.pointer el)) : OpQ P E ρ n σ Γ (.binOp .neq T x y T') ty (.bool e.isSome) := by
  cases e with
  | none => exact q_neqp0 hx hy hT
  | some b => exact q_neqp hx hy hT
end
theorem opt_none {e : Option Nat} (h : e.isNone = true) : e = none := by cases e with
  | none => rfl
  | some _ => cases h
theorem opt_some {e : Option Nat} (h : e.isNone = false) : ¬ e = none := fun q => by subst q; cases h
theorem iso_none {e : Option Nat} (h : e.isSome = false) : e = none := by cases e with
  | none => rfl
  | some _ => cases h
theorem iso_some {e : Option Nat} (h : e.isSome = true) : ¬ e = none := fun q => by subst q; cases h
end Go.SL
