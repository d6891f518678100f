/-
  The engine, part W: maps gone through (for k, v := range m), calls of function values that are known. Own work.
-/
import Derived.Test.YtehaoafnobnneaaGreatDoorSlV
import Derived.Test.YtehaoafnobnneaaGreatDoorSlQ
import Derived.Maps.RangeRun
set_option linter.unusedVariables false
set_option linter.unusedSimpArgs false
set_option linter.unusedSectionVars false
namespace Go.SL
open Go Go.MapKept Go.ChangeMaps

/-! ### Maps gone through -/
/-- block b holds a map with these entries; block r an iterator over it, to which these are left; what it gave last -/
def iterIn (b r : Nat) (kvs left : List (Value × Value)) (cur : Option (Value × Value)) (h : Hp) : Prop :=
  ∃ es clock since seen c0, h b = some (.map es clock) ∧ Stamped es clock ∧ es.toList.map (fun e => (e.key, e.val)) = kvs ∧ h r = some (.mapIter (some b) since seen c0) ∧
    (∀ x ∈ es.toList, x.born < since) ∧ since ≤ c0 ∧ since ≤ clock ∧ (leftOf es seen).toList.map (fun e => (e.key, e.val)) = left ∧
    ∀ kv, cur = some kv → ∃ e ∈ es.toList, ∃ seen0 : Array Nat, (e.key, e.val) = kv ∧ seen = seen0.push e.born ∧ c0 = clock
def MI {K V : Type} (ek : K → Value) (ev : V → Value) (b r : Nat) (m left : List (K × V)) (cur : Option (K × V)) : Asn := .raw (iterIn b r (m.map fun p => (ek p.1, ev p.2)) (left.map fun p => (ek p.1, ev p.2)) (cur.map fun p => (ek p.1, ev p.2)))
theorem left_push {es : Array MapEntry} {seen : Array Nat} {clock : Nat} (hs : Stamped es clock) {e : MapEntry} (he : e ∈ (leftOf es seen).toList) :
    ∃ j, j < (leftOf es seen).toList.length ∧ (leftOf es seen).toList[j]? = some e ∧ (leftOf es (seen.push e.born)).toList = (leftOf es seen).toList.eraseIdx j := by
  obtain ⟨j, hj, hje⟩ := List.getElem_of_mem he
  refine ⟨j, hj, by rw [List.getElem?_eq_getElem hj, hje], ?_⟩
  have e1 : (leftOf es (seen.push e.born)).toList = (leftOf es seen).toList.filter fun x => !(x.born == e.born) := by
    unfold leftOf
    rw [Array.toList_filter, Array.toList_filter, List.filter_filter]
    refine List.filter_congr fun x _ => ?_
    simp only [Array.contains_push]
    cases seen.contains x.born <;> cases x.born == e.born <;> rfl
  have hsub : (leftOf es seen).toList.Sublist es.toList := by
    unfold leftOf
    rw [Array.toList_filter]
    exact List.filter_sublist
  have hnd : ((leftOf es seen).toList.map (·.born)).Nodup := hs.2.1.sublist (hsub.map _)
  rw [e1]
  generalize (leftOf es seen).toList = l at hj hje hnd
  clear e1 hsub he
  induction l generalizing j with
  | nil => simp at hj
  | cons x l ih =>
    have hn := List.nodup_cons.1 hnd
    cases j with
    | zero =>
      simp only [List.getElem_cons_zero] at hje
      subst hje
      rw [List.filter_cons, if_neg (by simp), List.eraseIdx_cons_zero, List.filter_eq_self]
      intro y hy
      have : y.born ≠ x.born := fun q => hn.1 (List.mem_map.2 ⟨y, hy, q⟩)
      simp [this]
    | succ j =>
      have hj' : j < l.length := by simpa using hj
      have hje' : l[j] = e := by simpa using hje
      have hx : x.born ≠ e.born := fun q => hn.1 (List.mem_map.2 ⟨e, by rw [← hje']; exact List.getElem_mem hj', q.symm⟩)
      rw [List.filter_cons, if_pos (by simp [hx]), List.eraseIdx_cons_succ, ih j hj' hje' hn.2]
theorem eraseIdx_map_ {α β : Type} (f : α → β) : ∀ (l : List α) (j : Nat), (l.map f).eraseIdx j = (l.eraseIdx j).map f
  | [], _ => rfl
  | _ :: _, 0 => rfl
  | x :: l, j + 1 => by simp [eraseIdx_map_ f l j]
section
variable {P : Program} {E : World} {ρ : Hp} {n : Fz} {σ : Slots} {Γ Γ' : List Asn} {ty : TypeId} {x y z : Operand} {v u : Value} {T kt et : TypeId}
variable {K V : Type} [DecidableEq K] {ek : K → Value} {ev : V → Value} {b r : Nat} {m left : List (K × V)} {k : K}
/-- range m -/
theorem s_range {Γr : Nat → List Asn} (hT : P.underlying T = some (.map kt et)) (hx : evo σ x = some (.map (some b))) (p : ∀ r, Pick (MP ek ev b m) [MI ek ev b r m m none] Γ (Γr r)) :
    OpS P E ρ n σ Γ (.range T x) ty (fun v Γ2 => ∃ r, v = .pointer (some ⟨r, 0, none⟩) ∧ Γ2 = Γr r) := fun a w e s => by
  obtain ⟨h1, hr, d, l1, lr, ⟨es, clock, hb0, hs, he⟩, Kk⟩ := s.pick (p w.heap.size)
  have hb : w.heap[b]? = some (.map es clock) := l1.at_ _ _ hb0
  let o : Obj := .mapIter (some b) clock #[] clock
  have up : Hp.le (hp w) (hp (w.alloc o)) := ⟨fun q o' e => by
    have hlt : q < w.heap.size := (Array.getElem?_eq_some_iff.1 e).1
    show (w.heap.push o)[q]? = some o'
    rw [Array.getElem?_push, if_neg (by omega)]
    exact e⟩
  have new : hp (w.alloc o) w.heap.size = some o := by
    show (w.heap.push o)[w.heap.size]? = some o
    simp
  have out : ∀ {k : Hp}, k.le (hp w) → k w.heap.size = none := fun {k} lk => by
    cases e : k w.heap.size with
    | none => rfl
    | some o' =>
      have h1 : w.heap[w.heap.size]? = some o' := lk.at_ _ _ e
      simp at h1
  have d1 : (Hp.one w.heap.size o).disj h1 := Hp.one_disj (out l1)
  have d2 : (Hp.one w.heap.size o).disj hr := Hp.one_disj (out lr)
  refine ⟨.value (.pointer (some ⟨w.heap.size, 0, none⟩)), w.alloc o, _, Γr w.heap.size, .inl rfl, ⟨w.heap.size, rfl, rfl⟩, ?_, ?_⟩
  · simp [exo, execOp, e.eval hx, Instr.range, run_underlying hT, Go.MapKept.run_getObj_map hb, o]
  · refine Kk (w.alloc o) ((Hp.one w.heap.size o).join h1) ⟨rfl, rfl, rfl⟩ ⟨_, Hp.none_, (Hp.none_disj _).disj_symm, Hp.le_refl _, Hp.none_le _, ?_, trivial⟩ (Hp.disj_join d2.disj_symm d.disj_symm).disj_symm (Hp.join_le (Hp.one_le new) (l1.le_trans up)) (lr.le_trans up)
    refine ⟨es, clock, clock, #[], clock, (Hp.le_joinR d1).at_ _ _ hb0, hs, he, (Hp.le_joinL _ _).at_ _ _ (Hp.one_at _ _), hs.1, Nat.le_refl _, Nat.le_refl _, ?_, fun kv e => by cases e⟩
    rw [← he]
    have e1 : (leftOf es #[]).toList = es.toList := by
      unfold leftOf
      rw [Array.toList_filter, List.filter_eq_self]
      intro x _
      simp
    rw [e1]
/-- one step -/
theorem s_next {cur : Option (K × V)} {Γl : List (K × V) → Option (K × V) → List Asn} (hx : evo σ x = some (.pointer (some ⟨r, 0, none⟩))) (p : ∀ l c, Pick (MI ek ev b r m left cur) [MI ek ev b r m l c] Γ (Γl l c)) :
    OpS P E ρ n σ Γ (.next x false) ty (fun v Γ2 => (v = .tuple #[.bool false] ∧ left = [] ∧ Γ2 = Γl [] cur) ∨ ∃ j k u, left[j]? = some (k, u) ∧ v = .tuple #[.bool true, ek k, ev u] ∧ Γ2 = Γl (left.eraseIdx j) (some (k, u))) := fun a w e s => by
  obtain ⟨h0, _, _, l0, _, ⟨es, clock, since, seen, c0, hb0, hs, he, hr0, hold, hsc, hsk, hleft, _⟩, _⟩ := s.pick (p left cur)
  have hb : w.heap[b]? = some (.map es clock) := l0.at_ _ _ hb0
  have hr : w.heap[r]? = some (.mapIter (some b) since seen c0) := l0.at_ _ _ hr0
  have hne : r ≠ b := fun q => by rw [q, hb] at hr; cases hr
  rcases run_next_at (P := P) w ty r b since c0 seen es clock hr hb hold hsc with ⟨hz, hrun⟩ | ⟨en, hen, w1, hw1, hrun⟩
  · have hl : left = [] := by
      have : (leftOf es seen).toList = [] := List.eq_nil_of_length_eq_zero (by simpa using hz)
      rw [this] at hleft
      cases left with
      | nil => rfl
      | cons p l => simp at hleft
    subst hl
    refine ⟨.value (.tuple #[.bool false]), w, _, _, .inl rfl, .inl ⟨rfl, rfl, rfl⟩, ?_, ?_⟩
    · simp [exo, execOp, e.eval hx, hrun]
    · obtain ⟨h1, hr', d, l1, lr, hA, Kk⟩ := s.pick (p [] cur)
      exact Kk w h1 ⟨rfl, rfl, rfl⟩ ⟨h1, Hp.none_, (Hp.none_disj _).disj_symm, Hp.le_refl _, Hp.none_le _, hA, trivial⟩ d l1 lr
  · obtain ⟨j, hj, hje, hpush⟩ := left_push hs hen
    have hlj : (left.map fun p => (ek p.1, ev p.2))[j]? = some (en.key, en.val) := by rw [← hleft, List.getElem?_map, hje]; rfl
    rw [List.getElem?_map] at hlj
    cases hq : left[j]? with
    | none => rw [hq] at hlj; cases hlj
    | some ku =>
      obtain ⟨k, u⟩ := ku
      rw [hq] at hlj
      simp only [Option.map_some, Option.some.injEq, Prod.mk.injEq] at hlj
      obtain ⟨h1, hr', d, l1, lr, hA, Kk⟩ := s.pick (p (left.eraseIdx j) (some (k, u)))
      obtain ⟨_, _, _, _, _, hb1, _, _, hr1, _⟩ := hA
      have hbb := l1.at_ _ _ hb1
      have hrr := l1.at_ _ _ hr1
      let o' : Obj := .mapIter (some b) since (seen.push en.born) clock
      refine ⟨.value (.tuple #[.bool true, ek k, ev u]), setBlock w1 r o', _, Γl (left.eraseIdx j) (some (k, u)), .inl rfl, .inr ⟨j, k, u, hq, rfl, rfl⟩, ?_, ?_⟩
      · rw [hlj.1, hlj.2]
        simp [exo, execOp, e.eval hx, hrun, o']
      · have hw : w1.heap = w.heap := by rcases hw1 with rfl | rfl <;> rfl
        have hlt : r < w.heap.size := (Array.getElem?_eq_some_iff.1 hr).1
        have nr : hp (setBlock w1 r o') r = some o' := by
          show (w1.heap.setIfInBounds r o')[r]? = some o'
          rw [hw, Array.getElem?_setIfInBounds_self_of_lt hlt]
        have nb : ∀ q, q ≠ r → hp (setBlock w1 r o') q = hp w q := fun q hq => by
          show (w1.heap.setIfInBounds r o')[q]? = w.heap[q]?
          rw [hw, Array.getElem?_setIfInBounds_ne (Ne.symm hq)]
        have dr : (Hp.one r o').disj (Hp.one b (.map es clock)) := Hp.one_disj (by
          unfold Hp.one
          split
          · rename_i q; exact absurd q hne
          · rfl)
        refine Kk (setBlock w1 r o') ((Hp.one r o').join (Hp.one b (.map es clock))) ?_ ⟨_, Hp.none_, (Hp.none_disj _).disj_symm, Hp.le_refl _, Hp.none_le _, ?_, trivial⟩ ?_ ?_ ?_
        · rcases hw1 with rfl | rfl <;> exact ⟨rfl, rfl, rfl⟩
        · refine ⟨es, clock, since, seen.push en.born, clock, (Hp.le_joinR dr).at_ _ _ (Hp.one_at _ _), hs, he, (Hp.le_joinL _ _).at_ _ _ (Hp.one_at _ _), hold, hsk, hsk, ?_, fun kv e2 => ⟨en, (mem_left hen).1, seen, by rw [← Option.some.inj e2]; exact Prod.ext hlj.1.symm hlj.2.symm, rfl, rfl⟩⟩
          rw [hpush, ← eraseIdx_map_ (fun (e : MapEntry) => (e.key, e.val)), hleft, eraseIdx_map_]
        · exact (Hp.disj_join (Hp.one_disj (d.out hr1)).disj_symm (Hp.one_disj (d.out hb1)).disj_symm).disj_symm
        · exact Hp.join_le (Hp.one_le nr) (Hp.one_le (by rw [nb b hne.symm]; exact hb))
        · refine ⟨fun q ob hq => ?_⟩
          have hnq : q ≠ r := fun e' => by subst e'; rw [d.out hr1] at hq; cases hq
          rw [nb q hnq]
          exact lr.at_ _ _ hq
/-- the entry at hand -/
theorem q_entry {k : K} {u : V} (hx : evo σ x = some (.pointer (some ⟨r, 0, none⟩))) (p : Pick (MI ek ev b r m left (some (k, u))) [MI ek ev b r m left (some (k, u))] Γ Γ) : OpQ P E ρ n σ Γ (.entry x) ty (.tuple #[ek k, ev u]) := fun a w e s => by
  obtain ⟨h0, _, _, l0, _, ⟨es, clock, since, seen, c0, hb0, hs, he, hr0, hold, hsc, hsk, hleft, hcur⟩, _⟩ := s.pick p
  have hb : w.heap[b]? = some (.map es clock) := l0.at_ _ _ hb0
  have hr : w.heap[r]? = some (.mapIter (some b) since seen c0) := l0.at_ _ _ hr0
  obtain ⟨en, hen, seen0, hkv, rfl, rfl⟩ := hcur _ rfl
  simp only [Prod.mk.injEq] at hkv
  have := run_entry_at (P := P) w r b since seen0 es c0 en hr hb hen hs.2.1
  rw [← hkv.1, ← hkv.2]
  simp [exo, execOp, e.eval hx, this]
theorem mi_mp {cur : Option (K × V)} {Δ : List Asn} : Ent (MI ek ev b r m left cur :: Δ) (MP ek ev b m :: Δ) := Ent.conv Pick.here (fun h hA => by
  obtain ⟨es, clock, since, seen, c0, hb0, hs, he, _⟩ := hA
  exact ⟨es, clock, hb0, hs, he⟩) (Ent.refl _)
end

/-! ### Calls of function values -/
section
variable {P : Program} {E : World} {ρ : Hp} {n : Fz} {σ σ' : Slots} {Γ Γ' : List Asn} {K : Act → World → Prop} {Q : Exit → Act → World → Prop}
variable {ops : Array Oper} {d : Nat} {ty : TypeId} {pos : String} {af : Array Edge} {g : Option (Nat × Bool)} {v : Value} {x : Operand}
variable {f : FuncId} {xs : List Operand} {vs cs : List Value} {ats : Array TypeId} {pre Δ : List Asn} {R : Value → List Asn → Prop}
/-- a function that may be entered -/
def Enters (P : Program) (f : FuncId) : Prop := ∃ fn body, P.funcs[f]? = some fn ∧ fn.body = some body ∧ (fn.name == "runtime.NumGoroutine") = false
theorem run_clo {a : Act} {w : World} (e : Env n σ a) (hE : Enters P f) (hf : evo σ x = some (.func (.func f) #[] cs.toArray)) (hx : evos σ xs = some vs) :
    (exo a.eval (.call { callee := .value x, args := xs.toArray, argTypes := ats }) ty).run P w = .ok (.enter f (vs ++ cs).toArray) w := by
  obtain ⟨fn, body, hfn, hb, hne⟩ := hE
  have h1 := e.eval hf
  have h2 := e.evals hx
  have h3 : ¬ fn.name = "runtime.NumGoroutine" := by simpa using hne
  simp [exo, execOp, resolve, h1, Deferred.ofValue, invoke, callFunc, hfn, h3, hb, h2]
theorem s_clob (hd : Nat.ble n.n d = false) (hw : Wanted ops n σ g) (hE : Enters P f) (hf : evo σ x = some (.func (.func f) #[] cs.toArray)) (hx : evos σ xs = some vs)
    (sel : Sel pre Γ Δ) (sp : ∀ ρ', Lent ρ ρ' Δ → Spec0 P f (vs ++ cs).toArray ρ' pre R) (k : ∀ v Γ', R v Γ' → Tr E ρ n ((d, v) :: σ) (Γ' ++ Δ) K) :
    Step P E ρ n σ Γ { dst := some d, op := .call { callee := .value x, args := xs.toArray, argTypes := ats }, type := ty, pos := pos, after := af, guard := g } ops Q K := fun a w e s => by
  rw [if_pos (Wanted.spec (o := { dst := some d, op := .call { callee := .value x, args := xs.toArray, argTypes := ats }, type := ty, pos := pos, after := af, guard := g }) hw e)]
  unfold Oper.wp
  rw [exo_eq, run_clo e hE hf hx]
  show Calls P f _ w _
  refine (lend_core sel sp w s).mono ?_
  rintro e' w' ⟨v, Γ', hR, rfl, s'⟩
  exact k v Γ' hR _ _ (e.put hd v) s'
end
theorem mi_forget {K V : Type} [DecidableEq K] {ek : K → Value} {ev : V → Value} {b r : Nat} {m left : List (K × V)} {cur : Option (K × V)} {Γ Γ1 : List Asn} (p : Pick (MI ek ev b r m left cur) [] Γ Γ1) : Ent Γ (MI ek ev b r m left none :: Γ1) := Ent.conv p (fun h hA => by
  obtain ⟨es, clock, since, seen, c0, hb0, hs, he, hr0, h1, h2, h3, h4, _⟩ := hA
  exact ⟨es, clock, since, seen, c0, hb0, hs, he, hr0, h1, h2, h3, h4, fun kv e => by cases e⟩) (Ent.refl _)
/-- what a call doesn't look at stays -/
theorem spec0_frameq {P : Program} {f : FuncId} {vs : Array Value} {ρ : Hp} {v0 : Value} (h : Spec0 P f vs ρ [] fun v Γ' => v = v0 ∧ Γ' = []) (L : List Asn) : Spec0 P f vs ρ L fun v Γ' => v = v0 ∧ Γ' = L := fun E Δ w s => by
  refine (h E (L ++ Δ) w s).mono ?_
  rintro e w' ⟨ρ', v, Γ', l, ⟨h1, h2, h3⟩, rfl, s'⟩
  rw [h3] at s'
  exact ⟨_, _, L, l, ⟨h1, h2, rfl⟩, rfl, s'⟩
theorem spec0_bun {P : Program} {f : FuncId} {vs : Array Value} {ρ : Hp} {v0 : Value} {L : List Asn} (h : Spec0 P f vs ρ L fun v Γ' => v = v0 ∧ Γ' = L) : Spec0 P f vs ρ [Bun L] fun v Γ' => v = v0 ∧ Γ' = [Bun L] := fun E Δ w s => by
  refine (h E Δ w (s.ent (bun_out L Δ))).mono ?_
  rintro e w' ⟨ρ', v, Γ', l, ⟨h1, h2, h3⟩, rfl, s'⟩
  rw [h3] at s'
  exact ⟨_, _, _, l, ⟨h1, h2, rfl⟩, rfl, s'.ent (bun_in L Δ)⟩
theorem getD_in {α : Type} [Inhabited α] {l : List α} {k : Nat} (h : k < l.length) : l.getD k default ∈ l := by simp [List.getD, h]
end Go.SL
