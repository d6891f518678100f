/-
  The engine, part O: ranges over functions: code in a round's frame, calls of yield, iterators' contracts, the statement itself, functions that leave with its mark.
-/
import Derived.Test.YtehaoafnobnneaaGreatDoorSlN
import Derived.RangeFuncCalls
import Derived.RangeFuncLeaves
import Derived.RangeFuncRecord
import Derived.RangeFuncSeq
set_option linter.unusedSimpArgs false
set_option linter.unusedVariables false
namespace Go.SL
open Go

abbrev WF (r : Option Nat) : Fence := { Fence.wide with round := r }
theorem callsIn_wf {r : Option Nat} {m : Nat} {P : Program} {f : FuncId} {args : Array Value} {w : World} {R : Ending → World → Prop} (h : Calls P f args w R) : CallsIn (WF r) m P f args w R :=
  callsIn_wide.2 h
theorem wpIn_of_wp {P : Program} {o : Oper} {a : Act} {w : World} {next : Act → World → Prop} {Q : Exit → Act → World → Prop} {r : Option Nat} {m : Nat} (hd : r = none ∨ ∀ c, o.op ≠ .defer c) (h : o.wp P a w next Q) : o.wpIn (WF r) m P a w next Q := by
  have hs : o.semAt r a.eval = execOp a.eval o := by
    rcases hd with rfl | hd
    · rfl
    · exact Oper.semAt_eq r a.eval o hd
  refine ⟨fun _ _ => trivial, ?_⟩
  show o.uponIn (WF r) m P a next Q ((o.semAt r a.eval).run P w)
  rw [hs]
  unfold Oper.wp at h
  generalize (execOp a.eval o).run P w = res at h ⊢
  cases res with
  | ok nx w' =>
    cases nx with
    | value v => exact h
    | skip => exact h
    | defer d => exact h
    | enter f args => exact ⟨fun q => (by cases q), callsIn_wf h⟩
    | row row args => exact ⟨fun q => (by cases q), fun c cs _ => by obtain ⟨v, w2, r2, s⟩ := h c cs; exact ⟨v, w2, r2, stepsIn_wide.2 s⟩⟩
    | _ => exact h.elim
  | halt x w' =>
    cases x with
    | panic v => exact h
    | _ => exact h.elim

section
variable {P : Program} {E : World} {ρ : Hp} {n : Fz} {σ σ' : Slots} {Γ Γ' : List Asn} {K : Act → World → Prop} {Q : Exit → Act → World → Prop}
variable {ops : Array Oper} {rest : List Oper} {o : Oper} {r : Option Nat} {m : Nat} {x y : Code} {id : Nat}

theorem li_step (hd : r = none ∨ ∀ c, o.op ≠ .defer c) (h : Step P E ρ n σ Γ o ops Q (wpListIn (WF r) m P ops Q rest)) : Tr E ρ n σ Γ (wpListIn (WF r) m P ops Q (o :: rest)) := fun a w e s => by
  unfold wpListIn
  have := h a w e s
  split
  · rename_i hw; rw [if_pos hw] at this; exact wpIn_of_wp hd this
  · rename_i hw; rw [if_neg hw] at this; exact ⟨fun _ _ => trivial, this⟩
theorem li_nil (k : Tr E ρ n σ Γ (Q .normal)) : Tr E ρ n σ Γ (wpListIn (WF r) m P ops Q []) := fun a w e s => wpListIn_nil (k a w e s)
theorem i_region {l : List Oper} (h : Tr E ρ n σ Γ (wpListIn (WF r) m P l.toArray Q l)) : Tr E ρ n σ Γ ((Code.region id l.toArray false).wpIn (WF r) m P Q) := fun a w e s => wpIn_region_lit (h a w e s)
theorem i_seq (h : Tr E ρ n σ Γ (x.wpIn (WF r) m P (Exit.then (y.wpIn (WF r) m P Q) Q))) : Tr E ρ n σ Γ ((Code.seq x y).wpIn (WF r) m P Q) := fun a w e s => wpIn_seq (h a w e s)
theorem i_skip (h : Tr E ρ n σ Γ (Q .normal)) : Tr E ρ n σ Γ (Code.skip.wpIn (WF r) m P Q) := fun a w e s => wpIn_skip (h a w e s)
theorem i_exit (h : Tr E ρ n σ Γ (Q (.exit id))) : Tr E ρ n σ Γ ((Code.exit id).wpIn (WF r) m P Q) := fun a w e s => wpIn_exit (h a w e s)
theorem i_ret (h : Tr E ρ n σ Γ (Q .ret)) : Tr E ρ n σ Γ (Code.ret.wpIn (WF r) m P Q) := fun a w e s => wpIn_ret (h a w e s)
theorem i_block (h : Tr E ρ n σ Γ (x.wpIn (WF r) m P (Exit.inBlock id Q))) : Tr E ρ n σ Γ ((Code.block id x).wpIn (WF r) m P Q) := fun a w e s => wpIn_block (h a w e s)
theorem i_cond {c : Operand} {b : Bool} (hc : evo σ c = some (.bool b)) (ht : b = true → Tr E ρ n σ Γ (x.wpIn (WF r) m P Q)) (hf : b = false → Tr E ρ n σ Γ (y.wpIn (WF r) m P Q)) :
    Tr E ρ n σ Γ ((Code.cond c x y).wpIn (WF r) m P Q) := fun a w e s => wpIn_cond_split (e.eval hc) (fun h => ht h a w e s) (fun h => hf h a w e s)
theorem i_yes {c : Operand} (hc : evo σ c = some (.bool true)) (ht : Tr E ρ n σ Γ (x.wpIn (WF r) m P Q)) : Tr E ρ n σ Γ ((Code.cond c x y).wpIn (WF r) m P Q) := i_cond hc (fun _ => ht) (fun h => by cases h)
theorem i_no {c : Operand} (hc : evo σ c = some (.bool false)) (hf : Tr E ρ n σ Γ (y.wpIn (WF r) m P Q)) : Tr E ρ n σ Γ ((Code.cond c x y).wpIn (WF r) m P Q) := i_cond hc (fun h => by cases h) (fun _ => hf)
theorem i_draw {mm : Nat} {l : List Oper} (h : Tr E ρ n σ Γ ((Code.region id l.toArray true).wp P Q)) : Tr E ρ n σ Γ ((Code.region id l.toArray true).wpIn (WF none) mm P Q) := fun a w e s => wpIn_wide.2 (h a w e s)
/-- the least measure (as in t_loop) -/
theorem i_loop {ι : Type} (J : ι → Prop) (μ : ι → Nat) (σI : ι → Slots) (ΓI : ι → List Asn) (i0 : ι) (h0 : J i0) (hσ : EnvLe (σI i0) σ) (hΓ : Ent Γ (ΓI i0))
    (round : ∀ i, J i → Tr E ρ n (σI i) (ΓI i) (x.wpIn (WF r) m P (Exit.then (Next_ E ρ n (fun j => J j ∧ μ j < μ i) σI ΓI) Q))) : Tr E ρ n σ Γ ((Code.loop x).wpIn (WF r) m P Q) := fun a w e s => by
  let S : Act → World → Nat → Prop := fun a w k => ∃ i, J i ∧ Env n (σI i) a ∧ sat E ρ (ΓI i) w ∧ μ i = k
  have least : ∀ a w, (∃ k, S a w k) → ∃ k, S a w k ∧ ∀ k', S a w k' → k ≤ k' := by
    intro a w ⟨k, hk⟩
    induction k using Nat.strongRecOn with
    | _ k ih =>
      by_cases hl : ∃ k', k' < k ∧ S a w k'
      · obtain ⟨k', h1, h2⟩ := hl; exact ih k' h1 h2
      · refine ⟨k, hk, fun k' hk' => ?_⟩
        rcases Nat.lt_or_ge k' k with h | h
        · exact absurd ⟨k', h, hk'⟩ hl
        · exact h
  refine wpIn_loop (fun a w => ∃ i, J i ∧ Env n (σI i) a ∧ sat E ρ (ΓI i) w) (fun a w => Classical.epsilon fun k => S a w k ∧ ∀ k', S a w k' → k ≤ k') ⟨i0, h0, e.le hσ, s.ent hΓ⟩ ?_
  rintro a w ⟨i, hJ, he, hs⟩
  obtain ⟨⟨i', hJ', he', hs', hm'⟩, -⟩ := Classical.epsilon_spec (least a w ⟨μ i, i, hJ, he, hs, rfl⟩)
  refine Code.wpIn_mono ?_ (round i' hJ' a w he' hs')
  intro ex a' w' hq
  cases ex with
  | normal =>
    obtain ⟨j, ⟨hj1, hj2⟩, hj3, hj4⟩ := hq
    refine ⟨⟨j, hj1, hj3, hj4⟩, ?_⟩
    have sp := (Classical.epsilon_spec (least a' w' ⟨μ j, j, hj1, hj3, hj4, rfl⟩)).2 (μ j) ⟨j, hj1, hj3, hj4, rfl⟩
    exact Nat.lt_of_le_of_lt sp (by rw [← hm']; exact hj2)
  | exit _ => exact hq
  | goto _ => exact hq
  | ret => exact hq
  | panic _ => exact hq
  | outgrown => exact hq

theorem Ent.comm (A B : List Asn) : Ent (A ++ B) (B ++ A) := fun h s => by
  obtain ⟨k1, k2, d, l1, l2, s1, s2⟩ := star_split s
  exact star_append s2 s1 d.disj_symm l2 l1
theorem Ent.both {A A' B B' : List Asn} (h : Ent A A') (k : Ent B B') : Ent (A ++ B) (A' ++ B') := fun x s => by
  obtain ⟨k1, k2, d, l1, l2, s1, s2⟩ := star_split s
  exact star_append (h _ s1) (k _ s2) d l1 l2
theorem Ent.assoc (A B C : List Asn) : Ent (A ++ (B ++ C)) (A ++ B ++ C) := Ent.cast (List.append_assoc A B C).symm
theorem Ent.assoc' (A B C : List Asn) : Ent (A ++ B ++ C) (A ++ (B ++ C)) := Ent.cast (List.append_assoc A B C)

/-! ### Iterators -/
/-- A round, asked for by yield: it goes on (true), or it has left (false). -/
def Yields (P : Program) (E : World) (ρ : Hp) (m l : Nat) (vs : List Value) (Γ : List Asn) {κ : Type} (Γt : κ → List Asn) {ι : Type} (St : ι → List Asn) : Prop :=
  ∀ w, sat E ρ Γ w → YieldAt (WF none) m P l vs.toArray w fun e w' => (e = .returned (.bool true) ∧ ∃ y, sat E ρ (Γt y) w') ∨ (e = .returned (.bool false) ∧ ∃ s, sat E ρ (St s) w')
theorem i_yield {d : Nat} {ty : TypeId} {pos : String} {af : Array Edge} {fo : Operand} {xs : List Operand} {vs : List Value} {ats : Array TypeId} {l : Nat} {κ : Type} {Γt : κ → List Asn} {ι : Type} {St : ι → List Asn}
    (hd : Nat.ble n.n d = false) (hf : evo σ fo = some (.func (.yield l) #[] #[])) (hx : evos σ xs = some vs) (hY : Yields P E ρ (m - 1) l vs Γ Γt St)
    (kt : ∀ y, Tr E ρ n ((d, .bool true) :: σ) (Γt y) (wpListIn (WF none) m P ops Q rest)) (kf : ∀ s, Tr E ρ n ((d, .bool false) :: σ) (St s) (wpListIn (WF none) m P ops Q rest)) :
    Tr E ρ n σ Γ (wpListIn (WF none) m P ops Q ({ dst := some d, op := .call { callee := .value fo, args := xs.toArray, argTypes := ats }, type := ty, pos := pos, after := af, guard := none } :: rest)) := fun a w e s => by
  unfold wpListIn
  rw [if_pos (by rfl)]
  refine ⟨fun _ _ => trivial, ?_⟩
  obtain ⟨fn, tmps, assign, body, hy, hR⟩ := hY w s
  have h1 := e.eval hf
  have h2 := e.evals hx
  have hr : (Oper.semAt none a.eval { dst := some d, op := .call { callee := .value fo, args := xs.toArray, argTypes := ats }, type := ty, pos := pos, after := af, guard := none }).run P w = .ok (.round l fn tmps assign body) w := by
    rw [Oper.semAt_none]
    simp [execOp, resolve, h1, Deferred.ofValue, invoke, callFunc, h2]
    exact hy
  show Oper.uponIn (WF none) m P _ a _ Q _
  rw [show (WF none).round = none from rfl, hr]
  refine ⟨fun h => (by cases h), hR.mono ?_⟩
  rintro e' w' (⟨rfl, y, s'⟩ | ⟨rfl, i, s'⟩)
  · exact kt y _ _ (e.put hd _) s'
  · exact kf i _ _ (e.put hd _) s'

/-- An iterator: function f with what it has captured yields vals, one by one, then it is over; Γi is what it reads by. -/
def IterS (P : Program) (f : FuncId) (cap : Array Value) (ρ : Hp) (Γi : List Asn) (vals : List (List Value)) : Prop :=
  ∀ (E : World) (l m : Nat) (κ ι : Type) (I : Nat → κ → List Asn) (St : ι → List Asn),
    (∀ k (hk : k < vals.length) x, Yields P E ρ m l vals[k] (I k x ++ Γi) (fun y => I (k + 1) y ++ Γi) fun s => St s ++ Γi) →
    ∀ x0 w, sat E ρ (I 0 x0 ++ Γi) w → CallsIn (WF none) (m + 1) P f (#[.func (.yield l) #[] #[]] ++ cap) w fun e w' => ∃ v, e = .returned v ∧ ((∃ y, sat E ρ (I vals.length y ++ Γi) w') ∨ ∃ s, sat E ρ (St s ++ Γi) w')
/-- an iterator's contract out of its body's walk -/
theorem iter_of {f : FuncId} {fn : Func} {c : Code} {n : Nat} {cap : List Value} {σ : Slots} {Γi : List Asn} {vals : List (List Value)} (hf : P.funcs[f]? = some fn) (hb : fn.body = some c) (hn : fn.ntmps = n) (hl : Nat.ble (cap.length + 1) n = true)
    (hσ : enumS cap 1 = σ)
    (h : ∀ (E : World) (l m : Nat) (κ ι : Type) (I : Nat → κ → List Asn) (St : ι → List Asn), (∀ k (hk : k < vals.length) x, Yields P E ρ m l vals[k] (I k x ++ Γi) (fun y => I (k + 1) y ++ Γi) fun s => St s ++ Γi) →
      ∀ x0, Tr E ρ ⟨n, []⟩ ((0, .func (.yield l) #[] #[]) :: σ) (I 0 x0 ++ Γi) (c.wpIn (WF none) (m + 1) P (bodyPost P fn fun e w' => ∃ v, e = .returned v ∧ ((∃ y, sat E ρ (I vals.length y ++ Γi) w') ∨ ∃ s, sat E ρ (St s ++ Γi) w')))) :
    IterS P f cap.toArray ρ Γi vals := by
  intro E l m κ ι I St hY x0 w s
  have hargs : (#[.func (.yield l) #[] #[]] ++ cap.toArray : Array Value) = (.func (.yield l) #[] #[] :: cap : List Value).toArray := by simp
  rw [hargs]
  refine callsIn_of_wp hf hb trivial (h E l m κ ι I St hY x0 _ w ⟨rfl, ?_, ?_⟩ s)
  · have : cap.length + 1 ≤ n := by simpa using hl
    simp [hn]; omega
  · intro t v e
    rw [← hσ] at e
    obtain ⟨-, e'⟩ := get_enumS (.func (.yield l) #[] #[] :: cap) 0 t v e
    simp only [Nat.sub_zero] at e'
    have hlt : t < (.func (.yield l) #[] #[] :: cap : List Value).length := (List.getElem?_eq_some_iff.1 e').1
    have e2 : ((.func (.yield l) #[] #[] :: cap : List Value).toArray ++ Array.replicate (fn.ntmps - (.func (.yield l) #[] #[] :: cap : List Value).toArray.size) undef)[t]? = (.func (.yield l) #[] #[] :: cap : List Value)[t]? := by
      rw [Array.getElem?_append_left (by simpa using hlt)]; simp
    rw [e2, e']
theorem t_iret {fn : Func} {A : World → Prop} {n : Nat} (hr : fn.results = #[]) (h : ∀ w, sat E ρ Γ w → A w) : Tr E ρ ⟨n, []⟩ σ Γ (bodyPost P fn (fun e w' => ∃ v, e = .returned v ∧ A w') .ret) := fun a w e s => by
  refine ⟨e.defers, .tuple #[], ?_, _, rfl, h w s⟩
  rw [results_eq, hr]
  simp

/-! ### The statement -/
def binds : List Nat → List Value → Slots → Slots
  | p :: ps, v :: vs, σ => binds ps vs ((p, v) :: σ)
  | _, _, σ => σ
theorem env_binds {n : Nat} : ∀ (ps : List Nat) (vs : List Value) (σ : Slots) (tm : Array Value) (ds : List Deferred), (∀ p ∈ ps, Nat.ble n p = false) → Env ⟨n, ds⟩ σ ⟨tm, ds⟩ → Env ⟨n, ds⟩ (binds ps vs σ) ⟨(ps.zip vs).foldl (fun tmps (x : Nat × Value) => tmps.setIfInBounds x.1 x.2) tm, ds⟩
  | [], _, _, _, _, _, h => h
  | _ :: _, [], _, _, _, _, h => h
  | p :: ps, v :: vs, σ, tm, ds, hp, h => by
    have := env_binds (n := n) ps vs ((p, v) :: σ) (tm.setIfInBounds p v) ds (fun q hq => hp q (by simp [hq])) (h.put (d := p) (hp p (by simp)) v)
    exact this
def loopRec (fn : FuncId) (a : Act) (ps : List Nat) (assign body : Code) (D : Nat) (st : LoopState) (pend : Option Code) : Loop :=
  { state := st, pending := pend, fn, tmps := a.tmps, params := ps.toArray, assign, body, defers := D }
/-- how a round's body may end -/
def roundQ (E : World) (ρ : Hp) {κ : Type} (Γt : κ → List Asn) {ι : Type} (St : ι → List Asn) (Fr : List Asn) : Exit → Act → World → Prop
  | .normal, _, w => ∃ y, sat E ρ (Γt y ++ Fr) w
  | .ret, _, w => ∃ s, sat E ρ (St s ++ Fr) w
  | _, _, _ => False
theorem rq_n {κ : Type} {Γt : κ → List Asn} {Fr : List Asn} {ι : Type} {St : ι → List Asn} (y : κ) (h : Ent Γ (Γt y ++ Fr)) : Tr E ρ n σ Γ (roundQ E ρ Γt St Fr .normal) := fun _ _ _ s => ⟨y, s.ent h⟩
theorem rq_r {κ : Type} {Γt : κ → List Asn} {Fr : List Asn} {ι : Type} {St : ι → List Asn} (i : ι) (h : Ent Γ (St i ++ Fr)) : Tr E ρ n σ Γ (roundQ E ρ Γt St Fr .ret) := fun _ _ _ s => ⟨i, s.ent h⟩
theorem sat.putobj {E : World} {ρ : Hp} {w : World} {b : Nat} {o0 o : Obj} {Γ Γ' : List Asn} (p : Pick (.obj b o0) [.obj b o] Γ Γ') (s : sat E ρ Γ w) : w.heap[b]? = some o0 ∧ sat E ρ Γ' (w.putObj b o) := by
  obtain ⟨e0, s'⟩ := s.put (o := o) p (b := b) (o0 := o0) (fun _ h => h) (fun h hb => ⟨h, Hp.none_, (Hp.none_disj h).disj_symm, Hp.le_refl _, Hp.none_le _, hb, trivial⟩)
  exact ⟨e0, s'⟩
theorem t_rangeFunc {g : Operand} {ps : List Nat} {assign body : Code} {n : Nat} {f : FuncId} {fn : Func} {c : Code} {cap : Array Value} {Γi : List Asn} {vals : List (List Value)} {κ ι ι1 : Type} (B : Nat → κ → List Asn) (x0 : κ) (St : ι → List Asn) (σ1 : Nat → κ → ι1 → Slots) (B1 : Nat → κ → ι1 → List Asn)
    (hg : evo σ g = some (.func (.func f) #[] cap)) (hfn : P.funcs[f]? = some fn) (hb : fn.body = some c) (hne : (fn.name == "runtime.NumGoroutine") = false)
    (it : IterS P f cap ρ Γi vals) (h0 : Ent Γ (B 0 x0 ++ Γi)) (hps : ∀ p ∈ ps, Nat.ble n p = false) (hlen : ∀ v ∈ vals, v.length = ps.length)
    (hassign : ∀ k (hk : k < vals.length) (x : κ) (l m : Nat) (Fr : List Asn), Tr E ρ ⟨n, []⟩ (binds ps vals[k] σ) (B k x ++ (Γi ++ Fr)) (assign.wpIn (WF (some l)) m P (Exit.then (Next_ E ρ ⟨n, []⟩ (fun _ : ι1 => True) (σ1 k x) (fun j => B1 k x j ++ (Γi ++ Fr))) (fun _ _ _ => False))))
    (hbody : ∀ k (hk : k < vals.length) (x : κ) (j : ι1) (l m : Nat) (Fr : List Asn), Tr E ρ ⟨n, []⟩ (σ1 k x j) (B1 k x j ++ (Γi ++ Fr)) (body.wpIn (WF (some l)) m P (roundQ E ρ (B (k + 1)) St (Γi ++ Fr))))
    (hdone : ∀ D x, Tr E ρ ⟨n, [{ target := .collected D, args := #[] }]⟩ σ (.obj D (.deferred (some [])) :: (B vals.length x ++ Γi)) (Q .normal))
    (hstop : ∀ D s, Tr E ρ ⟨n, [{ target := .collected D, args := #[] }]⟩ σ (.obj D (.deferred (some [])) :: (St s ++ Γi)) (Q .ret)) :
    Tr E ρ ⟨n, []⟩ σ Γ ((Code.rangeFunc g ps.toArray assign body).wp P Q) := fun a w e s => by
  refine (wpIn_wide (n := 3)).1 (wpIn_rangeFunc (F := Fence.wide) fun fnid _ => ?_)
  have hne' : ¬ fn.name = "runtime.NumGoroutine" := by simpa using hne
  have hgv := e.eval hg
  let D := w.heap.size
  let l := w.heap.size + 1
  let rc := loopRec fnid a ps assign body D
  let mark : List Deferred := [{ target := .collected D, args := #[] }]
  let w1 := (w.alloc (.deferred (some []))).alloc (.loop (rc .ready none))
  let I : Nat → κ → List Asn := fun k x => .obj D (.deferred (some [])) :: .obj l (.loop (rc .ready none)) :: B k x
  let St' : ι → List Asn := fun i => .obj D (.deferred (some [])) :: .obj l (.loop (rc .done (some .ret))) :: St i
  have s0 := s.ent h0
  have s1 : sat E ρ (.obj l (.loop (rc .ready none)) :: .obj D (.deferred (some [])) :: (B 0 x0 ++ Γi)) w1 := by
    have a1 := s0.alloc (.obj w.heap.size (.deferred (some []))) (.deferred (some [])) (Hp.one_at _ _)
    have a2 := a1.alloc (.obj (w.alloc (.deferred (some []))).heap.size (.loop (rc .ready none))) (.loop (rc .ready none)) (Hp.one_at _ _)
    rw [World.size_alloc] at a2
    exact a2
  refine ⟨l, mark, w1, { target := .fn (.func f) cap, args := #[.func (.yield l) #[] #[]] }, w1, f, #[.func (.yield l) #[] #[]] ++ cap, w1, run_enterLoop_outer (P := P) (w := w) fnid a.tmps ps.toArray assign body, ?_, fun _ _ => trivial, ?_, fun h => (by cases h), ?_⟩
  · have hc : a.eval (.const (.func (.yield l) #[] #[])) = .func (.yield l) #[] #[] := rfl
    simp [resolve, hgv, Deferred.ofValue, hc]
  · simp [invoke, callFunc, hfn, hne', hb]
  · refine CallsIn.mono (it E l 1 κ ι I St' ?_ x0 w1 (s1.ent (Ent.pick (Pick.there Pick.here) (Ent.pick Pick.here (Ent.refl _))))) ?_
    · -- the rounds
      intro k hk x W sW
      have perm : ∀ (A1 A2 : Asn) (X : List Asn), Ent (A1 :: A2 :: (X ++ Γi)) (X ++ (Γi ++ [A1, A2])) := fun A1 A2 X => Ent.trans (Ent.comm [A1, A2] (X ++ Γi)) (Ent.assoc' _ _ _)
      have perm2 : ∀ (A1 A2 : Asn) (X : List Asn), Ent (X ++ (Γi ++ [A1, A2])) (A1 :: A2 :: (X ++ Γi)) := fun A1 A2 X => Ent.trans (Ent.assoc _ _ _) (Ent.comm (X ++ Γi) [A1, A2])
      have hl : W.heap[l]? = some (.loop (rc .ready none)) := (sat.putobj (o0 := .loop (rc .ready none)) (b := l) (o := .loop (rc .ready none)) (Pick.there Pick.here) sW).1
      have hsz : vals[k].toArray.size = (rc .ready none).params.size := by
        show vals[k].toArray.size = ps.toArray.size
        simp [hlen _ (List.getElem_mem hk)]
      refine ⟨fnid, _, assign, body, run_yield hl hsz, roundIn_of_wpIn trivial ?_⟩
      have htm : (((rc .ready none).params.zip vals[k].toArray).foldl (fun tmps (t, a) => tmps.setIfInBounds t a) (rc .ready none).tmps) = (ps.zip vals[k]).foldl (fun tmps (x : Nat × Value) => tmps.setIfInBounds x.1 x.2) a.tmps := by
        show ((ps.toArray.zip vals[k].toArray).foldl (fun tmps (t, a) => tmps.setIfInBounds t a) a.tmps) = _
        simp
      rw [htm]
      have hA := hassign k hk x l 1 [.obj D (.deferred (some [])), .obj l (.loop (rc .ready none))] _ W (env_binds ps vals[k] σ a.tmps [] hps ⟨rfl, e.size, e.get⟩) (sW.ent (perm _ _ _))
      refine wpIn_mono hA ?_
      rintro ex a1 w2 hq
      cases ex with
      | normal =>
        obtain ⟨j, -, hE, hs⟩ := hq
        obtain ⟨hl2, s2⟩ := sat.putobj (o0 := .loop (rc .ready none)) (b := l) (o := .loop { (rc .ready none) with state := .busy }) (Pick.there Pick.here) (hs.ent (perm2 _ _ _))
        refine ⟨_, run_beginRound hl2 rfl, ?_⟩
        refine wpIn_mono (hbody k hk x j l 1 [.obj D (.deferred (some [])), .obj l (.loop { (rc .ready none) with state := .busy })] _ _ hE (s2.ent (perm _ _ _))) ?_
        rintro ex a3 w3 hq
        cases ex with
        | normal =>
          obtain ⟨y, hq⟩ := hq
          obtain ⟨hl3, s3⟩ := sat.putobj (o0 := .loop { (rc .ready none) with state := .busy }) (b := l) (o := .loop (rc .ready none)) (Pick.there Pick.here) (sat.ent (perm2 _ _ (B (k + 1) y)) hq)
          exact ⟨_, _, run_endRound none hl3, .inl ⟨rfl, y, s3⟩⟩
        | ret =>
          obtain ⟨i, hq⟩ := hq
          obtain ⟨hl3, s3⟩ := sat.putobj (o0 := .loop { (rc .ready none) with state := .busy }) (b := l) (o := .loop (rc .done (some .ret))) (Pick.there Pick.here) (sat.ent (perm2 _ _ (St i)) hq)
          exact ⟨_, _, run_endRound (some .ret) hl3, .inr ⟨rfl, i, s3⟩⟩
        | exit _ => exact hq.elim
        | goto _ => exact hq.elim
        | panic _ => exact hq.elim
        | outgrown => exact hq.elim
      | exit _ => exact hq.elim
      | goto _ => exact hq.elim
      | ret => exact hq.elim
      | panic _ => exact hq.elim
      | outgrown => exact hq.elim
    · rintro e' w3 ⟨v, rfl, ⟨y, s3⟩ | ⟨i, s3⟩⟩
      · obtain ⟨hl, s4⟩ := sat.putobj (o0 := .loop (rc .ready none)) (b := l) (o := .loop { (rc .ready none) with state := .exhausted }) (Pick.there Pick.here) s3
        refine ⟨none, _, run_endLoop hl (fun h => by cases h), ?_⟩
        refine hdone D y _ _ ⟨?_, e.size, e.get⟩ (s4.ent ?_)
        · show mark ++ a.defers = _
          rw [e.defers]; rfl
        · exact Ent.pick Pick.here (Ent.skip (Ent.refl _))
      · obtain ⟨hl, s4⟩ := sat.putobj (o0 := .loop (rc .done (some .ret))) (b := l) (o := .loop { (rc .done (some .ret)) with state := .exhausted }) (Pick.there Pick.here) s3
        refine ⟨some .ret, _, run_endLoop hl (fun h => by cases h), ?_⟩
        refine wpIn_ret (hstop D i _ _ ⟨?_, e.size, e.get⟩ (s4.ent ?_))
        · show mark ++ a.defers = _
          rw [e.defers]; rfl
        · exact Ent.pick Pick.here (Ent.skip (Ent.refl _))
/-- what a body that holds a range over a function must achieve; it never panics -/
def bodyPostN (P : Program) (fn : Func) (R : Ending → World → Prop) : Exit → Act → World → Prop
  | .panic _, _, _ => False
  | ex, a, w => bodyPostM Fence.wide 0 P fn R ex a w
theorem bodyPostN_le {fn : Func} {R : Ending → World → Prop} : ∀ ex a w, bodyPostN P fn R ex a w → bodyPostM Fence.wide 0 P fn R ex a w := fun ex a w h => by
  cases ex <;> first | exact h | exact h.elim
theorem spec_ofM {f : FuncId} {fn : Func} {c : Code} {n : Nat} {vs : List Value} {R : Hp → Value → List Asn → Prop} (hf : P.funcs[f]? = some fn) (hb : fn.body = some c)
    (hn : fn.ntmps = n) (hl : Nat.ble vs.length n = true) (hσ : enumS vs 0 = σ)
    (h : ∀ (E : World) (Δ : List Asn), Tr E ρ ⟨n, []⟩ σ (Γ ++ Δ) (c.wp P (bodyPostN P fn fun e w' => ∃ ρ' v Γ', ρ.le ρ' ∧ R ρ' v Γ' ∧ e = .returned v ∧ sat E ρ' (Γ' ++ Δ) w'))) : Spec P f vs.toArray ρ Γ R := by
  intro E Δ w s
  refine callsIn_wide.1 (callsIn_of_wp_marks (F := Fence.wide) (n := 0) hf hb trivial (wpIn_wide.2 ((wpIn_wide (n := 0)).1 (wpIn_mono ((wpIn_wide (n := 0)).2 (h E Δ _ w ⟨rfl, ?_, ?_⟩ s)) bodyPostN_le))) rfl)
  · have : vs.length ≤ n := by simpa using hl
    simp [hn]; omega
  · intro t v e
    rw [← hσ] at e
    obtain ⟨-, e'⟩ := get_enumS vs 0 t v e
    simp only [Nat.sub_zero] at e'
    have hlt : t < vs.length := (List.getElem?_eq_some_iff.1 e').1
    have e2 : (vs.toArray ++ Array.replicate (fn.ntmps - vs.toArray.size) undef)[t]? = vs[t]? := by
      rw [Array.getElem?_append_left (by simpa using hlt)]; simp
    rw [e2, e']
theorem t_retM0 {ρ0 ρ : Hp} {n : Nat} {Δ : List Asn} {fn : Func} {R : Hp → Value → List Asn → Prop} {rs : List ResultVar} {vs : List Value} {v : Value} (Γ' : List Asn)
    (hr : fn.results = rs.toArray) (hv : Res P σ Γ rs vs) (hp : pack vs = v) (hl : ρ0.le ρ) (hR : R ρ v Γ') (hΓ : Ent Γ (Γ' ++ Δ)) :
    Tr E ρ ⟨n, []⟩ σ Γ (bodyPostN P fn (fun e w' => ∃ ρ' v Γ', ρ0.le ρ' ∧ R ρ' v Γ' ∧ e = .returned v ∧ sat E ρ' (Γ' ++ Δ) w') .ret) := fun a w e s => by
  obtain ⟨-, v', h1, h2⟩ := t_ret (R := R) Γ' hr hv hp hl hR hΓ a w e s
  show LeavesInM Fence.wide 0 P fn a.tmps _ a.defers .returning w
  rw [e.defers]
  exact ⟨v', h1, h2⟩
theorem t_retM {ρ0 ρ : Hp} {n D : Nat} {Δ Γ1 : List Asn} {fn : Func} {R : Hp → Value → List Asn → Prop} {rs : List ResultVar} {vs : List Value} {v : Value} (Γ' : List Asn)
    (h0 : Ent Γ (.obj D (.deferred (some [])) :: Γ1)) (hr : fn.results = rs.toArray) (hv : Res P σ Γ1 rs vs) (hp : pack vs = v) (hl : ρ0.le ρ) (hR : R ρ v Γ') (hΓ : Ent Γ1 (Γ' ++ Δ)) :
    Tr E ρ ⟨n, [{ target := .collected D, args := #[] }]⟩ σ Γ (bodyPostN P fn (fun e w' => ∃ ρ' v Γ', ρ0.le ρ' ∧ R ρ' v Γ' ∧ e = .returned v ∧ sat E ρ' (Γ' ++ Δ) w') .ret) := fun a w e s => by
  show LeavesInM Fence.wide 0 P fn a.tmps _ a.defers .returning w
  rw [e.defers]
  obtain ⟨hD, s1⟩ := sat.putobj (o := .deferred none) Pick.here (s.ent h0)
  obtain ⟨-, v', h1, h2⟩ := t_ret (R := R) Γ' hr hv hp hl hR hΓ ⟨a.tmps, []⟩ _ ⟨rfl, e.size, e.get⟩ (s1.ent (Ent.skip (Ent.refl _)))
  exact ⟨by simp, .inl ⟨D, _, rfl, run_takeDeferred hD, v', h1, h2⟩⟩
theorem k_body_nM {fn : Func} {R : Ending → World → Prop} (h : Tr E ρ n σ Γ (bodyPostN P fn R .ret)) : Tr E ρ n σ Γ (bodyPostN P fn R .normal) := fun a w e s => h a w e s
theorem q_cut_3 {T ty : TypeId} {x y z u : Operand} {a : Option Addr} {m cap sz : Nat} {el : TypeId} {k k' k'' : IntKind} {l h t : Int} (hT : P.underlying T = some (.slice el)) (hs : sizeIs P el = some sz) (hx : evo σ x = some (.slice a m cap)) (hy : evo σ y = some (.int k l)) (hz : evo σ z = some (.int k' h)) (hu : evo σ u = some (.int k'' t)) (h0 : 0 ≤ l) (h1 : l ≤ h) (h2 : h ≤ t) (h3 : t ≤ cap) :
    OpQ P E ρ n σ Γ (.slice T x (some y) (some z) (some u)) ty (.slice (sh a t.toNat l.toNat sz) (h.toNat - l.toNat) (t.toNat - l.toNat)) := fun ac w e s => by
  have hr := run_sizeOf hs w
  have h4 : (0 : Int) ≤ h := by omega
  have h5 : (0 : Int) ≤ t := by omega
  have h6 : l ≤ max h 0 := by omega
  have h7 : h ≤ max t 0 := by omega
  simp [exo, execOp, e.eval hx, e.eval hy, e.eval hz, e.eval hu, Instr.sliceAt, Instr.slice, underlying, hT, Instr.sliceBounds, Instr.sliceBound, asIntOf, h0, h1, h2, h3, h4, h5, h6, h7, hr, sh]
end
end Go.SL
