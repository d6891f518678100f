/-
  The engine, part B: the judgement over code: operations one by one, calls by contracts, regions that draw their order, branches, loops, returns.
-/
import Derived.Test.YtehaoafnobnneaaGreatDoorSlA
namespace Go.SL
open Go

def exo (e : Operand → Value) (op : Op) (ty : TypeId) : Sem Next := execOp e { dst := none, op := op, type := ty, pos := "", after := #[], guard := none }
theorem exo_eq (e : Operand → Value) (d : Option Tmp) (op : Op) (ty : TypeId) (pos : String) (af : Array Edge) (g : Option (Nat × Bool)) :
    execOp e { dst := d, op := op, type := ty, pos := pos, after := af, guard := g } = exo e op ty := rfl

/-- An operation that leaves the world alone and yields v, in every state that fits. -/
def OpQ (P : Program) (E : World) (ρ : Hp) (n : Fz) (σ : Slots) (Γ : List Asn) (op : Op) (ty : TypeId) (v : Value) : Prop :=
  ∀ a w, Env n σ a → sat E ρ Γ w → (exo a.eval op ty).run P w = .ok (.value v) w
/-- An operation that yields some v and leaves what Γ' says, where R v Γ'. -/
def OpS (P : Program) (E : World) (ρ : Hp) (n : Fz) (σ : Slots) (Γ : List Asn) (op : Op) (ty : TypeId) (R : Value → List Asn → Prop) : Prop :=
  ∀ a w, Env n σ a → sat E ρ Γ w → ∃ nx w' v Γ', (nx = .value v ∨ (nx = .skip ∧ v = undef)) ∧ R v Γ' ∧ (exo a.eval op ty).run P w = .ok nx w' ∧ sat E ρ Γ' w'

/-- A function's contract: with the shared part ρ and what Γ says of memory (and whatever else there is) it returns, and R says what. -/
def Spec (P : Program) (f : FuncId) (args : Array Value) (ρ : Hp) (Γ : List Asn) (R : Hp → Value → List Asn → Prop) : Prop :=
  ∀ (E : World) (Δ : List Asn) (w : World), sat E ρ (Γ ++ Δ) w →
    Calls P f args w fun e w' => ∃ ρ' v Γ', ρ.le ρ' ∧ R ρ' v Γ' ∧ e = .returned v ∧ sat E ρ' (Γ' ++ Δ) w'
/-- the same where nothing is shared anew -/
def Spec0 (P : Program) (f : FuncId) (args : Array Value) (ρ : Hp) (Γ : List Asn) (R : Value → List Asn → Prop) : Prop :=
  Spec P f args ρ Γ fun ρ' v Γ' => ρ = ρ' ∧ R v Γ'

theorem sat.less {E : World} {ρ ρ' : Hp} {Γ : List Asn} {w : World} (l : ρ.le ρ') (s : sat E ρ' Γ w) : sat E ρ Γ w :=
  let ⟨x, lw, h, lh, d, st⟩ := s
  ⟨x, l.le_trans lw, h, lh, d.disj_le2 l, st⟩

section
variable {P : Program} {E : World} {ρ : Hp} {n : Fz} {σ σ' : Slots} {Γ Γ' : List Asn} {K : Act → World → Prop} {Q : Exit → Act → World → Prop}
variable {ops : Array Oper} {rest : List Oper} {d : Nat} {op : Op} {ty : TypeId} {pos : String} {af : Array Edge} {g : Option (Nat × Bool)} {v : Value} {R : Value → List Asn → Prop}

/-! ### Guards -/
def Wanted (ops : Array Oper) (n : Fz) (σ : Slots) : Option (Nat × Bool) → Prop
  | none => True
  | some (j, want) => ∀ a, Env n σ a → yielded ops a.tmps j = some want
def Unwanted (ops : Array Oper) (n : Fz) (σ : Slots) : Option (Nat × Bool) → Prop
  | none => False
  | some (j, want) => ∀ a, Env n σ a → (yielded ops a.tmps j == some want) = false
theorem wn : Wanted ops n σ none := trivial
theorem wy {j dj : Nat} {want b : Bool} (h : (ops[j]?).bind (·.dst) = some dj) (e : get σ dj = some (.bool b)) (hb : b = want) : Wanted ops n σ (some (j, want)) := fun a ea => by
  have := ea.get _ _ e
  simp [yielded, h, this, hb]
theorem wno {j dj : Nat} {want b : Bool} (h : (ops[j]?).bind (·.dst) = some dj) (e : get σ dj = some (.bool b)) (hb : b ≠ want) : Unwanted ops n σ (some (j, want)) := fun a ea => by
  have := ea.get _ _ e
  simp [yielded, h, this, hb]
theorem wun {j dj : Nat} {want : Bool} (h : (ops[j]?).bind (·.dst) = some dj) (e : get σ dj = some undef) : Unwanted ops n σ (some (j, want)) := fun a ea => by
  have := ea.get _ _ e
  simp [yielded, h, this, undef]
theorem Wanted.spec {o : Oper} (h : Wanted ops n σ o.guard) {a : Act} (e : Env n σ a) : Region.wanted o (yielded ops a.tmps) = true := by
  unfold Region.wanted
  cases hg : o.guard with
  | none => rfl
  | some x =>
    obtain ⟨j, want⟩ := x
    rw [hg] at h
    simp [h a e]
theorem Unwanted.spec {o : Oper} (h : Unwanted ops n σ o.guard) {a : Act} (e : Env n σ a) : Region.wanted o (yielded ops a.tmps) = false := by
  unfold Region.wanted
  cases hg : o.guard with
  | none => rw [hg] at h; exact h.elim
  | some x =>
    obtain ⟨j, want⟩ := x
    rw [hg] at h
    simpa using h a e

/-! ### One operation -/
theorem upon_ok {o : Oper} {a : Act} {next : Act → World → Prop} {nx : Next} {w : World} {v : Value} (h : nx = .value v ∨ (nx = .skip ∧ v = undef)) (k : next (a.put o.dst v) w) : o.upon P a next Q (.ok nx w) := by
  rcases h with rfl | ⟨rfl, rfl⟩ <;> exact k

/-- how a Tr over an operation is shown: for a list ('wpList') and for one of a drawn region ('wpOp') alike -/
def Step (P : Program) (E : World) (ρ : Hp) (n : Fz) (σ : Slots) (Γ : List Asn) (o : Oper) (ops : Array Oper) (Q : Exit → Act → World → Prop) (K : Act → World → Prop) : Prop :=
  ∀ a w, Env n σ a → sat E ρ Γ w → if Region.wanted o (yielded ops a.tmps) then o.wp P a w K Q else K (a.put o.dst undef) w

theorem l_step {o : Oper} (h : Step P E ρ n σ Γ o ops Q (wpList P ops Q rest)) : Tr E ρ n σ Γ (wpList P ops Q (o :: rest)) := fun a w e s => by
  unfold wpList
  have := h a w e s
  split
  · rename_i hw; rw [if_pos hw] at this; exact .inl this
  · rename_i hw; rw [if_neg hw] at this; exact this
theorem o_step {o : Oper} {i : Nat} (hi : ops[i]? = some o) (h : Step P E ρ n σ Γ o ops Q K) : Tr E ρ n σ Γ (wpOp P ops Q i K) := fun a w e s => by
  unfold wpOp
  rw [hi]
  have := h a w e s
  dsimp only
  split
  · rename_i hw; rw [if_pos hw] at this; exact .inl this
  · rename_i hw; rw [if_neg hw] at this; exact this

theorem s_q (hd : Nat.ble n.n d = false) (hw : Wanted ops n σ g) (h : OpQ P E ρ n σ Γ op ty v) (k : Tr E ρ n ((d, v) :: σ) Γ K) :
    Step P E ρ n σ Γ { dst := some d, op := op, type := ty, pos := pos, after := af, guard := g } ops Q K := fun a w e s => by
  rw [if_pos (Wanted.spec (o := { dst := some d, op := op, type := ty, pos := pos, after := af, guard := g }) hw e)]
  unfold Oper.wp
  rw [exo_eq, h a w e s]
  exact k _ _ (e.put hd v) s
theorem s_q0 (hw : Wanted ops n σ g) (h : OpQ P E ρ n σ Γ op ty v) (k : Tr E ρ n σ Γ K) :
    Step P E ρ n σ Γ { dst := none, op := op, type := ty, pos := pos, after := af, guard := g } ops Q K := fun a w e s => by
  rw [if_pos (Wanted.spec (o := { dst := none, op := op, type := ty, pos := pos, after := af, guard := g }) hw e)]
  unfold Oper.wp
  rw [exo_eq, h a w e s]
  exact k _ _ (e.skip v) s
theorem s_s (hd : Nat.ble n.n d = false) (hw : Wanted ops n σ g) (h : OpS P E ρ n σ Γ op ty R) (k : ∀ v Γ', R v Γ' → Tr E ρ n ((d, v) :: σ) Γ' K) :
    Step P E ρ n σ Γ { dst := some d, op := op, type := ty, pos := pos, after := af, guard := g } ops Q K := fun a w e s => by
  rw [if_pos (Wanted.spec (o := { dst := some d, op := op, type := ty, pos := pos, after := af, guard := g }) hw e)]
  unfold Oper.wp
  obtain ⟨nx, w', v, Γ', hn, hR, hr, s'⟩ := h a w e s
  rw [exo_eq, hr]
  exact upon_ok hn (k v Γ' hR _ _ (e.put hd v) s')
theorem s_s0 (hw : Wanted ops n σ g) (h : OpS P E ρ n σ Γ op ty R) (k : ∀ v Γ', R v Γ' → Tr E ρ n σ Γ' K) :
    Step P E ρ n σ Γ { dst := none, op := op, type := ty, pos := pos, after := af, guard := g } ops Q K := fun a w e s => by
  rw [if_pos (Wanted.spec (o := { dst := none, op := op, type := ty, pos := pos, after := af, guard := g }) hw e)]
  unfold Oper.wp
  obtain ⟨nx, w', v, Γ', hn, hR, hr, s'⟩ := h a w e s
  rw [exo_eq, hr]
  exact upon_ok hn (k v Γ' hR _ _ (e.skip v) s')
/-- passed over: its guard says no -/
theorem s_no (hd : Nat.ble n.n d = false) (hw : Unwanted ops n σ g) (k : Tr E ρ n ((d, undef) :: σ) Γ K) :
    Step P E ρ n σ Γ { dst := some d, op := op, type := ty, pos := pos, after := af, guard := g } ops Q K := fun a w e s => by
  rw [if_neg (by rw [Unwanted.spec (o := { dst := some d, op := op, type := ty, pos := pos, after := af, guard := g }) hw e]; simp)]
  exact k _ _ (e.put hd undef) s
theorem s_no0 (hw : Unwanted ops n σ g) (k : Tr E ρ n σ Γ K) :
    Step P E ρ n σ Γ { dst := none, op := op, type := ty, pos := pos, after := af, guard := g } ops Q K := fun a w e s => by
  rw [if_neg (by rw [Unwanted.spec (o := { dst := none, op := op, type := ty, pos := pos, after := af, guard := g }) hw e]; simp)]
  exact k _ _ (e.skip undef) s

/-! ### Calls -/
/-- Γ holds what pre asks, and Δ besides -/
inductive Sel : List Asn → List Asn → List Asn → Prop
  | nil {Δ : List Asn} : Sel [] Δ Δ
  | cons {A : Asn} {pre Γ Γ1 Δ : List Asn} : Pick A [] Γ Γ1 → Sel pre Γ1 Δ → Sel (A :: pre) Γ Δ
theorem Sel.ent {pre Γ Δ : List Asn} (h : Sel pre Γ Δ) : Ent Γ (pre ++ Δ) := by
  induction h with
  | nil => exact Ent.refl _
  | cons p _ ih => exact Ent.pick p ih

def evos (σ : Slots) : List Operand → Option (List Value)
  | [] => some []
  | x :: xs => match evo σ x, evos σ xs with
    | some v, some vs => some (v :: vs)
    | _, _ => none
theorem Env.evals {a : Act} (h : Env n σ a) : ∀ {xs : List Operand} {vs : List Value}, evos σ xs = some vs → xs.map a.eval = vs
  | [], vs, e => by simp [evos] at e; simp [← e]
  | x :: xs, vs, e => by
    simp only [evos] at e
    split at e
    · rename_i v vs' h1 h2
      cases e
      simp [h.eval h1, h.evals h2]
    · cases e

theorem s_call {f : FuncId} {fn : Func} {xs : List Operand} {vs : List Value} {ats : Array TypeId} {fo : Operand} {pre Δ : List Asn} {RS : Hp → Value → List Asn → Prop}
    {first cap : Array Value} {body : Code} (hd : Nat.ble n.n d = false) (hw : Wanted ops n σ g) (hf : evo σ fo = some (.func (.func f) first cap)) (hfn : P.funcs[f]? = some fn) (hb : fn.body = some body)
    (hne : (fn.name == "runtime.NumGoroutine") = false) (hx : evos σ xs = some vs) (sp : Spec P f (first ++ vs.toArray ++ cap) ρ pre RS) (sel : Sel pre Γ Δ)
    (k : ∀ ρ' v Γ', ρ.le ρ' → RS ρ' v Γ' → Tr E ρ' n ((d, v) :: σ) (Γ' ++ Δ) K) :
    Step P E ρ n σ Γ { dst := some d, op := .call { callee := .value fo, args := xs.toArray, argTypes := ats }, type := ty, pos := pos, after := af, guard := g } ops Q K := fun a w e s => by
  rw [if_pos (Wanted.spec (o := { dst := some d, op := .call { callee := .value fo, args := xs.toArray, argTypes := ats }, type := ty, pos := pos, after := af, guard := g }) hw e)]
  have hr : (exo a.eval (.call { callee := .value fo, args := xs.toArray, argTypes := ats }) ty).run P w = .ok (.enter f (first ++ vs.toArray ++ cap)) w := by
    have h1 := e.eval hf
    have h2 := e.evals hx
    have h3 : ¬ fn.name = "runtime.NumGoroutine" := by simpa using hne
    simp [exo, execOp, resolve, h1, Deferred.ofValue, invoke, callFunc, hfn, h3, hb, h2]
  unfold Oper.wp
  rw [exo_eq, hr]
  show Calls P f _ w _
  refine (sp E Δ w (s.ent sel.ent)).mono ?_
  rintro e' w' ⟨ρ', v, Γ', l, hR, rfl, s'⟩
  exact k ρ' v Γ' l hR _ _ (e.put hd v) s'
theorem s_call0 {f : FuncId} {fn : Func} {xs : List Operand} {vs : List Value} {ats : Array TypeId} {fo : Operand} {pre Δ : List Asn} {RS : Hp → Value → List Asn → Prop}
    {first cap : Array Value} {body : Code} (hw : Wanted ops n σ g) (hf : evo σ fo = some (.func (.func f) first cap)) (hfn : P.funcs[f]? = some fn) (hb : fn.body = some body)
    (hne : (fn.name == "runtime.NumGoroutine") = false) (hx : evos σ xs = some vs) (sp : Spec P f (first ++ vs.toArray ++ cap) ρ pre RS) (sel : Sel pre Γ Δ)
    (k : ∀ ρ' v Γ', ρ.le ρ' → RS ρ' v Γ' → Tr E ρ' n σ (Γ' ++ Δ) K) :
    Step P E ρ n σ Γ { dst := none, op := .call { callee := .value fo, args := xs.toArray, argTypes := ats }, type := ty, pos := pos, after := af, guard := g } ops Q K := fun a w e s => by
  rw [if_pos (Wanted.spec (o := { dst := none, op := .call { callee := .value fo, args := xs.toArray, argTypes := ats }, type := ty, pos := pos, after := af, guard := g }) hw e)]
  have hr : (exo a.eval (.call { callee := .value fo, args := xs.toArray, argTypes := ats }) ty).run P w = .ok (.enter f (first ++ vs.toArray ++ cap)) w := by
    have h1 := e.eval hf
    have h2 := e.evals hx
    have h3 : ¬ fn.name = "runtime.NumGoroutine" := by simpa using hne
    simp [exo, execOp, resolve, h1, Deferred.ofValue, invoke, callFunc, hfn, h3, hb, h2]
  unfold Oper.wp
  rw [exo_eq, hr]
  show Calls P f _ w _
  refine (sp E Δ w (s.ent sel.ent)).mono ?_
  rintro e' w' ⟨ρ', v, Γ', l, hR, rfl, s'⟩
  exact k ρ' v Γ' l hR _ _ (e.skip v) s'

theorem s_fn {f : FuncId} {fn : Func} {xs : List Operand} {vs : List Value} {ats : Array TypeId} {pre Δ : List Asn} {RS : Hp → Value → List Asn → Prop} {body : Code}
    (hd : Nat.ble n.n d = false) (hw : Wanted ops n σ g) (hfn : P.funcs[f]? = some fn) (hb : fn.body = some body) (hne : (fn.name == "runtime.NumGoroutine") = false) (hx : evos σ xs = some vs)
    (sp : Spec P f vs.toArray ρ pre RS) (sel : Sel pre Γ Δ) (k : ∀ ρ' v Γ', ρ.le ρ' → RS ρ' v Γ' → Tr E ρ' n ((d, v) :: σ) (Γ' ++ Δ) K) :
    Step P E ρ n σ Γ { dst := some d, op := .call { callee := .value (.func f), args := xs.toArray, argTypes := ats }, type := ty, pos := pos, after := af, guard := g } ops Q K :=
  s_call hd hw rfl hfn hb hne hx (by simpa using sp) sel k
theorem s_fn0 {f : FuncId} {fn : Func} {xs : List Operand} {vs : List Value} {ats : Array TypeId} {pre Δ : List Asn} {RS : Hp → Value → List Asn → Prop} {body : Code}
    (hw : Wanted ops n σ g) (hfn : P.funcs[f]? = some fn) (hb : fn.body = some body) (hne : (fn.name == "runtime.NumGoroutine") = false) (hx : evos σ xs = some vs)
    (sp : Spec P f vs.toArray ρ pre RS) (sel : Sel pre Γ Δ) (k : ∀ ρ' v Γ', ρ.le ρ' → RS ρ' v Γ' → Tr E ρ' n σ (Γ' ++ Δ) K) :
    Step P E ρ n σ Γ { dst := none, op := .call { callee := .value (.func f), args := xs.toArray, argTypes := ats }, type := ty, pos := pos, after := af, guard := g } ops Q K :=
  s_call0 hw rfl hfn hb hne hx (by simpa using sp) sel k

/-! ### A bool that is parted -/
theorem t_split {d : Nat} {b : Bool} (h : get σ d = some (.bool b)) (ht : b = true → Tr E ρ n ((d, .bool true) :: σ) Γ K) (hf : b = false → Tr E ρ n ((d, .bool false) :: σ) Γ K) : Tr E ρ n σ Γ K := by
  have up : ∀ c, b = c → Tr E ρ n ((d, .bool c) :: σ) Γ K → Tr E ρ n σ Γ K := fun c hc k => Tr.env (.cons h (by rw [hc]) (EnvLe.refl _)) k
  cases b with
  | true => exact up true rfl (ht rfl)
  | false => exact up false rfl (hf rfl)
theorem t_splitd {d : Nat} {p : Prop} {dp : Decidable p} (h : get σ d = some (.bool (@decide p dp))) (ht : p → Tr E ρ n ((d, .bool true) :: σ) Γ K) (hf : ¬ p → Tr E ρ n ((d, .bool false) :: σ) Γ K) : Tr E ρ n σ Γ K :=
  t_split h (fun e => ht (of_decide_eq_true e)) (fun e => hf (of_decide_eq_false e))

/-! ### Regions -/
theorem l_nil (k : Tr E ρ n σ Γ (Q .normal)) : Tr E ρ n σ Γ (wpList P ops Q []) := fun a w e s => wpList_nil (k a w e s)
theorem c_region {id : Nat} {l : List Oper} (h : Tr E ρ n σ Γ (wpList P l.toArray Q l)) : Tr E ρ n σ Γ ((Code.region id l.toArray false).wp P Q) :=
  fun a w e s => wp_region_lit (h a w e s)
/-- a region that draws its order: S is what its reads lean on -/
theorem c_draw {id m : Nat} {l : List Oper} {bs : Array Bool} (S : List Asn) (hm : P.follows .mixedOrders = true) (hn : l.toArray.size = m) (hb : Array.replicate l.toArray.size false = bs)
    (h : Tr E ρ n σ Γ (wpAnyH P .any l.toArray Q (sat E ρ S) m bs)) : Tr E ρ n σ Γ ((Code.region id l.toArray true).wp P Q) :=
  fun a w e s => wp_region_held (S := sat E ρ S) hm (by rw [hb, hn]; exact h a _ e (s.drawn _))
theorem c_drawG {id m : Nat} {l : List Oper} {bs : Array Bool} (hm : P.follows .mixedOrders = true) (hn : l.toArray.size = m) (hb : Array.replicate l.toArray.size false = bs)
    (h : Tr E ρ n σ Γ (wpAnyH P .any l.toArray Q (sat E ρ Γ) m bs)) : Tr E ρ n σ Γ ((Code.region id l.toArray true).wp P Q) := c_draw Γ hm hn hb h
theorem r_take {ρ0 : Hp} {m i : Nat} {bs bs' : Array Bool} {S : List Asn} (hi : ops[i]? = some { dst := some d, op := op, type := ty, pos := pos, after := af, guard := g }) (hs : Region.noSelect ops = true)
    (hf : Region.free .any ops bs i = true) (hr : (Region.ready .any ops bs).contains i = true) (hQ : ∀ c a w, Q (.panic c) (a.put (some d) v) w → Q (.panic c) a w) (hd : Nat.ble n.n d = false)
    (hw : Wanted ops n σ g) (hq : OpQ P E ρ0 n σ S op ty v) (hl : ρ0.le ρ) (hΓ : Ent Γ S) (hb : bs.setIfInBounds i true = bs')
    (k : Tr E ρ n ((d, v) :: σ) Γ (wpAnyH P .any ops Q (sat E ρ0 S) m bs')) : Tr E ρ n σ Γ (wpAnyH P .any ops Q (sat E ρ0 S) (m + 1) bs) := fun a w e s =>
  wpAnyH_take hi hs hf hr hQ (.inl ⟨Wanted.spec (o := { dst := some d, op := op, type := ty, pos := pos, after := af, guard := g }) hw e, fun w' s' => by rw [exo_eq]; exact hq a w' e s'⟩) ((s.ent hΓ).less hl)
    (by rw [hb]; exact k _ _ (e.put hd v) s)
theorem r_skip {ρ0 : Hp} {m i : Nat} {bs bs' : Array Bool} {S : List Asn} (hi : ops[i]? = some { dst := some d, op := op, type := ty, pos := pos, after := af, guard := g }) (hs : Region.noSelect ops = true)
    (hf : Region.free .any ops bs i = true) (hr : (Region.ready .any ops bs).contains i = true) (hQ : ∀ c a w, Q (.panic c) (a.put (some d) undef) w → Q (.panic c) a w) (hd : Nat.ble n.n d = false)
    (hw : Unwanted ops n σ g) (hl : ρ0.le ρ) (hΓ : Ent Γ S) (hb : bs.setIfInBounds i true = bs')
    (k : Tr E ρ n ((d, undef) :: σ) Γ (wpAnyH P .any ops Q (sat E ρ0 S) m bs')) : Tr E ρ n σ Γ (wpAnyH P .any ops Q (sat E ρ0 S) (m + 1) bs) := fun a w e s =>
  wpAnyH_take hi hs hf hr hQ (.inr ⟨Unwanted.spec (o := { dst := some d, op := op, type := ty, pos := pos, after := af, guard := g }) hw e, rfl⟩) ((s.ent hΓ).less hl)
    (by rw [hb]; exact k _ _ (e.put hd undef) s)
theorem r_one {ρ0 : Hp} {m i : Nat} {bs bs' : Array Bool} {S : List Asn} (hr : Region.ready .any ops bs = [i]) (hb : bs.setIfInBounds i true = bs')
    (h : Tr E ρ n σ Γ (wpOp P ops Q i (fun a w => sat E ρ0 S w ∧ wpAnyH P .any ops Q (sat E ρ0 S) m bs' a w))) : Tr E ρ n σ Γ (wpAnyH P .any ops Q (sat E ρ0 S) (m + 1) bs) := fun a w e s =>
  wpAnyH_all hr (by simp) (fun j hj => by
    have : j = i := by simpa using hj
    subst this
    rw [hb]; exact h a w e s)
theorem r_two {ρ0 : Hp} {m i j : Nat} {bs bi bj : Array Bool} {S : List Asn} (hr : Region.ready .any ops bs = [i, j]) (hbi : bs.setIfInBounds i true = bi) (hbj : bs.setIfInBounds j true = bj)
    (h : Tr E ρ n σ Γ (wpOp P ops Q i (fun a w => sat E ρ0 S w ∧ wpAnyH P .any ops Q (sat E ρ0 S) m bi a w)))
    (h' : Tr E ρ n σ Γ (wpOp P ops Q j (fun a w => sat E ρ0 S w ∧ wpAnyH P .any ops Q (sat E ρ0 S) m bj a w))) : Tr E ρ n σ Γ (wpAnyH P .any ops Q (sat E ρ0 S) (m + 1) bs) := fun a w e s =>
  wpAnyH_all hr (by simp) (fun x hx => by
    have : x = i ∨ x = j := by simpa using hx
    rcases this with rfl | rfl
    · rw [hbi]; exact h a w e s
    · rw [hbj]; exact h' a w e s)
theorem r_three {ρ0 : Hp} {m i j l : Nat} {bs bi bj bl : Array Bool} {S : List Asn} (hr : Region.ready .any ops bs = [i, j, l]) (hbi : bs.setIfInBounds i true = bi) (hbj : bs.setIfInBounds j true = bj) (hbl : bs.setIfInBounds l true = bl)
    (h : Tr E ρ n σ Γ (wpOp P ops Q i (fun a w => sat E ρ0 S w ∧ wpAnyH P .any ops Q (sat E ρ0 S) m bi a w)))
    (h' : Tr E ρ n σ Γ (wpOp P ops Q j (fun a w => sat E ρ0 S w ∧ wpAnyH P .any ops Q (sat E ρ0 S) m bj a w)))
    (h'' : Tr E ρ n σ Γ (wpOp P ops Q l (fun a w => sat E ρ0 S w ∧ wpAnyH P .any ops Q (sat E ρ0 S) m bl a w))) : Tr E ρ n σ Γ (wpAnyH P .any ops Q (sat E ρ0 S) (m + 1) bs) := fun a w e s =>
  wpAnyH_all hr (by simp) (fun x hx => by
    have : x = i ∨ x = j ∨ x = l := by simpa using hx
    rcases this with rfl | rfl | rfl
    · rw [hbi]; exact h a w e s
    · rw [hbj]; exact h' a w e s
    · rw [hbl]; exact h'' a w e s)
theorem r_cont {ρ0 : Hp} {m : Nat} {bs : Array Bool} {S : List Asn} (hl : ρ0.le ρ) (hΓ : Ent Γ S) (h : Tr E ρ n σ Γ (wpAnyH P .any ops Q (sat E ρ0 S) m bs)) :
    Tr E ρ n σ Γ (fun a w => sat E ρ0 S w ∧ wpAnyH P .any ops Q (sat E ρ0 S) m bs a w) := fun a w e s => ⟨(s.ent hΓ).less hl, h a w e s⟩
theorem r_done {ρ0 : Hp} {m : Nat} {bs : Array Bool} {S : List Asn} (hr : Region.ready .any ops bs = []) (h : Tr E ρ n σ Γ (Q .normal)) :
    Tr E ρ n σ Γ (wpAnyH P .any ops Q (sat E ρ0 S) m bs) := fun a w e s => wpAnyH_done hr (h a w e s) m

/-! ### Code -/
variable {x y : Code} {id : Nat}
theorem c_seq (h : Tr E ρ n σ Γ (x.wp P (Exit.then (y.wp P Q) Q))) : Tr E ρ n σ Γ ((Code.seq x y).wp P Q) := fun a w e s => wp_seq (h a w e s)
theorem c_skip (h : Tr E ρ n σ Γ (Q .normal)) : Tr E ρ n σ Γ (Code.skip.wp P Q) := fun a w e s => wp_skip (h a w e s)
theorem c_exit (h : Tr E ρ n σ Γ (Q (.exit id))) : Tr E ρ n σ Γ ((Code.exit id).wp P Q) := fun a w e s => wp_exit (h a w e s)
theorem c_ret (h : Tr E ρ n σ Γ (Q .ret)) : Tr E ρ n σ Γ (Code.ret.wp P Q) := fun a w e s => wp_ret (h a w e s)
theorem c_block (h : Tr E ρ n σ Γ (x.wp P (Exit.inBlock id Q))) : Tr E ρ n σ Γ ((Code.block id x).wp P Q) := fun a w e s => wp_block (h a w e s)
theorem c_cond {c : Operand} {b : Bool} (hc : evo σ c = some (.bool b)) (ht : b = true → Tr E ρ n σ Γ (x.wp P Q)) (hf : b = false → Tr E ρ n σ Γ (y.wp P Q)) :
    Tr E ρ n σ Γ ((Code.cond c x y).wp P Q) := fun a w e s => wp_cond_split (e.eval hc) (fun h => ht h a w e s) (fun h => hf h a w e s)
theorem c_if {c : Operand} {p : Prop} {dp : Decidable p} (hc : evo σ c = some (.bool (@decide p dp))) (ht : p → Tr E ρ n σ Γ (x.wp P Q)) (hf : ¬ p → Tr E ρ n σ Γ (y.wp P Q)) :
    Tr E ρ n σ Γ ((Code.cond c x y).wp P Q) := c_cond hc (fun h => ht (of_decide_eq_true h)) (fun h => hf (of_decide_eq_false h))
theorem c_yes {c : Operand} (hc : evo σ c = some (.bool true)) (ht : Tr E ρ n σ Γ (x.wp P Q)) : Tr E ρ n σ Γ ((Code.cond c x y).wp P Q) := c_cond hc (fun _ => ht) (fun h => by cases h)
theorem c_no {c : Operand} (hc : evo σ c = some (.bool false)) (hf : Tr E ρ n σ Γ (y.wp P Q)) : Tr E ρ n σ Γ ((Code.cond c x y).wp P Q) := c_cond hc (fun h => by cases h) (fun _ => hf)
/-- a test that is decided by what is known -/
theorem c_sure {c : Operand} {b : Bool} (t : Bool) (hc : evo σ c = some (.bool b)) (hb : b = t) (h : Tr E ρ n σ Γ ((if t then x else y).wp P Q)) : Tr E ρ n σ Γ ((Code.cond c x y).wp P Q) :=
  fun a w e s => wp_cond (e.eval hc) (by rw [hb]; exact h a w e s)

/-! ### Where a piece of code goes on -/
theorem k_then_n (h : Tr E ρ n σ Γ K) : Tr E ρ n σ Γ (Exit.then K Q .normal) := h
theorem k_blk_n (h : Tr E ρ n σ Γ (Q .normal)) : Tr E ρ n σ Γ (Exit.inBlock id Q .normal) := h
theorem k_then_x (h : Tr E ρ n σ Γ (Q (.exit id))) : Tr E ρ n σ Γ (Exit.then K Q (.exit id)) := h
theorem k_blk_x (h : Tr E ρ n σ Γ (Q .normal)) : Tr E ρ n σ Γ (Exit.inBlock id Q (.exit id)) := fun a w e s => by
  simp only [Exit.inBlock, if_true]; exact h a w e s
theorem k_blk_xo {id' : Nat} (hne : Nat.beq id' id = false) (h : Tr E ρ n σ Γ (Q (.exit id'))) : Tr E ρ n σ Γ (Exit.inBlock id Q (.exit id')) := fun a w e s => by
  have : id' ≠ id := fun e => by subst e; simp at hne
  simp only [Exit.inBlock, if_neg this]; exact h a w e s
theorem k_then_r (h : Tr E ρ n σ Γ (Q .ret)) : Tr E ρ n σ Γ (Exit.then K Q .ret) := h
theorem k_blk_r (h : Tr E ρ n σ Γ (Q .ret)) : Tr E ρ n σ Γ (Exit.inBlock id Q .ret) := h

/-! ### Loops, and ways that meet again -/
/-- what a loop hands on from round to round: a thing of type ι, of which J holds, in the slots σI and the memory ΓI -/
def Next_ {ι : Type} (E : World) (ρ : Hp) (n : Fz) (J : ι → Prop) (σI : ι → Slots) (ΓI : ι → List Asn) (a : Act) (w : World) : Prop := ∃ j, J j ∧ Env n (σI j) a ∧ sat E ρ (ΓI j) w
theorem t_loop {ι : Type} (J : ι → Prop) (μ : ι → Nat) (σI : ι → Slots) (ΓI : ι → List Asn) (i0 : ι) (h0 : J i0) (hσ : EnvLe (σI i0) σ) (hΓ : Ent Γ (ΓI i0))
    (round : ∀ i, J i → Tr E ρ n (σI i) (ΓI i) (x.wp P (Exit.then (Next_ E ρ n (fun j => J j ∧ μ j < μ i) σI ΓI) Q))) : Tr E ρ n σ Γ ((Code.loop x).wp P Q) := fun a w e s => by
  have key : ∀ m i a w, μ i = m → J i → Env n (σI i) a → sat E ρ (ΓI i) w → (Code.loop x).wp P Q a w := by
    intro m i a w hm hJ he hs
    refine wp_loop (P := P) (Q := Q) (c := x) (fun a w => ∃ i, J i ∧ Env n (σI i) a ∧ sat E ρ (ΓI i) w ∧ True)
      (fun a w => Classical.epsilon fun m => (∃ i, J i ∧ Env n (σI i) a ∧ sat E ρ (ΓI i) w ∧ μ i = m) ∧ ∀ m', (∃ i, J i ∧ Env n (σI i) a ∧ sat E ρ (ΓI i) w ∧ μ i = m') → m ≤ m') ⟨i, hJ, he, hs, trivial⟩ ?_
    clear hm hJ he hs a w i m
    rintro a w ⟨i, hJ, he, hs, -⟩
    -- the least measure of all the things that fit this state
    have ex : ∃ m, (∃ i, J i ∧ Env n (σI i) a ∧ sat E ρ (ΓI i) w ∧ μ i = m) ∧ ∀ m', (∃ i, J i ∧ Env n (σI i) a ∧ sat E ρ (ΓI i) w ∧ μ i = m') → m ≤ m' := by
      have : ∀ k, (∃ i, J i ∧ Env n (σI i) a ∧ sat E ρ (ΓI i) w ∧ μ i = k) → ∃ m, (∃ i, J i ∧ Env n (σI i) a ∧ sat E ρ (ΓI i) w ∧ μ i = m) ∧ ∀ m', (∃ i, J i ∧ Env n (σI i) a ∧ sat E ρ (ΓI i) w ∧ μ i = m') → m ≤ m' := by
        intro k
        induction k using Nat.strongRecOn with
        | _ k ih =>
          intro hk
          by_cases hl : ∃ m', m' < k ∧ ∃ i, J i ∧ Env n (σI i) a ∧ sat E ρ (ΓI i) w ∧ μ i = m'
          · obtain ⟨m', h1, h2⟩ := hl
            exact ih m' h1 h2
          · refine ⟨k, hk, fun m' hm' => ?_⟩
            rcases Nat.lt_or_ge m' k with h | h
            · exact absurd ⟨m', h, hm'⟩ hl
            · exact h
      exact this (μ i) ⟨i, hJ, he, hs, rfl⟩
    have sp := Classical.epsilon_spec ex
    obtain ⟨⟨i', hJ', he', hs', hm'⟩, -⟩ := sp
    refine Code.wp_mono ?_ (round i' hJ' a w he' hs')
    intro ex' a' w' hq
    cases ex' with
    | normal =>
      obtain ⟨j, ⟨hj1, hj2⟩, hj3, hj4⟩ := hq
      refine ⟨⟨j, hj1, hj3, hj4, trivial⟩, ?_⟩
      have ex2 : ∃ m, (∃ i, J i ∧ Env n (σI i) a' ∧ sat E ρ (ΓI i) w' ∧ μ i = m) ∧ ∀ m', (∃ i, J i ∧ Env n (σI i) a' ∧ sat E ρ (ΓI i) w' ∧ μ i = m') → m ≤ m' := by
        have : ∀ k, (∃ i, J i ∧ Env n (σI i) a' ∧ sat E ρ (ΓI i) w' ∧ μ i = k) → ∃ m, (∃ i, J i ∧ Env n (σI i) a' ∧ sat E ρ (ΓI i) w' ∧ μ i = m) ∧ ∀ m', (∃ i, J i ∧ Env n (σI i) a' ∧ sat E ρ (ΓI i) w' ∧ μ i = m') → m ≤ m' := by
          intro k
          induction k using Nat.strongRecOn with
          | _ k ih =>
            intro hk
            by_cases hl : ∃ m', m' < k ∧ ∃ i, J i ∧ Env n (σI i) a' ∧ sat E ρ (ΓI i) w' ∧ μ i = m'
            · obtain ⟨m', h1, h2⟩ := hl
              exact ih m' h1 h2
            · refine ⟨k, hk, fun m' hm' => ?_⟩
              rcases Nat.lt_or_ge m' k with h | h
              · exact absurd ⟨m', h, hm'⟩ hl
              · exact h
        exact this (μ j) ⟨j, hj1, hj3, hj4, rfl⟩
      have sp2 := (Classical.epsilon_spec ex2).2 (μ j) ⟨j, hj1, hj3, hj4, rfl⟩
      exact Nat.lt_of_le_of_lt sp2 (by rw [← hm']; exact hj2)
    | exit _ => exact hq
    | goto _ => exact hq
    | ret => exact hq
    | panic _ => exact hq
    | outgrown => exact hq
  exact key _ i0 a w rfl h0 (e.le hσ) (s.ent hΓ)
theorem t_next {ι : Type} {J : ι → Prop} {σI : ι → Slots} {ΓI : ι → List Asn} (j : ι) (hj : J j) (hσ : EnvLe (σI j) σ) (hΓ : Ent Γ (ΓI j)) : Tr E ρ n σ Γ (Next_ E ρ n J σI ΓI) :=
  fun _ _ e s => ⟨j, hj, e.le hσ, s.ent hΓ⟩
/-- all ways through x come to what J, σI, ΓI say; the rest is walked once -/
theorem t_cut {ι : Type} (J : ι → Prop) (σI : ι → Slots) (ΓI : ι → List Asn) (h : Tr E ρ n σ Γ (x.wp P (Exit.then (Next_ E ρ n J σI ΓI) Q))) (k : ∀ j, J j → Tr E ρ n (σI j) (ΓI j) K) :
    Tr E ρ n σ Γ (x.wp P (Exit.then K Q)) := fun a w e s => Code.wp_mono (fun ex a' w' hq => by
      cases ex with
      | normal => obtain ⟨j, h1, h2, h3⟩ := hq; exact k j h1 a' w' h2 h3
      | exit _ => exact hq
      | goto _ => exact hq
      | ret => exact hq
      | panic _ => exact hq
      | outgrown => exact hq) (h a w e s)
end

/-! ### A function -/
def enumS : List Value → Nat → Slots
  | [], _ => []
  | v :: vs, i => (i, v) :: enumS vs (i + 1)
theorem get_enumS : ∀ (vs : List Value) (i t : Nat) (v : Value), get (enumS vs i) t = some v → i ≤ t ∧ vs[t - i]? = some v
  | [], _, _, _, h => by cases h
  | u :: vs, i, t, v, h => by
    simp only [enumS, get] at h
    by_cases e : i = t
    · subst e
      have : Nat.beq i i = true := by simp
      rw [this] at h
      cases h
      simp
    · have hb : Nat.beq i t = false := by cases hb : Nat.beq i t with | false => rfl | true => exact absurd (Nat.eq_of_beq_eq_true hb) e
      rw [hb] at h
      obtain ⟨h1, h2⟩ := get_enumS vs (i + 1) t v h
      refine ⟨by omega, ?_⟩
      rw [show t - i = (t - (i + 1)) + 1 from by omega]
      simpa using h2
theorem spec_of {P : Program} {f : FuncId} {fn : Func} {c : Code} {n : Nat} {vs : List Value} {σ : Slots} {ρ : Hp} {Γ : List Asn} {R : Hp → Value → List Asn → Prop} (hf : P.funcs[f]? = some fn) (hb : fn.body = some c)
    (hn : fn.ntmps = n) (hl : Nat.ble vs.length n = true) (hσ : enumS vs 0 = σ)
    (h : ∀ (E : World) (Δ : List Asn), Tr E ρ ⟨n, []⟩ σ (Γ ++ Δ) (c.wp P (bodyPost P fn fun e w' => ∃ ρ' v Γ', ρ.le ρ' ∧ R ρ' v Γ' ∧ e = .returned v ∧ sat E ρ' (Γ' ++ Δ) w'))) : Spec P f vs.toArray ρ Γ R := by
  intro E Δ w s
  refine calls_of_wp hf hb (h E Δ _ w ⟨rfl, ?_, ?_⟩ s)
  · have : vs.length ≤ n := by simpa using hl
    simp [hn]; omega
  · intro t v e
    rw [← hσ] at e
    obtain ⟨-, e'⟩ := get_enumS vs 0 t v e
    simp only [Nat.sub_zero] at e'
    have hlt : t < vs.length := (List.getElem?_eq_some_iff.1 e').1
    simp [Array.getElem?_append, hlt]
    rw [List.getElem?_eq_getElem hlt] at e'
    simpa using e'

/-- the results' values -/
inductive Res (P : Program) (σ : Slots) (Γ : List Asn) : List ResultVar → List Value → Prop
  | nil : Res P σ Γ [] []
  | tmp {t : Nat} {v : Value} {rs : List ResultVar} {vs : List Value} : get σ t = some v → Res P σ Γ rs vs → Res P σ Γ (.tmp t :: rs) (v :: vs)
  | cell {p b : Nat} {T T' : TypeId} {cs : List Value} {v : Value} {rs : List ResultVar} {vs : List Value} : get σ p = some (.pointer (some ⟨b, 0, none⟩)) → Pick (.pts b cs T') [.pts b cs T'] Γ Γ →
      (∀ w, hp w b = some (.cells cs.toArray T' (0, 0)) → (loadVar T ⟨b, 0, none⟩).run P w = .ok v w) → Res P σ Γ rs vs → Res P σ Γ (.cell p T :: rs) (v :: vs)
theorem getD_of {tm : Array Value} {t : Nat} {v : Value} (h : tm[t]? = some v) : tm.getD t undef = v := by rw [Array.getD_eq_getD_getElem?, h]; rfl
def resOf (tm : Array Value) : ResultVar → Sem Value
  | .tmp t => pure (tm.getD t undef)
  | .cell p t => do loadVar t (← asAddr (tm.getD p undef))
theorem Res.run {P : Program} {σ : Slots} {Γ : List Asn} {rs : List ResultVar} {vs : List Value} (h : Res P σ Γ rs vs) {E : World} {ρ : Hp} {n : Fz} {a : Act} {w : World} (e : Env n σ a) (s : sat E ρ Γ w) :
    (rs.mapM (resOf a.tmps)).run P w = Result.ok vs w := by
  induction h with
  | nil => rfl
  | tmp h1 _ ih =>
    have h3 := getD_of (e.get _ _ h1)
    simp only [List.mapM_cons, Sem.run_bind, resOf, h3, Sem.run_pure, Result.andThen_ok, ih]
  | cell h1 hp h2 _ ih =>
    have h3 := getD_of (e.get _ _ h1)
    obtain ⟨k1, _, _, l1, _, hA, _⟩ := s.pick hp
    have h4 := h2 w (l1.at_ _ _ hA)
    have h5 : ∀ x : Addr, (asAddr (.pointer (some x))).run P w = .ok x w := fun _ => rfl
    simp only [List.mapM_cons, Sem.run_bind, resOf, h3, Sem.run_pure, Result.andThen_ok, ih, h4, h5]
theorem results_eq (fn : Func) (tm : Array Value) : results fn tm = (do let vs ← fn.results.mapM (resOf tm); pure (if h : vs.size = 1 then vs[0] else .tuple vs)) := rfl
def pack : List Value → Value
  | [v] => v
  | vs => .tuple vs.toArray
theorem t_ret {P : Program} {E : World} {ρ0 ρ : Hp} {n : Nat} {σ : Slots} {Γ Δ : List Asn} {fn : Func} {R : Hp → Value → List Asn → Prop} {rs : List ResultVar} {vs : List Value} {v : Value} (Γ' : List Asn)
    (hr : fn.results = rs.toArray) (hv : Res P σ Γ rs vs) (hp : pack vs = v) (hl : ρ0.le ρ) (hR : R ρ v Γ') (hΓ : Ent Γ (Γ' ++ Δ)) :
    Tr E ρ ⟨n, []⟩ σ Γ (bodyPost P fn (fun e w' => ∃ ρ' v Γ', ρ0.le ρ' ∧ R ρ' v Γ' ∧ e = .returned v ∧ sat E ρ' (Γ' ++ Δ) w') .ret) := fun a w e s => by
  refine ⟨e.defers, v, ?_, ρ, v, Γ', hl, hR, rfl, s.ent hΓ⟩
  have h1 := hv.run e s
  rw [results_eq, hr]
  simp only [List.mapM_toArray, Sem.run_bind, Sem.run_map, h1, Result.andThen_ok, Sem.run_pure]
  subst hp
  match vs with
  | [] => rfl
  | [v] => rfl
  | _ :: _ :: _ => simp [pack]
end Go.SL
