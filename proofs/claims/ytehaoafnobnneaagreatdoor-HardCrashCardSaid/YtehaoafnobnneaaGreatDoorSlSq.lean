/-
  The engine, in short words: its rules with what is always alike left to be found.
-/
import Derived.Test.YtehaoafnobnneaaGreatDoorSlZa
namespace Go.SL
open Go
section
variable {P : Program} {E : World} {ρ : Hp} {n : Fz} {σ σ' : Slots} {Γ Γ' : List Asn} {K : Act → World → Prop} {Q : Exit → Act → World → Prop}
variable {ops : Array Oper} {rest : List Oper} {d i : Nat} {op : Op} {ty : TypeId} {pos : String} {af : Array Edge} {g : Option (Nat × Bool)} {v : Value} {R : Value → List Asn → Prop} {x y z : Operand}
theorem pk_ {A : Asn} {B : List Asn} (h : Pick A B Γ Γ' := by repeat (first | exact Pick.here | apply Pick.there)) : Pick A B Γ Γ' := h
theorem en_ (h : Ent Γ Γ' := by repeat (first | exact Ent.nil _ | exact Ent.refl _ | (refine Ent.pick (by repeat (first | exact Pick.here | apply Pick.there)) ?_) | refine Ent.skip ?_)) : Ent Γ Γ' := h
theorem sl_ {pre Δ : List Asn} (h : Sel pre Γ Δ := by repeat (first | exact Sel.nil | exact Pick.here | apply Sel.cons | apply Pick.there)) : Sel pre Γ Δ := h
theorem ev_ (h : EnvLe σ' σ := by repeat (first | exact EnvLe.nil _ | refine EnvLe.cons rfl rfl ?_)) : EnvLe σ' σ := h
theorem EnvLe.c {t : Nat} {u v : Value} (r : EnvLe σ' σ) (h : get σ t = some u := by exact rfl) (e : u = v := by first | rfl | exact inte (by omega) | (simp; done) | (simp <;> omega) | simp [*]) : EnvLe ((t, v) :: σ') σ := EnvLe.cons h e r
/-! lists of operations -/
theorem e_q (h : OpQ P E ρ n σ Γ op ty v) (k : Tr E ρ n ((d, v) :: σ) Γ (wpList P ops Q rest)) (hd : Nat.ble n.n d = false := by exact rfl) :
    Tr E ρ n σ Γ (wpList P ops Q ({ dst := some d, op := op, type := ty, pos := pos, after := af, guard := none } :: rest)) := l_step (s_q hd wn h k)
theorem e_qw (hw : Wanted ops n σ g) (h : OpQ P E ρ n σ Γ op ty v) (k : Tr E ρ n ((d, v) :: σ) Γ (wpList P ops Q rest)) (hd : Nat.ble n.n d = false := by exact rfl) :
    Tr E ρ n σ Γ (wpList P ops Q ({ dst := some d, op := op, type := ty, pos := pos, after := af, guard := g } :: rest)) := l_step (s_q hd hw h k)
theorem e_mv (hx : evo σ x = some v) (k : Tr E ρ n ((d, v) :: σ) Γ (wpList P ops Q rest)) (hd : Nat.ble n.n d = false := by exact rfl) :
    Tr E ρ n σ Γ (wpList P ops Q ({ dst := some d, op := .move x, type := ty, pos := pos, after := af, guard := none } :: rest)) := l_step (s_q hd wn (q_move hx) k)
theorem e_as (hx : evo σ x = some v) (k : Tr E ρ n ((d, v) :: σ) Γ (wpList P ops Q rest)) (hd : Nat.ble n.n d = false := by exact rfl) :
    Tr E ρ n σ Γ (wpList P ops Q ({ dst := some d, op := .assign x, type := ty, pos := pos, after := af, guard := none } :: rest)) := l_step (s_q hd wn (q_assign hx) k)
theorem e_s (h : OpS P E ρ n σ Γ op ty R) (k : ∀ v Γ', R v Γ' → Tr E ρ n ((d, v) :: σ) Γ' (wpList P ops Q rest)) (hd : Nat.ble n.n d = false := by exact rfl) :
    Tr E ρ n σ Γ (wpList P ops Q ({ dst := some d, op := op, type := ty, pos := pos, after := af, guard := none } :: rest)) := l_step (s_s hd wn h k)
theorem e_fn {f : FuncId} {fn : Func} {xs : List Operand} {vs : List Value} {ats : Array TypeId} {pre Δ : List Asn} {body : Code} (hfn : P.funcs[f]? = some fn) (hx : evos σ xs = some vs)
    (sel : Sel pre Γ Δ) (sp : ∀ ρ', Lent ρ ρ' Δ → Spec0 P f vs.toArray ρ' pre R) (k : ∀ v Γ', R v Γ' → Tr E ρ n ((d, v) :: σ) (Γ' ++ Δ) (wpList P ops Q rest))
    (hb : fn.body = some body := by exact rfl) (hne : (fn.name == "runtime.NumGoroutine") = false := by kernel_rfl) (hd : Nat.ble n.n d = false := by exact rfl) :
    Tr E ρ n σ Γ (wpList P ops Q ({ dst := some d, op := .call { callee := .value (.func f), args := xs.toArray, argTypes := ats }, type := ty, pos := pos, after := af, guard := none } :: rest)) := l_step (s_fnb hd wn hfn hb hne hx sel sp k)
theorem e_fnw {f : FuncId} {fn : Func} {xs : List Operand} {vs : List Value} {ats : Array TypeId} {pre Δ : List Asn} {body : Code} (hw : Wanted ops n σ g) (hfn : P.funcs[f]? = some fn) (hx : evos σ xs = some vs)
    (sel : Sel pre Γ Δ) (sp : ∀ ρ', Lent ρ ρ' Δ → Spec0 P f vs.toArray ρ' pre R) (k : ∀ v Γ', R v Γ' → Tr E ρ n ((d, v) :: σ) (Γ' ++ Δ) (wpList P ops Q rest))
    (hb : fn.body = some body := by exact rfl) (hne : (fn.name == "runtime.NumGoroutine") = false := by kernel_rfl) (hd : Nat.ble n.n d = false := by exact rfl) :
    Tr E ρ n σ Γ (wpList P ops Q ({ dst := some d, op := .call { callee := .value (.func f), args := xs.toArray, argTypes := ats }, type := ty, pos := pos, after := af, guard := g } :: rest)) := l_step (s_fnb hd hw hfn hb hne hx sel sp k)
theorem l_n (k : Tr E ρ n σ Γ K) : Tr E ρ n σ Γ (wpList P ops (Exit.then K Q) []) := l_nil (k_then_n k)
variable {c : Code} {id : Nat}
theorem sr {l : List Oper} (h : Tr E ρ n σ Γ (wpList P l.toArray (Exit.then (c.wp P Q) Q) l)) : Tr E ρ n σ Γ ((Code.seq (.region id l.toArray false) c).wp P Q) := c_seq (c_region h)
/-! regions that are drawn -/
theorem d_r {l : List Oper} (m : Nat) (S : List Asn) (h : Tr E ρ n σ Γ (wpAnyH P .any l.toArray Q (sat E ρ S) m (Array.replicate m false))) (hm : P.follows .mixedOrders = true := by kernel_rfl) (hn : l.toArray.size = m := by exact rfl) :
    Tr E ρ n σ Γ ((Code.region id l.toArray true).wp P Q) := c_draw S hm hn (by rw [hn]) h
theorem d_t {ρ0 : Hp} {m : Nat} {bs : Array Bool} {S : List Asn} (i : Nat) (hi : ops[i]? = some { dst := some d, op := op, type := ty, pos := pos, after := af, guard := g })
    (hw : Wanted ops n σ g) (hq : OpQ P E ρ0 n σ S op ty v) (k : Tr E ρ n ((d, v) :: σ) Γ (wpAnyH P .any ops Q (sat E ρ0 S) m (bs.setIfInBounds i true)))
    (hs : Region.noSelect ops = true := by kernel_rfl) (hf : Region.free .any ops bs i = true := by kernel_rfl) (hr : (Region.ready .any ops bs).contains i = true := by kernel_rfl)
    (hQ : ∀ c a w, Q (.panic c) (a.put (some d) v) w → Q (.panic c) a w := by exact fun _ _ _ h => h) (hd : Nat.ble n.n d = false := by exact rfl) (hl : ρ0.le ρ := by exact Hp.le_refl _)
    (hΓ : Ent Γ S := by repeat (first | exact Ent.nil _ | exact Ent.refl _ | (refine Ent.pick (by repeat (first | exact Pick.here | apply Pick.there)) ?_) | refine Ent.skip ?_)) :
    Tr E ρ n σ Γ (wpAnyH P .any ops Q (sat E ρ0 S) (m + 1) bs) := r_take hi hs hf hr hQ hd hw hq hl hΓ rfl k
theorem d_g {ρ0 : Hp} {m : Nat} {bs : Array Bool} {S : List Asn} (i : Nat) (b : Bool) (hi : ops[i]? = some { dst := some d, op := op, type := ty, pos := pos, after := af, guard := g })
    (hw : Asks ops n σ g b) (hq : b = true → OpQ P E ρ0 n σ S op ty v) (k : Tr E ρ n ((d, gd b v) :: σ) Γ (wpAnyH P .any ops Q (sat E ρ0 S) m (bs.setIfInBounds i true)))
    (hs : Region.noSelect ops = true := by kernel_rfl) (hf : Region.free .any ops bs i = true := by kernel_rfl) (hr : (Region.ready .any ops bs).contains i = true := by kernel_rfl)
    (hQ : ∀ c a w, Q (.panic c) (a.put (some d) (gd b v)) w → Q (.panic c) a w := by exact fun _ _ _ h => h) (hd : Nat.ble n.n d = false := by exact rfl) (hl : ρ0.le ρ := by exact Hp.le_refl _)
    (hΓ : Ent Γ S := by repeat (first | exact Ent.nil _ | exact Ent.refl _ | (refine Ent.pick (by repeat (first | exact Pick.here | apply Pick.there)) ?_) | refine Ent.skip ?_)) :
    Tr E ρ n σ Γ (wpAnyH P .any ops Q (sat E ρ0 S) (m + 1) bs) := r_takeg hi hs hf hr hQ hd hw hq hl hΓ rfl k
theorem d_s {ρ0 : Hp} {m : Nat} {bs : Array Bool} {S : List Asn} (i : Nat) (hi : ops[i]? = some { dst := some d, op := op, type := ty, pos := pos, after := af, guard := g })
    (hw : Unwanted ops n σ g) (k : Tr E ρ n ((d, undef) :: σ) Γ (wpAnyH P .any ops Q (sat E ρ0 S) m (bs.setIfInBounds i true)))
    (hs : Region.noSelect ops = true := by kernel_rfl) (hf : Region.free .any ops bs i = true := by kernel_rfl) (hr : (Region.ready .any ops bs).contains i = true := by kernel_rfl)
    (hQ : ∀ c a w, Q (.panic c) (a.put (some d) undef) w → Q (.panic c) a w := by exact fun _ _ _ h => h) (hd : Nat.ble n.n d = false := by exact rfl) (hl : ρ0.le ρ := by exact Hp.le_refl _)
    (hΓ : Ent Γ S := by repeat (first | exact Ent.nil _ | exact Ent.refl _ | (refine Ent.pick (by repeat (first | exact Pick.here | apply Pick.there)) ?_) | refine Ent.skip ?_)) :
    Tr E ρ n σ Γ (wpAnyH P .any ops Q (sat E ρ0 S) (m + 1) bs) := r_skip hi hs hf hr hQ hd hw hl hΓ rfl k
theorem d_1 {ρ0 : Hp} {m : Nat} {bs : Array Bool} {S : List Asn} (i : Nat) (h : Tr E ρ n σ Γ (wpOp P ops Q i (fun a w => sat E ρ0 S w ∧ wpAnyH P .any ops Q (sat E ρ0 S) m (bs.setIfInBounds i true) a w))) (hr : Region.ready .any ops bs = [i] := by kernel_rfl) :
    Tr E ρ n σ Γ (wpAnyH P .any ops Q (sat E ρ0 S) (m + 1) bs) := r_one hr rfl h
theorem d_2 {ρ0 : Hp} {m : Nat} {bs : Array Bool} {S : List Asn} (i j : Nat)
    (h : Tr E ρ n σ Γ (wpOp P ops Q i (fun a w => sat E ρ0 S w ∧ wpAnyH P .any ops Q (sat E ρ0 S) m (bs.setIfInBounds i true) a w)))
    (h' : Tr E ρ n σ Γ (wpOp P ops Q j (fun a w => sat E ρ0 S w ∧ wpAnyH P .any ops Q (sat E ρ0 S) m (bs.setIfInBounds j true) a w))) (hr : Region.ready .any ops bs = [i, j] := by kernel_rfl) :
    Tr E ρ n σ Γ (wpAnyH P .any ops Q (sat E ρ0 S) (m + 1) bs) := r_two hr rfl rfl h h'
theorem d_c {ρ0 : Hp} {m : Nat} {bs : Array Bool} {S : List Asn} (h : Tr E ρ n σ Γ (wpAnyH P .any ops Q (sat E ρ0 S) m bs)) (hl : ρ0.le ρ := by exact Hp.le_refl _)
    (hΓ : Ent Γ S := by repeat (first | exact Ent.nil _ | exact Ent.refl _ | (refine Ent.pick (by repeat (first | exact Pick.here | apply Pick.there)) ?_) | refine Ent.skip ?_)) :
    Tr E ρ n σ Γ (fun a w => sat E ρ0 S w ∧ wpAnyH P .any ops Q (sat E ρ0 S) m bs a w) := r_cont hl hΓ h
theorem d_d {ρ0 : Hp} {m : Nat} {bs : Array Bool} {S : List Asn} (h : Tr E ρ n σ Γ (Q .normal)) (hr : Region.ready .any ops bs = [] := by kernel_rfl) : Tr E ρ n σ Γ (wpAnyH P .any ops Q (sat E ρ0 S) m bs) := r_done hr h
/-! ends -/
theorem t_nx {ι : Type} {J : ι → Prop} {σI : ι → Slots} {ΓI : ι → List Asn} (j : ι) (hj : J j) (hσ : EnvLe (σI j) σ)
    (hΓ : Ent Γ (ΓI j) := by repeat (first | exact Ent.nil _ | exact Ent.refl _ | (refine Ent.pick (by repeat (first | exact Pick.here | apply Pick.there)) ?_) | refine Ent.skip ?_)) : Tr E ρ n σ Γ (Next_ E ρ n J σI ΓI) := t_next j hj hσ hΓ
theorem t_rt {ρ0 : Hp} {n : Nat} {Δ : List Asn} {fn : Func} {R : Hp → Value → List Asn → Prop} {rs : List ResultVar} {vs : List Value} {v : Value} (Γ' : List Asn)
    (hr : fn.results = rs.toArray) (hv : Res P σ Γ rs vs) (hp : pack vs = v) (hR : R ρ v Γ')
    (hΓ : Ent Γ (Γ' ++ Δ) := by repeat (first | exact Ent.nil _ | exact Ent.refl _ | (refine Ent.pick (by repeat (first | exact Pick.here | apply Pick.there)) ?_) | refine Ent.skip ?_)) (hl : ρ0.le ρ := by exact Hp.le_refl _) :
    Tr E ρ ⟨n, []⟩ σ Γ (bodyPost P fn (fun e w' => ∃ ρ' v Γ', ρ0.le ρ' ∧ R ρ' v Γ' ∧ e = .returned v ∧ sat E ρ' (Γ' ++ Δ) w') .ret) := t_ret Γ' hr hv hp hl hR hΓ
end
end Go.SL
