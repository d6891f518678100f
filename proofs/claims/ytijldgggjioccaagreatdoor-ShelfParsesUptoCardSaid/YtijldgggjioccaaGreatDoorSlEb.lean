/- part -/
import Derived.Test.YtijldgggjioccaaGreatDoorSlEa
import Derived.RangeFuncCalls
import Derived.RangeFuncLeaves
import Derived.RangeFuncRecord
import Derived.RangeFuncSeq
import Derived.MapKept
import Derived.Maps.RangeRun
namespace Go.SL
open Go
def gd (b : Bool) (v : Value) : Value := bif b then v else undef
theorem gd_t {b : Bool} {v : Value} (h : b = true) : gd b v = v := by rw [h]; rfl
section
variable {P : Program} {E : World} {ρ : Hp} {n : Fz} {σ σ' : Slots} {Γ Γ' : List Asn} {K : Act → World → Prop} {Q : Exit → Act → World → Prop}
variable {ops : Array Oper} {rest : List Oper} {d : Nat} {op : Op} {ty : TypeId} {pos : String} {af : Array Edge} {g : Option (Nat × Bool)} {v : Value} {x y z : Operand}
theorem OpQ.env (l : EnvLe σ' σ) (h : OpQ P E ρ n σ' Γ op ty v) : OpQ P E ρ n σ Γ op ty v := fun a w e s => h a w (e.le l) s
def Asks (ops : Array Oper) (n : Fz) (σ : Slots) (g : Option (Nat × Bool)) (b : Bool) : Prop := (b = true → Wanted ops n σ g) ∧ (b = false → Unwanted ops n σ g)
theorem ask_t {j dj : Nat} {e : Bool} (h : (ops[j]?).bind (·.dst) = some dj) (he : get σ dj = some (.bool e)) : Asks ops n σ (some (j, true)) e :=
  ⟨fun hb => wy h he hb, fun hb => wno h he (by rw [hb]; decide)⟩
theorem ask_f {j dj : Nat} {e : Bool} (h : (ops[j]?).bind (·.dst) = some dj) (he : get σ dj = some (.bool e)) : Asks ops n σ (some (j, false)) (!e) :=
  ⟨fun hb => wy h he (by simpa using hb), fun hb => wno h he (by simpa using hb)⟩
theorem ask_gt {j dj : Nat} {b0 e : Bool} (h : (ops[j]?).bind (·.dst) = some dj) (he : get σ dj = some (gd b0 (.bool e))) : Asks ops n σ (some (j, true)) (b0 && e) := by
  cases b0 with
  | true => simpa using ask_t (n := n) h he
  | false => exact ⟨fun hb => by simp at hb, fun _ => wun h he⟩
theorem s_qg {b : Bool} (hd : Nat.ble n.n d = false) (ha : Asks ops n σ g b) (h : b = true → OpQ P E ρ n σ Γ op ty v) (k : Tr E ρ n ((d, gd b v) :: σ) Γ K) :
    Step P E ρ n σ Γ { dst := some d, op := op, type := ty, pos := pos, after := af, guard := g } ops Q K := by
  cases b with
  | true => exact s_q hd (ha.1 rfl) (h rfl) k
  | false => exact s_no hd (ha.2 rfl) k
theorem q_pick_and {e c gg : Bool} (hz : evo σ z = some (.bool e)) (hx : evo σ x = some (gd gg (.bool c))) (hy : evo σ y = some (.bool false)) (hg : e = true → gg = true) : OpQ P E ρ n σ Γ (.pick z x y) ty (.bool (e && c)) := by
  cases e with
  | true => rw [hg rfl] at hx; exact q_pick hz hx hy
  | false => exact q_pick hz hx hy
theorem q_pick_or {e c gg : Bool} (hz : evo σ z = some (.bool e)) (hx : evo σ x = some (.bool true)) (hy : evo σ y = some (gd gg (.bool c))) (hg : e = false → gg = true) : OpQ P E ρ n σ Γ (.pick z x y) ty (.bool (e || c)) := by
  cases e with
  | true => exact q_pick hz hx hy
  | false => rw [hg rfl] at hy; exact q_pick hz hx hy
theorem r_takeg {ρ0 : Hp} {m i : Nat} {b : Bool} {bs bs' : Array Bool} {S : List Asn} (hi : ops[i]? = some { dst := some d, op := op, type := ty, pos := pos, after := af, guard := g }) (hs : Region.noSelect ops = true)
    (hf : Region.free .any ops bs i = true) (hr : (Region.ready .any ops bs).contains i = true) (hQ : ∀ c a w, Q (.panic c) (a.put (some d) (gd b v)) w → Q (.panic c) a w) (hd : Nat.ble n.n d = false)
    (ha : Asks ops n σ g b) (hq : b = true → OpQ P E ρ0 n σ S op ty v) (hl : ρ0.le ρ) (hΓ : Ent Γ S) (hb : bs.setIfInBounds i true = bs')
    (k : Tr E ρ n ((d, gd b v) :: σ) Γ (wpAnyH P .any ops Q (sat E ρ0 S) m bs')) : Tr E ρ n σ Γ (wpAnyH P .any ops Q (sat E ρ0 S) (m + 1) bs) := by
  cases b with
  | true => exact r_take hi hs hf hr hQ hd (ha.1 rfl) (hq rfl) hl hΓ hb k
  | false => exact r_skip hi hs hf hr hQ hd (ha.2 rfl) hl hΓ hb k
def Lent (ρ ρ' : Hp) (Δ : List Asn) : Prop := ρ.le ρ' ∧ ∃ h, Hp.le h ρ' ∧ star Δ h
theorem Lent.ro {ρ' : Hp} {Δ : List Asn} (l : Lent ρ ρ' Δ) {sz m cap : Nat} {a : Option Addr} {cs : List Value} (h : Ro ρ sz a m cap cs) : Ro ρ' sz a m cap cs := Ro.mono l.1 h
theorem Lent.row {ρ' : Hp} {Δ Δ' : List Asn} (l : Lent ρ ρ' Δ) {T : TypeId} {sz m cap : Nat} {a : Option Addr} {cs : List Value} (p : Pick (.row T sz a m cap cs) [] Δ Δ') : Ro ρ' sz a m cap cs := by
  obtain ⟨-, h, hl, st⟩ := l; obtain ⟨h1, _, _, l1, _, a1, _⟩ := star_pick p st; exact ro_of_row ⟨h1, l1.le_trans hl, a1⟩
theorem Lent.raw {ρ' : Hp} {Δ Δ' : List Asn} (l : Lent ρ ρ' Δ) {A B : Hp → Prop} (p : Pick (.raw A) [] Δ Δ') (hB : ∀ h, A h → h.le ρ' → B ρ') : B ρ' := by
  obtain ⟨-, h, hl, st⟩ := l; obtain ⟨h1, _, _, l1, _, a1, _⟩ := star_pick p st; exact hB h1 a1 (l1.le_trans hl)
theorem lend_core {f : FuncId} {vs : Array Value} {pre Δ : List Asn} {R : Value → List Asn → Prop} (sel : Sel pre Γ Δ) (sp : ∀ ρ', Lent ρ ρ' Δ → Spec0 P f vs ρ' pre R) (w : World) (s : sat E ρ Γ w) :
    Calls P f vs w fun e w' => ∃ v Γ', R v Γ' ∧ e = .returned v ∧ sat E ρ (Γ' ++ Δ) w' := by
  obtain ⟨hx, hρ, h, hh, hd, st⟩ := s.ent sel.ent; obtain ⟨k1, k2, d, l1, l2, s1, s2⟩ := star_split st; have dk2 : k2.disj ρ := hd.disj_le l2; have dk1 : k1.disj ρ := hd.disj_le l1; refine (sp (k2.join ρ) ⟨Hp.le_joinR dk2, k2, Hp.le_joinL _ _, s2⟩ E [] w ⟨hx, Hp.join_le (l2.le_trans hh) hρ, k1, l1.le_trans hh, Hp.disj_join d dk1, by simpa using s1⟩).mono ?_; rintro e w' ⟨ρ'', v, Γ', l, ⟨rfl, hR⟩, rfl, hx', hρ', h', hh', hd', st'⟩; refine ⟨v, Γ', hR, rfl, hx', (Hp.le_joinR dk2).le_trans hρ', h'.join k2, Hp.join_le hh' ((Hp.le_joinL _ _).le_trans hρ'), ?_, ?_⟩
  · exact (Hp.disj_join (hd'.disj_le2 (Hp.le_joinR dk2)).disj_symm dk2.disj_symm).disj_symm
  · have d2 : h'.disj k2 := hd'.disj_le2 (Hp.le_joinL _ _); exact star_append (by simpa using st') s2 d2 (Hp.le_joinL _ _) (Hp.le_joinR d2)
variable {f : FuncId} {fn : Func} {xs : List Operand} {vs : List Value} {ats : Array TypeId} {pre Δ : List Asn} {R : Value → List Asn → Prop} {body : Code}
theorem run_fn {a : Act} {w : World} (e : Env n σ a) (hfn : P.funcs[f]? = some fn) (hb : fn.body = some body) (hne : (fn.name == "runtime.NumGoroutine") = false) (hx : evos σ xs = some vs) :
    (exo a.eval (.call { callee := .value (.func f), args := xs.toArray, argTypes := ats }) ty).run P w = .ok (.enter f vs.toArray) w := by
  have h2 := e.evals hx; have h3 : ¬ fn.name = "runtime.NumGoroutine" := by simpa using hne
  simp [exo, execOp, resolve, Act.eval, Deferred.ofValue, invoke, callFunc, hfn, h3, hb, h2]
theorem s_fnb (hd : Nat.ble n.n d = false) (hw : Wanted ops n σ g) (hfn : P.funcs[f]? = some fn) (hb : fn.body = some body) (hne : (fn.name == "runtime.NumGoroutine") = false) (hx : evos σ xs = some vs)
    (sel : Sel pre Γ Δ) (sp : ∀ ρ', Lent ρ ρ' Δ → Spec0 P f vs.toArray ρ' pre R) (k : ∀ v Γ', R v Γ' → Tr E ρ n ((d, v) :: σ) (Γ' ++ Δ) K) :
    Step P E ρ n σ Γ { dst := some d, op := .call { callee := .value (.func f), args := xs.toArray, argTypes := ats }, type := ty, pos := pos, after := af, guard := g } ops Q K := fun a w e s => by
  rw [if_pos (Wanted.spec (o := { dst := some d, op := .call { callee := .value (.func f), args := xs.toArray, argTypes := ats }, type := ty, pos := pos, after := af, guard := g }) hw e)]; unfold Oper.wp; rw [exo_eq, run_fn e hfn hb hne hx]; show Calls P f _ w _; refine (lend_core sel sp w s).mono ?_; rintro e' w' ⟨v, Γ', hR, rfl, s'⟩; exact k v Γ' hR _ _ (e.put hd v) s'
theorem s_fnq {v0 : Value} (hd : Nat.ble n.n d = false) (hw : Wanted ops n σ g) (hfn : P.funcs[f]? = some fn) (hb : fn.body = some body) (hne : (fn.name == "runtime.NumGoroutine") = false) (hx : evos σ xs = some vs)
    (sp : ∀ ρ', Lent ρ ρ' Γ → Spec0 P f vs.toArray ρ' [] fun v Γ' => v = v0 ∧ Γ' = []) (k : Tr E ρ n ((d, v0) :: σ) Γ K) :
    Step P E ρ n σ Γ { dst := some d, op := .call { callee := .value (.func f), args := xs.toArray, argTypes := ats }, type := ty, pos := pos, after := af, guard := g } ops Q K :=
  s_fnb hd hw hfn hb hne hx Sel.nil sp fun v Γ' h => by obtain ⟨rfl, rfl⟩ := h; exact k
theorem s_fnqg {v0 : Value} {b : Bool} (hd : Nat.ble n.n d = false) (ha : Asks ops n σ g b) (hfn : P.funcs[f]? = some fn) (hb : fn.body = some body) (hne : (fn.name == "runtime.NumGoroutine") = false)
    (hl : b = true → EnvLe σ' σ) (hx : evos σ' xs = some vs) (sp : b = true → ∀ ρ', Lent ρ ρ' Γ → Spec0 P f vs.toArray ρ' [] fun v Γ' => v = v0 ∧ Γ' = []) (k : Tr E ρ n ((d, gd b v0) :: σ) Γ K) :
    Step P E ρ n σ Γ { dst := some d, op := .call { callee := .value (.func f), args := xs.toArray, argTypes := ats }, type := ty, pos := pos, after := af, guard := g } ops Q K := by
  cases b with
  | true =>
    intro a w e s; have e' := e.le (hl rfl); rw [if_pos (Wanted.spec (o := { dst := some d, op := .call { callee := .value (.func f), args := xs.toArray, argTypes := ats }, type := ty, pos := pos, after := af, guard := g }) (ha.1 rfl) e)]; unfold Oper.wp; rw [exo_eq, run_fn e' hfn hb hne hx]; show Calls P f _ w _; refine (lend_core Sel.nil (sp rfl) w s).mono ?_; rintro e2 w' ⟨v, Γ', ⟨rfl, rfl⟩, rfl, s'⟩; exact k _ _ (e.put hd v) s'
  | false => exact s_no hd (ha.2 rfl) k
end
structure SH where
  a : Option Addr
  n : Nat
  cap : Nat
instance : Inhabited SH := ⟨⟨none, 0, 0⟩⟩
def SH.v (s : SH) : Value := .slice s.a s.n s.cap
def encSH (s : SH) : List Value := [s.v]
structure Lp (δ : Type) where
  d : δ
  a1 : Option Addr
  c1 : Nat
  a2 : Option Addr
  c2 : Nat
  a3 : Option Addr
  c3 : Nat
def encSL {α : Type} (s : SL α) : List Value := [s.v]
def encStr (s : List UInt8) : List Value := [strB s]
theorem oneStr (xs : List (List UInt8)) : ∀ u ∈ xs.flatMap encStr, u.oneCell' = true := fun u hu => by
  obtain ⟨b, _, hb⟩ := List.mem_flatMap.1 hu; simp only [encStr, List.mem_singleton] at hb; subst hb; rfl
def ptV (p : Option Nat) : Value := .pointer (p.map fun b => ⟨b, 0, none⟩)
def encPt (p : Option Nat) : List Value := [ptV p]
theorem onePt (xs : List (Option Nat)) : ∀ u ∈ xs.flatMap encPt, u.oneCell' = true := fun u hu => by
  obtain ⟨b, _, hb⟩ := List.mem_flatMap.1 hu; simp only [encPt, List.mem_singleton] at hb; subst hb; rfl
section
variable {P : Program} {E : World} {ρ : Hp} {n : Fz} {σ σ' : Slots} {Γ Γ' : List Asn} {ty : TypeId} {x y z : Operand} {v u : Value} {T T' : TypeId} {sz : Nat}
theorem q_lensB {bs : List UInt8} (hT : P.underlying T = some .string) (hx : evo σ x = some (strB bs)) : OpQ P E ρ n σ Γ (.call { callee := .builtin .len, args := #[x], argTypes := #[T] }) ty (.int .i64 (bs.length : Int)) := by
  have := q_lens (P := P) (E := E) (ρ := ρ) (n := n) (Γ := Γ) (ty := ty) hT hx; have e : (⟨bs.toArray⟩ : ByteArray).size = bs.length := by simp [ByteArray.size]
  rwa [e] at this
end
def intAt (xs : Array Value) (o : Nat) : Int := match xs[o]? with | some (.int _ n) => n | _ => 0
theorem eqF_ints {P : Program} {w : World} (d : Nat) (xs ys : Array Value) : ∀ fs : List Field, (∀ f ∈ fs, f.name ≠ "_" ∧ (∃ k, P.underlying f.type = some (.int k)) ∧ ∃ k a b, xs[f.offset]? = some (.int k a) ∧ ys[f.offset]? = some (.int k b)) →
    (Op.eqFields (d + 1) xs ys fs).run P w = .ok (decide ((fs.map (·.offset)).map (intAt xs) = (fs.map (·.offset)).map (intAt ys))) w
  | [], _ => by simp [Op.eqFields]
  | f :: fs, h => by
    obtain ⟨h1, ⟨k, hk⟩, k', a, b, hx, hy⟩ := h f (by simp); have hp : (part f.type xs f.offset).run P w = .ok (.int k' a) w := by simp [part, isAgg, run_underlying hk, hx]
    have hq : (part f.type ys f.offset).run P w = .ok (.int k' b) w := by simp [part, isAgg, run_underlying hk, hy]
    have he : (Op.equalIn (d + 1) f.type (.int k' a) (.int k' b)).run P w = .ok (a == b) w := by simp [Op.equalIn, underlying, hk]
    have ih := eqF_ints (P := P) (w := w) d xs ys fs (fun g hg => h g (by simp [hg])); simp only [Op.eqFields, h1, ne_eq, not_false_eq_true, if_true, Sem.run_bind, hp, hq, he, Result.andThen_ok]
    by_cases hab : a = b
    · subst hab; simp [ih, intAt, hx, hy]
    · have : (a == b) = false := by simpa using hab
      simp [this, intAt, hx, hy, hab]
section
variable {P : Program} {E : World} {ρ : Hp} {n : Fz} {σ : Slots} {Γ : List Asn} {ty : TypeId} {x y : Operand} {T T' : TypeId}
theorem run_eq_ints {offs : List Nat} {xs ys : Array Value} (h : intFields P T = some offs) (hv : ∀ o ∈ offs, ∃ k a b, xs[o]? = some (.int k a) ∧ ys[o]? = some (.int k b)) (w : World) :
    (Op.equalIn 10000 T (.agg xs) (.agg ys)).run P w = .ok (decide (offs.map (intAt xs) = offs.map (intAt ys))) w ∧ P.eqGuardType P.depth T = false := by
  unfold intFields at h
  split at h
  · rename_i fs hu
    split at h
    · rename_i hc
      simp only [Option.some.injEq] at h; subst h; simp only [Bool.and_eq_true, List.all_eq_true, bne_iff_ne, ne_eq, Bool.not_eq_true'] at hc; obtain ⟨⟨h1, h2⟩, h3⟩ := hc; have hf : P.underlying T = some (.struct (P.fieldsOf T)) := by unfold Program.fieldsOf; rw [hu]
      have hfs : P.fieldsOf T = fs := by rw [hu] at hf; simpa using hf.symm
      refine ⟨?_, h3⟩; rw [run_equalIn_struct w 9999 T xs ys hf h2, hfs]; refine eqF_ints 9998 xs ys fs.toList (fun f hf => ?_); obtain ⟨q1, q2⟩ := h1 f hf; refine ⟨q1, ?_, hv _ (List.mem_map_of_mem hf)⟩
      split at q2
      · rename_i k hk; exact ⟨k, hk⟩
      · cases q2
    · cases h
  · cases h
theorem q_eqlst {offs : List Nat} {xs ys : Array Value} {la lb : List Int} (h : intFields P T = some offs) (hx : evo σ x = some (.agg xs)) (hy : evo σ y = some (.agg ys)) (hv : ∀ o ∈ offs, ∃ k a b, xs[o]? = some (.int k a) ∧ ys[o]? = some (.int k b))
    (ha : offs.map (intAt xs) = la) (hb : offs.map (intAt ys) = lb) : OpQ P E ρ n σ Γ (.binOp .eql T x y T') ty (.bool (decide (la = lb))) := by
  subst ha; subst hb; exact run_binOp_any hx hy (fun w => run_eqGuard_agg w .eql T x y xs ys (run_eq_ints h hv w).2) fun w => by rw [run_eql_struct, (run_eq_ints h hv w).1]; rfl
end
theorem Pick.back {A : Asn} {Γ Γ1 : List Asn} {B : List Asn} (p : Pick A B Γ Γ1) (hB : B = []) : Ent (A :: Γ1) Γ := by
  induction p with
  | here => subst hB; exact Ent.refl _
  | there _ ih => exact Ent.pick (Pick.there Pick.here) ih
theorem Sel.back {pre Γ Δ : List Asn} (h : Sel pre Γ Δ) : Ent (pre ++ Δ) Γ := by
  induction h with
  | nil => exact Ent.refl _
  | @cons A pre Γ Γ1 Δ p _ ih => exact Ent.trans (Ent.pick (Γ1 := pre ++ Δ) Pick.here ih) (Pick.back p rfl)
section
variable {P : Program} {E : World} {ρ : Hp} {n : Fz} {σ σ' : Slots} {Γ Γ' : List Asn} {K : Act → World → Prop} {Q : Exit → Act → World → Prop}
variable {ops : Array Oper} {d : Nat} {ty : TypeId} {pos : String} {af : Array Edge} {g : Option (Nat × Bool)}
variable {f : FuncId} {fn : Func} {xs : List Operand} {vs : List Value} {ats : Array TypeId} {pre Δ : List Asn} {body : Code}
theorem s_fnr {v0 : Value} (hd : Nat.ble n.n d = false) (hw : Wanted ops n σ g) (hfn : P.funcs[f]? = some fn) (hb : fn.body = some body) (hne : (fn.name == "runtime.NumGoroutine") = false) (hx : evos σ xs = some vs)
    (sel : Sel pre Γ Δ) (sp : ∀ ρ', Lent ρ ρ' Δ → Spec0 P f vs.toArray ρ' pre fun v Γ' => v = v0 ∧ Γ' = pre) (k : Tr E ρ n ((d, v0) :: σ) Γ K) :
    Step P E ρ n σ Γ { dst := some d, op := .call { callee := .value (.func f), args := xs.toArray, argTypes := ats }, type := ty, pos := pos, after := af, guard := g } ops Q K :=
  s_fnb hd hw hfn hb hne hx sel sp fun v Γ' h => by obtain ⟨rfl, rfl⟩ := h; exact Tr.ent sel.back k
end
end Go.SL
namespace Go.SL
open Go
section
variable {P : Program} {E : World} {ρ : Hp} {n : Fz} {σ : Slots} {Γ Γ' : List Asn} {ty : TypeId} {x y : Operand} {T T' : TypeId}
end
section
variable {P : Program} {E : World} {ρ : Hp} {n : Fz} {σ : Slots} {Γ Γ' : List Asn} {ty : TypeId} {x y : Operand} {T T' : TypeId}
theorem s_appendn {α : Type} {enc : α → List Value} {a sa : Option Addr} {cap sc sz m k bytes : Nat} {e : TypeId} {xs ys : List α} {Γ' : Option Addr → Nat → List Asn} (ht : P.underlying T = some (.slice e)) (hok : elemOk P e sz bytes = true) (hs0 : 0 < sz) (hx : evo σ x = some (.slice a m cap)) (hy : evo σ y = some (.slice sa k sc))
    (rd : Rd ρ Γ sz sa k sc (ys.flatMap enc)) (h1 : ∀ u ∈ ys.flatMap enc, u.oneCell' = true) (hb : (m + k) * bytes ≤ 140737488355328) (hm : m + k ≤ 9223372036854775807)
    (p : ∀ a' cap', Pick (.row e sz a m cap (xs.flatMap enc)) [.row e sz a' (m + k) cap' ((xs ++ ys).flatMap enc)] Γ (Γ' a' cap')) :
    OpS P E ρ n σ Γ (.call { callee := .builtin .append, args := #[x, y], argTypes := #[T, T] }) ty (fun v Γ2 => ∃ a' cap', v = .slice a' (m + k) cap' ∧ Γ2 = Γ' a' cap') :=
  s_append ht hok hs0 hx hy rd h1 hb hm (fun a' cap' => by
    have := p a' cap'; rw [List.flatMap_append] at this; exact this)
end
theorem t_cutq {P : Program} {E : World} {ρ : Hp} {n : Fz} {σ : Slots} {Γ : List Asn} {Q : Exit → Act → World → Prop} {x : Code} {ι : Type} (J : ι → Prop) (σI : ι → Slots) (ΓI : ι → List Asn) (h : Tr E ρ n σ Γ (x.wp P (Exit.then (Next_ E ρ n J σI ΓI) Q))) (k : ∀ j, J j → Tr E ρ n (σI j) (ΓI j) (Q .normal)) :
    Tr E ρ n σ Γ (x.wp P Q) := fun a w e s => Code.wp_mono (fun ex a' w' hq => by
      cases ex with
      | normal => obtain ⟨j, h1, h2, h3⟩ := hq; exact k j h1 a' w' h2 h3
      | exit _ => exact hq
      | goto _ => exact hq
      | ret => exact hq
      | panic _ => exact hq
      | outgrown => exact hq) (h a w e s)
end Go.SL
set_option linter.unusedSimpArgs false
set_option linter.unusedVariables false
namespace Go.SL
open Go
abbrev WF (r : Option Nat) : Fence := { Fence.wide with round := r }
theorem callsIn_wf {r : Option Nat} {m : Nat} {P : Program} {f : FuncId} {args : Array Value} {w : World} {R : Ending → World → Prop} (h : Calls P f args w R) : CallsIn (WF r) m P f args w R :=
  callsIn_wide.2 h
theorem wpIn_of_wp {P : Program} {o : Oper} {a : Act} {w : World} {next : Act → World → Prop} {Q : Exit → Act → World → Prop} {r : Option Nat} {m : Nat} (hd : r = none ∨ ∀ c, o.op ≠ .defer c) (h : o.wp P a w next Q) : o.wpIn (WF r) m P a w next Q := by
  have hs : o.semAt r a.eval = execOp a.eval o := by
    rcases hd with rfl | hd
    · rfl
    · exact Oper.semAt_eq r a.eval o hd
  refine ⟨fun _ _ => trivial, ?_⟩; show o.uponIn (WF r) m P a next Q ((o.semAt r a.eval).run P w); rw [hs]; unfold Oper.wp at h
  generalize (execOp a.eval o).run P w = res at h ⊢
  cases res with
  | ok nx w' =>
    cases nx with
    | value v => exact h
    | skip => exact h
    | defer d => exact h
    | enter f args => exact ⟨fun q => (by cases q), callsIn_wf h⟩
    | row row args => exact ⟨fun q => (by cases q), fun c cs _ => by obtain ⟨v, w2, r2, s⟩ := h c cs; exact ⟨v, w2, r2, stepsIn_wide.2 s⟩⟩
    | _ => exact h.elim
  | halt x w' =>
    cases x with
    | panic v => exact h
    | _ => exact h.elim
section
variable {P : Program} {E : World} {ρ : Hp} {n : Fz} {σ σ' : Slots} {Γ Γ' : List Asn} {K : Act → World → Prop} {Q : Exit → Act → World → Prop}
variable {ops : Array Oper} {rest : List Oper} {o : Oper} {r : Option Nat} {m : Nat} {x y : Code} {id : Nat}
theorem li_step (hd : r = none ∨ ∀ c, o.op ≠ .defer c) (h : Step P E ρ n σ Γ o ops Q (wpListIn (WF r) m P ops Q rest)) : Tr E ρ n σ Γ (wpListIn (WF r) m P ops Q (o :: rest)) := fun a w e s => by
  unfold wpListIn; have := h a w e s
  split
  · rename_i hw; rw [if_pos hw] at this; exact wpIn_of_wp hd this
  · rename_i hw; rw [if_neg hw] at this; exact ⟨fun _ _ => trivial, this⟩
theorem li_nil (k : Tr E ρ n σ Γ (Q .normal)) : Tr E ρ n σ Γ (wpListIn (WF r) m P ops Q []) := fun a w e s => wpListIn_nil (k a w e s)
theorem i_region {l : List Oper} (h : Tr E ρ n σ Γ (wpListIn (WF r) m P l.toArray Q l)) : Tr E ρ n σ Γ ((Code.region id l.toArray false).wpIn (WF r) m P Q) := fun a w e s => wpIn_region_lit (h a w e s)
theorem i_seq (h : Tr E ρ n σ Γ (x.wpIn (WF r) m P (Exit.then (y.wpIn (WF r) m P Q) Q))) : Tr E ρ n σ Γ ((Code.seq x y).wpIn (WF r) m P Q) := fun a w e s => wpIn_seq (h a w e s)
theorem i_skip (h : Tr E ρ n σ Γ (Q .normal)) : Tr E ρ n σ Γ (Code.skip.wpIn (WF r) m P Q) := fun a w e s => wpIn_skip (h a w e s)
theorem i_exit (h : Tr E ρ n σ Γ (Q (.exit id))) : Tr E ρ n σ Γ ((Code.exit id).wpIn (WF r) m P Q) := fun a w e s => wpIn_exit (h a w e s)
theorem i_ret (h : Tr E ρ n σ Γ (Q .ret)) : Tr E ρ n σ Γ (Code.ret.wpIn (WF r) m P Q) := fun a w e s => wpIn_ret (h a w e s)
theorem i_block (h : Tr E ρ n σ Γ (x.wpIn (WF r) m P (Exit.inBlock id Q))) : Tr E ρ n σ Γ ((Code.block id x).wpIn (WF r) m P Q) := fun a w e s => wpIn_block (h a w e s)
theorem i_cond {c : Operand} {b : Bool} (hc : evo σ c = some (.bool b)) (ht : b = true → Tr E ρ n σ Γ (x.wpIn (WF r) m P Q)) (hf : b = false → Tr E ρ n σ Γ (y.wpIn (WF r) m P Q)) :
    Tr E ρ n σ Γ ((Code.cond c x y).wpIn (WF r) m P Q) := fun a w e s => wpIn_cond_split (e.eval hc) (fun h => ht h a w e s) (fun h => hf h a w e s)
theorem i_yes {c : Operand} (hc : evo σ c = some (.bool true)) (ht : Tr E ρ n σ Γ (x.wpIn (WF r) m P Q)) : Tr E ρ n σ Γ ((Code.cond c x y).wpIn (WF r) m P Q) := i_cond hc (fun _ => ht) (fun h => by cases h)
theorem i_no {c : Operand} (hc : evo σ c = some (.bool false)) (hf : Tr E ρ n σ Γ (y.wpIn (WF r) m P Q)) : Tr E ρ n σ Γ ((Code.cond c x y).wpIn (WF r) m P Q) := i_cond hc (fun h => by cases h) (fun _ => hf)
theorem i_loop {ι : Type} (J : ι → Prop) (μ : ι → Nat) (σI : ι → Slots) (ΓI : ι → List Asn) (i0 : ι) (h0 : J i0) (hσ : EnvLe (σI i0) σ) (hΓ : Ent Γ (ΓI i0))
    (round : ∀ i, J i → Tr E ρ n (σI i) (ΓI i) (x.wpIn (WF r) m P (Exit.then (Next_ E ρ n (fun j => J j ∧ μ j < μ i) σI ΓI) Q))) : Tr E ρ n σ Γ ((Code.loop x).wpIn (WF r) m P Q) := fun a w e s => by
  let S : Act → World → Nat → Prop := fun a w k => ∃ i, J i ∧ Env n (σI i) a ∧ sat E ρ (ΓI i) w ∧ μ i = k
  have least : ∀ a w, (∃ k, S a w k) → ∃ k, S a w k ∧ ∀ k', S a w k' → k ≤ k' := by
    intro a w ⟨k, hk⟩
    induction k using Nat.strongRecOn with
    | _ k ih =>
      by_cases hl : ∃ k', k' < k ∧ S a w k'
      · obtain ⟨k', h1, h2⟩ := hl; exact ih k' h1 h2
      · refine ⟨k, hk, fun k' hk' => ?_⟩
        rcases Nat.lt_or_ge k' k with h | h
        · exact absurd ⟨k', h, hk'⟩ hl
        · exact h
  refine wpIn_loop (fun a w => ∃ i, J i ∧ Env n (σI i) a ∧ sat E ρ (ΓI i) w) (fun a w => Classical.epsilon fun k => S a w k ∧ ∀ k', S a w k' → k ≤ k') ⟨i0, h0, e.le hσ, s.ent hΓ⟩ ?_; rintro a w ⟨i, hJ, he, hs⟩; obtain ⟨⟨i', hJ', he', hs', hm'⟩, -⟩ := Classical.epsilon_spec (least a w ⟨μ i, i, hJ, he, hs, rfl⟩); refine Code.wpIn_mono ?_ (round i' hJ' a w he' hs'); intro ex a' w' hq
  cases ex with
  | normal =>
    obtain ⟨j, ⟨hj1, hj2⟩, hj3, hj4⟩ := hq; refine ⟨⟨j, hj1, hj3, hj4⟩, ?_⟩; have sp := (Classical.epsilon_spec (least a' w' ⟨μ j, j, hj1, hj3, hj4, rfl⟩)).2 (μ j) ⟨j, hj1, hj3, hj4, rfl⟩; exact Nat.lt_of_le_of_lt sp (by rw [← hm']; exact hj2)
  | exit _ => exact hq
  | goto _ => exact hq
  | ret => exact hq
  | panic _ => exact hq
  | outgrown => exact hq
theorem Ent.comm (A B : List Asn) : Ent (A ++ B) (B ++ A) := fun h s => by
  obtain ⟨k1, k2, d, l1, l2, s1, s2⟩ := star_split s; exact star_append s2 s1 d.disj_symm l2 l1
theorem Ent.both {A A' B B' : List Asn} (h : Ent A A') (k : Ent B B') : Ent (A ++ B) (A' ++ B') := fun x s => by
  obtain ⟨k1, k2, d, l1, l2, s1, s2⟩ := star_split s; exact star_append (h _ s1) (k _ s2) d l1 l2
theorem Ent.assoc (A B C : List Asn) : Ent (A ++ (B ++ C)) (A ++ B ++ C) := Ent.cast (List.append_assoc A B C).symm
theorem Ent.assoc' (A B C : List Asn) : Ent (A ++ B ++ C) (A ++ (B ++ C)) := Ent.cast (List.append_assoc A B C)
def Yields (P : Program) (E : World) (ρ : Hp) (m l : Nat) (vs : List Value) (Γ : List Asn) {κ : Type} (Γt : κ → List Asn) {ι : Type} (St : ι → List Asn) : Prop :=
  ∀ w, sat E ρ Γ w → YieldAt (WF none) m P l vs.toArray w fun e w' => (e = .returned (.bool true) ∧ ∃ y, sat E ρ (Γt y) w') ∨ (e = .returned (.bool false) ∧ ∃ s, sat E ρ (St s) w')
theorem i_yield {d : Nat} {ty : TypeId} {pos : String} {af : Array Edge} {fo : Operand} {xs : List Operand} {vs : List Value} {ats : Array TypeId} {l : Nat} {κ : Type} {Γt : κ → List Asn} {ι : Type} {St : ι → List Asn}
    (hd : Nat.ble n.n d = false) (hf : evo σ fo = some (.func (.yield l) #[] #[])) (hx : evos σ xs = some vs) (hY : Yields P E ρ (m - 1) l vs Γ Γt St)
    (kt : ∀ y, Tr E ρ n ((d, .bool true) :: σ) (Γt y) (wpListIn (WF none) m P ops Q rest)) (kf : ∀ s, Tr E ρ n ((d, .bool false) :: σ) (St s) (wpListIn (WF none) m P ops Q rest)) :
    Tr E ρ n σ Γ (wpListIn (WF none) m P ops Q ({ dst := some d, op := .call { callee := .value fo, args := xs.toArray, argTypes := ats }, type := ty, pos := pos, after := af, guard := none } :: rest)) := fun a w e s => by
  unfold wpListIn; rw [if_pos (by rfl)]; refine ⟨fun _ _ => trivial, ?_⟩; obtain ⟨fn, tmps, assign, body, hy, hR⟩ := hY w s; have h1 := e.eval hf; have h2 := e.evals hx
  have hr : (Oper.semAt none a.eval { dst := some d, op := .call { callee := .value fo, args := xs.toArray, argTypes := ats }, type := ty, pos := pos, after := af, guard := none }).run P w = .ok (.round l fn tmps assign body) w := by
    rw [Oper.semAt_none]; simp [execOp, resolve, h1, Deferred.ofValue, invoke, callFunc, h2]; exact hy
  show Oper.uponIn (WF none) m P _ a _ Q _; rw [show (WF none).round = none from rfl, hr]; refine ⟨fun h => (by cases h), hR.mono ?_⟩; rintro e' w' (⟨rfl, y, s'⟩ | ⟨rfl, i, s'⟩)
  · exact kt y _ _ (e.put hd _) s'
  · exact kf i _ _ (e.put hd _) s'
def IterS (P : Program) (f : FuncId) (cap : Array Value) (ρ : Hp) (Γi : List Asn) (vals : List (List Value)) : Prop :=
  ∀ (E : World) (l m : Nat) (κ ι : Type) (I : Nat → κ → List Asn) (St : ι → List Asn),
    (∀ k (hk : k < vals.length) x, Yields P E ρ m l vals[k] (I k x ++ Γi) (fun y => I (k + 1) y ++ Γi) fun s => St s ++ Γi) →
    ∀ x0 w, sat E ρ (I 0 x0 ++ Γi) w → CallsIn (WF none) (m + 1) P f (#[.func (.yield l) #[] #[]] ++ cap) w fun e w' => ∃ v, e = .returned v ∧ ((∃ y, sat E ρ (I vals.length y ++ Γi) w') ∨ ∃ s, sat E ρ (St s ++ Γi) w')
theorem iter_of {f : FuncId} {fn : Func} {c : Code} {n : Nat} {cap : List Value} {σ : Slots} {Γi : List Asn} {vals : List (List Value)} (hf : P.funcs[f]? = some fn) (hb : fn.body = some c) (hn : fn.ntmps = n) (hl : Nat.ble (cap.length + 1) n = true)
    (hσ : enumS cap 1 = σ)
    (h : ∀ (E : World) (l m : Nat) (κ ι : Type) (I : Nat → κ → List Asn) (St : ι → List Asn), (∀ k (hk : k < vals.length) x, Yields P E ρ m l vals[k] (I k x ++ Γi) (fun y => I (k + 1) y ++ Γi) fun s => St s ++ Γi) →
      ∀ x0, Tr E ρ ⟨n, []⟩ ((0, .func (.yield l) #[] #[]) :: σ) (I 0 x0 ++ Γi) (c.wpIn (WF none) (m + 1) P (bodyPost P fn fun e w' => ∃ v, e = .returned v ∧ ((∃ y, sat E ρ (I vals.length y ++ Γi) w') ∨ ∃ s, sat E ρ (St s ++ Γi) w')))) :
    IterS P f cap.toArray ρ Γi vals := by
  intro E l m κ ι I St hY x0 w s; have hargs : (#[.func (.yield l) #[] #[]] ++ cap.toArray : Array Value) = (.func (.yield l) #[] #[] :: cap : List Value).toArray := by simp
  rw [hargs]; refine callsIn_of_wp hf hb trivial (h E l m κ ι I St hY x0 _ w ⟨rfl, ?_, ?_⟩ s)
  · have : cap.length + 1 ≤ n := by simpa using hl
    simp [hn]; omega
  · intro t v e; rw [← hσ] at e; obtain ⟨-, e'⟩ := get_enumS (.func (.yield l) #[] #[] :: cap) 0 t v e; simp only [Nat.sub_zero] at e'; have hlt : t < (.func (.yield l) #[] #[] :: cap : List Value).length := (List.getElem?_eq_some_iff.1 e').1
    have e2 : ((.func (.yield l) #[] #[] :: cap : List Value).toArray ++ Array.replicate (fn.ntmps - (.func (.yield l) #[] #[] :: cap : List Value).toArray.size) undef)[t]? = (.func (.yield l) #[] #[] :: cap : List Value)[t]? := by
      rw [Array.getElem?_append_left (by simpa using hlt)]; simp
    rw [e2, e']
theorem t_iret {fn : Func} {A : World → Prop} {n : Nat} (hr : fn.results = #[]) (h : ∀ w, sat E ρ Γ w → A w) : Tr E ρ ⟨n, []⟩ σ Γ (bodyPost P fn (fun e w' => ∃ v, e = .returned v ∧ A w') .ret) := fun a w e s => by
  refine ⟨e.defers, .tuple #[], ?_, _, rfl, h w s⟩; rw [results_eq, hr]; simp
def binds : List Nat → List Value → Slots → Slots
  | p :: ps, v :: vs, σ => binds ps vs ((p, v) :: σ)
  | _, _, σ => σ
theorem env_binds {n : Nat} : ∀ (ps : List Nat) (vs : List Value) (σ : Slots) (tm : Array Value) (ds : List Deferred), (∀ p ∈ ps, Nat.ble n p = false) → Env ⟨n, ds⟩ σ ⟨tm, ds⟩ → Env ⟨n, ds⟩ (binds ps vs σ) ⟨(ps.zip vs).foldl (fun tmps (x : Nat × Value) => tmps.setIfInBounds x.1 x.2) tm, ds⟩
  | [], _, _, _, _, _, h => h
  | _ :: _, [], _, _, _, _, h => h
  | p :: ps, v :: vs, σ, tm, ds, hp, h => by
    have := env_binds (n := n) ps vs ((p, v) :: σ) (tm.setIfInBounds p v) ds (fun q hq => hp q (by simp [hq])) (h.put (d := p) (hp p (by simp)) v); exact this
def loopRec (fn : FuncId) (a : Act) (ps : List Nat) (assign body : Code) (D : Nat) (st : LoopState) (pend : Option Code) : Loop :=
  { state := st, pending := pend, fn, tmps := a.tmps, params := ps.toArray, assign, body, defers := D }
def roundQ (E : World) (ρ : Hp) {κ : Type} (Γt : κ → List Asn) {ι : Type} (St : ι → List Asn) (Fr : List Asn) : Exit → Act → World → Prop
  | .normal, _, w => ∃ y, sat E ρ (Γt y ++ Fr) w
  | .ret, _, w => ∃ s, sat E ρ (St s ++ Fr) w
  | _, _, _ => False
theorem rq_n {κ : Type} {Γt : κ → List Asn} {Fr : List Asn} {ι : Type} {St : ι → List Asn} (y : κ) (h : Ent Γ (Γt y ++ Fr)) : Tr E ρ n σ Γ (roundQ E ρ Γt St Fr .normal) := fun _ _ _ s => ⟨y, s.ent h⟩
theorem sat.putobj {E : World} {ρ : Hp} {w : World} {b : Nat} {o0 o : Obj} {Γ Γ' : List Asn} (p : Pick (.obj b o0) [.obj b o] Γ Γ') (s : sat E ρ Γ w) : w.heap[b]? = some o0 ∧ sat E ρ Γ' (w.putObj b o) := by
  obtain ⟨e0, s'⟩ := s.put (o := o) p (b := b) (o0 := o0) (fun _ h => h) (fun h hb => ⟨h, Hp.none_, (Hp.none_disj h).disj_symm, Hp.le_refl _, Hp.none_le _, hb, trivial⟩); exact ⟨e0, s'⟩
theorem t_rangeFunc {g : Operand} {ps : List Nat} {assign body : Code} {n : Nat} {f : FuncId} {fn : Func} {c : Code} {cap : Array Value} {Γi : List Asn} {vals : List (List Value)} {κ ι ι1 : Type} (B : Nat → κ → List Asn) (x0 : κ) (St : ι → List Asn) (σ1 : Nat → κ → ι1 → Slots) (B1 : Nat → κ → ι1 → List Asn)
    (hg : evo σ g = some (.func (.func f) #[] cap)) (hfn : P.funcs[f]? = some fn) (hb : fn.body = some c) (hne : (fn.name == "runtime.NumGoroutine") = false)
    (it : IterS P f cap ρ Γi vals) (h0 : Ent Γ (B 0 x0 ++ Γi)) (hps : ∀ p ∈ ps, Nat.ble n p = false) (hlen : ∀ v ∈ vals, v.length = ps.length)
    (hassign : ∀ k (hk : k < vals.length) (x : κ) (l m : Nat) (Fr : List Asn), Tr E ρ ⟨n, []⟩ (binds ps vals[k] σ) (B k x ++ (Γi ++ Fr)) (assign.wpIn (WF (some l)) m P (Exit.then (Next_ E ρ ⟨n, []⟩ (fun _ : ι1 => True) (σ1 k x) (fun j => B1 k x j ++ (Γi ++ Fr))) (fun _ _ _ => False))))
    (hbody : ∀ k (hk : k < vals.length) (x : κ) (j : ι1) (l m : Nat) (Fr : List Asn), Tr E ρ ⟨n, []⟩ (σ1 k x j) (B1 k x j ++ (Γi ++ Fr)) (body.wpIn (WF (some l)) m P (roundQ E ρ (B (k + 1)) St (Γi ++ Fr))))
    (hdone : ∀ D x, Tr E ρ ⟨n, [{ target := .collected D, args := #[] }]⟩ σ (.obj D (.deferred (some [])) :: (B vals.length x ++ Γi)) (Q .normal))
    (hstop : ∀ D s, Tr E ρ ⟨n, [{ target := .collected D, args := #[] }]⟩ σ (.obj D (.deferred (some [])) :: (St s ++ Γi)) (Q .ret)) :
    Tr E ρ ⟨n, []⟩ σ Γ ((Code.rangeFunc g ps.toArray assign body).wp P Q) := fun a w e s => by
  refine (wpIn_wide (n := 3)).1 (wpIn_rangeFunc (F := Fence.wide) fun fnid _ => ?_); have hne' : ¬ fn.name = "runtime.NumGoroutine" := by simpa using hne
  have hgv := e.eval hg
  let D := w.heap.size
  let l := w.heap.size + 1
  let rc := loopRec fnid a ps assign body D
  let mark : List Deferred := [{ target := .collected D, args := #[] }]
  let w1 := (w.alloc (.deferred (some []))).alloc (.loop (rc .ready none))
  let I : Nat → κ → List Asn := fun k x => .obj D (.deferred (some [])) :: .obj l (.loop (rc .ready none)) :: B k x
  let St' : ι → List Asn := fun i => .obj D (.deferred (some [])) :: .obj l (.loop (rc .done (some .ret))) :: St i
  have s0 := s.ent h0
  have s1 : sat E ρ (.obj l (.loop (rc .ready none)) :: .obj D (.deferred (some [])) :: (B 0 x0 ++ Γi)) w1 := by
    have a1 := s0.alloc (.obj w.heap.size (.deferred (some []))) (.deferred (some [])) (Hp.one_at _ _); have a2 := a1.alloc (.obj (w.alloc (.deferred (some []))).heap.size (.loop (rc .ready none))) (.loop (rc .ready none)) (Hp.one_at _ _); rw [World.size_alloc] at a2; exact a2
  refine ⟨l, mark, w1, { target := .fn (.func f) cap, args := #[.func (.yield l) #[] #[]] }, w1, f, #[.func (.yield l) #[] #[]] ++ cap, w1, run_enterLoop_outer (P := P) (w := w) fnid a.tmps ps.toArray assign body, ?_, fun _ _ => trivial, ?_, fun h => (by cases h), ?_⟩
  · have hc : a.eval (.const (.func (.yield l) #[] #[])) = .func (.yield l) #[] #[] := rfl; simp [resolve, hgv, Deferred.ofValue, hc]
  · simp [invoke, callFunc, hfn, hne', hb]
  · refine CallsIn.mono (it E l 1 κ ι I St' ?_ x0 w1 (s1.ent (Ent.pick (Pick.there Pick.here) (Ent.pick Pick.here (Ent.refl _))))) ?_
    · 
      intro k hk x W sW; have perm : ∀ (A1 A2 : Asn) (X : List Asn), Ent (A1 :: A2 :: (X ++ Γi)) (X ++ (Γi ++ [A1, A2])) := fun A1 A2 X => Ent.trans (Ent.comm [A1, A2] (X ++ Γi)) (Ent.assoc' _ _ _); have perm2 : ∀ (A1 A2 : Asn) (X : List Asn), Ent (X ++ (Γi ++ [A1, A2])) (A1 :: A2 :: (X ++ Γi)) := fun A1 A2 X => Ent.trans (Ent.assoc _ _ _) (Ent.comm (X ++ Γi) [A1, A2]); have hl : W.heap[l]? = some (.loop (rc .ready none)) := (sat.putobj (o0 := .loop (rc .ready none)) (b := l) (o := .loop (rc .ready none)) (Pick.there Pick.here) sW).1
      have hsz : vals[k].toArray.size = (rc .ready none).params.size := by
        show vals[k].toArray.size = ps.toArray.size; simp [hlen _ (List.getElem_mem hk)]
      refine ⟨fnid, _, assign, body, run_yield hl hsz, roundIn_of_wpIn trivial ?_⟩
      have htm : (((rc .ready none).params.zip vals[k].toArray).foldl (fun tmps (t, a) => tmps.setIfInBounds t a) (rc .ready none).tmps) = (ps.zip vals[k]).foldl (fun tmps (x : Nat × Value) => tmps.setIfInBounds x.1 x.2) a.tmps := by
        show ((ps.toArray.zip vals[k].toArray).foldl (fun tmps (t, a) => tmps.setIfInBounds t a) a.tmps) = _; simp
      rw [htm]; have hA := hassign k hk x l 1 [.obj D (.deferred (some [])), .obj l (.loop (rc .ready none))] _ W (env_binds ps vals[k] σ a.tmps [] hps ⟨rfl, e.size, e.get⟩) (sW.ent (perm _ _ _)); refine wpIn_mono hA ?_; rintro ex a1 w2 hq
      cases ex with
      | normal =>
        obtain ⟨j, -, hE, hs⟩ := hq; obtain ⟨hl2, s2⟩ := sat.putobj (o0 := .loop (rc .ready none)) (b := l) (o := .loop { (rc .ready none) with state := .busy }) (Pick.there Pick.here) (hs.ent (perm2 _ _ _)); refine ⟨_, run_beginRound hl2 rfl, ?_⟩; refine wpIn_mono (hbody k hk x j l 1 [.obj D (.deferred (some [])), .obj l (.loop { (rc .ready none) with state := .busy })] _ _ hE (s2.ent (perm _ _ _))) ?_; rintro ex a3 w3 hq
        cases ex with
        | normal =>
          obtain ⟨y, hq⟩ := hq; obtain ⟨hl3, s3⟩ := sat.putobj (o0 := .loop { (rc .ready none) with state := .busy }) (b := l) (o := .loop (rc .ready none)) (Pick.there Pick.here) (sat.ent (perm2 _ _ (B (k + 1) y)) hq); exact ⟨_, _, run_endRound none hl3, .inl ⟨rfl, y, s3⟩⟩
        | ret =>
          obtain ⟨i, hq⟩ := hq; obtain ⟨hl3, s3⟩ := sat.putobj (o0 := .loop { (rc .ready none) with state := .busy }) (b := l) (o := .loop (rc .done (some .ret))) (Pick.there Pick.here) (sat.ent (perm2 _ _ (St i)) hq); exact ⟨_, _, run_endRound (some .ret) hl3, .inr ⟨rfl, i, s3⟩⟩
        | exit _ => exact hq.elim
        | goto _ => exact hq.elim
        | panic _ => exact hq.elim
        | outgrown => exact hq.elim
      | exit _ => exact hq.elim
      | goto _ => exact hq.elim
      | ret => exact hq.elim
      | panic _ => exact hq.elim
      | outgrown => exact hq.elim
    · rintro e' w3 ⟨v, rfl, ⟨y, s3⟩ | ⟨i, s3⟩⟩
      · obtain ⟨hl, s4⟩ := sat.putobj (o0 := .loop (rc .ready none)) (b := l) (o := .loop { (rc .ready none) with state := .exhausted }) (Pick.there Pick.here) s3; refine ⟨none, _, run_endLoop hl (fun h => by cases h), ?_⟩; refine hdone D y _ _ ⟨?_, e.size, e.get⟩ (s4.ent ?_)
        · show mark ++ a.defers = _; rw [e.defers]; rfl
        · exact Ent.pick Pick.here (Ent.skip (Ent.refl _))
      · obtain ⟨hl, s4⟩ := sat.putobj (o0 := .loop (rc .done (some .ret))) (b := l) (o := .loop { (rc .done (some .ret)) with state := .exhausted }) (Pick.there Pick.here) s3; refine ⟨some .ret, _, run_endLoop hl (fun h => by cases h), ?_⟩; refine wpIn_ret (hstop D i _ _ ⟨?_, e.size, e.get⟩ (s4.ent ?_))
        · show mark ++ a.defers = _; rw [e.defers]; rfl
        · exact Ent.pick Pick.here (Ent.skip (Ent.refl _))
def bodyPostN (P : Program) (fn : Func) (R : Ending → World → Prop) : Exit → Act → World → Prop
  | .panic _, _, _ => False
  | ex, a, w => bodyPostM Fence.wide 0 P fn R ex a w
theorem bodyPostN_le {fn : Func} {R : Ending → World → Prop} : ∀ ex a w, bodyPostN P fn R ex a w → bodyPostM Fence.wide 0 P fn R ex a w := fun ex a w h => by
  cases ex <;> first | exact h | exact h.elim
theorem spec_ofM {f : FuncId} {fn : Func} {c : Code} {n : Nat} {vs : List Value} {R : Hp → Value → List Asn → Prop} (hf : P.funcs[f]? = some fn) (hb : fn.body = some c)
    (hn : fn.ntmps = n) (hl : Nat.ble vs.length n = true) (hσ : enumS vs 0 = σ)
    (h : ∀ (E : World) (Δ : List Asn), Tr E ρ ⟨n, []⟩ σ (Γ ++ Δ) (c.wp P (bodyPostN P fn fun e w' => ∃ ρ' v Γ', ρ.le ρ' ∧ R ρ' v Γ' ∧ e = .returned v ∧ sat E ρ' (Γ' ++ Δ) w'))) : Spec P f vs.toArray ρ Γ R := by
  intro E Δ w s; refine callsIn_wide.1 (callsIn_of_wp_marks (F := Fence.wide) (n := 0) hf hb trivial (wpIn_wide.2 ((wpIn_wide (n := 0)).1 (wpIn_mono ((wpIn_wide (n := 0)).2 (h E Δ _ w ⟨rfl, ?_, ?_⟩ s)) bodyPostN_le))) rfl)
  · have : vs.length ≤ n := by simpa using hl
    simp [hn]; omega
  · intro t v e; rw [← hσ] at e; obtain ⟨-, e'⟩ := get_enumS vs 0 t v e; simp only [Nat.sub_zero] at e'; have hlt : t < vs.length := (List.getElem?_eq_some_iff.1 e').1
    have e2 : (vs.toArray ++ Array.replicate (fn.ntmps - vs.toArray.size) undef)[t]? = vs[t]? := by
      rw [Array.getElem?_append_left (by simpa using hlt)]; simp
    rw [e2, e']
theorem t_retM {ρ0 ρ : Hp} {n D : Nat} {Δ Γ1 : List Asn} {fn : Func} {R : Hp → Value → List Asn → Prop} {rs : List ResultVar} {vs : List Value} {v : Value} (Γ' : List Asn)
    (h0 : Ent Γ (.obj D (.deferred (some [])) :: Γ1)) (hr : fn.results = rs.toArray) (hv : Res P σ Γ1 rs vs) (hp : pack vs = v) (hl : ρ0.le ρ) (hR : R ρ v Γ') (hΓ : Ent Γ1 (Γ' ++ Δ)) :
    Tr E ρ ⟨n, [{ target := .collected D, args := #[] }]⟩ σ Γ (bodyPostN P fn (fun e w' => ∃ ρ' v Γ', ρ0.le ρ' ∧ R ρ' v Γ' ∧ e = .returned v ∧ sat E ρ' (Γ' ++ Δ) w') .ret) := fun a w e s => by
  show LeavesInM Fence.wide 0 P fn a.tmps _ a.defers .returning w; rw [e.defers]; obtain ⟨hD, s1⟩ := sat.putobj (o := .deferred none) Pick.here (s.ent h0); obtain ⟨-, v', h1, h2⟩ := t_ret (R := R) Γ' hr hv hp hl hR hΓ ⟨a.tmps, []⟩ _ ⟨rfl, e.size, e.get⟩ (s1.ent (Ent.skip (Ent.refl _))); exact ⟨by simp, .inl ⟨D, _, rfl, run_takeDeferred hD, v', h1, h2⟩⟩
end
end Go.SL
namespace Go.SL
open Go
section
variable {E : World} {ρ : Hp} {Γ Γ' : List Asn} {A : Asn} {L : List Asn}
theorem Ent.app (A B : List Asn) : Ent (A ++ B) A := fun h s => by
  obtain ⟨k1, k2, d, l1, l2, s1, s2⟩ := star_split s; exact star_up l1 s1
theorem q_as {P : Program} {n : Fz} {σ : Slots} {op : Op} {ty : TypeId} {u v : Value} (h : OpQ P E ρ n σ Γ op ty u) (e : u = v) : OpQ P E ρ n σ Γ op ty v := e ▸ h
def Bun (L : List Asn) : Asn := .raw (star L)
theorem bun_in (L Γ : List Asn) : Ent (L ++ Γ) (Bun L :: Γ) := Ent.pack (fun h s => s)
theorem bun_out (L Γ : List Asn) : Ent (Bun L :: Γ) (L ++ Γ) := fun h ⟨_, _, d, l1, l2, a, s⟩ => star_append a s d l1 l2
theorem bun_nil (Γ : List Asn) : Ent Γ (Bun [] :: Γ) := bun_in [] Γ
theorem bun_snoc (A : Asn) (L Γ : List Asn) : Ent (A :: Bun L :: Γ) (Bun (L ++ [A]) :: Γ) := by
  refine Ent.trans (Ent.both (A := [A]) (Ent.refl _) (bun_out L Γ)) ?_; refine Ent.trans (B := (L ++ [A]) ++ Γ) ?_ (bun_in _ _); refine Ent.trans (Ent.assoc [A] L Γ) (Ent.both (Ent.comm _ _) (Ent.refl _))
theorem pick_idx : ∀ (L : List Asn) (i : Nat) (h : i < L.length), Pick L[i] [] L (L.eraseIdx i)
  | _ :: _, 0, _ => Pick.here
  | _ :: L, i + 1, h => Pick.there (pick_idx L i (by simpa using h))
theorem bun_get (L : List Asn) (Γ : List Asn) (i : Nat) (h : i < L.length) : Ent (Bun L :: Γ) (L[i] :: Bun (L.eraseIdx i) :: Γ) := by
  refine Ent.trans (bun_out L Γ) ?_; refine Ent.trans (Ent.both (Ent.pick (pick_idx L i h) (Ent.refl _)) (Ent.refl Γ)) ?_; exact Ent.both (A := [L[i]]) (Ent.refl _) (bun_in _ _)
theorem ent_set : ∀ (L : List Asn) (i : Nat) (A : Asn), i < L.length → Ent (A :: L.eraseIdx i) (L.set i A)
  | _ :: _, 0, _, _ => Ent.refl _
  | x :: L, i + 1, A, h => Ent.pick (Pick.there Pick.here) (ent_set L i A (by simpa using h))
theorem bun_set (L : List Asn) (Γ : List Asn) (i : Nat) (A : Asn) (h : i < L.length) : Ent (A :: Bun (L.eraseIdx i) :: Γ) (Bun (L.set i A) :: Γ) := by
  refine Ent.trans (Ent.both (A := [A]) (Ent.refl _) (bun_out _ Γ)) ?_; refine Ent.trans (B := L.set i A ++ Γ) ?_ (bun_in _ _); exact Ent.both (A := A :: L.eraseIdx i) (ent_set L i A h) (Ent.refl _)
theorem star_idx {h : Hp} : ∀ {L : List Asn}, star L h → ∀ A ∈ L, ∃ h1, h1.le h ∧ A.sat h1
  | x :: L, ⟨h1, h2, _, l1, l2, a, s⟩, A, hm => by
    rcases List.mem_cons.1 hm with rfl | hm
    · exact ⟨h1, l1, a⟩
    · obtain ⟨h3, l3, a3⟩ := star_idx s A hm; exact ⟨h3, l3.le_trans l2, a3⟩
theorem Lent.bun {ρ' : Hp} {Δ Δ' : List Asn} (l : Lent ρ ρ' Δ) (p : Pick (Bun L) [] Δ Δ') {T : TypeId} {sz m cap : Nat} {a : Option Addr} {cs : List Value} (hm : Asn.row T sz a m cap cs ∈ L) : Ro ρ' sz a m cap cs := by
  obtain ⟨-, h, hl, st⟩ := l; obtain ⟨h1, _, _, l1, _, a1, _⟩ := star_pick p st; obtain ⟨h2, l2, a2⟩ := star_idx a1 _ hm; exact ro_of_row ⟨h2, l2.le_trans (l1.le_trans hl), a2⟩
theorem rd_bun {T : TypeId} {sz m cap : Nat} {a : Option Addr} {cs : List Value} (p : Pick (Bun L) [Bun L] Γ Γ) (hm : Asn.row T sz a m cap cs ∈ L) : Rd ρ Γ sz a m cap cs := fun _ _ s => by
  obtain ⟨h1, _, _, l1, _, hA, _⟩ := s.pick p; obtain ⟨h2, l2, a2⟩ := star_idx hA _ hm; obtain ⟨x1, x2, x3, x4⟩ := rowIn.reads a2; exact ⟨x1, x2, x3, fun j c e => let ⟨ad, e1, e2⟩ := x4 j c e; ⟨ad, e1, cell_of_le (l2.le_trans l1) e2⟩⟩
theorem Ro.cut2e {α : Type} {enc : α → List Value} {sz n cap : Nat} {a : Option Addr} {xs : List α} (h : Ro ρ sz a n cap (xs.flatMap enc)) (he : ∀ x, (enc x).length = sz) (i e : Nat) (h1 : i ≤ e) (h2 : e ≤ n) : Ro ρ sz (sh a cap i sz) (e - i) (cap - i) (((xs.take e).drop i).flatMap enc) := by
  rw [← flat_drop he, ← flat_take he]; exact (h.take e h2).drop i h1
variable {P : Program} {n : Fz} {σ : Slots} {ty : TypeId} {x y : Operand} {T T' : TypeId}
theorem q_neqs {c d : ByteArray} (hx : evo σ x = some (.string c)) (hy : evo σ y = some (.string d)) : OpQ P E ρ n σ Γ (.binOp .neq T x y T') ty (.bool (!decide (c = d))) :=
  run_binOp_any hx hy (fun w => by simp [eqGuard]) fun w => by
    have : (c.toList == d.toList) = decide (c = d) := by
      by_cases h : c = d
      · simp [h]
      · have h' : c.toList ≠ d.toList := fun e => h (by
          have : c.data.toList = d.data.toList := by simpa [ByteArray.toList_eq] using e
          cases c; cases d; simp_all [Array.ext_iff])
        simp [h, h']
    simp [binOp, Op.stringOp, this]
theorem q_neqsB {p q : List UInt8} (hx : evo σ x = some (strB p)) (hy : evo σ y = some (strB q)) : OpQ P E ρ n σ Γ (.binOp .neq T x y T') ty (.bool (!decide (p = q))) := by
  have := q_neqs (P := P) (E := E) (ρ := ρ) (n := n) (Γ := Γ) (T := T) (T' := T') (ty := ty) hx hy
  rwa [decide_eq_decide.2 (strB_eq p q)] at this
theorem in_map {α : Type} [Inhabited α] {f : α → Asn} {l : List α} {A : Asn} (k : Nat) (h : k < l.length) (e : f (l.getD k default) = A) : A ∈ l.map f := List.mem_map.2 ⟨_, getD_mem l k h, e⟩
end
end Go.SL
set_option linter.unusedSectionVars false
namespace Go.SL
open Go Go.MapKept
section
variable {K V : Type} [DecidableEq K]
def mget : List (K × V) → K → Option V
  | [], _ => none
  | (a, v) :: m, k => if a = k then some v else mget m k
def mhas (m : List (K × V)) (k : K) : Bool := (mget m k).isSome
def mgetD (m : List (K × V)) (k : K) (z : V) : V := (mget m k).getD z
def mset : List (K × V) → K → V → List (K × V)
  | [], k, v => [(k, v)]
  | (a, u) :: m, k, v => if a = k then (k, v) :: m else (a, u) :: mset m k v
def mdel : List (K × V) → K → List (K × V)
  | [], _ => []
  | (a, u) :: m, k => if a = k then m else (a, u) :: mdel m k
def mkeys (m : List (K × V)) : List K := m.map (·.1)
theorem mget_set (m : List (K × V)) (k : K) (v : V) (k' : K) : mget (mset m k v) k' = if k = k' then some v else mget m k' := by
  induction m with
  | nil => simp [mset, mget]
  | cons p m ih =>
    obtain ⟨a, u⟩ := p; simp only [mset]
    by_cases h : a = k
    · subst h
      by_cases h2 : a = k' <;> simp [mget, h2]
    · rw [if_neg h]; simp only [mget, ih]
      by_cases h2 : a = k'
      · subst h2; simp [Ne.symm h]
      · simp [h2]
theorem mget_none {m : List (K × V)} {k : K} : mget m k = none ↔ k ∉ mkeys m := by
  induction m with
  | nil => simp [mget, mkeys]
  | cons p m ih =>
    obtain ⟨a, u⟩ := p; simp only [mget, mkeys, List.map_cons, List.mem_cons] at ih ⊢
    by_cases h : a = k
    · subst h; simp
    · simp [h, ih, mkeys, Ne.symm h, eq_comm]
theorem mhas_iff {m : List (K × V)} {k : K} : mhas m k = true ↔ k ∈ mkeys m := by
  unfold mhas; rw [Option.isSome_iff_ne_none, ne_eq, mget_none, Decidable.not_not]
theorem mkeys_set (m : List (K × V)) (k : K) (v : V) : mkeys (mset m k v) = if k ∈ mkeys m then mkeys m else mkeys m ++ [k] := by
  induction m with
  | nil => simp [mset, mkeys]
  | cons p m ih =>
    obtain ⟨a, u⟩ := p; simp only [mset]
    by_cases h : a = k
    · subst h; simp [mkeys]
    · rw [if_neg h]; simp only [mkeys, List.map_cons, List.mem_cons] at ih ⊢; rw [ih]
      by_cases h2 : k ∈ List.map (·.1) m
      · simp [h2]
      · simp [h2, Ne.symm h]
theorem mset_nodup {m : List (K × V)} (h : (mkeys m).Nodup) (k : K) (v : V) : (mkeys (mset m k v)).Nodup := by
  rw [mkeys_set]
  split
  · exact h
  · rename_i hn
    exact List.nodup_append.2 ⟨h, by simp, fun a ha b hb => by simp at hb; subst hb; exact fun e => hn (e ▸ ha)⟩
theorem mset_len (m : List (K × V)) (k : K) (v : V) : (mset m k v).length ≤ m.length + 1 := by
  have := congrArg List.length (mkeys_set m k v)
  by_cases h : k ∈ mkeys m
  · rw [if_pos h] at this; simp only [mkeys, List.length_map] at this; omega
  · rw [if_neg h] at this; simp only [mkeys, List.length_map, List.length_append, List.length_singleton] at this; omega
theorem mkeys_del {m : List (K × V)} (k : K) : mkeys (mdel m k) = (mkeys m).erase k := by
  induction m with
  | nil => simp [mdel, mkeys]
  | cons p m ih =>
    obtain ⟨a, u⟩ := p; simp only [mdel]
    by_cases h : a = k
    · subst h; simp [mkeys]
    · rw [if_neg h]; simp only [mkeys, List.map_cons] at ih ⊢; rw [ih, List.erase_cons_tail (by simpa using h)]
theorem mdel_nodup {m : List (K × V)} (h : (mkeys m).Nodup) (k : K) : (mkeys (mdel m k)).Nodup := by rw [mkeys_del]; exact h.erase k
theorem mget_del {m : List (K × V)} (h : (mkeys m).Nodup) (k k' : K) : mget (mdel m k) k' = if k = k' then none else mget m k' := by
  induction m with
  | nil => simp [mdel, mget]
  | cons p m ih =>
    obtain ⟨a, u⟩ := p; have h1 := List.nodup_cons.1 h; simp only [mdel]
    by_cases e : a = k
    · subst e; rw [if_pos rfl]
      by_cases e2 : a = k'
      · subst e2; rw [if_pos rfl, mget_none]; exact h1.1
      · simp [mget, e2]
    · rw [if_neg e]; simp only [mget, ih h1.2]
      by_cases e2 : a = k'
      · subst e2; simp [Ne.symm e]
      · simp [e2]
theorem mget_some {m : List (K × V)} {k : K} {v : V} (h : mget m k = some v) : (k, v) ∈ m := by
  induction m with
  | nil => cases h
  | cons p m ih =>
    obtain ⟨a, u⟩ := p; simp only [mget] at h
    split at h
    · rename_i e; subst e; cases h; exact List.mem_cons_self
    · exact List.mem_cons_of_mem _ (ih h)
theorem mget_of_mem {m : List (K × V)} (hn : (mkeys m).Nodup) {k : K} {v : V} (h : (k, v) ∈ m) : mget m k = some v := by
  induction m with
  | nil => cases h
  | cons p m ih =>
    obtain ⟨a, u⟩ := p; have h1 := List.nodup_cons.1 hn; simp only [mget]
    rcases List.mem_cons.1 h with e | e
    · cases e; rw [if_pos rfl]
    · rw [if_neg (fun e2 => h1.1 (by show a ∈ _; rw [e2]; exact List.mem_map.2 ⟨_, e, rfl⟩))]; exact ih h1.2 e
theorem mset_at : ∀ (m : List (K × V)) (j : Nat) (k : K) (u v : V), (mkeys m).Nodup → m[j]? = some (k, u) → mset m k v = m.set j (k, v)
  | [], j, _, _, _, _, h => by simp at h
  | (a, w) :: m, 0, k, u, v, _, h => by simp at h; obtain ⟨rfl, rfl⟩ := h; simp [mset]
  | (a, w) :: m, j + 1, k, u, v, hn, h => by
    have h1 := List.nodup_cons.1 hn; have hm : (k, u) ∈ m := List.mem_of_getElem? (by simpa using h); have : a ≠ k := fun e => h1.1 (e ▸ List.mem_map.2 ⟨_, hm, rfl⟩); simp only [mset, if_neg this, List.set_cons_succ]; rw [mset_at m j k u v h1.2 (by simpa using h)]
theorem mset_new : ∀ (m : List (K × V)) (k : K) (v : V), k ∉ mkeys m → mset m k v = m ++ [(k, v)]
  | [], _, _, _ => rfl
  | (a, w) :: m, k, v, h => by
    simp only [mkeys, List.map_cons, List.mem_cons, not_or] at h; simp only [mset, if_neg (Ne.symm h.1), List.cons_append]; rw [mset_new m k v h.2]
theorem mdel_at : ∀ (m : List (K × V)) (j : Nat) (k : K) (u : V), (mkeys m).Nodup → m[j]? = some (k, u) → mdel m k = m.eraseIdx j
  | [], j, _, _, _, h => by simp at h
  | (a, w) :: m, 0, k, u, _, h => by simp at h; obtain ⟨rfl, rfl⟩ := h; simp [mdel]
  | (a, w) :: m, j + 1, k, u, hn, h => by
    have h1 := List.nodup_cons.1 hn; have hm : (k, u) ∈ m := List.mem_of_getElem? (by simpa using h); have : a ≠ k := fun e => h1.1 (e ▸ List.mem_map.2 ⟨_, hm, rfl⟩); simp only [mdel, if_neg this, List.eraseIdx_cons_succ]; rw [mdel_at m j k u h1.2 (by simpa using h)]
theorem mdel_no : ∀ (m : List (K × V)) (k : K), k ∉ mkeys m → mdel m k = m
  | [], _, _ => rfl
  | (a, w) :: m, k, h => by
    simp only [mkeys, List.map_cons, List.mem_cons, not_or] at h; simp only [mdel, if_neg (Ne.symm h.1)]; rw [mdel_no m k h.2]
end
def mapIn (b : Nat) (kvs : List (Value × Value)) (h : Hp) : Prop :=
  ∃ es clock, h b = some (.map es clock) ∧ Stamped es clock ∧ es.toList.map (fun e => (e.key, e.val)) = kvs
def MP {K V : Type} (ek : K → Value) (ev : V → Value) (b : Nat) (m : List (K × V)) : Asn := .raw (mapIn b (m.map fun p => (ek p.1, ev p.2)))
structure MKey (P : Program) (kt : TypeId) {K : Type} (ek : K → Value) : Prop where
  ex : ∃ d, P.underlying kt = some d ∧ ∀ k, IsKey d (ek k)
  inj : ∀ a b, ek a = ek b → a = b
theorem mkey_str {P : Program} {kt : TypeId} (h : P.underlying kt = some .string) : MKey P kt strB := ⟨⟨_, h, fun _ => trivial⟩, fun a b e => by simpa [strB] using e⟩
section
variable {P : Program} {E : World} {ρ : Hp} {n : Fz} {σ : Slots} {Γ Γ' : List Asn} {ty : TypeId} {x y z : Operand} {v u : Value} {T kt et : TypeId}
variable {K V : Type} [DecidableEq K] {ek : K → Value} {ev : V → Value} {b : Nat} {m : List (K × V)} {k : K}
theorem find_at (hk : MKey P kt ek) {es : Array MapEntry} {clock : Nat} (hs : Stamped es clock) (he : es.toList.map (fun e => (e.key, e.val)) = m.map fun p => (ek p.1, ev p.2)) (k : K) :
    ∃ d, P.underlying kt = some d ∧ IsKey d (ek k) ∧ (mkeys m).Nodup ∧ (∀ x ∈ es.toList, IsKey d x.key) ∧
      ((k ∉ mkeys m ∧ Instr.findNow d (ek k) es.toList 0 = some none ∧ ∀ x ∈ es.toList, x.key ≠ ek k) ∨
       ∃ j v e, m[j]? = some (k, v) ∧ mget m k = some v ∧ Instr.findNow d (ek k) es.toList 0 = some (some (j, ev v)) ∧ es[j]? = some e ∧ e.key = ek k ∧ e.val = ev v) := by
  obtain ⟨⟨d, hd, hik⟩, inj⟩ := hk
  have hkeys : es.toList.map (·.key) = (mkeys m).map ek := by
    have := congrArg (List.map (·.1)) he; simpa [mkeys, Function.comp_def] using this
  have hnd : (mkeys m).Nodup := by
    have h3 := hs.2.2; rw [hkeys] at h3; exact List.Pairwise.of_map ek (fun a b h e => h (by rw [e])) h3
  have hall : ∀ x ∈ es.toList, IsKey d x.key := fun x hx => by
    have : x.key ∈ es.toList.map (·.key) := List.mem_map.2 ⟨x, hx, rfl⟩; rw [hkeys] at this; obtain ⟨a, _, e⟩ := List.mem_map.1 this; rw [← e]; exact hik a
  refine ⟨d, hd, hik k, hnd, hall, ?_⟩
  rcases findNow_spec (hik k) es.toList 0 hall with ⟨h1, h2⟩ | ⟨j, e, h1, h2, h3⟩
  · refine .inl ⟨fun hm => ?_, h1, h2⟩; have : ek k ∈ es.toList.map (·.key) := by rw [hkeys]; exact List.mem_map.2 ⟨k, hm, rfl⟩
    obtain ⟨x, hx, e⟩ := List.mem_map.1 this; exact h2 x hx e
  · right
    have hj := congrArg (fun l => l[j]?) he; simp only [List.getElem?_map, h2, Option.map_some] at hj
    cases hm : m[j]? with
    | none => rw [hm] at hj; cases hj
    | some p =>
      rw [hm] at hj; simp only [Option.map_some, Option.some.injEq, Prod.mk.injEq] at hj; have e1 : p.1 = k := inj _ _ (by rw [← hj.1, h3]); obtain ⟨a, v⟩ := p; simp only at e1 hj; subst e1; refine ⟨j, v, e, hm, mget_of_mem hnd (List.mem_of_getElem? hm), by rw [h1, hj.2]; simp, by simpa using h2, h3, hj.2⟩
theorem mp_at (p : Pick (MP ek ev b m) [MP ek ev b m] Γ Γ) {w : World} (s : sat E ρ Γ w) : ∃ es clock, w.heap[b]? = some (.map es clock) ∧ Stamped es clock ∧ es.toList.map (fun e => (e.key, e.val)) = m.map fun p => (ek p.1, ev p.2) := by
  obtain ⟨h1, _, _, l1, _, ⟨es, clock, hb, hs, he⟩, _⟩ := s.pick p; exact ⟨es, clock, l1.at_ _ _ hb, hs, he⟩
def zeroIs (P : Program) (t : TypeId) (v : Value) : Prop := (P.info? t).bind (·.zero) = some v
theorem run_zeroIs {v : Value} (h : zeroIs P et v) (w : World) : (zeroValue et).run P w = .ok v w := by
  unfold zeroIs at h; unfold zeroValue typeInfo
  cases hi : P.info? et with
  | none => rw [hi] at h; cases h
  | some i => rw [hi] at h; simp at h; simp [hi, h]
theorem run_lookup_mp (hT : P.underlying T = some (.map kt et)) (hk : MKey P kt ek) {zv : V} (hz : zeroIs P et (ev zv)) (c : Bool) {w : World} {es : Array MapEntry} {clock : Nat} (hb : w.heap[b]? = some (.map es clock)) (hs : Stamped es clock) (he : es.toList.map (fun e => (e.key, e.val)) = m.map fun p => (ek p.1, ev p.2)) :
    (Instr.lookup T (.map (some b)) (ek k) c).run P w = .ok (if c then .tuple #[ev (mgetD m k zv), .bool (mhas m k)] else ev (mgetD m k zv)) w := by
  obtain ⟨d, hd, hik, hnd, hall, h⟩ := find_at hk hs he k
  rcases h with ⟨hn, h1, _⟩ | ⟨j, v, e, hm, hg, h1, _⟩
  · have hg := mget_none.2 hn; simp [Instr.lookup, run_underlying hT, Go.MapKept.run_getObj_map hb, Go.MapKept.run_checkKey hd hik, Go.MapKept.run_findKey hd h1, run_zeroIs hz, mgetD, mhas, hg]
  · simp [Instr.lookup, run_underlying hT, Go.MapKept.run_getObj_map hb, Go.MapKept.run_checkKey hd hik, Go.MapKept.run_findKey hd h1, mgetD, mhas, hg]
theorem q_look {zv : V} (hT : P.underlying T = some (.map kt et)) (hk : MKey P kt ek) (hz : zeroIs P et (ev zv)) (hx : evo σ x = some (.map (some b))) (hy : evo σ y = some (ek k)) (p : Pick (MP ek ev b m) [MP ek ev b m] Γ Γ) (hv : ev (mgetD m k zv) = v) :
    OpQ P E ρ n σ Γ (.lookup T x y false) ty v := fun a w e s => by
  obtain ⟨es, clock, hb, hs, he⟩ := mp_at p s; have := run_lookup_mp (k := k) hT hk hz false hb hs he; simp [exo, execOp, e.eval hx, e.eval hy, this, hv]
theorem q_lenm (hT : P.underlying T = some (.map kt et)) (hx : evo σ x = some (.map (some b))) (p : Pick (MP ek ev b m) [MP ek ev b m] Γ Γ) : OpQ P E ρ n σ Γ (.call { callee := .builtin .len, args := #[x], argTypes := #[T] }) ty (.int .i64 (m.length : Int)) := fun a w e s => by
  obtain ⟨es, clock, hb, hs, he⟩ := mp_at p s; have hl : es.size = m.length := by simpa using congrArg List.length he
  simp [exo, execOp, resolve, invoke, builtin, Builtin.len_, e.eval hx, underlying, hT, Go.MapKept.run_getObj_map hb, goInt, hl]
theorem sat.putm {A : Asn} {Γ Γ' : List Asn} {kvs kvs' : List (Value × Value)} {es : Array MapEntry} {clock : Nat} {w : World} (p : Pick (.raw (mapIn b kvs)) [.raw (mapIn b kvs')] Γ Γ') (s : sat E ρ Γ w) (h1 : Stamped es clock) (h2 : es.toList.map (fun e => (e.key, e.val)) = kvs') : sat E ρ Γ' { w with heap := w.heap.setIfInBounds b (.map es clock) } := by
  obtain ⟨h1', hr, d, l1, lr, ⟨es0, clock0, hb, _, _⟩, Kk⟩ := s.pick p; have e0 := l1.at_ _ _ hb; refine Kk (setBlk w b (.map es clock)) (Hp.one b (.map es clock)) ⟨rfl, rfl, rfl⟩ ⟨_, Hp.none_, (Hp.none_disj _).disj_symm, Hp.le_refl _, Hp.none_le _, ⟨es, clock, Hp.one_at _ _, h1, h2⟩, trivial⟩ (Hp.one_disj (d.out hb)) (Hp.one_le (hp_setBlk e0)) ⟨fun q o hq => ?_⟩; have hne : q ≠ b := fun e' => by subst e'; rw [d.out hb] at hq; cases hq
  rw [hp_setBlk_ne hne]; exact lr.at_ _ _ hq
theorem s_mset {v : V} {m' : List (K × V)} {vv : Value} (hT : P.underlying T = some (.map kt et)) (hk : MKey P kt ek) (hx : evo σ x = some (.map (some b))) (hy : evo σ y = some (ek k)) (hz : evo σ z = some vv) (hv : ev v = vv) (hm' : mset m k v = m') (p : Pick (MP ek ev b m) [MP ek ev b m'] Γ Γ') :
    OpS P E ρ n σ Γ (.mapUpdate T x y z) ty (fun v Γ2 => v = undef ∧ Γ2 = Γ') := fun a w e s => by
  subst hv; subst hm'; obtain ⟨h1, _, _, l1, _, ⟨es, clock, hb0, hs, he⟩, _⟩ := s.pick p; have hb : w.heap[b]? = some (.map es clock) := l1.at_ _ _ hb0; obtain ⟨d, hd, hik, hnd, hall, h⟩ := find_at hk hs he k
  rcases h with ⟨hn, h1, h2⟩ | ⟨j, u, en, hm, hg, h1, hj, h3, h4⟩
  · refine ⟨.skip, _, undef, Γ', .inr ⟨rfl, rfl⟩, ⟨rfl, rfl⟩, ?_, sat.putm (es := es.push ⟨ek k, ev v, clock⟩) (clock := clock + 1) (A := MP ek ev b m) p s (stamped_push hs h2) ?_⟩
    · simp [exo, execOp, e.eval hx, e.eval hy, e.eval hz, Instr.mapUpdate, run_underlying hT, Go.MapKept.run_getObj_map hb, Go.MapKept.run_checkKey hd hik, Go.MapKept.run_findKey hd h1, Go.MapKept.run_setObj_map _ hb]
    · rw [mset_new m k v hn]; simp [he]
  · have hkey : ∀ e', es[j]? = some e' → ({ e' with key := ek k, val := ev v } : MapEntry).key = e'.key := fun e' he' => by rw [hj] at he'; cases he'; exact h3.symm
    refine ⟨.skip, _, undef, Γ', .inr ⟨rfl, rfl⟩, ⟨rfl, rfl⟩, ?_, sat.putm (es := es.modify j fun e => { e with key := ek k, val := ev v }) (clock := clock) (A := MP ek ev b m) p s (stamped_modify hs _ _ (fun _ _ => rfl) (fun e' _ he' => hkey e' he')) ?_⟩
    · simp [exo, execOp, e.eval hx, e.eval hy, e.eval hz, Instr.mapUpdate, run_underlying hT, Go.MapKept.run_getObj_map hb, Go.MapKept.run_checkKey hd hik, Go.MapKept.run_findKey hd h1, hj, h3, run_keyThatStays hik, Go.MapKept.run_setObj_map _ hb]
    · rw [mset_at m j k u v hnd hm]; apply List.ext_getElem?; intro i; have hi := congrArg (fun l => l[i]?) he; simp only [List.getElem?_map] at hi; simp only [List.getElem?_map, Array.getElem?_toList, Array.getElem?_modify, List.getElem?_set]
      by_cases hij : j = i
      · subst hij; have hlt : j < m.length := (List.getElem?_eq_some_iff.1 hm).1; simp [hj, hlt]
      · simp only [if_neg hij]; simpa using hi
theorem erase_map {α β : Type} (f : α → β) : ∀ (l : List α) (j : Nat), (l.eraseIdx j).map f = (l.map f).eraseIdx j
  | [], _ => rfl
  | _ :: _, 0 => rfl
  | x :: l, j + 1 => by simp [erase_map f l j]
theorem s_mdel {kt2 : TypeId} {m' : List (K × V)} (hT : P.underlying T = some (.map kt et)) (hk : MKey P kt ek) (hx : evo σ x = some (.map (some b))) (hy : evo σ y = some (ek k)) (hm' : mdel m k = m') (p : Pick (MP ek ev b m) [MP ek ev b m'] Γ Γ') :
    OpS P E ρ n σ Γ (.call { callee := .builtin .delete, args := #[x, y], argTypes := #[T, kt2] }) ty (fun v Γ2 => v = .tuple #[] ∧ Γ2 = Γ') := fun a w e s => by
  subst hm'; obtain ⟨h1, _, _, l1, _, ⟨es, clock, hb0, hs, he⟩, _⟩ := s.pick p; have hb : w.heap[b]? = some (.map es clock) := l1.at_ _ _ hb0; obtain ⟨d, hd, hik, hnd, hall, h⟩ := find_at hk hs he k
  rcases h with ⟨hn, h1, h2⟩ | ⟨j, u, en, hm, hg, h1, hj, h3, h4⟩
  · refine ⟨.value (.tuple #[]), _, .tuple #[], Γ', .inl rfl, ⟨rfl, rfl⟩, ?_, sat.putm (es := es) (clock := clock) (A := MP ek ev b m) p s hs (by rw [mdel_no m k hn]; exact he)⟩; simp [exo, execOp, resolve, invoke, builtin, e.eval hx, e.eval hy, Builtin.delete_, run_underlying hT, Go.MapKept.run_getObj_map hb, Go.MapKept.run_checkKey hd hik, Go.MapKept.run_findKey hd h1, Go.MapKept.run_setObj_map _ hb]
  · refine ⟨.value (.tuple #[]), _, .tuple #[], Γ', .inl rfl, ⟨rfl, rfl⟩, ?_, sat.putm (es := es.eraseIdxIfInBounds j) (clock := clock) (A := MP ek ev b m) p s (stamped_erase hs _) ?_⟩
    · simp [exo, execOp, resolve, invoke, builtin, e.eval hx, e.eval hy, Builtin.delete_, run_underlying hT, Go.MapKept.run_getObj_map hb, Go.MapKept.run_checkKey hd hik, Go.MapKept.run_findKey hd h1, Go.MapKept.run_setObj_map _ hb]
    · rw [mdel_at m j k u hnd hm]; have hlt : j < es.size := (Array.getElem?_eq_some_iff.1 hj).1; unfold Array.eraseIdxIfInBounds; rw [dif_pos hlt, Array.toList_eraseIdx, erase_map, he, erase_map]
theorem s_makeMap : OpS P E ρ n σ Γ (.makeMap T none) ty (fun v Γ' => ∃ b, v = .map (some b) ∧ Γ' = MP ek ev b ([] : List (K × V)) :: Γ) := fun ac w e s => by
  refine ⟨_, _, _, _, .inl rfl, ⟨w.heap.size, rfl, rfl⟩, ?_, s.alloc (MP ek ev w.heap.size []) (.map #[] 0) ⟨#[], 0, Hp.one_at _ _, stamped_empty 0, rfl⟩⟩; simp [exo, execOp, Instr.makeMap]
end
end Go.SL
namespace Go.SL
open Go Go.MapKept
section
variable {P : Program} {E : World} {ρ : Hp} {n : Fz} {σ : Slots} {Γ Γ' : List Asn} {ty : TypeId} {x y z : Operand} {v u : Value} {T kt et : TypeId}
variable {K V : Type} [DecidableEq K] {ek : K → Value} {ev : V → Value} {b : Nat} {m : List (K × V)} {k : K}
theorem mset_two : ∀ (m : List (K × V)) (k : K) (u v : V), mset (mset m k u) k v = mset m k v
  | [], k, u, v => by simp [mset]
  | (a, w) :: m, k, u, v => by
    by_cases h : a = k
    · simp [mset, h]
    · simp [mset, h, mset_two m k u v]
end
section
variable {P : Program} {E : World} {ρ : Hp} {n : Fz} {σ : Slots} {Γ : List Asn} {ty T T' : TypeId} {x y : Operand}
theorem q_eqlo {e : Option Nat} {el : TypeId} (hx : evo σ x = some (ptV e)) (hy : evo σ y = some (.pointer none)) (hT : P.underlying T = some (.pointer el)) : OpQ P E ρ n σ Γ (.binOp .eql T x y T') ty (.bool e.isNone) := by
  cases e with
  | none => exact q_eqlp0 hx hy hT
  | some b => exact q_eqlp hx hy hT
theorem q_neqo {e : Option Nat} {el : TypeId} (hx : evo σ x = some (ptV e)) (hy : evo σ y = some (.pointer none)) (hT : P.underlying T = some (.pointer el)) : OpQ P E ρ n σ Γ (.binOp .neq T x y T') ty (.bool e.isSome) := by
  cases e with
  | none => exact q_neqp0 hx hy hT
  | some b => exact q_neqp hx hy hT
end
theorem opt_none {e : Option Nat} (h : e.isNone = true) : e = none := by cases e with
  | none => rfl
  | some _ => cases h
theorem opt_some {e : Option Nat} (h : e.isNone = false) : ¬ e = none := fun q => by subst q; cases h
theorem iso_none {e : Option Nat} (h : e.isSome = false) : e = none := by cases e with
  | none => rfl
  | some _ => cases h
theorem iso_some {e : Option Nat} (h : e.isSome = true) : ¬ e = none := fun q => by subst q; cases h
end Go.SL
namespace Go.SL
open Go
section
variable {ρ : Hp} {Γ : List Asn}
theorem Rd.drop {sz m cap : Nat} {a : Option Addr} {cs : List Value} (h : Rd ρ Γ sz a m cap cs) (k : Nat) (hk : k ≤ m) : Rd ρ Γ sz (sh a cap k sz) (m - k) (cap - k) (cs.drop (k * sz)) := fun E w s => by
  obtain ⟨h1, h2, h3, h4⟩ := h E w s; have e1 : (m - k) * sz = m * sz - k * sz := Nat.sub_mul _ _ _; refine ⟨by rw [List.length_drop]; omega, by omega, by omega, fun j c e => ?_⟩; rw [List.getElem?_drop] at e; obtain ⟨ad, he, hc⟩ := h4 _ c e; refine ⟨ad.add (k * sz), ?_, ?_⟩
  · unfold sh
    by_cases q : cap = k
    · exfalso
      have hl : k * sz + j < cs.length := by
        by_cases g : k * sz + j < cs.length
        · exact g
        · rw [List.getElem?_eq_none (by omega)] at e; cases e
      have : m * sz ≤ k * sz := Nat.mul_le_mul_right _ (by omega); omega
    · rw [if_neg q, he]; rfl
  · rw [addr_add_add]; exact hc
theorem rd_take {α : Type} {enc : α → List Value} {sz m cap : Nat} {a : Option Addr} {xs : List α} (h : Rd ρ Γ sz a m cap (xs.flatMap enc)) (he : ∀ x, (enc x).length = sz) (k : Nat) (hk : k ≤ m) : Rd ρ Γ sz a k cap ((xs.take k).flatMap enc) := by
  rw [← flat_take he]; exact h.take k hk
theorem rd_drop {α : Type} {enc : α → List Value} {sz m cap : Nat} {a : Option Addr} {xs : List α} (h : Rd ρ Γ sz a m cap (xs.flatMap enc)) (he : ∀ x, (enc x).length = sz) (k : Nat) (hk : k ≤ m) : Rd ρ Γ sz (sh a cap k sz) (m - k) (cap - k) ((xs.drop k).flatMap enc) := by
  rw [← flat_drop he]; exact h.drop k hk
end
theorem row_cut {α : Type} {enc : α → List Value} {Γ : List Asn} {T : TypeId} {sz n cap : Nat} {a : Option Addr} {xs : List α} (he : ∀ x, (enc x).length = sz) (k : Nat) (hk : k ≤ n) : Ent (.row T sz a n cap (xs.flatMap enc) :: Γ) (.row T sz a k cap ((xs.take k).flatMap enc) :: Γ) := Ent.conv Pick.here (fun h hA => by
  obtain ⟨h1, h2⟩ := hA; have hle : k * sz ≤ n * sz := Nat.mul_le_mul_right _ hk; refine ⟨by rw [← flat_take he, List.length_take]; omega, ?_⟩
  rcases h2 with ⟨h2, h3, h4⟩ | ⟨g, cur, fz, h2, h3, h4, h5, h6, h7, h8⟩
  · exact .inl ⟨h2, by omega, h4⟩
  · refine .inr ⟨g, cur, fz, h2, h3, h4, by omega, h6, h7, ?_⟩; rw [← flat_take he, ← h8, List.take_take, Nat.min_eq_left hle]) (Ent.refl _)
section
variable {α : Type} [Inhabited α] {f : α → α} {l : List α} {k : Nat}
end
end Go.SL
namespace Go.SL
open Go Go.MapKept Go.ChangeMaps
def iterIn (b r : Nat) (kvs left : List (Value × Value)) (cur : Option (Value × Value)) (h : Hp) : Prop :=
  ∃ es clock since seen c0, h b = some (.map es clock) ∧ Stamped es clock ∧ es.toList.map (fun e => (e.key, e.val)) = kvs ∧ h r = some (.mapIter (some b) since seen c0) ∧
    (∀ x ∈ es.toList, x.born < since) ∧ since ≤ c0 ∧ since ≤ clock ∧ (leftOf es seen).toList.map (fun e => (e.key, e.val)) = left ∧
    ∀ kv, cur = some kv → ∃ e ∈ es.toList, ∃ seen0 : Array Nat, (e.key, e.val) = kv ∧ seen = seen0.push e.born ∧ c0 = clock
def MI {K V : Type} (ek : K → Value) (ev : V → Value) (b r : Nat) (m left : List (K × V)) (cur : Option (K × V)) : Asn := .raw (iterIn b r (m.map fun p => (ek p.1, ev p.2)) (left.map fun p => (ek p.1, ev p.2)) (cur.map fun p => (ek p.1, ev p.2)))
theorem left_push {es : Array MapEntry} {seen : Array Nat} {clock : Nat} (hs : Stamped es clock) {e : MapEntry} (he : e ∈ (leftOf es seen).toList) :
    ∃ j, j < (leftOf es seen).toList.length ∧ (leftOf es seen).toList[j]? = some e ∧ (leftOf es (seen.push e.born)).toList = (leftOf es seen).toList.eraseIdx j := by
  obtain ⟨j, hj, hje⟩ := List.getElem_of_mem he; refine ⟨j, hj, by rw [List.getElem?_eq_getElem hj, hje], ?_⟩
  have e1 : (leftOf es (seen.push e.born)).toList = (leftOf es seen).toList.filter fun x => !(x.born == e.born) := by
    unfold leftOf; rw [Array.toList_filter, Array.toList_filter, List.filter_filter]; refine List.filter_congr fun x _ => ?_; simp only [Array.contains_push]
    cases seen.contains x.born <;> cases x.born == e.born <;> rfl
  have hsub : (leftOf es seen).toList.Sublist es.toList := by
    unfold leftOf; rw [Array.toList_filter]; exact List.filter_sublist
  have hnd : ((leftOf es seen).toList.map (·.born)).Nodup := hs.2.1.sublist (hsub.map _); rw [e1]
  generalize (leftOf es seen).toList = l at hj hje hnd
  clear e1 hsub he
  induction l generalizing j with
  | nil => simp at hj
  | cons x l ih =>
    have hn := List.nodup_cons.1 hnd
    cases j with
    | zero =>
      simp only [List.getElem_cons_zero] at hje; subst hje; rw [List.filter_cons, if_neg (by simp), List.eraseIdx_cons_zero, List.filter_eq_self]; intro y hy; have : y.born ≠ x.born := fun q => hn.1 (List.mem_map.2 ⟨y, hy, q⟩); simp [this]
    | succ j =>
      have hj' : j < l.length := by simpa using hj
      have hje' : l[j] = e := by simpa using hje
      have hx : x.born ≠ e.born := fun q => hn.1 (List.mem_map.2 ⟨e, by rw [← hje']; exact List.getElem_mem hj', q.symm⟩); rw [List.filter_cons, if_pos (by simp [hx]), List.eraseIdx_cons_succ, ih j hj' hje' hn.2]
theorem eraseIdx_map_ {α β : Type} (f : α → β) : ∀ (l : List α) (j : Nat), (l.map f).eraseIdx j = (l.eraseIdx j).map f
  | [], _ => rfl
  | _ :: _, 0 => rfl
  | x :: l, j + 1 => by simp [eraseIdx_map_ f l j]
section
variable {P : Program} {E : World} {ρ : Hp} {n : Fz} {σ : Slots} {Γ Γ' : List Asn} {ty : TypeId} {x y z : Operand} {v u : Value} {T kt et : TypeId}
variable {K V : Type} [DecidableEq K] {ek : K → Value} {ev : V → Value} {b r : Nat} {m left : List (K × V)} {k : K}
theorem s_range {Γr : Nat → List Asn} (hT : P.underlying T = some (.map kt et)) (hx : evo σ x = some (.map (some b))) (p : ∀ r, Pick (MP ek ev b m) [MI ek ev b r m m none] Γ (Γr r)) :
    OpS P E ρ n σ Γ (.range T x) ty (fun v Γ2 => ∃ r, v = .pointer (some ⟨r, 0, none⟩) ∧ Γ2 = Γr r) := fun a w e s => by
  obtain ⟨h1, hr, d, l1, lr, ⟨es, clock, hb0, hs, he⟩, Kk⟩ := s.pick (p w.heap.size); have hb : w.heap[b]? = some (.map es clock) := l1.at_ _ _ hb0
  let o : Obj := .mapIter (some b) clock #[] clock
  have up : Hp.le (hp w) (hp (w.alloc o)) := ⟨fun q o' e => by
    have hlt : q < w.heap.size := (Array.getElem?_eq_some_iff.1 e).1; show (w.heap.push o)[q]? = some o'; rw [Array.getElem?_push, if_neg (by omega)]; exact e⟩
  have new : hp (w.alloc o) w.heap.size = some o := by
    show (w.heap.push o)[w.heap.size]? = some o; simp
  have out : ∀ {k : Hp}, k.le (hp w) → k w.heap.size = none := fun {k} lk => by
    cases e : k w.heap.size with
    | none => rfl
    | some o' =>
      have h1 : w.heap[w.heap.size]? = some o' := lk.at_ _ _ e; simp at h1
  have d1 : (Hp.one w.heap.size o).disj h1 := Hp.one_disj (out l1); have d2 : (Hp.one w.heap.size o).disj hr := Hp.one_disj (out lr); refine ⟨.value (.pointer (some ⟨w.heap.size, 0, none⟩)), w.alloc o, _, Γr w.heap.size, .inl rfl, ⟨w.heap.size, rfl, rfl⟩, ?_, ?_⟩
  · simp [exo, execOp, e.eval hx, Instr.range, run_underlying hT, Go.MapKept.run_getObj_map hb, o]
  · refine Kk (w.alloc o) ((Hp.one w.heap.size o).join h1) ⟨rfl, rfl, rfl⟩ ⟨_, Hp.none_, (Hp.none_disj _).disj_symm, Hp.le_refl _, Hp.none_le _, ?_, trivial⟩ (Hp.disj_join d2.disj_symm d.disj_symm).disj_symm (Hp.join_le (Hp.one_le new) (l1.le_trans up)) (lr.le_trans up); refine ⟨es, clock, clock, #[], clock, (Hp.le_joinR d1).at_ _ _ hb0, hs, he, (Hp.le_joinL _ _).at_ _ _ (Hp.one_at _ _), hs.1, Nat.le_refl _, Nat.le_refl _, ?_, fun kv e => by cases e⟩; rw [← he]
    have e1 : (leftOf es #[]).toList = es.toList := by
      unfold leftOf; rw [Array.toList_filter, List.filter_eq_self]; intro x _; simp
    rw [e1]
theorem s_next {cur : Option (K × V)} {Γl : List (K × V) → Option (K × V) → List Asn} (hx : evo σ x = some (.pointer (some ⟨r, 0, none⟩))) (p : ∀ l c, Pick (MI ek ev b r m left cur) [MI ek ev b r m l c] Γ (Γl l c)) :
    OpS P E ρ n σ Γ (.next x false) ty (fun v Γ2 => (v = .tuple #[.bool false] ∧ left = [] ∧ Γ2 = Γl [] cur) ∨ ∃ j k u, left[j]? = some (k, u) ∧ v = .tuple #[.bool true, ek k, ev u] ∧ Γ2 = Γl (left.eraseIdx j) (some (k, u))) := fun a w e s => by
  obtain ⟨h0, _, _, l0, _, ⟨es, clock, since, seen, c0, hb0, hs, he, hr0, hold, hsc, hsk, hleft, _⟩, _⟩ := s.pick (p left cur); have hb : w.heap[b]? = some (.map es clock) := l0.at_ _ _ hb0; have hr : w.heap[r]? = some (.mapIter (some b) since seen c0) := l0.at_ _ _ hr0; have hne : r ≠ b := fun q => by rw [q, hb] at hr; cases hr
  rcases run_next_at (P := P) w ty r b since c0 seen es clock hr hb hold hsc with ⟨hz, hrun⟩ | ⟨en, hen, w1, hw1, hrun⟩
  · have hl : left = [] := by
      have : (leftOf es seen).toList = [] := List.eq_nil_of_length_eq_zero (by simpa using hz); rw [this] at hleft
      cases left with
      | nil => rfl
      | cons p l => simp at hleft
    subst hl; refine ⟨.value (.tuple #[.bool false]), w, _, _, .inl rfl, .inl ⟨rfl, rfl, rfl⟩, ?_, ?_⟩
    · simp [exo, execOp, e.eval hx, hrun]
    · obtain ⟨h1, hr', d, l1, lr, hA, Kk⟩ := s.pick (p [] cur); exact Kk w h1 ⟨rfl, rfl, rfl⟩ ⟨h1, Hp.none_, (Hp.none_disj _).disj_symm, Hp.le_refl _, Hp.none_le _, hA, trivial⟩ d l1 lr
  · obtain ⟨j, hj, hje, hpush⟩ := left_push hs hen; have hlj : (left.map fun p => (ek p.1, ev p.2))[j]? = some (en.key, en.val) := by rw [← hleft, List.getElem?_map, hje]; rfl
    rw [List.getElem?_map] at hlj
    cases hq : left[j]? with
    | none => rw [hq] at hlj; cases hlj
    | some ku =>
      obtain ⟨k, u⟩ := ku; rw [hq] at hlj; simp only [Option.map_some, Option.some.injEq, Prod.mk.injEq] at hlj; obtain ⟨h1, hr', d, l1, lr, hA, Kk⟩ := s.pick (p (left.eraseIdx j) (some (k, u))); obtain ⟨_, _, _, _, _, hb1, _, _, hr1, _⟩ := hA; have hbb := l1.at_ _ _ hb1; have hrr := l1.at_ _ _ hr1
      let o' : Obj := .mapIter (some b) since (seen.push en.born) clock
      refine ⟨.value (.tuple #[.bool true, ek k, ev u]), setBlock w1 r o', _, Γl (left.eraseIdx j) (some (k, u)), .inl rfl, .inr ⟨j, k, u, hq, rfl, rfl⟩, ?_, ?_⟩
      · rw [hlj.1, hlj.2]; simp [exo, execOp, e.eval hx, hrun, o']
      · have hw : w1.heap = w.heap := by rcases hw1 with rfl | rfl <;> rfl
        have hlt : r < w.heap.size := (Array.getElem?_eq_some_iff.1 hr).1
        have nr : hp (setBlock w1 r o') r = some o' := by
          show (w1.heap.setIfInBounds r o')[r]? = some o'; rw [hw, Array.getElem?_setIfInBounds_self_of_lt hlt]
        have nb : ∀ q, q ≠ r → hp (setBlock w1 r o') q = hp w q := fun q hq => by
          show (w1.heap.setIfInBounds r o')[q]? = w.heap[q]?; rw [hw, Array.getElem?_setIfInBounds_ne (Ne.symm hq)]
        have dr : (Hp.one r o').disj (Hp.one b (.map es clock)) := Hp.one_disj (by
          unfold Hp.one
          split
          · rename_i q; exact absurd q hne
          · rfl)
        refine Kk (setBlock w1 r o') ((Hp.one r o').join (Hp.one b (.map es clock))) ?_ ⟨_, Hp.none_, (Hp.none_disj _).disj_symm, Hp.le_refl _, Hp.none_le _, ?_, trivial⟩ ?_ ?_ ?_
        · rcases hw1 with rfl | rfl <;> exact ⟨rfl, rfl, rfl⟩
        · refine ⟨es, clock, since, seen.push en.born, clock, (Hp.le_joinR dr).at_ _ _ (Hp.one_at _ _), hs, he, (Hp.le_joinL _ _).at_ _ _ (Hp.one_at _ _), hold, hsk, hsk, ?_, fun kv e2 => ⟨en, (mem_left hen).1, seen, by rw [← Option.some.inj e2]; exact Prod.ext hlj.1.symm hlj.2.symm, rfl, rfl⟩⟩; rw [hpush, ← eraseIdx_map_ (fun (e : MapEntry) => (e.key, e.val)), hleft, eraseIdx_map_]
        · exact (Hp.disj_join (Hp.one_disj (d.out hr1)).disj_symm (Hp.one_disj (d.out hb1)).disj_symm).disj_symm
        · exact Hp.join_le (Hp.one_le nr) (Hp.one_le (by rw [nb b hne.symm]; exact hb))
        · refine ⟨fun q ob hq => ?_⟩; have hnq : q ≠ r := fun e' => by subst e'; rw [d.out hr1] at hq; cases hq
          rw [nb q hnq]; exact lr.at_ _ _ hq
theorem q_entry {k : K} {u : V} (hx : evo σ x = some (.pointer (some ⟨r, 0, none⟩))) (p : Pick (MI ek ev b r m left (some (k, u))) [MI ek ev b r m left (some (k, u))] Γ Γ) : OpQ P E ρ n σ Γ (.entry x) ty (.tuple #[ek k, ev u]) := fun a w e s => by
  obtain ⟨h0, _, _, l0, _, ⟨es, clock, since, seen, c0, hb0, hs, he, hr0, hold, hsc, hsk, hleft, hcur⟩, _⟩ := s.pick p; have hb : w.heap[b]? = some (.map es clock) := l0.at_ _ _ hb0; have hr : w.heap[r]? = some (.mapIter (some b) since seen c0) := l0.at_ _ _ hr0; obtain ⟨en, hen, seen0, hkv, rfl, rfl⟩ := hcur _ rfl; simp only [Prod.mk.injEq] at hkv; have := run_entry_at (P := P) w r b since seen0 es c0 en hr hb hen hs.2.1; rw [← hkv.1, ← hkv.2]; simp [exo, execOp, e.eval hx, this]
theorem mi_mp {cur : Option (K × V)} {Δ : List Asn} : Ent (MI ek ev b r m left cur :: Δ) (MP ek ev b m :: Δ) := Ent.conv Pick.here (fun h hA => by
  obtain ⟨es, clock, since, seen, c0, hb0, hs, he, _⟩ := hA; exact ⟨es, clock, hb0, hs, he⟩) (Ent.refl _)
end
section
variable {P : Program} {E : World} {ρ : Hp} {n : Fz} {σ σ' : Slots} {Γ Γ' : List Asn} {K : Act → World → Prop} {Q : Exit → Act → World → Prop}
variable {ops : Array Oper} {d : Nat} {ty : TypeId} {pos : String} {af : Array Edge} {g : Option (Nat × Bool)} {v : Value} {x : Operand}
variable {f : FuncId} {xs : List Operand} {vs cs : List Value} {ats : Array TypeId} {pre Δ : List Asn} {R : Value → List Asn → Prop}
def Enters (P : Program) (f : FuncId) : Prop := ∃ fn body, P.funcs[f]? = some fn ∧ fn.body = some body ∧ (fn.name == "runtime.NumGoroutine") = false
theorem run_clo {a : Act} {w : World} (e : Env n σ a) (hE : Enters P f) (hf : evo σ x = some (.func (.func f) #[] cs.toArray)) (hx : evos σ xs = some vs) :
    (exo a.eval (.call { callee := .value x, args := xs.toArray, argTypes := ats }) ty).run P w = .ok (.enter f (vs ++ cs).toArray) w := by
  obtain ⟨fn, body, hfn, hb, hne⟩ := hE; have h1 := e.eval hf; have h2 := e.evals hx; have h3 : ¬ fn.name = "runtime.NumGoroutine" := by simpa using hne
  simp [exo, execOp, resolve, h1, Deferred.ofValue, invoke, callFunc, hfn, h3, hb, h2]
theorem s_clob (hd : Nat.ble n.n d = false) (hw : Wanted ops n σ g) (hE : Enters P f) (hf : evo σ x = some (.func (.func f) #[] cs.toArray)) (hx : evos σ xs = some vs)
    (sel : Sel pre Γ Δ) (sp : ∀ ρ', Lent ρ ρ' Δ → Spec0 P f (vs ++ cs).toArray ρ' pre R) (k : ∀ v Γ', R v Γ' → Tr E ρ n ((d, v) :: σ) (Γ' ++ Δ) K) :
    Step P E ρ n σ Γ { dst := some d, op := .call { callee := .value x, args := xs.toArray, argTypes := ats }, type := ty, pos := pos, after := af, guard := g } ops Q K := fun a w e s => by
  rw [if_pos (Wanted.spec (o := { dst := some d, op := .call { callee := .value x, args := xs.toArray, argTypes := ats }, type := ty, pos := pos, after := af, guard := g }) hw e)]; unfold Oper.wp; rw [exo_eq, run_clo e hE hf hx]; show Calls P f _ w _; refine (lend_core sel sp w s).mono ?_; rintro e' w' ⟨v, Γ', hR, rfl, s'⟩; exact k v Γ' hR _ _ (e.put hd v) s'
end
theorem mi_forget {K V : Type} [DecidableEq K] {ek : K → Value} {ev : V → Value} {b r : Nat} {m left : List (K × V)} {cur : Option (K × V)} {Γ Γ1 : List Asn} (p : Pick (MI ek ev b r m left cur) [] Γ Γ1) : Ent Γ (MI ek ev b r m left none :: Γ1) := Ent.conv p (fun h hA => by
  obtain ⟨es, clock, since, seen, c0, hb0, hs, he, hr0, h1, h2, h3, h4, _⟩ := hA; exact ⟨es, clock, since, seen, c0, hb0, hs, he, hr0, h1, h2, h3, h4, fun kv e => by cases e⟩) (Ent.refl _)
theorem spec0_bun {P : Program} {f : FuncId} {vs : Array Value} {ρ : Hp} {v0 : Value} {L : List Asn} (h : Spec0 P f vs ρ L fun v Γ' => v = v0 ∧ Γ' = L) : Spec0 P f vs ρ [Bun L] fun v Γ' => v = v0 ∧ Γ' = [Bun L] := fun E Δ w s => by
  refine (h E Δ w (s.ent (bun_out L Δ))).mono ?_; rintro e w' ⟨ρ', v, Γ', l, ⟨h1, h2, h3⟩, rfl, s'⟩; rw [h3] at s'; exact ⟨_, _, _, l, ⟨h1, h2, rfl⟩, rfl, s'.ent (bun_in L Δ)⟩
theorem getD_in {α : Type} [Inhabited α] {l : List α} {k : Nat} (h : k < l.length) : l.getD k default ∈ l := by simp [List.getD, h]
end Go.SL
