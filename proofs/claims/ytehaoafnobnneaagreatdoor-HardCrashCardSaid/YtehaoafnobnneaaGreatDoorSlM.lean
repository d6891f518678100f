/-
  The engine, part M: operations under a guard whose value is not known (no parting of ways), calls that only read, calls that lend all the rest of memory.
-/
import Derived.Test.YtehaoafnobnneaaGreatDoorSlJ
namespace Go.SL
open Go

def gd (b : Bool) (v : Value) : Value := bif b then v else undef
theorem gd_t {b : Bool} {v : Value} (h : b = true) : gd b v = v := by rw [h]; rfl
theorem gd_f {b : Bool} {v : Value} (h : b = false) : gd b v = undef := by rw [h]; rfl
section
variable {P : Program} {E : World} {ρ : Hp} {n : Fz} {σ σ' : Slots} {Γ Γ' : List Asn} {K : Act → World → Prop} {Q : Exit → Act → World → Prop}
variable {ops : Array Oper} {rest : List Oper} {d : Nat} {op : Op} {ty : TypeId} {pos : String} {af : Array Edge} {g : Option (Nat × Bool)} {v : Value} {x y z : Operand}

theorem OpQ.env (l : EnvLe σ' σ) (h : OpQ P E ρ n σ' Γ op ty v) : OpQ P E ρ n σ Γ op ty v := fun a w e s => h a w (e.le l) s
/-- what a guard asks is b -/
def Asks (ops : Array Oper) (n : Fz) (σ : Slots) (g : Option (Nat × Bool)) (b : Bool) : Prop := (b = true → Wanted ops n σ g) ∧ (b = false → Unwanted ops n σ g)
theorem ask_t {j dj : Nat} {e : Bool} (h : (ops[j]?).bind (·.dst) = some dj) (he : get σ dj = some (.bool e)) : Asks ops n σ (some (j, true)) e :=
  ⟨fun hb => wy h he hb, fun hb => wno h he (by rw [hb]; decide)⟩
theorem ask_f {j dj : Nat} {e : Bool} (h : (ops[j]?).bind (·.dst) = some dj) (he : get σ dj = some (.bool e)) : Asks ops n σ (some (j, false)) (!e) :=
  ⟨fun hb => wy h he (by simpa using hb), fun hb => wno h he (by simpa using hb)⟩
theorem ask_gt {j dj : Nat} {b0 e : Bool} (h : (ops[j]?).bind (·.dst) = some dj) (he : get σ dj = some (gd b0 (.bool e))) : Asks ops n σ (some (j, true)) (b0 && e) := by
  cases b0 with
  | true => simpa using ask_t (n := n) h he
  | false => exact ⟨fun hb => by simp at hb, fun _ => wun h he⟩
theorem ask_gf {j dj : Nat} {b0 e : Bool} (h : (ops[j]?).bind (·.dst) = some dj) (he : get σ dj = some (gd b0 (.bool e))) : Asks ops n σ (some (j, false)) (b0 && !e) := by
  cases b0 with
  | true => simpa using ask_f (n := n) h he
  | false => exact ⟨fun hb => by simp at hb, fun _ => wun h he⟩

theorem s_qg {b : Bool} (hd : Nat.ble n.n d = false) (ha : Asks ops n σ g b) (h : b = true → OpQ P E ρ n σ Γ op ty v) (k : Tr E ρ n ((d, gd b v) :: σ) Γ K) :
    Step P E ρ n σ Γ { dst := some d, op := op, type := ty, pos := pos, after := af, guard := g } ops Q K := by
  cases b with
  | true => exact s_q hd (ha.1 rfl) (h rfl) k
  | false => exact s_no hd (ha.2 rfl) k
theorem s_qg0 {b : Bool} (ha : Asks ops n σ g b) (h : b = true → OpQ P E ρ n σ Γ op ty v) (k : Tr E ρ n σ Γ K) :
    Step P E ρ n σ Γ { dst := none, op := op, type := ty, pos := pos, after := af, guard := g } ops Q K := by
  cases b with
  | true => exact s_q0 (ha.1 rfl) (h rfl) k
  | false => exact s_no0 (ha.2 rfl) k
theorem q_pick_and {e c gg : Bool} (hz : evo σ z = some (.bool e)) (hx : evo σ x = some (gd gg (.bool c))) (hy : evo σ y = some (.bool false)) (hg : e = true → gg = true) : OpQ P E ρ n σ Γ (.pick z x y) ty (.bool (e && c)) := by
  cases e with
  | true => rw [hg rfl] at hx; exact q_pick hz hx hy
  | false => exact q_pick hz hx hy
theorem q_pick_or {e c gg : Bool} (hz : evo σ z = some (.bool e)) (hx : evo σ x = some (.bool true)) (hy : evo σ y = some (gd gg (.bool c))) (hg : e = false → gg = true) : OpQ P E ρ n σ Γ (.pick z x y) ty (.bool (e || c)) := by
  cases e with
  | true => exact q_pick hz hx hy
  | false => rw [hg rfl] at hy; exact q_pick hz hx hy
theorem r_takeg {ρ0 : Hp} {m i : Nat} {b : Bool} {bs bs' : Array Bool} {S : List Asn} (hi : ops[i]? = some { dst := some d, op := op, type := ty, pos := pos, after := af, guard := g }) (hs : Region.noSelect ops = true)
    (hf : Region.free .any ops bs i = true) (hr : (Region.ready .any ops bs).contains i = true) (hQ : ∀ c a w, Q (.panic c) (a.put (some d) (gd b v)) w → Q (.panic c) a w) (hd : Nat.ble n.n d = false)
    (ha : Asks ops n σ g b) (hq : b = true → OpQ P E ρ0 n σ S op ty v) (hl : ρ0.le ρ) (hΓ : Ent Γ S) (hb : bs.setIfInBounds i true = bs')
    (k : Tr E ρ n ((d, gd b v) :: σ) Γ (wpAnyH P .any ops Q (sat E ρ0 S) m bs')) : Tr E ρ n σ Γ (wpAnyH P .any ops Q (sat E ρ0 S) (m + 1) bs) := by
  cases b with
  | true => exact r_take hi hs hf hr hQ hd (ha.1 rfl) (hq rfl) hl hΓ hb k
  | false => exact r_skip hi hs hf hr hQ hd (ha.2 rfl) hl hΓ hb k

/-! ### Calls that lend memory -/
/-- what Δ says is shared with the callee, for the length of the call -/
def Lent (ρ ρ' : Hp) (Δ : List Asn) : Prop := ρ.le ρ' ∧ ∃ h, Hp.le h ρ' ∧ star Δ h
theorem Lent.ro {ρ' : Hp} {Δ : List Asn} (l : Lent ρ ρ' Δ) {sz m cap : Nat} {a : Option Addr} {cs : List Value} (h : Ro ρ sz a m cap cs) : Ro ρ' sz a m cap cs := Ro.mono l.1 h
theorem Lent.row {ρ' : Hp} {Δ Δ' : List Asn} (l : Lent ρ ρ' Δ) {T : TypeId} {sz m cap : Nat} {a : Option Addr} {cs : List Value} (p : Pick (.row T sz a m cap cs) [] Δ Δ') : Ro ρ' sz a m cap cs := by
  obtain ⟨-, h, hl, st⟩ := l
  obtain ⟨h1, _, _, l1, _, a1, _⟩ := star_pick p st
  exact ro_of_row ⟨h1, l1.le_trans hl, a1⟩
theorem Lent.raw {ρ' : Hp} {Δ Δ' : List Asn} (l : Lent ρ ρ' Δ) {A B : Hp → Prop} (p : Pick (.raw A) [] Δ Δ') (hB : ∀ h, A h → h.le ρ' → B ρ') : B ρ' := by
  obtain ⟨-, h, hl, st⟩ := l
  obtain ⟨h1, _, _, l1, _, a1, _⟩ := star_pick p st
  exact hB h1 a1 (l1.le_trans hl)
theorem lend_core {f : FuncId} {vs : Array Value} {pre Δ : List Asn} {R : Value → List Asn → Prop} (sel : Sel pre Γ Δ) (sp : ∀ ρ', Lent ρ ρ' Δ → Spec0 P f vs ρ' pre R) (w : World) (s : sat E ρ Γ w) :
    Calls P f vs w fun e w' => ∃ v Γ', R v Γ' ∧ e = .returned v ∧ sat E ρ (Γ' ++ Δ) w' := by
  obtain ⟨hx, hρ, h, hh, hd, st⟩ := s.ent sel.ent
  obtain ⟨k1, k2, d, l1, l2, s1, s2⟩ := star_split st
  have dk2 : k2.disj ρ := hd.disj_le l2
  have dk1 : k1.disj ρ := hd.disj_le l1
  refine (sp (k2.join ρ) ⟨Hp.le_joinR dk2, k2, Hp.le_joinL _ _, s2⟩ E [] w ⟨hx, Hp.join_le (l2.le_trans hh) hρ, k1, l1.le_trans hh, Hp.disj_join d dk1, by simpa using s1⟩).mono ?_
  rintro e w' ⟨ρ'', v, Γ', l, ⟨rfl, hR⟩, rfl, hx', hρ', h', hh', hd', st'⟩
  refine ⟨v, Γ', hR, rfl, hx', (Hp.le_joinR dk2).le_trans hρ', h'.join k2, Hp.join_le hh' ((Hp.le_joinL _ _).le_trans hρ'), ?_, ?_⟩
  · exact (Hp.disj_join (hd'.disj_le2 (Hp.le_joinR dk2)).disj_symm dk2.disj_symm).disj_symm
  · have d2 : h'.disj k2 := hd'.disj_le2 (Hp.le_joinL _ _)
    exact star_append (by simpa using st') s2 d2 (Hp.le_joinL _ _) (Hp.le_joinR d2)
variable {f : FuncId} {fn : Func} {xs : List Operand} {vs : List Value} {ats : Array TypeId} {pre Δ : List Asn} {R : Value → List Asn → Prop} {body : Code}
theorem run_fn {a : Act} {w : World} (e : Env n σ a) (hfn : P.funcs[f]? = some fn) (hb : fn.body = some body) (hne : (fn.name == "runtime.NumGoroutine") = false) (hx : evos σ xs = some vs) :
    (exo a.eval (.call { callee := .value (.func f), args := xs.toArray, argTypes := ats }) ty).run P w = .ok (.enter f vs.toArray) w := by
  have h2 := e.evals hx
  have h3 : ¬ fn.name = "runtime.NumGoroutine" := by simpa using hne
  simp [exo, execOp, resolve, Act.eval, Deferred.ofValue, invoke, callFunc, hfn, h3, hb, h2]
theorem s_fnb (hd : Nat.ble n.n d = false) (hw : Wanted ops n σ g) (hfn : P.funcs[f]? = some fn) (hb : fn.body = some body) (hne : (fn.name == "runtime.NumGoroutine") = false) (hx : evos σ xs = some vs)
    (sel : Sel pre Γ Δ) (sp : ∀ ρ', Lent ρ ρ' Δ → Spec0 P f vs.toArray ρ' pre R) (k : ∀ v Γ', R v Γ' → Tr E ρ n ((d, v) :: σ) (Γ' ++ Δ) K) :
    Step P E ρ n σ Γ { dst := some d, op := .call { callee := .value (.func f), args := xs.toArray, argTypes := ats }, type := ty, pos := pos, after := af, guard := g } ops Q K := fun a w e s => by
  rw [if_pos (Wanted.spec (o := { dst := some d, op := .call { callee := .value (.func f), args := xs.toArray, argTypes := ats }, type := ty, pos := pos, after := af, guard := g }) hw e)]
  unfold Oper.wp
  rw [exo_eq, run_fn e hfn hb hne hx]
  show Calls P f _ w _
  refine (lend_core sel sp w s).mono ?_
  rintro e' w' ⟨v, Γ', hR, rfl, s'⟩
  exact k v Γ' hR _ _ (e.put hd v) s'
theorem s_fnb0 (hw : Wanted ops n σ g) (hfn : P.funcs[f]? = some fn) (hb : fn.body = some body) (hne : (fn.name == "runtime.NumGoroutine") = false) (hx : evos σ xs = some vs)
    (sel : Sel pre Γ Δ) (sp : ∀ ρ', Lent ρ ρ' Δ → Spec0 P f vs.toArray ρ' pre R) (k : ∀ v Γ', R v Γ' → Tr E ρ n σ (Γ' ++ Δ) K) :
    Step P E ρ n σ Γ { dst := none, op := .call { callee := .value (.func f), args := xs.toArray, argTypes := ats }, type := ty, pos := pos, after := af, guard := g } ops Q K := fun a w e s => by
  rw [if_pos (Wanted.spec (o := { dst := none, op := .call { callee := .value (.func f), args := xs.toArray, argTypes := ats }, type := ty, pos := pos, after := af, guard := g }) hw e)]
  unfold Oper.wp
  rw [exo_eq, run_fn e hfn hb hne hx]
  show Calls P f _ w _
  refine (lend_core sel sp w s).mono ?_
  rintro e' w' ⟨v, Γ', hR, rfl, s'⟩
  exact k v Γ' hR _ _ (e.skip v) s'
/-- a call that only reads: its answer is known, memory stays -/
theorem s_fnq {v0 : Value} (hd : Nat.ble n.n d = false) (hw : Wanted ops n σ g) (hfn : P.funcs[f]? = some fn) (hb : fn.body = some body) (hne : (fn.name == "runtime.NumGoroutine") = false) (hx : evos σ xs = some vs)
    (sp : ∀ ρ', Lent ρ ρ' Γ → Spec0 P f vs.toArray ρ' [] fun v Γ' => v = v0 ∧ Γ' = []) (k : Tr E ρ n ((d, v0) :: σ) Γ K) :
    Step P E ρ n σ Γ { dst := some d, op := .call { callee := .value (.func f), args := xs.toArray, argTypes := ats }, type := ty, pos := pos, after := af, guard := g } ops Q K :=
  s_fnb hd hw hfn hb hne hx Sel.nil sp fun v Γ' h => by obtain ⟨rfl, rfl⟩ := h; exact k
theorem s_fnqg {v0 : Value} {b : Bool} (hd : Nat.ble n.n d = false) (ha : Asks ops n σ g b) (hfn : P.funcs[f]? = some fn) (hb : fn.body = some body) (hne : (fn.name == "runtime.NumGoroutine") = false)
    (hl : b = true → EnvLe σ' σ) (hx : evos σ' xs = some vs) (sp : b = true → ∀ ρ', Lent ρ ρ' Γ → Spec0 P f vs.toArray ρ' [] fun v Γ' => v = v0 ∧ Γ' = []) (k : Tr E ρ n ((d, gd b v0) :: σ) Γ K) :
    Step P E ρ n σ Γ { dst := some d, op := .call { callee := .value (.func f), args := xs.toArray, argTypes := ats }, type := ty, pos := pos, after := af, guard := g } ops Q K := by
  cases b with
  | true =>
    intro a w e s
    have e' := e.le (hl rfl)
    rw [if_pos (Wanted.spec (o := { dst := some d, op := .call { callee := .value (.func f), args := xs.toArray, argTypes := ats }, type := ty, pos := pos, after := af, guard := g }) (ha.1 rfl) e)]
    unfold Oper.wp
    rw [exo_eq, run_fn e' hfn hb hne hx]
    show Calls P f _ w _
    refine (lend_core Sel.nil (sp rfl) w s).mono ?_
    rintro e2 w' ⟨v, Γ', ⟨rfl, rfl⟩, rfl, s'⟩
    exact k _ _ (e.put hd v) s'
  | false => exact s_no hd (ha.2 rfl) k
end
/-! ### Data -/
structure SH where
  a : Option Addr
  n : Nat
  cap : Nat
instance : Inhabited SH := ⟨⟨none, 0, 0⟩⟩
def SH.v (s : SH) : Value := .slice s.a s.n s.cap
def encSH (s : SH) : List Value := [s.v]
/-- what a loop hands on: a ghost, and where up to three growing slices lie -/
structure Lp (δ : Type) where
  d : δ
  a1 : Option Addr
  c1 : Nat
  a2 : Option Addr
  c2 : Nat
  a3 : Option Addr
  c3 : Nat
def encSL {α : Type} (s : SL α) : List Value := [s.v]
theorem oneSL {α : Type} (xs : List (SL α)) : ∀ u ∈ xs.flatMap encSL, u.oneCell' = true := fun u hu => by
  obtain ⟨b, _, hb⟩ := List.mem_flatMap.1 hu
  simp only [encSL, List.mem_singleton] at hb
  subst hb; rfl
def encN (x : Nat) : List Value := [.int .u64 (x : Int)]
theorem oneN (xs : List Nat) : ∀ u ∈ xs.flatMap encN, u.oneCell' = true := fun u hu => by
  obtain ⟨b, _, hb⟩ := List.mem_flatMap.1 hu
  simp only [encN, List.mem_singleton] at hb
  subst hb; rfl
def encStr (s : List UInt8) : List Value := [strB s]
theorem oneStr (xs : List (List UInt8)) : ∀ u ∈ xs.flatMap encStr, u.oneCell' = true := fun u hu => by
  obtain ⟨b, _, hb⟩ := List.mem_flatMap.1 hu
  simp only [encStr, List.mem_singleton] at hb
  subst hb; rfl
def ptV (p : Option Nat) : Value := .pointer (p.map fun b => ⟨b, 0, none⟩)
def encPt (p : Option Nat) : List Value := [ptV p]
theorem onePt (xs : List (Option Nat)) : ∀ u ∈ xs.flatMap encPt, u.oneCell' = true := fun u hu => by
  obtain ⟨b, _, hb⟩ := List.mem_flatMap.1 hu
  simp only [encPt, List.mem_singleton] at hb
  subst hb; rfl
section
variable {P : Program} {E : World} {ρ : Hp} {n : Fz} {σ σ' : Slots} {Γ Γ' : List Asn} {ty : TypeId} {x y z : Operand} {v u : Value} {T T' : TypeId} {sz : Nat}
theorem q_lensB {bs : List UInt8} (hT : P.underlying T = some .string) (hx : evo σ x = some (strB bs)) : OpQ P E ρ n σ Γ (.call { callee := .builtin .len, args := #[x], argTypes := #[T] }) ty (.int .i64 (bs.length : Int)) := by
  have := q_lens (P := P) (E := E) (ρ := ρ) (n := n) (Γ := Γ) (ty := ty) hT hx
  have e : (⟨bs.toArray⟩ : ByteArray).size = bs.length := by simp [ByteArray.size]
  rwa [e] at this
theorem rep_flat {α : Type} (enc : α → List Value) (z : α) : ∀ k : Nat, (List.replicate k (enc z)).flatten = (List.replicate k z).flatMap enc
  | 0 => rfl
  | k + 1 => by simp [List.replicate_succ, rep_flat enc z k]
theorem s_makeSlicee {α : Type} {enc : α → List Value} {z : α} {e : TypeId} {bytes : Nat} {zc : List Value} {k k' : IntKind} {l c : Int} (ht : P.underlying T = some (.slice e)) (hok : elemOk P e sz bytes = true) (hz : zeroCs P e = some zc) (hzc : zc = enc z) (hx : evo σ x = some (.int k l)) (hy : evo σ y = some (.int k' c))
    (h0 : 0 ≤ l) (hlc : l = c) (hb : (bytes : Int) * c ≤ 140737488355328) (hm : c ≤ 9223372036854775807) :
    OpS P E ρ n σ Γ (.makeSlice T x y) ty (fun v Γ2 => ∃ b, v = .slice (some ⟨b, 0, none⟩) l.toNat l.toNat ∧ Γ2 = .row e sz (some ⟨b, 0, none⟩) l.toNat l.toNat ((List.replicate l.toNat z).flatMap enc) :: Γ) := by
  subst hzc
  rw [← rep_flat]
  exact s_makeSlice ht hok hz hx hy h0 hlc hb hm
end
/-! ### Structs of integers compared -/
def intAt (xs : Array Value) (o : Nat) : Int := match xs[o]? with | some (.int _ n) => n | _ => 0
theorem eqF_ints {P : Program} {w : World} (d : Nat) (xs ys : Array Value) : ∀ fs : List Field, (∀ f ∈ fs, f.name ≠ "_" ∧ (∃ k, P.underlying f.type = some (.int k)) ∧ ∃ k a b, xs[f.offset]? = some (.int k a) ∧ ys[f.offset]? = some (.int k b)) →
    (Op.eqFields (d + 1) xs ys fs).run P w = .ok (decide ((fs.map (·.offset)).map (intAt xs) = (fs.map (·.offset)).map (intAt ys))) w
  | [], _ => by simp [Op.eqFields]
  | f :: fs, h => by
    obtain ⟨h1, ⟨k, hk⟩, k', a, b, hx, hy⟩ := h f (by simp)
    have hp : (part f.type xs f.offset).run P w = .ok (.int k' a) w := by simp [part, isAgg, run_underlying hk, hx]
    have hq : (part f.type ys f.offset).run P w = .ok (.int k' b) w := by simp [part, isAgg, run_underlying hk, hy]
    have he : (Op.equalIn (d + 1) f.type (.int k' a) (.int k' b)).run P w = .ok (a == b) w := by simp [Op.equalIn, underlying, hk]
    have ih := eqF_ints (P := P) (w := w) d xs ys fs (fun g hg => h g (by simp [hg]))
    simp only [Op.eqFields, h1, ne_eq, not_false_eq_true, if_true, Sem.run_bind, hp, hq, he, Result.andThen_ok]
    by_cases hab : a = b
    · subst hab
      simp [ih, intAt, hx, hy]
    · have : (a == b) = false := by simpa using hab
      simp [this, intAt, hx, hy, hab]
section
variable {P : Program} {E : World} {ρ : Hp} {n : Fz} {σ : Slots} {Γ : List Asn} {ty : TypeId} {x y : Operand} {T T' : TypeId}
theorem run_eq_ints {offs : List Nat} {xs ys : Array Value} (h : intFields P T = some offs) (hv : ∀ o ∈ offs, ∃ k a b, xs[o]? = some (.int k a) ∧ ys[o]? = some (.int k b)) (w : World) :
    (Op.equalIn 10000 T (.agg xs) (.agg ys)).run P w = .ok (decide (offs.map (intAt xs) = offs.map (intAt ys))) w ∧ P.eqGuardType P.depth T = false := by
  unfold intFields at h
  split at h
  · rename_i fs hu
    split at h
    · rename_i hc
      simp only [Option.some.injEq] at h
      subst h
      simp only [Bool.and_eq_true, List.all_eq_true, bne_iff_ne, ne_eq, Bool.not_eq_true'] at hc
      obtain ⟨⟨h1, h2⟩, h3⟩ := hc
      have hf : P.underlying T = some (.struct (P.fieldsOf T)) := by unfold Program.fieldsOf; rw [hu]
      have hfs : P.fieldsOf T = fs := by rw [hu] at hf; simpa using hf.symm
      refine ⟨?_, h3⟩
      rw [run_equalIn_struct w 9999 T xs ys hf h2, hfs]
      refine eqF_ints 9998 xs ys fs.toList (fun f hf => ?_)
      obtain ⟨q1, q2⟩ := h1 f hf
      refine ⟨q1, ?_, hv _ (List.mem_map_of_mem hf)⟩
      split at q2
      · rename_i k hk; exact ⟨k, hk⟩
      · cases q2
    · cases h
  · cases h
theorem q_eqlst {offs : List Nat} {xs ys : Array Value} {la lb : List Int} (h : intFields P T = some offs) (hx : evo σ x = some (.agg xs)) (hy : evo σ y = some (.agg ys)) (hv : ∀ o ∈ offs, ∃ k a b, xs[o]? = some (.int k a) ∧ ys[o]? = some (.int k b))
    (ha : offs.map (intAt xs) = la) (hb : offs.map (intAt ys) = lb) : OpQ P E ρ n σ Γ (.binOp .eql T x y T') ty (.bool (decide (la = lb))) := by
  subst ha; subst hb
  exact run_binOp_any hx hy (fun w => run_eqGuard_agg w .eql T x y xs ys (run_eq_ints h hv w).2) fun w => by rw [run_eql_struct, (run_eq_ints h hv w).1]; rfl
theorem q_neqst {offs : List Nat} {xs ys : Array Value} {la lb : List Int} (h : intFields P T = some offs) (hx : evo σ x = some (.agg xs)) (hy : evo σ y = some (.agg ys)) (hv : ∀ o ∈ offs, ∃ k a b, xs[o]? = some (.int k a) ∧ ys[o]? = some (.int k b))
    (ha : offs.map (intAt xs) = la) (hb : offs.map (intAt ys) = lb) : OpQ P E ρ n σ Γ (.binOp .neq T x y T') ty (.bool (!decide (la = lb))) := by
  subst ha; subst hb
  exact run_binOp_any hx hy (fun w => run_eqGuard_agg w .neq T x y xs ys (run_eq_ints h hv w).2) fun w => by rw [run_neq_struct, (run_eq_ints h hv w).1]; rfl
end
theorem Pick.back {A : Asn} {Γ Γ1 : List Asn} {B : List Asn} (p : Pick A B Γ Γ1) (hB : B = []) : Ent (A :: Γ1) Γ := by
  induction p with
  | here => subst hB; exact Ent.refl _
  | there _ ih => exact Ent.pick (Pick.there Pick.here) ih
theorem Sel.back {pre Γ Δ : List Asn} (h : Sel pre Γ Δ) : Ent (pre ++ Δ) Γ := by
  induction h with
  | nil => exact Ent.refl _
  | @cons A pre Γ Γ1 Δ p _ ih => exact Ent.trans (Ent.pick (Γ1 := pre ++ Δ) Pick.here ih) (Pick.back p rfl)
section
variable {P : Program} {E : World} {ρ : Hp} {n : Fz} {σ σ' : Slots} {Γ Γ' : List Asn} {K : Act → World → Prop} {Q : Exit → Act → World → Prop}
variable {ops : Array Oper} {d : Nat} {ty : TypeId} {pos : String} {af : Array Edge} {g : Option (Nat × Bool)}
variable {f : FuncId} {fn : Func} {xs : List Operand} {vs : List Value} {ats : Array TypeId} {pre Δ : List Asn} {body : Code}
/-- a call that only reads (blocks of ours too): its answer is known, memory stays -/
theorem s_fnr {v0 : Value} (hd : Nat.ble n.n d = false) (hw : Wanted ops n σ g) (hfn : P.funcs[f]? = some fn) (hb : fn.body = some body) (hne : (fn.name == "runtime.NumGoroutine") = false) (hx : evos σ xs = some vs)
    (sel : Sel pre Γ Δ) (sp : ∀ ρ', Lent ρ ρ' Δ → Spec0 P f vs.toArray ρ' pre fun v Γ' => v = v0 ∧ Γ' = pre) (k : Tr E ρ n ((d, v0) :: σ) Γ K) :
    Step P E ρ n σ Γ { dst := some d, op := .call { callee := .value (.func f), args := xs.toArray, argTypes := ats }, type := ty, pos := pos, after := af, guard := g } ops Q K :=
  s_fnb hd hw hfn hb hne hx sel sp fun v Γ' h => by obtain ⟨rfl, rfl⟩ := h; exact Tr.ent sel.back k
theorem s_fnrg {v0 : Value} {b : Bool} (hd : Nat.ble n.n d = false) (ha : Asks ops n σ g b) (hfn : P.funcs[f]? = some fn) (hb : fn.body = some body) (hne : (fn.name == "runtime.NumGoroutine") = false)
    (hl : b = true → EnvLe σ' σ) (hx : evos σ' xs = some vs) (sel : Sel pre Γ Δ) (sp : b = true → ∀ ρ', Lent ρ ρ' Δ → Spec0 P f vs.toArray ρ' pre fun v Γ' => v = v0 ∧ Γ' = pre) (k : Tr E ρ n ((d, gd b v0) :: σ) Γ K) :
    Step P E ρ n σ Γ { dst := some d, op := .call { callee := .value (.func f), args := xs.toArray, argTypes := ats }, type := ty, pos := pos, after := af, guard := g } ops Q K := by
  cases b with
  | true =>
    intro a w e s
    have e' := e.le (hl rfl)
    rw [if_pos (Wanted.spec (o := { dst := some d, op := .call { callee := .value (.func f), args := xs.toArray, argTypes := ats }, type := ty, pos := pos, after := af, guard := g }) (ha.1 rfl) e)]
    unfold Oper.wp
    rw [exo_eq, run_fn e' hfn hb hne hx]
    show Calls P f _ w _
    refine (lend_core sel (sp rfl) w s).mono ?_
    rintro e2 w' ⟨v, Γ', ⟨rfl, rfl⟩, rfl, s'⟩
    exact k _ _ (e.put hd v) (s'.ent sel.back)
  | false => exact s_no hd (ha.2 rfl) k
end
end Go.SL
