/-
  The engine, part C: what the model's operations do, in the judgement's words: numbers, bools, memory.
-/
import Derived.Test.YtehaoafnobnneaaGreatDoorSlB
namespace Go.SL
open Go

/-! ### Worlds -/
def setBlk (w : World) (b : Nat) (o : Obj) : World := { w with heap := w.heap.setIfInBounds b o }
theorem hp_setBlk {w : World} {b : Nat} {o o0 : Obj} (h : hp w b = some o0) : hp (setBlk w b o) b = some o := by
  have hlt : b < w.heap.size := (Array.getElem?_eq_some_iff.1 h).1
  simp [hp, setBlk, hlt]
theorem hp_setBlk_ne {w : World} {b x : Nat} {o : Obj} (h : x ≠ b) : hp (setBlk w b o) x = hp w x := by
  simp [hp, setBlk, Array.getElem?_setIfInBounds_ne (Ne.symm h)]
theorem setBlk_setBlk (w : World) (b : Nat) (o o' : Obj) : setBlk (setBlk w b o) b o' = setBlk w b o' := by simp [setBlk]
theorem setCell_eq {w : World} {b off : Nat} {c : Array Value} {T : TypeId} {fz : Nat × Nat} (h : hp w b = some (.cells c T fz)) (v : Value) :
    w.setCell ⟨b, off, none⟩ v = setBlk w b (.cells (c.setIfInBounds off v) T fz) := by
  obtain ⟨hlt, hb⟩ := Array.getElem?_eq_some_iff.1 h
  unfold World.setCell setBlk
  congr 1
  apply Array.ext
  · simp
  · intro i h1 h2
    by_cases e : i = b
    · subst e
      simp [Array.getElem_modify, hb]
    · have e' : b ≠ i := fun h => e h.symm
      rw [Array.getElem_setIfInBounds_ne (h := e') (hj := by simpa using h2)]
      simp [Array.getElem_modify, e']
theorem cell_at {w : World} {b : Nat} {c : Array Value} {T : TypeId} {fz : Nat × Nat} (h : hp w b = some (.cells c T fz)) (off : Nat) : w.cell? ⟨b, off, none⟩ = c[off]? := by
  have h' : w.heap[b]? = some (.cells c T fz) := h
  simp [World.cell?, h']
theorem soft_at {w : World} {b : Nat} {c : Array Value} {T : TypeId} {fz : Nat × Nat} (h : hp w b = some (.cells c T fz)) (hs : Soft c.size fz) {off : Nat} (ho : off < c.size) : w.frozen? ⟨b, off, none⟩ = false := by
  have h' : w.heap[b]? = some (.cells c T fz) := h
  obtain ⟨lo, hi⟩ := fz
  simp only [World.frozen?, h']
  rcases hs with hs | hs
  · cases hs; simp
  · simp at hs ⊢; omega

/-- vs written over c from place o on -/
def wr : Array Value → Nat → List Value → Array Value
  | c, _, [] => c
  | c, o, v :: vs => wr (c.setIfInBounds o v) (o + 1) vs
theorem wr_size : ∀ (vs : List Value) (c : Array Value) (o : Nat), (wr c o vs).size = c.size
  | [], _, _ => rfl
  | v :: vs, c, o => by rw [wr, wr_size]; simp
theorem wr_get : ∀ (vs : List Value) (c : Array Value) (o i : Nat), o + vs.length ≤ c.size → (wr c o vs)[i]? = if o ≤ i ∧ i < o + vs.length then vs[i - o]? else c[i]?
  | [], c, o, i, h => by
    have : ¬ (o ≤ i ∧ i < o + ([] : List Value).length) := fun h => by have h1 := h.1; have h2 := h.2; simp only [List.length_nil] at h2; omega
    simp only [wr]; rw [if_neg this]
  | v :: vs, c, o, i, h => by
    simp only [List.length_cons] at h
    rw [wr, wr_get vs _ (o + 1) i (by simp; omega)]
    simp only [List.length_cons]
    by_cases e : i = o
    · subst e
      rw [if_neg (by omega), if_pos (by omega)]
      have : i < c.size := by omega
      simp [this]
    · rw [Array.getElem?_setIfInBounds_ne (by omega)]
      by_cases e2 : o + 1 ≤ i ∧ i < o + 1 + vs.length
      · rw [if_pos e2, if_pos (by omega)]
        rw [show i - o = (i - (o + 1)) + 1 from by omega]
        simp
      · rw [if_neg e2, if_neg (by omega)]
theorem run_storeCells {P : Program} : ∀ (vs : List Value) (i : Nat) (w : World) (b off : Nat) (c : Array Value) (T : TypeId) (fz : Nat × Nat), hp w b = some (.cells c T fz) → Soft c.size fz → off + i + vs.length ≤ c.size → (∀ v ∈ vs, v.oneCell' = true) →
    (storeCells ⟨b, off, none⟩ vs i).run P w = .ok () (setBlk w b (.cells (wr c (off + i) vs) T fz))
  | [], i, w, b, off, c, T, fz, h, _, _, _ => by
    have hlt : b < w.heap.size := (Array.getElem?_eq_some_iff.1 h).1
    have e : setBlk w b (.cells c T fz) = w := by
      unfold setBlk
      congr 1
      apply Array.ext (by simp)
      intro j h1 h2
      by_cases e : b = j
      · subst e
        have := (Array.getElem?_eq_some_iff.1 h).2
        simp [this]
      · rw [Array.getElem_setIfInBounds_ne (h := e) (hj := h2)]
    simp only [storeCells, wr, e]
    rfl
  | v :: vs, i, w, b, off, c, T, fz, h, hs, hl, h1 => by
    simp only [List.length_cons] at hl
    have ea : (⟨b, off, none⟩ : Addr).add i = ⟨b, off + i, none⟩ := by unfold Addr.add; split <;> simp_all
    have hc := cell_at h (off + i)
    have hlt : off + i < c.size := by omega
    rw [Array.getElem?_eq_getElem hlt] at hc
    have hf := soft_at h hs hlt
    have hr := run_store P w ⟨b, off + i, none⟩ v .plain (h1 v (by simp))
    rw [hc] at hr
    rw [hf] at hr
    rw [setCell_eq h] at hr
    replace hr : (store ⟨b, off + i, none⟩ v Mode.plain).run P w = .ok () (setBlk w b (.cells (c.setIfInBounds (off + i) v) T fz)) := hr
    have ih := run_storeCells (P := P) vs (i + 1) (setBlk w b (.cells (c.setIfInBounds (off + i) v) T fz)) b off (c.setIfInBounds (off + i) v) T fz (hp_setBlk h) (by simpa using hs) (by simp; omega) (fun u hu => h1 u (by simp [hu]))
    rw [setBlk_setBlk] at ih
    simp only [storeCells, Sem.run_bind, ea]
    rw [show store ⟨b, off + i, none⟩ v = store ⟨b, off + i, none⟩ v Mode.plain from rfl, hr]
    simp only [Result.andThen_ok, ih]
    rfl

/-- memory: one block turned -/
theorem sat.put {A : Asn} {B : List Asn} {Γ Γ' : List Asn} (p : Pick A B Γ Γ') {E : World} {ρ : Hp} {w : World} (s : sat E ρ Γ w) {b : Nat} {o0 o : Obj} (hA : ∀ h, A.sat h → h b = some o0) (hB : ∀ h, h b = some o → star B h) : hp w b = some o0 ∧ sat E ρ Γ' (setBlk w b o) := by
  obtain ⟨h1, hr, d, l1, lr, a, K⟩ := s.pick p
  have e := hA _ a
  have e0 := l1.at_ _ _ e
  refine ⟨e0, K _ (Hp.one b o) ⟨rfl, rfl, rfl⟩ (hB _ (Hp.one_at b o)) (Hp.one_disj (d.out e)) (Hp.one_le (hp_setBlk e0)) ⟨fun x ox hx => ?_⟩⟩
  have hne : x ≠ b := fun e' => by subst e'; rw [d.out e] at hx; cases hx
  rw [hp_setBlk_ne hne]
  exact lr.at_ _ _ hx

/-! ### Types -/
def isScalar (P : Program) (T : TypeId) : Bool := match P.underlying T with | some (.struct _) | some (.array ..) | none => false | _ => true
def aggSize (P : Program) (T : TypeId) : Option Nat := match P.underlying T with | some (.struct _) | some (.array ..) => (P.info? T).map (·.size) | _ => none
def sizeIs (P : Program) (T : TypeId) : Option Nat := (P.info? T).map (·.size)
/-- where a struct's field begins (its size is not nought) -/
def fieldOff (P : Program) (T : TypeId) (i : Nat) : Option (Nat × TypeId) := match P.underlying T with
  | some (.struct fs) => match fs[i]? with
    | some f => if sizeIs P f.type = some 0 ∨ sizeIs P f.type = none then none else some (f.offset, f.type)
    | none => none
  | _ => none
theorem run_isAgg_scalar {P : Program} {T : TypeId} (h : isScalar P T = true) (w : World) : (isAgg T).run P w = .ok false w := by
  unfold isScalar at h
  unfold isAgg underlying
  cases hu : P.underlying T with
  | none => rw [hu] at h; cases h
  | some d => cases d <;> first | (rw [hu] at h; cases h; done) | simp [hu]
theorem run_isAgg_agg {P : Program} {T : TypeId} {k : Nat} (h : aggSize P T = some k) (w : World) : (isAgg T).run P w = .ok true w := by
  unfold aggSize at h
  unfold isAgg underlying
  cases hu : P.underlying T with
  | none => rw [hu] at h; cases h
  | some d => cases d <;> first | (rw [hu] at h; cases h; done) | simp [hu]
theorem run_sizeOf {P : Program} {T : TypeId} {k : Nat} (h : sizeIs P T = some k) (w : World) : (sizeOf T).run P w = .ok k w := by
  unfold sizeIs at h
  unfold sizeOf typeInfo
  cases hi : P.info? T with
  | none => rw [hi] at h; cases h
  | some i => rw [hi] at h; simp at h; simp [hi, h]
theorem aggSize_size {P : Program} {T : TypeId} {k : Nat} (h : aggSize P T = some k) : sizeIs P T = some k := by
  unfold aggSize at h
  unfold sizeIs
  split at h <;> first | exact h | cases h
theorem run_loadVar_scalar {P : Program} {T : TypeId} (h : isScalar P T = true) {w : World} {a : Addr} {v : Value} (hc : w.cell? a = some v) : (loadVar T a).run P w = .ok v w := by
  simp [loadVar, run_isAgg_scalar h, hc]
theorem run_loadVar_agg {P : Program} {T : TypeId} {cs : List Value} (h : aggSize P T = some cs.length) {w : World} {a : Addr} (hc : ∀ j v, cs[j]? = some v → w.cell? (a.add j) = some v) : (loadVar T a).run P w = .ok (.agg cs.toArray) w := by
  simp [loadVar, run_isAgg_agg h, run_sizeOf (aggSize_size h), run_loadCells_list w a cs hc]
theorem addr_add (b off i : Nat) : (⟨b, off, none⟩ : Addr).add i = ⟨b, off + i, none⟩ := by unfold Addr.add; split <;> simp_all
theorem addr_add_add (a : Addr) (i j : Nat) : (a.add i).add j = a.add (i + j) := by
  unfold Addr.add
  by_cases hi : i = 0
  · subst hi; simp
  · by_cases hj : j = 0
    · subst hj; simp [hi]
    · simp [hi, hj]; omega

section
variable {P : Program} {E : World} {ρ : Hp} {n : Fz} {σ : Slots} {Γ Γ' : List Asn} {ty : TypeId} {x y z : Operand} {v u : Value}

/-! ### Plain operations -/
theorem q_move (hx : evo σ x = some v) : OpQ P E ρ n σ Γ (.move x) ty v := fun a w e s => by
  simp [exo, execOp, e.eval hx]
theorem q_assign (hx : evo σ x = some v) : OpQ P E ρ n σ Γ (.assign x) ty v := fun a w e s => by
  simp [exo, execOp, e.eval hx]
theorem q_pick {b : Bool} (hz : evo σ z = some (.bool b)) (hx : evo σ x = some v) (hy : evo σ y = some u) : OpQ P E ρ n σ Γ (.pick z x y) ty (bif b then v else u) := fun a w e s => by
  cases b <;> simp [exo, execOp, e.eval hz, e.eval hx, e.eval hy, asBool]
theorem q_extract {vs : Array Value} {i : Nat} (hx : evo σ x = some (.tuple vs)) (hv : vs[i]? = some v) : OpQ P E ρ n σ Γ (.extract x i) ty v := fun a w e s => by
  simp [exo, execOp, e.eval hx, Instr.extract, hv]
theorem q_nilCheck {ad : Addr} (hx : evo σ x = some (.pointer (some ad))) : OpQ P E ρ n σ Γ (.nilCheck x) ty (.pointer (some ad)) := fun a w e s => by
  simp [exo, execOp, e.eval hx]
theorem q_makeFunc {fn : Fn} {xs ys : List Operand} {vs us : List Value} (hx : evos σ xs = some vs) (hy : evos σ ys = some us) : OpQ P E ρ n σ Γ (.makeFunc fn xs.toArray ys.toArray) ty (.func fn vs.toArray us.toArray) := fun a w e s => by
  simp [exo, execOp, e.evals hx, e.evals hy, Instr.makeFunc]

/-! ### Whole numbers -/
variable {k : IntKind} {a b : Int} {T T' : TypeId}
theorem run_binOp_int {op : BinOp} {x y : Operand} {V : Value} (hx : evo σ x = some (.int k a)) (hy : evo σ y = some (.int k b)) (hr : ∀ w, (binOp op T (.int k a) (.int k b)).run P w = .ok V w) : OpQ P E ρ n σ Γ (.binOp op T x y T') ty V := fun ac w e s => by
  have hg : ∀ w, (eqGuard op T x y (.int k a) (.int k b)).run P w = .ok () w := fun w => by
    unfold eqGuard
    split <;> simp
  simp [exo, execOp, e.eval hx, e.eval hy, hg, hr]
def InK (k : IntKind) (c : Int) : Prop := k.wrap c = c
theorem q_addw (hx : evo σ x = some (.int k a)) (hy : evo σ y = some (.int k b)) : OpQ P E ρ n σ Γ (.binOp .add T x y T') ty (.int k (k.wrap (a + b))) :=
  run_binOp_int hx hy fun w => by cases k <;> simp [binOp, Op.intArith]
theorem q_subw (hx : evo σ x = some (.int k a)) (hy : evo σ y = some (.int k b)) : OpQ P E ρ n σ Γ (.binOp .sub T x y T') ty (.int k (k.wrap (a - b))) :=
  run_binOp_int hx hy fun w => by cases k <;> simp [binOp, Op.intArith]
theorem q_mulw (hx : evo σ x = some (.int k a)) (hy : evo σ y = some (.int k b)) : OpQ P E ρ n σ Γ (.binOp .mul T x y T') ty (.int k (k.wrap (a * b))) :=
  run_binOp_int hx hy fun w => by cases k <;> simp [binOp, Op.intArith]
theorem wrap_i64 {c : Int} (h1 : -9223372036854775808 ≤ c) (h2 : c ≤ 9223372036854775807) : IntKind.wrap .i64 c = c := by
  simp [IntKind.wrap, IntKind.bits, IntKind.signed]; omega
theorem wrap_u32 {c : Int} (h1 : 0 ≤ c) (h2 : c ≤ 4294967295) : IntKind.wrap .u32 c = c := by
  simp [IntKind.wrap, IntKind.bits, IntKind.signed]; omega
theorem wrap_u64 {c : Int} (h1 : 0 ≤ c) (h2 : c ≤ 18446744073709551615) : IntKind.wrap .u64 c = c := by
  simp [IntKind.wrap, IntKind.bits, IntKind.signed]; omega
theorem wrap_u8 {c : Int} (h1 : 0 ≤ c) (h2 : c ≤ 255) : IntKind.wrap .u8 c = c := by
  simp [IntKind.wrap, IntKind.bits, IntKind.signed]; omega
theorem q_add (hx : evo σ x = some (.int .i64 a)) (hy : evo σ y = some (.int .i64 b)) (h1 : -9223372036854775808 ≤ a + b) (h2 : a + b ≤ 9223372036854775807) : OpQ P E ρ n σ Γ (.binOp .add T x y T') ty (.int .i64 (a + b)) := by
  have := q_addw (P := P) (E := E) (ρ := ρ) (n := n) (Γ := Γ) (ty := ty) (T := T) (T' := T') hx hy
  rwa [wrap_i64 h1 h2] at this
theorem q_sub (hx : evo σ x = some (.int .i64 a)) (hy : evo σ y = some (.int .i64 b)) (h1 : -9223372036854775808 ≤ a - b) (h2 : a - b ≤ 9223372036854775807) : OpQ P E ρ n σ Γ (.binOp .sub T x y T') ty (.int .i64 (a - b)) := by
  have := q_subw (P := P) (E := E) (ρ := ρ) (n := n) (Γ := Γ) (ty := ty) (T := T) (T' := T') hx hy
  rwa [wrap_i64 h1 h2] at this
theorem q_mul (hx : evo σ x = some (.int .i64 a)) (hy : evo σ y = some (.int .i64 b)) (h1 : -9223372036854775808 ≤ a * b) (h2 : a * b ≤ 9223372036854775807) : OpQ P E ρ n σ Γ (.binOp .mul T x y T') ty (.int .i64 (a * b)) := by
  have := q_mulw (P := P) (E := E) (ρ := ρ) (n := n) (Γ := Γ) (ty := ty) (T := T) (T' := T') hx hy
  rwa [wrap_i64 h1 h2] at this
theorem q_lss (hx : evo σ x = some (.int k a)) (hy : evo σ y = some (.int k b)) : OpQ P E ρ n σ Γ (.binOp .lss T x y T') ty (.bool (decide (a < b))) :=
  run_binOp_int hx hy fun w => by cases k <;> simp [binOp, Op.intCmp]
theorem q_leq (hx : evo σ x = some (.int k a)) (hy : evo σ y = some (.int k b)) : OpQ P E ρ n σ Γ (.binOp .leq T x y T') ty (.bool (decide (a ≤ b))) :=
  run_binOp_int hx hy fun w => by cases k <;> simp [binOp, Op.intCmp]
theorem q_gtr (hx : evo σ x = some (.int k a)) (hy : evo σ y = some (.int k b)) : OpQ P E ρ n σ Γ (.binOp .gtr T x y T') ty (.bool (decide (b < a))) :=
  run_binOp_int hx hy fun w => by cases k <;> simp [binOp, Op.intCmp]
theorem q_geq (hx : evo σ x = some (.int k a)) (hy : evo σ y = some (.int k b)) : OpQ P E ρ n σ Γ (.binOp .geq T x y T') ty (.bool (decide (b ≤ a))) :=
  run_binOp_int hx hy fun w => by cases k <;> simp [binOp, Op.intCmp]
theorem q_eql (hx : evo σ x = some (.int k a)) (hy : evo σ y = some (.int k b)) : OpQ P E ρ n σ Γ (.binOp .eql T x y T') ty (.bool (decide (a = b))) :=
  run_binOp_int hx hy fun w => by cases k <;> simp [binOp, Op.intCmp] <;> rfl
theorem q_neq (hx : evo σ x = some (.int k a)) (hy : evo σ y = some (.int k b)) : OpQ P E ρ n σ Γ (.binOp .neq T x y T') ty (.bool (decide (a ≠ b))) :=
  run_binOp_int hx hy fun w => by
    have : (a != b) = decide (a ≠ b) := by by_cases h : a = b <;> simp [h]
    cases k <;> simp [binOp, Op.intCmp, this]
theorem q_rem (hx : evo σ x = some (.int k a)) (hy : evo σ y = some (.int k b)) (hb : b ≠ 0) : OpQ P E ρ n σ Γ (.binOp .rem T x y T') ty (.int k (a.tmod b)) :=
  run_binOp_int hx hy fun w => by cases k <;> simp [binOp, Op.intDiv, hb]
theorem q_remp (hx : evo σ x = some (.int k a)) (hy : evo σ y = some (.int k b)) (ha : 0 ≤ a) (hb : 0 < b) : OpQ P E ρ n σ Γ (.binOp .rem T x y T') ty (.int k (a % b)) := by
  have := q_rem (P := P) (E := E) (ρ := ρ) (n := n) (Γ := Γ) (ty := ty) (T := T) (T' := T') hx hy (by omega)
  rwa [Int.tmod_eq_emod_of_nonneg ha] at this
theorem q_quo (hx : evo σ x = some (.int k a)) (hy : evo σ y = some (.int k b)) (hb : b ≠ 0) : OpQ P E ρ n σ Γ (.binOp .quo T x y T') ty (.int k (k.wrap (a.tdiv b))) :=
  run_binOp_int hx hy fun w => by cases k <;> simp [binOp, Op.intDiv, hb]
theorem q_quop (hx : evo σ x = some (.int .i64 a)) (hy : evo σ y = some (.int .i64 b)) (ha : 0 ≤ a) (ha' : a ≤ 9223372036854775807) (hb : 0 < b) : OpQ P E ρ n σ Γ (.binOp .quo T x y T') ty (.int .i64 (a / b)) := by
  have := q_quo (P := P) (E := E) (ρ := ρ) (n := n) (Γ := Γ) (ty := ty) (T := T) (T' := T') hx hy (by omega)
  rw [Int.tdiv_eq_ediv_of_nonneg ha] at this
  rwa [wrap_i64 (by have := Int.ediv_nonneg ha (Int.le_of_lt hb); omega) (by have := Int.ediv_le_self b ha; omega)] at this

/-- bit by bit: the numbers as bits -/
theorem bits_and (c d : BitVec k.bits) : k.wrap ((BitVec.ofInt k.bits c.toNat &&& BitVec.ofInt k.bits d.toNat).toNat : Int) = k.wrap ((c &&& d).toNat : Int) := by simp
theorem q_and (hx : evo σ x = some (.int k a)) (hy : evo σ y = some (.int k b)) : OpQ P E ρ n σ Γ (.binOp .and T x y T') ty (.int k (k.wrap ((BitVec.ofInt k.bits a &&& BitVec.ofInt k.bits b).toNat : Int))) :=
  run_binOp_int hx hy fun w => by cases k <;> simp [binOp, Op.intBits]
theorem q_or (hx : evo σ x = some (.int k a)) (hy : evo σ y = some (.int k b)) : OpQ P E ρ n σ Γ (.binOp .or T x y T') ty (.int k (k.wrap ((BitVec.ofInt k.bits a ||| BitVec.ofInt k.bits b).toNat : Int))) :=
  run_binOp_int hx hy fun w => by cases k <;> simp [binOp, Op.intBits]
theorem q_xor (hx : evo σ x = some (.int k a)) (hy : evo σ y = some (.int k b)) : OpQ P E ρ n σ Γ (.binOp .xor T x y T') ty (.int k (k.wrap ((BitVec.ofInt k.bits a ^^^ BitVec.ofInt k.bits b).toNat : Int))) :=
  run_binOp_int hx hy fun w => by cases k <;> simp [binOp, Op.intBits]
theorem run_shift {op : BinOp} {k2 : IntKind} {m : Int} {V : Value} (hop : op = .shl ∨ op = .shr) (hx : evo σ x = some (.int k a)) (hy : evo σ y = some (.int k2 m)) (hr : ∀ w, (Op.shift op k a k2 m).run P w = .ok V w) : OpQ P E ρ n σ Γ (.binOp op T x y T') ty V := fun ac w e s => by
  have hg : ∀ w, (eqGuard op T x y (.int k a) (.int k2 m)).run P w = .ok () w := fun w => by
    unfold eqGuard
    split <;> simp
  rcases hop with rfl | rfl <;> simp [exo, execOp, e.eval hx, e.eval hy, hg, binOp, hr]
theorem q_shl {k2 : IntKind} {m : Int} (hx : evo σ x = some (.int k a)) (hy : evo σ y = some (.int k2 m)) (hm : 0 ≤ m) : OpQ P E ρ n σ Γ (.binOp .shl T x y T') ty (.int k (k.wrap (a * 2 ^ (min m.toNat k.bits)))) :=
  run_shift (.inl rfl) hx hy fun w => by simp [Op.shift, show ¬ m < 0 by omega]
theorem q_shr {k2 : IntKind} {m : Int} (hx : evo σ x = some (.int k a)) (hy : evo σ y = some (.int k2 m)) (hm : 0 ≤ m) : OpQ P E ρ n σ Γ (.binOp .shr T x y T') ty (.int k (a.fdiv (2 ^ (min m.toNat k.bits)))) :=
  run_shift (.inr rfl) hx hy fun w => by simp [Op.shift, show ¬ m < 0 by omega]
theorem q_not {c : Bool} (hx : evo σ x = some (.bool c)) : OpQ P E ρ n σ Γ (.unOp .not T x) ty (.bool (!c)) := fun ac w e s => by
  simp [exo, execOp, e.eval hx, Op.unary]
theorem q_negw (hx : evo σ x = some (.int k a)) : OpQ P E ρ n σ Γ (.unOp .neg T x) ty (.int k (k.wrap (0 - a))) := fun ac w e s => by
  simp [exo, execOp, e.eval hx, Op.unary, Op.intArith]
theorem q_compl (hx : evo σ x = some (.int k a)) : OpQ P E ρ n σ Γ (.unOp .xor T x) ty (.int k (k.wrap ((BitVec.ofInt k.bits (if k.signed then -1 else k.max) ^^^ BitVec.ofInt k.bits a).toNat : Int))) := fun ac w e s => by
  simp [exo, execOp, e.eval hx, Op.unary, Op.intBits]
theorem q_convw {k' : IntKind} {dsc : TypeDesc} (hx : evo σ x = some (.int k a)) (hT : P.underlying T = some dsc) (hT' : P.underlying T' = some (.int k')) : OpQ P E ρ n σ Γ (.convert T T' x) ty (.int k' (k'.wrap a)) := fun ac w e s => by
  simp [exo, execOp, e.eval hx, convert, underlying, hT, hT', Conv.intToInt]
theorem q_conv {k' : IntKind} {dsc : TypeDesc} (hx : evo σ x = some (.int k a)) (hT : P.underlying T = some dsc) (hT' : P.underlying T' = some (.int k')) (hw : k'.wrap a = a) : OpQ P E ρ n σ Γ (.convert T T' x) ty (.int k' a) := by
  have := q_convw (E := E) (ρ := ρ) (n := n) (Γ := Γ) (ty := ty) hx hT hT'
  rwa [hw] at this
theorem run_binOp_any {op : BinOp} {x y : Operand} {V v1 v2 : Value} (hx : evo σ x = some v1) (hy : evo σ y = some v2) (hg : ∀ w, (eqGuard op T x y v1 v2).run P w = .ok () w) (hr : ∀ w, (binOp op T v1 v2).run P w = .ok V w) : OpQ P E ρ n σ Γ (.binOp op T x y T') ty V := fun ac w e s => by
  simp [exo, execOp, e.eval hx, e.eval hy, hg, hr]
theorem equal_run {v1 v2 : Value} {r : Bool} {w : World} (h : ∀ d, (Op.equalIn (d + 1) T v1 v2).run P w = .ok r w) : (Op.equal T v1 v2).run P w = .ok r w := h 9999
theorem q_eqlv {v1 v2 : Value} {r : Bool} (hx : evo σ x = some v1) (hy : evo σ y = some v2) (hg : ∀ w, (eqGuard .eql T x y v1 v2).run P w = .ok () w)
    (hb : binOp .eql T v1 v2 = (do pure (.bool (← Op.equal T v1 v2)))) (hr : ∀ w d, (Op.equalIn (d + 1) T v1 v2).run P w = .ok r w) : OpQ P E ρ n σ Γ (.binOp .eql T x y T') ty (.bool r) :=
  run_binOp_any hx hy hg fun w => by rw [hb, Sem.run_bind, equal_run (hr w)]; rfl
theorem q_neqv {v1 v2 : Value} {r : Bool} (hx : evo σ x = some v1) (hy : evo σ y = some v2) (hg : ∀ w, (eqGuard .neq T x y v1 v2).run P w = .ok () w)
    (hb : binOp .neq T v1 v2 = (do pure (.bool (!(← Op.equal T v1 v2))))) (hr : ∀ w d, (Op.equalIn (d + 1) T v1 v2).run P w = .ok r w) : OpQ P E ρ n σ Γ (.binOp .neq T x y T') ty (.bool (!r)) :=
  run_binOp_any hx hy hg fun w => by rw [hb, Sem.run_bind, equal_run (hr w)]; rfl
theorem q_eqlb {c d : Bool} (hx : evo σ x = some (.bool c)) (hy : evo σ y = some (.bool d)) (hT : P.underlying T = some .bool) : OpQ P E ρ n σ Γ (.binOp .eql T x y T') ty (.bool (c == d)) :=
  q_eqlv hx hy (fun w => by simp [eqGuard]) rfl fun w d => by simp [Op.equalIn, underlying, hT]
theorem q_neqb {c d : Bool} (hx : evo σ x = some (.bool c)) (hy : evo σ y = some (.bool d)) (hT : P.underlying T = some .bool) : OpQ P E ρ n σ Γ (.binOp .neq T x y T') ty (.bool (!(c == d))) :=
  q_neqv hx hy (fun w => by simp [eqGuard]) rfl fun w d => by simp [Op.equalIn, underlying, hT]
/-- a pointer against nil -/
theorem q_eqlp {c : Addr} {el : TypeId} (hx : evo σ x = some (.pointer (some c))) (hy : evo σ y = some (.pointer none)) (hT : P.underlying T = some (.pointer el)) : OpQ P E ρ n σ Γ (.binOp .eql T x y T') ty (.bool false) :=
  q_eqlv hx hy (fun w => by simp [eqGuard]) rfl fun w d => by simp [Op.equalIn, underlying, hT]
theorem q_neqp {c : Addr} {el : TypeId} (hx : evo σ x = some (.pointer (some c))) (hy : evo σ y = some (.pointer none)) (hT : P.underlying T = some (.pointer el)) : OpQ P E ρ n σ Γ (.binOp .neq T x y T') ty (.bool true) :=
  q_neqv (r := false) hx hy (fun w => by simp [eqGuard]) rfl fun w d => by simp [Op.equalIn, underlying, hT]
theorem q_eqlp0 {el : TypeId} (hx : evo σ x = some (.pointer none)) (hy : evo σ y = some (.pointer none)) (hT : P.underlying T = some (.pointer el)) : OpQ P E ρ n σ Γ (.binOp .eql T x y T') ty (.bool true) :=
  q_eqlv hx hy (fun w => by simp [eqGuard]) rfl fun w d => by simp [Op.equalIn, underlying, hT]
theorem q_neqp0 {el : TypeId} (hx : evo σ x = some (.pointer none)) (hy : evo σ y = some (.pointer none)) (hT : P.underlying T = some (.pointer el)) : OpQ P E ρ n σ Γ (.binOp .neq T x y T') ty (.bool false) :=
  q_neqv (r := true) hx hy (fun w => by simp [eqGuard]) rfl fun w d => by simp [Op.equalIn, underlying, hT]
/-- strings -/
theorem q_eqls {c d : ByteArray} (hx : evo σ x = some (.string c)) (hy : evo σ y = some (.string d)) : OpQ P E ρ n σ Γ (.binOp .eql T x y T') ty (.bool (decide (c = d))) :=
  run_binOp_any hx hy (fun w => by simp [eqGuard]) fun w => by
    have : (c.toList == d.toList) = decide (c = d) := by
      by_cases h : c = d
      · simp [h]
      · have h' : c.toList ≠ d.toList := fun e => h (by
          have : c.data.toList = d.data.toList := by simpa [ByteArray.toList_eq] using e
          cases c; cases d; simp_all [Array.ext_iff])
        simp [h, h']
    simp [binOp, Op.stringOp, this]
end
end Go.SL
