/-
  The engine, part D: loads, stores, addresses, new blocks, slices.
-/
import Derived.Test.YtehaoafnobnneaaGreatDoorSlC
namespace Go.SL
open Go

/-- the address of cell k behind a slice's begin -/
def ea (a : Option Addr) (k : Nat) : Value := .pointer (some ((a.getD ⟨0, 0, none⟩).add k))
/-- a slice that reads in the shared memory: n elements of sz cells each -/
def Ro (ρ : Hp) (sz : Nat) (a : Option Addr) (n cap : Nat) (cs : List Value) : Prop :=
  cs.length = n * sz ∧ n ≤ cap ∧ cap ≤ maxLen ∧ ∀ j c, cs[j]? = some c → ∃ ad, a = some ad ∧ ρ.cell? (ad.add j) = some c
/-- a slice that reads in every state at hand -/
def Rd (ρ : Hp) (Γ : List Asn) (sz : Nat) (a : Option Addr) (n cap : Nat) (cs : List Value) : Prop :=
  ∀ E w, sat E ρ Γ w → cs.length = n * sz ∧ n ≤ cap ∧ cap ≤ maxLen ∧ ∀ j c, cs[j]? = some c → ∃ ad, a = some ad ∧ w.cell? (ad.add j) = some c
theorem Ro.mono {ρ ρ' : Hp} (l : ρ.le ρ') {sz n cap : Nat} {a : Option Addr} {cs : List Value} (h : Ro ρ sz a n cap cs) : Ro ρ' sz a n cap cs :=
  ⟨h.1, h.2.1, h.2.2.1, fun j c e => let ⟨ad, e1, e2⟩ := h.2.2.2 j c e; ⟨ad, e1, Hp.cell_le l e2⟩⟩
theorem Ro.nil (ρ : Hp) (sz : Nat) : Ro ρ sz none 0 0 [] := ⟨by simp, Nat.le_refl _, by decide, fun j c e => by simp at e⟩
theorem rowIn.reads {h : Hp} {T : TypeId} {sz n cap : Nat} {a : Option Addr} {cs : List Value} (r : rowIn h T sz a n cap cs) :
    cs.length = n * sz ∧ n ≤ cap ∧ cap ≤ maxLen ∧ ∀ j c, cs[j]? = some c → ∃ ad, a = some ad ∧ h.cell? (ad.add j) = some c := by
  obtain ⟨hl, ⟨rfl, rfl, rfl⟩ | ⟨g, cur, fz, rfl, hg, hs, hn, hc, hz, ht⟩⟩ := r
  · refine ⟨hl, Nat.le_refl _, by decide, fun j c e => ?_⟩
    have : cs = [] := List.eq_nil_of_length_eq_zero (by simpa using hl)
    subst this; simp at e
  · refine ⟨hl, hn, hc, fun j c e => ⟨_, rfl, ?_⟩⟩
    rw [addr_add]
    simp only [Hp.cell?, hg, Nat.zero_add]
    rw [← ht, List.getElem?_take] at e
    split at e
    · simpa using e
    · cases e
/-- shared from now on, it reads -/
theorem ro_of_row {ρ : Hp} {T : TypeId} {sz n cap : Nat} {a : Option Addr} {cs : List Value} (h : ∃ h, Hp.le h ρ ∧ (Asn.row T sz a n cap cs).sat h) : Ro ρ sz a n cap cs := by
  obtain ⟨h, l, r⟩ := h
  obtain ⟨h1, h2, h3, h4⟩ := rowIn.reads r
  exact ⟨h1, h2, h3, fun j c e => let ⟨ad, e1, e2⟩ := h4 j c e; ⟨ad, e1, Hp.cell_le l e2⟩⟩
theorem rd_ro {ρ : Hp} {Γ : List Asn} {sz n cap : Nat} {a : Option Addr} {cs : List Value} (h : Ro ρ sz a n cap cs) : Rd ρ Γ sz a n cap cs := fun _ _ s =>
  ⟨h.1, h.2.1, h.2.2.1, fun j c e => let ⟨ad, e1, e2⟩ := h.2.2.2 j c e; ⟨ad, e1, cell_of_le s.2.1 e2⟩⟩
theorem rd_row {ρ : Hp} {Γ : List Asn} {T : TypeId} {sz n cap : Nat} {a : Option Addr} {cs : List Value} (p : Pick (.row T sz a n cap cs) [.row T sz a n cap cs] Γ Γ) : Rd ρ Γ sz a n cap cs := fun _ _ s => by
  obtain ⟨h1, _, _, l1, _, hA, _⟩ := s.pick p
  obtain ⟨x1, x2, x3, x4⟩ := rowIn.reads hA
  exact ⟨x1, x2, x3, fun j c e => let ⟨ad, e1, e2⟩ := x4 j c e; ⟨ad, e1, cell_of_le l1 e2⟩⟩
/-- a block that is known whole, as a slice of it -/
theorem rd_pts {ρ : Hp} {Γ : List Asn} {T : TypeId} {b sz n cap off : Nat} {cs ds : List Value} (p : Pick (.pts b ds T) [.pts b ds T] Γ Γ) (hl : cs.length = n * sz) (hn : n ≤ cap) (hc : cap ≤ maxLen) (hd : ∀ j c, cs[j]? = some c → ds[off + j]? = some c) :
    Rd ρ Γ sz (some ⟨b, off, none⟩) n cap cs := fun _ _ s => by
  obtain ⟨h1, _, _, l1, _, hA, _⟩ := s.pick p
  refine ⟨hl, hn, hc, fun j c e => ⟨_, rfl, ?_⟩⟩
  rw [addr_add, cell_at (l1.at_ _ _ hA)]
  simpa using hd j c e
theorem Ro.take {ρ : Hp} {sz n cap : Nat} {a : Option Addr} {cs : List Value} (h : Ro ρ sz a n cap cs) (m : Nat) (hm : m ≤ n) : Ro ρ sz a m cap (cs.take (m * sz)) := by
  obtain ⟨h1, h2, h3, h4⟩ := h
  have : m * sz ≤ n * sz := Nat.mul_le_mul_right _ hm
  refine ⟨by rw [List.length_take]; omega, by omega, h3, fun j c e => ?_⟩
  rw [List.getElem?_take] at e
  split at e
  · exact h4 j c e
  · cases e
/-- where a slice's rest begins -/
def sh (a : Option Addr) (cap k sz : Nat) : Option Addr := if cap = k then a else a.map (·.add (k * sz))
theorem Ro.drop {ρ : Hp} {sz n cap : Nat} {a : Option Addr} {cs : List Value} (h : Ro ρ sz a n cap cs) (k : Nat) (hk : k ≤ n) : Ro ρ sz (sh a cap k sz) (n - k) (cap - k) (cs.drop (k * sz)) := by
  obtain ⟨h1, h2, h3, h4⟩ := h
  refine ⟨by rw [List.length_drop, h1, Nat.sub_mul], by omega, by omega, fun j c e => ?_⟩
  rw [List.getElem?_drop] at e
  obtain ⟨ad, rfl, e2⟩ := h4 _ c e
  unfold sh
  by_cases hc : cap = k
  · exfalso
    have hlt := (List.getElem?_eq_some_iff.1 e).1
    have : n = k := by omega
    subst this; omega
  · rw [if_neg hc]
    exact ⟨_, rfl, by rw [addr_add_add]; exact e2⟩

section
variable {P : Program} {E : World} {ρ : Hp} {n : Fz} {σ : Slots} {Γ Γ' : List Asn} {ty : TypeId} {x y z : Operand} {v u : Value} {T T' : TypeId}

/-! ### Addresses -/
theorem q_fieldp {b off o i : Nat} {Tf : TypeId} (hx : evo σ x = some (.pointer (some ⟨b, off, none⟩))) (hf : fieldOff P T i = some (o, Tf)) : OpQ P E ρ n σ Γ (.fieldAddr T x i) ty (.pointer (some ⟨b, off + o, none⟩)) := fun ac w e s => by
  unfold fieldOff at hf
  split at hf
  · rename_i fs hu
    split at hf
    · rename_i f hfi
      split at hf
      · cases hf
      · rename_i hsz
        cases hf
        cases hi : P.info? f.type with
        | none => exact absurd (.inr (by simp [sizeIs, hi])) hsz
        | some inf =>
          have hsz' : ¬ inf.size = 0 := fun h => hsz (.inl (by simp [sizeIs, hi, h]))
          simp [exo, execOp, e.eval hx, Instr.fieldAt, underlying, hu, hfi, Instr.sureAddr, fieldPlace, sizeOf, typeInfo, hi, hsz', addr_add]
    · cases hf
  · cases hf
theorem q_fieldr {a : Option Addr} {k o i : Nat} {Tf : TypeId} (hx : evo σ x = some (ea a k)) (hf : fieldOff P T i = some (o, Tf)) : OpQ P E ρ n σ Γ (.fieldAddr T x i) ty (ea a (k + o)) := fun ac w e s => by
  unfold fieldOff at hf
  split at hf
  · rename_i fs hu
    split at hf
    · rename_i f hfi
      split at hf
      · cases hf
      · rename_i hsz
        cases hf
        cases hi : P.info? f.type with
        | none => exact absurd (.inr (by simp [sizeIs, hi])) hsz
        | some inf =>
          have hsz' : ¬ inf.size = 0 := fun h => hsz (.inl (by simp [sizeIs, hi, h]))
          simp [exo, execOp, e.eval hx, ea, Instr.fieldAt, underlying, hu, hfi, Instr.sureAddr, fieldPlace, sizeOf, typeInfo, hi, hsz', addr_add_add]
    · cases hf
  · cases hf
theorem q_index {a : Option Addr} {m cap sz : Nat} {cs : List Value} {el : TypeId} {k : IntKind} {i : Int} (hT : P.underlying T = some (.slice el)) (hs : sizeIs P el = some sz) (hz : 0 < sz) (hx : evo σ x = some (.slice a m cap)) (hy : evo σ y = some (.int k i))
    (rd : Rd ρ Γ sz a m cap cs) (h0 : 0 ≤ i) (h1 : i < m) : OpQ P E ρ n σ Γ (.indexAddr T x y) ty (ea a (i.toNat * sz)) := fun ac w e s => by
  obtain ⟨hl, _, _, hc⟩ := rd E w s
  have hlt : 0 < cs.length := by rw [hl]; exact Nat.mul_pos (by omega) hz
  obtain ⟨ad, rfl, _⟩ := hc 0 cs[0] (by simp [hlt])
  have hr := run_sizeOf hs w
  simp [exo, execOp, e.eval hx, e.eval hy, ea, Instr.indexAt, asIntOf, underlying, hT, h0, h1, hr]
theorem q_indexp {b off len sz : Nat} {el : TypeId} {k : IntKind} {i : Int} (hT : P.underlying T = some (.array len el)) (hs : sizeIs P el = some sz) (hx : evo σ x = some (.pointer (some ⟨b, off, none⟩))) (hy : evo σ y = some (.int k i))
    (h0 : 0 ≤ i) (h1 : i < len) : OpQ P E ρ n σ Γ (.indexAddr T x y) ty (.pointer (some ⟨b, off + i.toNat * sz, none⟩)) := fun ac w e s => by
  have hr := run_sizeOf hs w
  simp [exo, execOp, e.eval hx, e.eval hy, Instr.indexAt, Instr.sureAddr, asIntOf, underlying, hT, h0, h1, hr, addr_add]

/-! ### Loads -/
theorem q_loadp {b off : Nat} {cs : List Value} (hT : isScalar P T = true) (hx : evo σ x = some (.pointer (some ⟨b, off, none⟩))) (p : Pick (.pts b cs T') [.pts b cs T'] Γ Γ) (hc : cs[off]? = some v) : OpQ P E ρ n σ Γ (.load T x) ty v := fun ac w e s => by
  obtain ⟨h1, _, _, l1, _, hA, _⟩ := s.pick p
  have hcell : w.cell? ⟨b, off, none⟩ = some v := by rw [cell_at (l1.at_ _ _ hA)]; simpa using hc
  have := run_loadVar_scalar (P := P) hT hcell
  simp [exo, execOp, e.eval hx, Instr.loadAt, Instr.sureAddr, this]
theorem q_loadpa {b off : Nat} {cs vs : List Value} (hT : aggSize P T = some vs.length) (hx : evo σ x = some (.pointer (some ⟨b, off, none⟩))) (p : Pick (.pts b cs T') [.pts b cs T'] Γ Γ) (hc : (cs.drop off).take vs.length = vs) : OpQ P E ρ n σ Γ (.load T x) ty (.agg vs.toArray) := fun ac w e s => by
  obtain ⟨h1, _, _, l1, _, hA, _⟩ := s.pick p
  have hcell : ∀ j u, vs[j]? = some u → w.cell? ((⟨b, off, none⟩ : Addr).add j) = some u := fun j u hj => by
    rw [addr_add, cell_at (l1.at_ _ _ hA)]
    rw [← hc, List.getElem?_take] at hj
    split at hj
    · simpa [List.getElem?_drop] using hj
    · cases hj
  have := run_loadVar_agg (P := P) hT hcell
  simp [exo, execOp, e.eval hx, Instr.loadAt, Instr.sureAddr, this]
theorem q_loadr {a : Option Addr} {k sz m cap : Nat} {cs : List Value} (hT : isScalar P T = true) (hx : evo σ x = some (ea a k)) (rd : Rd ρ Γ sz a m cap cs) (hc : cs[k]? = some v) : OpQ P E ρ n σ Γ (.load T x) ty v := fun ac w e s => by
  obtain ⟨_, _, _, hcs⟩ := rd E w s
  obtain ⟨ad, rfl, hcell⟩ := hcs k v hc
  have := run_loadVar_scalar (P := P) hT hcell
  simp [exo, execOp, e.eval hx, ea, Instr.loadAt, Instr.sureAddr, this]
theorem q_loadra {a : Option Addr} {k sz m cap : Nat} {cs vs : List Value} (hT : aggSize P T = some vs.length) (hp : 0 < vs.length) (hx : evo σ x = some (ea a k)) (rd : Rd ρ Γ sz a m cap cs) (hc : (cs.drop k).take vs.length = vs) : OpQ P E ρ n σ Γ (.load T x) ty (.agg vs.toArray) := fun ac w e s => by
  obtain ⟨_, _, _, hcs⟩ := rd E w s
  have hget : ∀ j u, vs[j]? = some u → cs[k + j]? = some u := fun j u hj => by
    rw [← hc, List.getElem?_take] at hj
    split at hj
    · simpa [List.getElem?_drop] using hj
    · cases hj
  obtain ⟨ad, rfl, _⟩ := hcs _ _ (hget 0 vs[0] (by simp [hp]))
  have hcell : ∀ j u, vs[j]? = some u → w.cell? ((ad.add k).add j) = some u := fun j u hj => by
    rw [addr_add_add]
    obtain ⟨ad', e1, e2⟩ := hcs _ _ (hget j u hj)
    cases e1; exact e2
  have := run_loadVar_agg (P := P) hT hcell
  simp [exo, execOp, e.eval hx, ea, Instr.loadAt, Instr.sureAddr, this]
/-- a part of a struct's value -/
theorem q_field {i o : Nat} {Tf : TypeId} {cs : List Value} (hx : evo σ x = some (.agg cs.toArray)) (hf : fieldOff P T i = some (o, Tf)) (hT : isScalar P Tf = true) (hc : cs[o]? = some v) : OpQ P E ρ n σ Γ (.field T x i) ty v := fun ac w e s => by
  unfold fieldOff at hf
  split at hf
  · rename_i fs hu
    split at hf
    · rename_i f hfi
      split at hf
      · cases hf
      · cases hf
        have := run_isAgg_scalar hT w
        simp [exo, execOp, e.eval hx, Instr.field, underlying, hu, hfi, asAgg, part, this, hc]
    · cases hf
  · cases hf
theorem q_fielda {i o : Nat} {Tf : TypeId} {cs vs : List Value} (hx : evo σ x = some (.agg cs.toArray)) (hf : fieldOff P T i = some (o, Tf)) (hT : aggSize P Tf = some vs.length) (hc : (cs.drop o).take vs.length = vs) : OpQ P E ρ n σ Γ (.field T x i) ty (.agg vs.toArray) := fun ac w e s => by
  unfold fieldOff at hf
  split at hf
  · rename_i fs hu
    split at hf
    · rename_i f hfi
      split at hf
      · cases hf
      · cases hf
        have h1 := run_isAgg_agg hT w
        have h2 := run_sizeOf (aggSize_size hT) w
        simp [exo, execOp, e.eval hx, Instr.field, underlying, hu, hfi, asAgg, part, h1, h2, hc]
    · cases hf
  · cases hf

/-! ### Lengths -/
theorem q_len {a : Option Addr} {m cap : Nat} {el : TypeId} (hT : P.underlying T = some (.slice el)) (hx : evo σ x = some (.slice a m cap)) : OpQ P E ρ n σ Γ (.call { callee := .builtin .len, args := #[x], argTypes := #[T] }) ty (.int .i64 m) := fun ac w e s => by
  simp [exo, execOp, resolve, invoke, builtin, Builtin.len_, e.eval hx, underlying, hT, goInt]
theorem q_lens {c : ByteArray} (hT : P.underlying T = some .string) (hx : evo σ x = some (.string c)) : OpQ P E ρ n σ Γ (.call { callee := .builtin .len, args := #[x], argTypes := #[T] }) ty (.int .i64 c.size) := fun ac w e s => by
  simp [exo, execOp, resolve, invoke, builtin, Builtin.len_, e.eval hx, underlying, hT, goInt]
theorem q_min2 {k : IntKind} {a b : Int} {ats : Array TypeId} (hx : evo σ x = some (.int k a)) (hy : evo σ y = some (.int k b)) : OpQ P E ρ n σ Γ (.call { callee := .builtin .min, args := #[x, y], argTypes := ats }) ty (.int k (if b < a then b else a)) := fun ac w e s => by
  simp [exo, execOp, resolve, invoke, builtin, Builtin.min_, Builtin.min2, e.eval hx, e.eval hy]
theorem q_max2 {k : IntKind} {a b : Int} {ats : Array TypeId} (hx : evo σ x = some (.int k a)) (hy : evo σ y = some (.int k b)) : OpQ P E ρ n σ Γ (.call { callee := .builtin .max, args := #[x, y], argTypes := ats }) ty (.int k (if b > a then b else a)) := fun ac w e s => by
  simp [exo, execOp, resolve, invoke, builtin, Builtin.max_, Builtin.max2, e.eval hx, e.eval hy]

/-! ### Cutting slices -/
theorem q_cut_hi {a : Option Addr} {m cap sz : Nat} {el : TypeId} {k : IntKind} {h : Int} (hT : P.underlying T = some (.slice el)) (hs : sizeIs P el = some sz) (hx : evo σ x = some (.slice a m cap)) (hy : evo σ y = some (.int k h)) (h0 : 0 ≤ h) (h1 : h ≤ cap) :
    OpQ P E ρ n σ Γ (.slice T x none (some y) none) ty (.slice a h.toNat cap) := fun ac w e s => by
  have hr := run_sizeOf hs w
  have ha : ∀ q : Addr, q.add 0 = q := fun q => by simp [Addr.add]
  simp [exo, execOp, e.eval hx, e.eval hy, Instr.sliceAt, Instr.slice, underlying, hT, Instr.sliceBounds, Instr.sliceBound, asIntOf, h0, h1, hr]
  intro _
  cases a <;> simp [ha]
theorem q_cut_lo {a : Option Addr} {m cap sz : Nat} {el : TypeId} {k : IntKind} {l : Int} (hT : P.underlying T = some (.slice el)) (hs : sizeIs P el = some sz) (hx : evo σ x = some (.slice a m cap)) (hy : evo σ y = some (.int k l)) (h0 : 0 ≤ l) (h1 : l ≤ m) :
    OpQ P E ρ n σ Γ (.slice T x (some y) none none) ty (.slice (sh a cap l.toNat sz) (m - l.toNat) (cap - l.toNat)) := fun ac w e s => by
  have hr := run_sizeOf hs w
  simp [exo, execOp, e.eval hx, e.eval hy, Instr.sliceAt, Instr.slice, underlying, hT, Instr.sliceBounds, Instr.sliceBound, asIntOf, h0, h1, hr, sh]
theorem q_cut_lohi {a : Option Addr} {m cap sz : Nat} {el : TypeId} {k k' : IntKind} {l h : Int} (hT : P.underlying T = some (.slice el)) (hs : sizeIs P el = some sz) (hx : evo σ x = some (.slice a m cap)) (hy : evo σ y = some (.int k l)) (hz : evo σ z = some (.int k' h)) (h0 : 0 ≤ l) (h1 : l ≤ h) (h2 : h ≤ cap) :
    OpQ P E ρ n σ Γ (.slice T x (some y) (some z) none) ty (.slice (sh a cap l.toNat sz) (h.toNat - l.toNat) (cap - l.toNat)) := fun ac w e s => by
  have hr := run_sizeOf hs w
  have h3 : (0 : Int) ≤ h := by omega
  have h5 : l ≤ max h 0 := by omega
  simp [exo, execOp, e.eval hx, e.eval hy, e.eval hz, Instr.sliceAt, Instr.slice, underlying, hT, Instr.sliceBounds, Instr.sliceBound, asIntOf, h0, h2, h3, h5, hr, sh]
theorem q_cut_all {a : Option Addr} {m cap sz : Nat} {el : TypeId} (hT : P.underlying T = some (.slice el)) (hs : sizeIs P el = some sz) (hx : evo σ x = some (.slice a m cap)) :
    OpQ P E ρ n σ Γ (.slice T x none none none) ty (.slice a m cap) := fun ac w e s => by
  have hr := run_sizeOf hs w
  have ha : ∀ q : Addr, q.add 0 = q := fun q => by simp [Addr.add]
  simp [exo, execOp, e.eval hx, Instr.sliceAt, Instr.slice, underlying, hT, Instr.sliceBounds, hr]
  intro _
  cases a <;> simp [ha]
/-- a slice of a whole array variable -/
theorem q_cut_arr {b off len sz : Nat} {el : TypeId} (hT : P.underlying T = some (.array len el)) (hs : sizeIs P el = some sz) (hx : evo σ x = some (.pointer (some ⟨b, off, none⟩))) :
    OpQ P E ρ n σ Γ (.slice T x none none none) ty (.slice (some ⟨b, off, none⟩) len len) := fun ac w e s => by
  have hr := run_sizeOf hs w
  simp [exo, execOp, e.eval hx, Instr.sliceAt, Instr.sureAddr, underlying, hT, Instr.sliceBounds, hr, addr_add]

/-! ### New blocks -/
theorem s_box {cs : List Value} (hx : evo σ x = some v) (hv : v.cells = cs.toArray) : OpS P E ρ n σ Γ (.box T x) ty (fun v Γ' => ∃ b, v = .pointer (some ⟨b, 0, none⟩) ∧ Γ' = .pts b cs T :: Γ) := fun ac w e s => by
  refine ⟨_, _, _, _, .inl rfl, ⟨w.heap.size, rfl, rfl⟩, ?_, s.alloc (.pts w.heap.size cs T) (.cells cs.toArray T (0, 0)) (Hp.one_at _ _)⟩
  simp [exo, execOp, e.eval hx, Instr.box, newVar, newRow, hv]
theorem s_alloc {i : TypeInfo} {cs : List Value} (hi : P.info? T = some i) (hz : i.zero.map Value.cells = some cs.toArray) : OpS P E ρ n σ Γ (.alloc T) ty (fun v Γ' => ∃ b, v = .pointer (some ⟨b, 0, none⟩) ∧ Γ' = .pts b cs T :: Γ) := fun ac w e s => by
  refine ⟨_, _, _, _, .inl rfl, ⟨w.heap.size, rfl, rfl⟩, ?_, s.alloc (.pts w.heap.size cs T) (.cells cs.toArray T (0, 0)) (Hp.one_at _ _)⟩
  cases hz0 : i.zero with
  | none => rw [hz0] at hz; cases hz
  | some zv =>
    rw [hz0] at hz
    simp at hz
    simp [exo, execOp, Instr.alloc, zeroValue, typeInfo, hi, hz0, newVar, newRow, hz]
def zeroCs (P : Program) (T : TypeId) : Option (List Value) := ((P.info? T).bind (·.zero)).map (fun z => z.cells.toList)
theorem s_allocz {cs : List Value} (hz : zeroCs P T = some cs) : OpS P E ρ n σ Γ (.alloc T) ty (fun v Γ' => ∃ b, v = .pointer (some ⟨b, 0, none⟩) ∧ Γ' = .pts b cs T :: Γ) := by
  unfold zeroCs at hz
  cases hi : P.info? T with
  | none => rw [hi] at hz; cases hz
  | some i =>
    rw [hi] at hz
    simp at hz
    obtain ⟨zv, hz1, hz2⟩ := hz
    exact s_alloc hi (by rw [hz1]; simp [← hz2])
theorem s_storep {b off : Nat} {cs cs' ws : List Value} {Γ' : List Asn} (hx : evo σ x = some (.pointer (some ⟨b, off, none⟩))) (hy : evo σ y = some v) (hv : v.cells = ws.toArray) (hs : sizeIs P T = some ws.length) (h1 : ∀ u ∈ ws, u.oneCell' = true)
    (hl : off + ws.length ≤ cs.length) (hc : cs.take off ++ ws ++ cs.drop (off + ws.length) = cs') (p : Pick (.pts b cs T') [.pts b cs' T'] Γ Γ') : OpS P E ρ n σ Γ (.store T x y) ty (fun v Γ2 => v = undef ∧ Γ2 = Γ') := fun ac w e s => by
  obtain ⟨e0, s'⟩ := s.put p (b := b) (o0 := .cells cs.toArray T' (0, 0)) (o := .cells cs'.toArray T' (0, 0)) (fun _ h => h) (fun h hb => ⟨h, Hp.none_, (Hp.none_disj h).disj_symm, Hp.le_refl _, Hp.none_le _, hb, trivial⟩)
  refine ⟨.skip, _, undef, Γ', .inr ⟨rfl, rfl⟩, ⟨rfl, rfl⟩, ?_, s'⟩
  have hr := run_storeCells (P := P) ws 0 w b off cs.toArray T' (0, 0) e0 (.inl rfl) (by simpa using hl) h1
  have hw : wr cs.toArray (off + 0) ws = cs'.toArray := by
    rw [← hc]
    apply Array.ext_getElem?
    intro i
    rw [wr_get _ _ _ _ (by simpa using hl)]
    simp only [Nat.add_zero, List.getElem?_toArray]
    by_cases h : off ≤ i ∧ i < off + ws.length
    · rw [if_pos h, List.append_assoc, List.getElem?_append_right (by simp; omega), List.getElem?_append_left (by simp; omega)]
      congr 1
      simp; omega
    · rw [if_neg h]
      by_cases h2 : i < off
      · rw [List.append_assoc, List.getElem?_append_left (by simp; omega), List.getElem?_take_of_lt h2]
      · rw [List.getElem?_append_right (by simp; omega), List.getElem?_drop]
        congr 1
        simp; omega
  rw [hw] at hr
  have hsz := run_sizeOf hs w
  simp [exo, execOp, e.eval hx, e.eval hy, Instr.storeAt, Instr.sureAddr, storeVar, hv, hsz, hr]
/-- a store into an element (or a part of one) of an owned row -/
theorem s_storer {a : Option Addr} {k sz m cap : Nat} {Te : TypeId} {cs cs' ws : List Value} {Γ' : List Asn} (hx : evo σ x = some (ea a k)) (hy : evo σ y = some v) (hv : v.cells = ws.toArray) (hs : sizeIs P T = some ws.length) (hpos : 0 < ws.length) (h1 : ∀ u ∈ ws, u.oneCell' = true)
    (hl : k + ws.length ≤ cs.length) (hc : cs.take k ++ ws ++ cs.drop (k + ws.length) = cs') (p : Pick (.row Te sz a m cap cs) [.row Te sz a m cap cs'] Γ Γ') : OpS P E ρ n σ Γ (.store T x y) ty (fun v Γ2 => v = undef ∧ Γ2 = Γ') := fun ac w e s => by
  obtain ⟨h0, hr0, d, l1, lr, hA, K⟩ := s.pick p
  obtain ⟨hlen, ⟨rfl, rfl, rfl⟩ | ⟨g, cur, fz, rfl, hg, hsf, hn, hcap, hz, ht⟩⟩ := hA
  · have h00 : cs.length = 0 := by simpa using hlen
    omega
  have hlcur : m * sz ≤ cur.size := by rw [hz]; exact Nat.mul_le_mul_right _ hn
  have e0 : hp w g = some (.cells cur Te fz) := l1.at_ _ _ hg
  have hbound : 0 + k + ws.length ≤ cur.size := by omega
  have hr := run_storeCells (P := P) ws 0 w g k cur Te fz e0 hsf (by omega) h1
  refine ⟨.skip, setBlk w g (.cells (wr cur (k + 0) ws) Te fz), undef, Γ', .inr ⟨rfl, rfl⟩, ⟨rfl, rfl⟩, ?_, ?_⟩
  · have hsz := run_sizeOf hs w
    simp [exo, execOp, e.eval hx, e.eval hy, ea, Instr.storeAt, Instr.sureAddr, storeVar, hv, hsz, addr_add]
    simp only [Nat.add_zero] at hr
    simp [hr]
  · refine K _ (Hp.one g (.cells (wr cur (k + 0) ws) Te fz)) ⟨rfl, rfl, rfl⟩ ⟨_, Hp.none_, (Hp.none_disj _).disj_symm, Hp.le_refl _, Hp.none_le _, ?_, trivial⟩ (Hp.one_disj (d.out hg)) (Hp.one_le (hp_setBlk e0)) ⟨fun q o hq => ?_⟩
    · refine ⟨by rw [← hc]; simp; omega, .inr ⟨g, _, fz, rfl, Hp.one_at _ _, by rwa [wr_size], hn, hcap, by rw [wr_size]; exact hz, ?_⟩⟩
      rw [← hc, ← ht]
      apply List.ext_getElem?
      intro i
      rw [List.getElem?_take]
      have hlc : (cur.toList.take (m * sz)).length = m * sz := by simp; omega
      have hkw : k + ws.length ≤ m * sz := by omega
      by_cases h : k ≤ i ∧ i < k + ws.length
      · rw [if_pos (by omega), Array.getElem?_toList, wr_get _ _ _ _ (by omega), if_pos (by omega), List.append_assoc, List.getElem?_append_right (by simp; omega), List.getElem?_append_left (by simp; omega)]
        congr 1
        simp; omega
      · by_cases h2 : i < k
        · rw [if_pos (by omega), Array.getElem?_toList, wr_get _ _ _ _ (by omega), if_neg (by omega), List.append_assoc, List.getElem?_append_left (by simp; omega), List.getElem?_take_of_lt h2, List.getElem?_take_of_lt (by omega), Array.getElem?_toList]
        · rw [List.getElem?_append_right (by simp; omega), List.getElem?_drop]
          by_cases h3 : i < m * sz
          · rw [if_pos h3, Array.getElem?_toList, wr_get _ _ _ _ (by omega), if_neg (by omega), List.getElem?_take_of_lt (by simp; omega), Array.getElem?_toList]
            congr 1
            simp; omega
          · rw [if_neg h3, List.getElem?_eq_none (by simp; omega)]
    · have hne : q ≠ g := fun e' => by subst e'; rw [d.out hg] at hq; cases hq
      rw [hp_setBlk_ne hne]
      exact lr.at_ _ _ hq
end
end Go.SL
