/-
  The engine, part G: struct and array literals; a string's bytes; equality of structs and arrays.
-/
import Derived.Test.YtehaoafnobnneaaGreatDoorSlF
namespace Go.SL
open Go

/-- where a struct's fields, an array's elements lie: from which cell, how many -/
def placesOf (P : Program) (T : TypeId) : Option (List (Nat × Nat)) := match P.underlying T with
  | some (.struct fs) => fs.toList.mapM fun f => (sizeIs P f.type).map fun s => (f.offset, s)
  | some (.array n e) => (sizeIs P e).map fun s => (List.range n).map fun i => (i * s, s)
  | _ => none
def fillL (pl : List (Nat × Nat)) (cs : List Value) : List (Nat × Value) → Option (List Value)
  | [] => some cs
  | (i, v) :: ps => match pl[i]? with
    | none => none
    | some (off, size) => bif Nat.beq v.cells.toList.length size && Nat.ble (off + size) cs.length then fillL pl (cs.take off ++ v.cells.toList ++ cs.drop (off + size)) ps else none
theorem wr_eq (c : List Value) (off : Nat) (vs : List Value) (h : off + vs.length ≤ c.length) : (wr c.toArray off vs) = (c.take off ++ vs ++ c.drop (off + vs.length)).toArray := by
  apply Array.ext_getElem?
  intro i
  rw [wr_get _ _ _ _ (by simpa using h)]
  simp only [List.getElem?_toArray]
  by_cases c1 : off ≤ i ∧ i < off + vs.length
  · rw [if_pos c1, List.append_assoc, List.getElem?_append_right (by simp; omega), List.getElem?_append_left (by simp; omega)]
    congr 1; simp; omega
  · rw [if_neg c1]
    by_cases c2 : i < off
    · rw [List.append_assoc, List.getElem?_append_left (by simp; omega), List.getElem?_take_of_lt c2]
    · rw [List.getElem?_append_right (by simp; omega), List.getElem?_drop]
      congr 1; simp; omega
theorem fill_fillL (place : Nat → Option (Nat × Nat)) (pl : List (Nat × Nat)) : ∀ (vs : List (Nat × Value)) (cs cs' : List Value), (∀ i x, pl[i]? = some x → place i = some x) → fillL pl cs vs = some cs' → Instr.fill place cs.toArray vs = some cs'.toArray
  | [], cs, cs', _, h => by simp only [fillL] at h; cases h; rfl
  | (i, v) :: ps, cs, cs', hp, h => by
    simp only [fillL] at h
    cases hi : pl[i]? with
    | none => rw [hi] at h; cases h
    | some x =>
      obtain ⟨off, size⟩ := x
      rw [hi] at h
      dsimp only at h
      cases hb : (Nat.beq v.cells.toList.length size && Nat.ble (off + size) cs.length) with
      | false => rw [hb] at h; cases h
      | true =>
        rw [hb] at h
        simp only [Bool.and_eq_true] at hb
        have e1 : v.cells.toList.length = size := Nat.eq_of_beq_eq_true hb.1
        have e2 : off + size ≤ cs.length := Nat.le_of_ble_eq_true hb.2
        have e3 : v.cells.size = size := by simpa using e1
        simp only [Instr.fill, hp i _ hi]
        rw [if_neg (by simp [e3]; omega)]
        have hz : (Array.foldl (fun cs x => match x with | (c, j) => cs.setIfInBounds (off + j) c) cs.toArray v.cells.zipIdx) = wr cs.toArray off v.cells.toList := by
          have := zip_fold off v.cells.toList 0 cs.toArray
          rw [← Array.toList_zipIdx, Array.foldl_toList] at this
          exact this
        rw [hz, wr_eq cs off v.cells.toList (by omega), e1]
        exact fill_fillL place pl ps _ _ hp h
section
variable {P : Program} {E : World} {ρ : Hp} {n : Fz} {σ : Slots} {Γ Γ' : List Asn} {ty : TypeId} {x y z : Operand} {v u : Value} {T T' : TypeId}
theorem run_mapM_places (fs : List Field) (w : World) : ∀ pl : List (Nat × Nat), fs.mapM (fun f => (sizeIs P f.type).map fun s => (f.offset, s)) = some pl → (fs.mapM fun f => (do pure (f.offset, ← sizeOf f.type) : Sem (Nat × Nat))).run P w = .ok pl w := by
  induction fs with
  | nil => intro pl h; simp at h; subst h; rfl
  | cons f fs ih =>
    intro pl h
    simp only [List.mapM_cons, Option.bind_eq_bind, Option.pure_def, Option.bind_eq_some_iff, Option.map_eq_some_iff] at h
    obtain ⟨_, ⟨s, hs, rfl⟩, rest, hr, h⟩ := h
    cases h
    have h1 := run_sizeOf hs w
    simp only [List.mapM_cons, Sem.run_bind, h1, Result.andThen_ok, Sem.run_pure, ih rest hr]
theorem q_build {zc cs : List Value} {pl : List (Nat × Nat)} {ps : List (Nat × Operand)} {vs : List (Nat × Value)} (hz : zeroCs P T = some zc) (hp : placesOf P T = some pl) (hx : evp σ ps = some vs) (hc : fillL pl zc vs = some cs) :
    OpQ P E ρ n σ Γ (.build T ps.toArray) ty (.agg cs.toArray) := fun ac w ev s => by
  have hev : List.map (fun (q : Nat × Operand) => (q.1, ac.eval q.2)) ps = vs := Env.evalp ev hx
  unfold zeroCs at hz
  cases hi : P.info? T with
  | none => rw [hi] at hz; cases hz
  | some inf =>
  rw [hi] at hz
  cases hzz : inf.zero with
  | none => simp [hzz] at hz
  | some zv =>
  simp [hzz] at hz
  have hzv : (zeroValue T).run P w = .ok zv w := by simp [zeroValue, typeInfo, hi, hzz]
  unfold placesOf at hp
  cases hu : P.underlying T with
  | none => rw [hu] at hp; cases hp
  | some dsc =>
  rw [hu] at hp
  have hzc : zv.cells = zc.toArray := by rw [← hz]
  cases dsc with
  | struct fs =>
    dsimp only at hp
    have hpl := run_mapM_places (P := P) fs.toList w pl hp
    have hpl' : (fs.mapM fun f => (do pure (f.offset, ← sizeOf f.type) : Sem (Nat × Nat))).run P w = .ok pl.toArray w := by
      rw [Array.mapM_eq_mapM_toList, Sem.run_map, hpl]
      rfl
    have hf := fill_fillL (fun i => pl.toArray[i]?) pl vs zc cs (fun i q hq => by simpa using hq) hc
    simp only [exo, execOp, Instr.build, Sem.run_bind, hzv, run_underlying hu, Result.andThen_ok, hpl', List.map_toArray, hev, hzc]
    rw [hf]
    rfl
  | array m e =>
    dsimp only at hp
    simp only [Option.map_eq_some_iff] at hp
    obtain ⟨sz, hs, rfl⟩ := hp
    have hsz := run_sizeOf hs w
    have hf := fill_fillL (fun i => some (i * sz, sz)) ((List.range m).map fun i => (i * sz, sz)) vs zc cs (fun i q hq => by
      rw [List.getElem?_map] at hq
      by_cases hi2 : i < m
      · rw [List.getElem?_range hi2] at hq; simpa using hq
      · rw [List.getElem?_eq_none (by simpa using hi2)] at hq; cases hq) hc
    simp only [exo, execOp, Instr.build, Sem.run_bind, hzv, run_underlying hu, Result.andThen_ok, hsz, List.map_toArray, hev, hzc]
    rw [hf]
    rfl
  | _ => cases hp

/-- '[]byte("..")' of a literal: the row is marked, no more -/
theorem s_mark {e : TypeId} {sz m cap g : Nat} {cs : List Value} (hT : P.underlying T = some (.slice e)) (he : P.underlying e = some (.int .u8)) (hx : evo σ x = some (.slice (some ⟨g, 0, none⟩) m cap)) (p : Pick (.row e sz (some ⟨g, 0, none⟩) m cap cs) [.row e sz (some ⟨g, 0, none⟩) m cap cs] Γ Γ) :
    OpS P E ρ n σ Γ (.convert T T x) ty (fun v Γ2 => v = .slice (some ⟨g, 0, none⟩) m cap ∧ Γ2 = Γ) := fun ac w ev s => by
  obtain ⟨h0, hr0, d, l1, lr, hA, K⟩ := s.pick p
  obtain ⟨hlen, ⟨h, -, -⟩ | ⟨g', cur, fz, hg', hg, hsf, hn, hcap, hz, ht⟩⟩ := hA
  · cases h
  simp only [Option.some.injEq, Addr.mk.injEq, and_true] at hg'
  subst hg'
  have e0 : w.heap[g]? = some (.cells cur e fz) := l1.at_ _ _ hg
  obtain ⟨fz', hfz, hsf'⟩ : ∃ fz', hp (w.freeze ⟨g, cur.size, none⟩ 1) g = some (.cells cur e fz') ∧ Soft cur.size fz' := by
    obtain ⟨lo, hi⟩ := fz
    refine ⟨if lo == hi then (cur.size, cur.size + 1) else (min lo cur.size, max hi (cur.size + 1)), ?_, ?_⟩
    · simp only [hp, World.freeze]
      rw [if_neg (by decide)]
      simp only [Array.getElem?_modify, if_true, e0, Option.map_some]
    · by_cases hlh : (lo == hi) = true
      · rw [if_pos hlh]; exact .inr (Nat.le_refl _)
      · rw [if_neg hlh]
        rcases hsf with h | h
        · cases h; simp at hlh
        · right; simp only at h ⊢; omega
  refine ⟨.value (.slice (some ⟨g, 0, none⟩) m cap), w.freeze ⟨g, cur.size, none⟩ 1, _, Γ, .inl rfl, ⟨rfl, rfl⟩, ?_, ?_⟩
  · have hsh : w.shape? g = some (e, cur.size) := by simp [World.shape?, e0]
    simp [exo, execOp, ev.eval hx, convert, run_underlying hT, run_underlying he, markStringish, hsh]
  · refine K _ (Hp.one g (.cells cur e fz')) ⟨by simp [World.freeze], by simp [World.freeze], by simp [World.freeze]⟩ ⟨_, Hp.none_, (Hp.none_disj _).disj_symm, Hp.le_refl _, Hp.none_le _, ?_, trivial⟩ (Hp.one_disj (d.out hg)) (Hp.one_le hfz) ⟨fun q o hq => ?_⟩
    · exact ⟨hlen, .inr ⟨g, cur, fz', rfl, Hp.one_at _ _, hsf', hn, hcap, hz, ht⟩⟩
    · have hne : q ≠ g := fun e' => by subst e'; rw [d.out hg] at hq; cases hq
      have := lr.at_ _ _ hq
      simp only [hp, World.freeze] at this ⊢
      rw [if_neg (by decide)]
      simp only [Array.getElem?_modify]
      rw [if_neg (Ne.symm hne)]
      exact this

/-! ### More of numbers -/
variable {a b : Int}
theorem q_quou (hx : evo σ x = some (.int .u64 a)) (hy : evo σ y = some (.int .u64 b)) (ha : 0 ≤ a) (ha' : a ≤ 18446744073709551615) (hb : 0 < b) : OpQ P E ρ n σ Γ (.binOp .quo T x y T') ty (.int .u64 (a / b)) := by
  have := q_quo (P := P) (E := E) (ρ := ρ) (n := n) (Γ := Γ) (ty := ty) (T := T) (T' := T') hx hy (by omega)
  rw [Int.tdiv_eq_ediv_of_nonneg ha] at this
  rwa [wrap_u64 (by have := Int.ediv_nonneg ha (Int.le_of_lt hb); omega) (by have := Int.ediv_le_self b ha; omega)] at this
/-- a uint32's lowest byte -/
theorem q32_to8 {p : BitVec 32} {dsc : TypeDesc} (hx : evo σ x = some (.int .u32 a)) (hT : P.underlying T = some dsc) (hT' : P.underlying T' = some (.int .u8)) (ha : a = (p.toNat : Int)) : OpQ P E ρ n σ Γ (.convert T T' x) ty (.int .u8 ((UInt8.ofNat p.toNat).toNat : Int)) := by
  have := q_convw (E := E) (ρ := ρ) (n := n) (Γ := Γ) (ty := ty) hx hT hT'
  have e : IntKind.wrap .u8 a = ((UInt8.ofNat p.toNat).toNat : Int) := by
    rw [ha]; simp [IntKind.wrap, IntKind.bits, IntKind.signed]
  rwa [e] at this
end
end Go.SL
