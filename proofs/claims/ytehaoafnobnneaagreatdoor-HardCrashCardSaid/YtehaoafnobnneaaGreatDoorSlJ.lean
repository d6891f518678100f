/-
  The engine, part J: bytes become a string; strings compared; small facts on conversions to unsigned words.
-/
import Derived.Test.YtehaoafnobnneaaGreatDoorSlI
import Derived.Laws.BytesString
import Derived.Laws.StructEq
namespace Go.SL
open Go
theorem foldl_push : ∀ (bs : List UInt8) (s : ByteArray), (bs.map fun b => ((b.toNat : Int))).foldl (fun r n => r.push (UInt8.ofNat n.toNat)) s = ⟨s.data ++ bs.toArray⟩
  | [], s => by simp
  | b :: bs, s => by
    simp only [List.map_cons, List.foldl_cons]
    rw [foldl_push bs]
    have : UInt8.ofNat ((b.toNat : Int)).toNat = b := by simp
    rw [this]
    show (⟨s.data.push b ++ bs.toArray⟩ : ByteArray) = _
    congr 1
    apply Array.toList_inj.1
    simp
theorem flat_ints : ∀ bs : List UInt8, bs.flatMap encB = (bs.map fun b => ((b.toNat : Int))).map (Value.int .u8)
  | [] => rfl
  | b :: bs => by rw [List.flatMap_cons, flat_ints bs]; rfl
def strB (bs : List UInt8) : Value := .string ⟨bs.toArray⟩
section
variable {P : Program} {E : World} {ρ : Hp} {n : Fz} {σ : Slots} {Γ Γ' : List Asn} {ty : TypeId} {x y z : Operand} {T T' : TypeId} {a : Option Addr} {cap : Nat}
theorem q_tostr {e : TypeId} {bs : List UInt8} {m : Nat} (hs : P.underlying T = some (.slice e)) (he : P.underlying e = some (.int .u8)) (hd : P.underlying T' = some .string) (hx : evo σ x = some (.slice a m cap)) (rd : Rd ρ Γ 1 a m cap (bs.flatMap encB)) :
    OpQ P E ρ n σ Γ (.convert T T' x) ty (strB bs) := fun ac w ev s => by
  obtain ⟨h1, h2, h3, h4⟩ := rd E w s
  rw [flat_len (sz := 1) (fun _ => rfl), Nat.mul_one, Nat.mul_one] at h1
  subst h1
  have hr : (convert T T' (.slice a bs.length cap)).run P w = .ok (strB bs) w := by
    rw [run_convert_bytes_string w T T' e a _ _ hs he hd]
    cases a with
    | none =>
      have : bs = [] := by
        cases bs with
        | nil => rfl
        | cons b bs => obtain ⟨ad, e1, -⟩ := h4 0 _ rfl; cases e1
      subst this
      rfl
    | some ad =>
      have hc : ∀ j v, (bs.flatMap encB)[j]? = some v → w.cell? (ad.add j) = some v := fun j v hj => by
        obtain ⟨ad', e1, e2⟩ := h4 j v hj
        cases e1; exact e2
      have hl := run_loadCells_list (P := P) w ad (bs.flatMap encB) hc
      rw [flat_len (sz := 1) (fun _ => rfl), Nat.mul_one] at hl
      rw [flat_ints] at hl
      rw [run_bytesToString w ad _ cap _ hl, foldl_push]
      simp [strB, ByteArray.empty, ByteArray.emptyWithCapacity]
      rfl
  simp [exo, execOp, ev.eval hx, hr]
theorem strB_eq (p q : List UInt8) : ((⟨p.toArray⟩ : ByteArray) = ⟨q.toArray⟩) ↔ p = q := by
  constructor
  · intro h
    have := congrArg ByteArray.data h
    simpa using this
  · rintro rfl; rfl
theorem q_eqlsB {p q : List UInt8} (hx : evo σ x = some (strB p)) (hy : evo σ y = some (strB q)) : OpQ P E ρ n σ Γ (.binOp .eql T x y T') ty (.bool (decide (p = q))) := by
  have := q_eqls (P := P) (E := E) (ρ := ρ) (n := n) (Γ := Γ) (T := T) (T' := T') (ty := ty) hx hy
  rwa [decide_eq_decide.2 (strB_eq p q)] at this
theorem wrap_nat (z : Int) : ∃ m : Nat, IntKind.wrap .u64 z = (m : Int) ∧ m < 18446744073709551616 := by
  have h1 : 0 ≤ IntKind.wrap .u64 z ∧ IntKind.wrap .u64 z < 18446744073709551616 := by
    simp [IntKind.wrap, IntKind.signed, IntKind.bits]
    omega
  exact ⟨(IntKind.wrap .u64 z).toNat, by omega, by omega⟩
end
end Go.SL
namespace Go.SL
/-- a struct of integers: their places -/
def intFields (P : Program) (t : TypeId) : Option (List Nat) := match P.underlying t with
  | some (.struct fs) => if fs.toList.all (fun f => f.name != "_" && (match P.underlying f.type with | some (.int _) => true | _ => false)) && !P.stoodInHeld t && !P.eqGuardType P.depth t then some (fs.toList.map (·.offset)) else none
  | _ => none
theorem eqF_refl {P : Program} {w : World} (d : Nat) (xs : Array Value) : ∀ fs : List Field, (∀ f ∈ fs, f.name ≠ "_" ∧ (∃ k, P.underlying f.type = some (.int k)) ∧ ∃ k n, xs[f.offset]? = some (.int k n)) → (Op.eqFields (d + 1) xs xs fs).run P w = .ok true w
  | [], _ => by simp [Op.eqFields]
  | f :: fs, h => by
    obtain ⟨h1, ⟨k, hk⟩, k', n, hx⟩ := h f (by simp)
    have hp : (part f.type xs f.offset).run P w = .ok (.int k' n) w := by simp [part, isAgg, run_underlying hk, hx]
    have he : (Op.equalIn (d + 1) f.type (.int k' n) (.int k' n)).run P w = .ok true w := by simp [Op.equalIn, underlying, hk]
    have ih := eqF_refl (P := P) (w := w) d xs fs (fun g hg => h g (by simp [hg]))
    simp only [Op.eqFields, h1, ne_eq, not_false_eq_true, if_true, Sem.run_bind, hp, he, Result.andThen_ok]
    simp [ih]
section
variable {P : Program} {E : World} {ρ : Hp} {n : Fz} {σ : Slots} {Γ : List Asn} {ty : TypeId} {x y : Operand} {T T' : TypeId}
theorem run_eq_refl {offs : List Nat} {xs : Array Value} (h : intFields P T = some offs) (hv : ∀ o ∈ offs, ∃ k n, xs[o]? = some (.int k n)) (w : World) : (Op.equalIn 10000 T (.agg xs) (.agg xs)).run P w = .ok true w ∧ P.eqGuardType P.depth T = false := by
  unfold intFields at h
  split at h
  · rename_i fs hu
    split at h
    · rename_i hc
      simp only [Option.some.injEq] at h
      subst h
      simp only [Bool.and_eq_true, List.all_eq_true, bne_iff_ne, ne_eq, Bool.not_eq_true'] at hc
      obtain ⟨⟨h1, h2⟩, h3⟩ := hc
      have hf : P.underlying T = some (.struct (P.fieldsOf T)) := by unfold Program.fieldsOf; rw [hu]
      have hfs : P.fieldsOf T = fs := by rw [hu] at hf; simpa using hf.symm
      refine ⟨?_, h3⟩
      rw [run_equalIn_struct w 9999 T xs xs hf h2, hfs]
      refine eqF_refl 9998 xs fs.toList (fun f hf => ?_)
      obtain ⟨q1, q2⟩ := h1 f hf
      refine ⟨q1, ?_, hv _ (List.mem_map_of_mem hf)⟩
      split at q2
      · rename_i k hk; exact ⟨k, hk⟩
      · cases q2
    · cases h
  · cases h
theorem q_eqlr {offs : List Nat} {xs : Array Value} (h : intFields P T = some offs) (hx : evo σ x = some (.agg xs)) (hy : evo σ y = some (.agg xs)) (hv : ∀ o ∈ offs, ∃ k n, xs[o]? = some (.int k n)) : OpQ P E ρ n σ Γ (.binOp .eql T x y T') ty (.bool true) :=
  run_binOp_any hx hy (fun w => run_eqGuard_agg w .eql T x y xs xs (run_eq_refl h hv w).2) fun w => by rw [run_eql_struct, (run_eq_refl h hv w).1]; rfl
theorem q_neqr {offs : List Nat} {xs : Array Value} (h : intFields P T = some offs) (hx : evo σ x = some (.agg xs)) (hy : evo σ y = some (.agg xs)) (hv : ∀ o ∈ offs, ∃ k n, xs[o]? = some (.int k n)) : OpQ P E ρ n σ Γ (.binOp .neq T x y T') ty (.bool false) :=
  run_binOp_any hx hy (fun w => run_eqGuard_agg w .neq T x y xs xs (run_eq_refl h hv w).2) fun w => by rw [run_neq_struct, (run_eq_refl h hv w).1]; rfl
end
end Go.SL
