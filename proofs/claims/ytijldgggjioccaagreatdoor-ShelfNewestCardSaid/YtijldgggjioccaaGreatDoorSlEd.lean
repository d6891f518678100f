/- part -/
import Derived.Test.YtijldgggjioccaaGreatDoorSlEc
import Derived.Shelf.Small.Wraps
import Derived.Shelf.Strconv.Itoa3
import Derived.Shelf.Strconv.Atoi
import Derived.Shelf.Strings.Repeat
import Derived.Lib.SmallJoins
import Derived.Lib.ConvBytes
set_option linter.unusedVariables false
set_option linter.unusedSimpArgs false
namespace Go.SL
open Go Go.Shelf Go.Proofs
theorem cutp_s {P : Program} {ρk : Ren} (L : Lays.n103 P ρk) (s p : List UInt8) (ρ : Hp) :
    Spec0 P (ρk.f 103) #[strB s, strB p] ρ [] (fun v Γ' => v = .tuple #[strB (Lib.trimPrefix s p), .bool (Lib.hasPrefix s p)] ∧ Γ' = []) := by
  intro E Δ w sa; refine (Any.strings_CutPrefix L ⟨s.toArray⟩ ⟨p.toArray⟩ w).mono ?_; rintro e w' ⟨rfl, rfl⟩; exact ⟨ρ, .tuple #[strB (Lib.trimPrefix s p), .bool (Lib.hasPrefix s p)], [], Hp.le_refl _, ⟨rfl, rfl, rfl⟩, by simp [strB], sa⟩
theorem itoa_s {P : Program} {ρk : Ren} (L : Lays.n171 P ρk) (i : Nat) (hi : i < 100) (ρ : Hp) :
    Spec0 P (ρk.f 171) #[.int .i64 (i : Int)] ρ [] (fun v Γ' => v = strB (Lib.decDigits i) ∧ Γ' = []) := by
  intro E Δ w sa; refine (Any.strconv_Itoa_small L i hi w).mono ?_; rintro e w' ⟨rfl, rfl⟩; exact ⟨ρ, strB (Lib.decDigits i), [], Hp.le_refl _, ⟨rfl, rfl, rfl⟩, by simp [strB], sa⟩
def Tab (P : Program) (ρ : Hp) : Prop := ∀ w : World, ρ.le (hp w) → Lib.TabIs P w "internal/strconv.uint64pow10" .u64 Lib.pow10Tab
theorem Tab.mono {P : Program} {ρ ρ' : Hp} (l : ρ.le ρ') (h : Tab P ρ) : Tab P ρ' := fun w l2 => h w (l.le_trans l2)
theorem tab_of {P : Program} {w : World} (h : Lib.TabIs P w "internal/strconv.uint64pow10" .u64 Lib.pow10Tab) : Tab P (hp w) := fun w' l => by
  unfold Lib.TabIs World.var? at h ⊢
  cases hg : P.globalNamed "internal/strconv.uint64pow10" with
  | none => rw [hg] at h; cases h
  | some g =>
    rw [hg] at h; simp only [Option.bind_some] at h ⊢
    cases ho : w.heap[g]? with
    | none => rw [ho] at h; cases h
    | some o =>
      have e : w'.heap[g]? = some o := l.at_ g _ ho; rw [e]; rw [ho] at h; exact h
theorem itoag_s {P : Program} {ρk : Ren} (L : LaysM.n171 P ρk) (i : Nat) (hi : i ≤ 9223372036854775807) (ρ : Hp) (ht : Tab P ρ) :
    Spec0 P (ρk.f 171) #[.int .i64 (i : Int)] ρ [] (fun v Γ' => v = strB (Lib.decDigits i) ∧ Γ' = []) := by
  intro E Δ w sa; have hl : ρ.le (hp w) := sa.2.1; refine (Any.strconv_Itoa L (i : Int) (by omega) (by omega) w (ht w hl)).mono ?_; rintro e w' ⟨rfl, k, os, rfl⟩
  have e9 : Lib.itoa (i : Int) = Lib.decDigits i := by
    have h0 : ¬ ((i : Int) < 0) := by omega
    simp only [Lib.itoa, if_neg h0, Int.toNat_natCast]
  exact ⟨ρ, strB (Lib.decDigits i), [], Hp.le_refl _, ⟨rfl, rfl, rfl⟩, by rw [e9]; simp [strB], sa.below ⟨rfl, rfl, rfl, (by show w.heap.size ≤ (w.heap ++ os).size; rw [Array.size_append]; omega), (fun j hj => by show (w.heap ++ os)[j]? = w.heap[j]?; rw [Array.getElem?_append_left hj])⟩⟩
theorem rep_s {P : Program} {ρk : Ren} (L : Lays.n105 P ρk) (X : Builder.Extra P ρk) (s : List UInt8) (c : Nat) (hc : c ≤ 1000) (hs : s.length ≤ 1000) (ρ : Hp) :
    Spec0 P (ρk.f 105) #[strB s, .int .i64 (c : Int)] ρ [] (fun v Γ' => v = strB (Lib.repeatL s c) ∧ Γ' = []) := by
  intro E Δ w sa; have hz : (⟨s.toArray⟩ : ByteArray).size = s.length := by simp [ByteArray.size]
  have hm : s.length * c ≤ 1000 * 1000 := Nat.mul_le_mul hs hc; refine (Any.strings_Repeat L X ⟨s.toArray⟩ c w (by omega) (by rw [hz]; omega)).mono ?_; rintro e w' ⟨rfl, bl⟩; exact ⟨ρ, strB (Lib.repeatL s c), [], Hp.le_refl _, ⟨rfl, rfl, rfl⟩, by simp [strB], sa.below bl⟩
theorem atoi_s {P : Program} {ρk : Ren} (L : Lays.n172 P ρk) (s : List UInt8) (n : Int) (hl : s.length ≤ 18) (h : Lib.atoi s = some n) (ρ : Hp) :
    Spec0 P (ρk.f 172) #[strB s] ρ [] (fun v Γ' => v = .tuple #[.int .i64 n, .nilIface] ∧ Γ' = []) := by
  intro E Δ w sa; refine (Any.strconv_Atoi L ⟨s.toArray⟩ n (by simpa [ByteArray.size] using hl) (by simpa using h) w).mono ?_; rintro e w' ⟨rfl, t, rfl⟩; exact ⟨ρ, .tuple #[.int .i64 n, .nilIface], [], Hp.le_refl _, ⟨rfl, rfl, rfl⟩, by simp, sa.below (Go.Joins.below_bytesWorld _ _ _ _ (Nat.le_refl _))⟩
theorem strB_app (p q : List UInt8) : (⟨p.toArray⟩ : ByteArray) ++ ⟨q.toArray⟩ = ⟨(p ++ q).toArray⟩ := by
  apply ByteArray.ext; apply Array.ext'; rw [ByteArray.mk_append_mk]
theorem q_addsB {P : Program} {E : World} {ρ : Hp} {n : Fz} {σ : Slots} {Γ : List Asn} {ty : TypeId} {x y : Operand} {T T' : TypeId} {p q : List UInt8} (hx : evo σ x = some (strB p)) (hy : evo σ y = some (strB q)) (hl : p.length + q.length ≤ 9223372036854775807) : OpQ P E ρ n σ Γ (.binOp .add T x y T') ty (strB (p ++ q)) :=
  run_binOp_any hx hy (fun w => by simp [eqGuard, strB]) fun w => by
    show (Op.stringOp .add ⟨p.toArray⟩ ⟨q.toArray⟩).run P w = _
    have h1 : ¬ ((((⟨p.toArray⟩ : ByteArray).size + (⟨q.toArray⟩ : ByteArray).size : Nat) : Int) > IntKind.i64.max) := by
      have e : IntKind.i64.max = 9223372036854775807 := by decide
      rw [e]; have h2 : (⟨p.toArray⟩ : ByteArray).size = p.length := by simp [ByteArray.size]
      have h3 : (⟨q.toArray⟩ : ByteArray).size = q.length := by simp [ByteArray.size]
      rw [h2, h3]; omega
    unfold Op.stringOp; simp only [if_neg h1, strB_app]; rfl
end Go.SL
namespace Go.SL
open Go Go.Lib Go.Proofs
theorem sat.same {E : World} {ρ : Hp} {Γ : List Asn} {w w' : World} (s : sat E ρ Γ w) (ho : w'.os = w.os ∧ w'.tape = w.tape ∧ w'.output = w.output) (hh : Hp.le (hp w) (hp w')) : sat E ρ Γ w' := by
  obtain ⟨⟨x1, x2, x3⟩, l, h, lh, d, st⟩ := s; exact ⟨⟨ho.1.trans x1, ho.2.1.trans x2, ho.2.2.trans x3⟩, l.le_trans hh, h, lh.le_trans hh, d, st⟩
theorem map_encB : ∀ bs : List UInt8, List.map (fun b => Value.int IntKind.u8 ↑b.toNat) bs = (List.map encB bs).flatten
  | [] => rfl
  | b :: bs => by rw [List.map_cons, map_encB bs, List.map_cons, List.flatten_cons]; rfl
section
variable {P : Program} {E : World} {ρ : Hp} {n : Fz} {σ : Slots} {Γ : List Asn} {ty : TypeId} {x : Operand} {T T' : TypeId}
theorem s_strbytes {e : TypeId} {bs : List UInt8} (hs : P.underlying T = some .string) (hT : P.underlying T' = some (.slice e)) (he : P.underlying e = some (.int .u8)) (hx : evo σ x = some (strB bs)) (hl : bs.length ≤ 9223372036854775807) :
    OpS P E ρ n σ Γ (.convert T T' x) ty (fun v Γ2 => ∃ b cap, v = .slice (some ⟨b, 0, none⟩) bs.length cap ∧ Γ2 = .row e 1 (some ⟨b, 0, none⟩) bs.length cap (bs.flatMap encB) :: Γ) := fun ac w ev s => by
  have hrun := Go.Lib.run_convert_string_bytes (P := P) w T T' e ⟨bs.toArray⟩ hs hT he; have hsz : (⟨bs.toArray⟩ : ByteArray).size = bs.length := by simp [ByteArray.size]
  have hge := grownCap_ge w bs.length 0 e; have hle := grownCap_le_maxLen w bs.length 0 e (by simp only [maxLen]; omega); rw [hsz] at hrun
  have hcs : (bytesCells w e ⟨bs.toArray⟩).size = grownCap w bs.length 0 e := by
    unfold bytesCells; rw [hsz]; simp; omega
  have hal := s.alloc (.row e 1 (some ⟨w.heap.size, 0, none⟩) bs.length (grownCap w bs.length 0 e) (bs.flatMap encB)) (.cells (bytesCells w e ⟨bs.toArray⟩) e ((bytesCells w e ⟨bs.toArray⟩).size, (bytesCells w e ⟨bs.toArray⟩).size + 1)) (by
    have hfl : (bs.flatMap encB).length = bs.length * 1 := flat_len (enc := encB) (sz := 1) (fun _ => rfl) bs; refine ⟨hfl, .inr ⟨_, _, _, rfl, Hp.one_at _ _, .inr (Nat.le_refl _), hge, hle, by rw [hcs]; omega, ?_⟩⟩; unfold bytesCells; rw [hsz, Array.toList_append, Array.toList_map]; rw [List.take_left' (by simp)]; simp [List.flatMap_def]; exact map_encB bs)
  refine ⟨.value _, _, _, _, .inl rfl, ⟨w.heap.size, grownCap w bs.length 0 e, rfl, rfl⟩, ?_, hal.same (w' := bytesWorld w e ⟨bs.toArray⟩) ⟨rfl, rfl, rfl⟩ ⟨fun q o hq => ?_⟩⟩
  · have hev := ev.eval hx; unfold strB at hev; simp [exo, execOp, hev, hrun]
  · by_cases h1 : q < w.heap.size
    · show (bytesWorld w e ⟨bs.toArray⟩).heap[q]? = some o; rw [bytesWorld_at_old w e _ q h1]; simp only [hp, World.alloc] at hq; rw [Array.getElem?_push, if_neg (by omega)] at hq; exact hq
    · by_cases h2 : q = w.heap.size
      · subst h2; show (bytesWorld w e ⟨bs.toArray⟩).heap[w.heap.size]? = some o; rw [bytesWorld_at_new]; simp only [hp, World.alloc] at hq; rw [Array.getElem?_push, if_pos rfl] at hq; exact hq
      · simp only [hp, World.alloc] at hq; rw [Array.getElem?_eq_none (by simp; omega)] at hq; cases hq
end
end Go.SL
