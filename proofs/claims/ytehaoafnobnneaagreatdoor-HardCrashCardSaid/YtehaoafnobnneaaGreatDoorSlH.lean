/-
  The engine, part H: appends element by element, comparing small arrays, one row of none.
-/
import Derived.Test.YtehaoafnobnneaaGreatDoorSlG
import Derived.ChangeKeysEq
namespace Go.SL
open Go
section
variable {P : Program} {E : World} {ρ : Hp} {n : Fz} {σ : Slots} {Γ Γ' : List Asn} {ty : TypeId} {x y z : Operand} {v u : Value} {T T' : TypeId} {a sa : Option Addr} {cap sc sz : Nat}
theorem s_appende {α : Type} {enc : α → List Value} {e : TypeId} {bytes : Nat} {xs ys : List α} {Γ' : Option Addr → Nat → List Asn} (ht : P.underlying T = some (.slice e)) (hok : elemOk P e sz bytes = true) (hs0 : 0 < sz) (hx : evo σ x = some (.slice a xs.length cap)) (hy : evo σ y = some (.slice sa ys.length sc))
    (rd : Rd ρ Γ sz sa ys.length sc (ys.flatMap enc)) (h1 : ∀ u ∈ ys.flatMap enc, u.oneCell' = true) (hb : (xs.length + ys.length) * bytes ≤ 140737488355328) (hm : xs.length + ys.length ≤ 9223372036854775807)
    (p : ∀ a' cap', Pick (.row e sz a xs.length cap (xs.flatMap enc)) [.row e sz a' (xs ++ ys).length cap' ((xs ++ ys).flatMap enc)] Γ (Γ' a' cap')) :
    OpS P E ρ n σ Γ (.call { callee := .builtin .append, args := #[x, y], argTypes := #[T, T] }) ty (fun v Γ2 => ∃ a' cap', v = .slice a' (xs ++ ys).length cap' ∧ Γ2 = Γ' a' cap') := by
  rw [List.length_append]
  exact s_append ht hok hs0 hx hy rd h1 hb hm (fun a' cap' => by
    have := p a' cap'
    rw [List.length_append, List.flatMap_append] at this
    exact this)
theorem sel_all (Γ : List Asn) : Sel Γ Γ [] := by
  induction Γ with
  | nil => exact Sel.nil
  | cons A Γ ih => exact Sel.cons Pick.here ih
theorem Ent.nilrow (T : TypeId) (sz : Nat) (Γ : List Asn) : Ent Γ (.row T sz none 0 0 [] :: Γ) := fun h s =>
  ⟨Hp.none_, h, Hp.none_disj _, Hp.none_le _, Hp.le_refl _, ⟨by simp, .inl ⟨rfl, rfl, rfl⟩⟩, s⟩
theorem q_eqla4 {b0 b1 b2 b3 c0 c1 c2 c3 : UInt8} {e : TypeId} (hT : P.underlying T = some (.array 4 e)) (he : P.underlying e = some (.int .u8)) (hs : P.cellsOf e = 1) (hp : P.plainKey e = true) (hg : P.eqGuardType P.depth T = false)
    (hx : evo σ x = some (.agg #[.int .u8 (b0.toNat : Int), .int .u8 (b1.toNat : Int), .int .u8 (b2.toNat : Int), .int .u8 (b3.toNat : Int)])) (hy : evo σ y = some (.agg #[.int .u8 (c0.toNat : Int), .int .u8 (c1.toNat : Int), .int .u8 (c2.toNat : Int), .int .u8 (c3.toNat : Int)])) :
    OpQ P E ρ n σ Γ (.binOp .eql T x y T') ty (.bool (decide ([b0, b1, b2, b3] = [c0, c1, c2, c3]))) := by
  obtain ⟨i, hi⟩ := info_of_underlying he
  have e1 : ∀ (b c : UInt8) (d : Nat) (w : World), (Op.equalIn (d + 1) e (.int .u8 (b.toNat : Int)) (.int .u8 (c.toNat : Int))).run P w = .ok (b == c) w := fun b c d w => by
    have : ((b.toNat : Int) == (c.toNat : Int)) = (b == c) := by
      rw [Bool.eq_iff_iff]; simp [← UInt8.toNat_inj]; omega
    simp [Op.equalIn, underlying, he, this]
  have big : ∀ (w : World) (d : Nat), (Op.equalIn (d + 1 + 1) T (.agg #[.int .u8 (b0.toNat : Int), .int .u8 (b1.toNat : Int), .int .u8 (b2.toNat : Int), .int .u8 (b3.toNat : Int)]) (.agg #[.int .u8 (c0.toNat : Int), .int .u8 (c1.toNat : Int), .int .u8 (c2.toNat : Int), .int .u8 (c3.toNat : Int)])).run P w = .ok (decide ([b0, b1, b2, b3] = [c0, c1, c2, c3])) w := fun w d => by
    rw [run_equalIn_array w (d + 1) _ _ hT hi, hs]
    have step : ∀ (xs ys : Array Value) (j : Nat) (b c : UInt8) (is : List Nat), xs[j]? = some (.int .u8 (b.toNat : Int)) → ys[j]? = some (.int .u8 (c.toNat : Int)) →
        (Op.eqItems (d + 1) e 1 xs ys (j :: is)).run P w = if b = c then (Op.eqItems (d + 1) e 1 xs ys is).run P w else .ok false w := fun xs ys j b c is h1 h2 => by
      simp only [Op.eqItems, Sem.run_bind, Nat.mul_one]
      rw [run_part_plain w hp h1]; simp only [Result.andThen_ok]
      rw [run_part_plain w hp h2]; simp only [Result.andThen_ok]
      rw [e1]; simp only [Result.andThen_ok]
      by_cases h : b = c
      · simp [h]
      · simp [h]
    rw [show List.range 4 = [0, 1, 2, 3] from rfl, step _ _ 0 b0 c0 _ rfl rfl, step _ _ 1 b1 c1 _ rfl rfl, step _ _ 2 b2 c2 _ rfl rfl, step _ _ 3 b3 c3 _ rfl rfl]
    by_cases h0 : b0 = c0
    · by_cases h1 : b1 = c1
      · by_cases h2 : b2 = c2
        · by_cases h3 : b3 = c3
          · simp [h0, h1, h2, h3, Op.eqItems]
          · simp [h0, h1, h2, h3]
        · simp [h0, h1, h2]
      · simp [h0, h1]
    · simp [h0]
  refine run_binOp_any hx hy (fun w => by simp [eqGuard, run_program, hg]) fun w => ?_
  have := big w 9998
  simp only [binOp, Sem.run_bind, Op.equal, Op.maxDepth]
  rw [this]; rfl
end
end Go.SL
