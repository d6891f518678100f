/-
  The engine, part F: whole numbers bit by bit; bytes.
-/
import Derived.Test.YtehaoafnobnneaaGreatDoorSlE
namespace Go.SL
open Go

section
variable {P : Program} {E : World} {ρ : Hp} {n : Fz} {σ : Slots} {Γ Γ' : List Asn} {ty : TypeId} {x y z : Operand} {v u : Value} {T T' : TypeId} {a b : Int}
/-! bits of a uint32 -/
theorem w32 (p : BitVec 32) : IntKind.wrap .u32 (p.toNat : Int) = (p.toNat : Int) := wrap_u32 (by omega) (by have := p.isLt; omega)
theorem ofInt32 (p : BitVec 32) : BitVec.ofInt (IntKind.bits .u32) (p.toNat : Int) = p := by
  show BitVec.ofInt 32 (p.toNat : Int) = p
  simp
theorem q32_xor {p q : BitVec 32} (hx : evo σ x = some (.int .u32 a)) (hy : evo σ y = some (.int .u32 b)) (ha : a = (p.toNat : Int)) (hb : b = (q.toNat : Int)) : OpQ P E ρ n σ Γ (.binOp .xor T x y T') ty (.int .u32 ((p ^^^ q).toNat : Int)) := by
  have := q_xor (P := P) (E := E) (ρ := ρ) (n := n) (Γ := Γ) (ty := ty) (T := T) (T' := T') hx hy
  have e : IntKind.wrap .u32 ((BitVec.ofInt (IntKind.bits .u32) a ^^^ BitVec.ofInt (IntKind.bits .u32) b).toNat : Int) = ((p ^^^ q).toNat : Int) := by
    rw [ha, hb, ofInt32, ofInt32]; exact w32 _
  rw [e] at this
  exact this
theorem q32_and {p q : BitVec 32} (hx : evo σ x = some (.int .u32 a)) (hy : evo σ y = some (.int .u32 b)) (ha : a = (p.toNat : Int)) (hb : b = (q.toNat : Int)) : OpQ P E ρ n σ Γ (.binOp .and T x y T') ty (.int .u32 ((p &&& q).toNat : Int)) := by
  have := q_and (P := P) (E := E) (ρ := ρ) (n := n) (Γ := Γ) (ty := ty) (T := T) (T' := T') hx hy
  have e : IntKind.wrap .u32 ((BitVec.ofInt (IntKind.bits .u32) a &&& BitVec.ofInt (IntKind.bits .u32) b).toNat : Int) = ((p &&& q).toNat : Int) := by
    rw [ha, hb, ofInt32, ofInt32]; exact w32 _
  rw [e] at this
  exact this
theorem q32_shr {p : BitVec 32} {k : IntKind} {m : Nat} (hx : evo σ x = some (.int .u32 a)) (hy : evo σ y = some (.int k b)) (ha : a = (p.toNat : Int)) (hb : b = (m : Int)) (hm : m ≤ 32) : OpQ P E ρ n σ Γ (.binOp .shr T x y T') ty (.int .u32 ((p >>> m).toNat : Int)) := by
  have := q_shr (P := P) (E := E) (ρ := ρ) (n := n) (Γ := Γ) (ty := ty) (T := T) (T' := T') hx hy (by omega)
  have e : (a.fdiv (2 ^ (min b.toNat (IntKind.bits .u32)))) = ((p >>> m).toNat : Int) := by
    rw [ha, hb]
    have : min (m : Int).toNat (IntKind.bits .u32) = m := by simp [IntKind.bits]; omega
    rw [this, Int.fdiv_eq_ediv_of_nonneg _ (by exact_mod_cast Nat.zero_le _)]
    simp [BitVec.toNat_ushiftRight, Nat.shiftRight_eq_div_pow]
  rw [e] at this
  exact this
theorem q32_shl {p : BitVec 32} {k : IntKind} {m : Nat} (hx : evo σ x = some (.int .u32 a)) (hy : evo σ y = some (.int k b)) (ha : a = (p.toNat : Int)) (hb : b = (m : Int)) (hm : m ≤ 32) : OpQ P E ρ n σ Γ (.binOp .shl T x y T') ty (.int .u32 ((p <<< m).toNat : Int)) := by
  have := q_shl (P := P) (E := E) (ρ := ρ) (n := n) (Γ := Γ) (ty := ty) (T := T) (T' := T') hx hy (by omega)
  have e : IntKind.wrap .u32 (a * 2 ^ (min b.toNat (IntKind.bits .u32))) = ((p <<< m).toNat : Int) := by
    rw [ha, hb]
    have : min (m : Int).toNat (IntKind.bits .u32) = m := by simp [IntKind.bits]; omega
    rw [this]
    simp [BitVec.toNat_shiftLeft, Nat.shiftLeft_eq, IntKind.wrap, IntKind.bits, IntKind.signed]
  rw [e] at this
  exact this
theorem q32_neg {p : BitVec 32} (hx : evo σ x = some (.int .u32 a)) (ha : a = (p.toNat : Int)) : OpQ P E ρ n σ Γ (.unOp .neg T x) ty (.int .u32 ((-p).toNat : Int)) := by
  have := q_negw (P := P) (E := E) (ρ := ρ) (n := n) (Γ := Γ) (ty := ty) (T := T) hx
  have e : IntKind.wrap .u32 (0 - a) = ((-p).toNat : Int) := by
    rw [ha]
    have := p.isLt
    simp [BitVec.toNat_neg, IntKind.wrap, IntKind.bits, IntKind.signed]
    omega
  rw [e] at this
  exact this
theorem q32_compl {p : BitVec 32} (hx : evo σ x = some (.int .u32 a)) (ha : a = (p.toNat : Int)) : OpQ P E ρ n σ Γ (.unOp .xor T x) ty (.int .u32 ((~~~p).toNat : Int)) := by
  have := q_compl (P := P) (E := E) (ρ := ρ) (n := n) (Γ := Γ) (ty := ty) (T := T) hx
  have e : IntKind.wrap .u32 ((BitVec.ofInt (IntKind.bits .u32) (if IntKind.signed .u32 then -1 else IntKind.max .u32) ^^^ BitVec.ofInt (IntKind.bits .u32) a).toNat : Int) = ((~~~p).toNat : Int) := by
    rw [ha, ofInt32]
    have h : BitVec.ofInt (IntKind.bits .u32) (if IntKind.signed .u32 then -1 else IntKind.max .u32) = (BitVec.allOnes 32 : BitVec 32) := by
      show BitVec.ofInt 32 (if IntKind.signed .u32 then -1 else IntKind.max .u32) = BitVec.allOnes 32
      decide
    rw [h]
    have h2 : (BitVec.allOnes 32 ^^^ p : BitVec 32) = ~~~p := BitVec.allOnes_xor
    rw [← h2]
    exact w32 (BitVec.allOnes 32 ^^^ p)
  rw [e] at this
  exact this
theorem q32_or {p q : BitVec 32} (hx : evo σ x = some (.int .u32 a)) (hy : evo σ y = some (.int .u32 b)) (ha : a = (p.toNat : Int)) (hb : b = (q.toNat : Int)) : OpQ P E ρ n σ Γ (.binOp .or T x y T') ty (.int .u32 ((p ||| q).toNat : Int)) := by
  have := q_or (P := P) (E := E) (ρ := ρ) (n := n) (Γ := Γ) (ty := ty) (T := T) (T' := T') hx hy
  have e : IntKind.wrap .u32 ((BitVec.ofInt (IntKind.bits .u32) a ||| BitVec.ofInt (IntKind.bits .u32) b).toNat : Int) = ((p ||| q).toNat : Int) := by
    rw [ha, hb, ofInt32, ofInt32]; exact w32 _
  rw [e] at this
  exact this
/-! bits of a uint64 -/
theorem w64 (p : BitVec 64) : IntKind.wrap .u64 (p.toNat : Int) = (p.toNat : Int) := wrap_u64 (by omega) (by have := p.isLt; omega)
theorem ofInt64 (p : BitVec 64) : BitVec.ofInt (IntKind.bits .u64) (p.toNat : Int) = p := by
  show BitVec.ofInt 64 (p.toNat : Int) = p
  simp
theorem q64_xor {p q : BitVec 64} (hx : evo σ x = some (.int .u64 a)) (hy : evo σ y = some (.int .u64 b)) (ha : a = (p.toNat : Int)) (hb : b = (q.toNat : Int)) : OpQ P E ρ n σ Γ (.binOp .xor T x y T') ty (.int .u64 ((p ^^^ q).toNat : Int)) := by
  have := q_xor (P := P) (E := E) (ρ := ρ) (n := n) (Γ := Γ) (ty := ty) (T := T) (T' := T') hx hy
  have e : IntKind.wrap .u64 ((BitVec.ofInt (IntKind.bits .u64) a ^^^ BitVec.ofInt (IntKind.bits .u64) b).toNat : Int) = ((p ^^^ q).toNat : Int) := by
    rw [ha, hb, ofInt64, ofInt64]; exact w64 _
  rw [e] at this
  exact this
/-- a uint64 that holds a uint32 -/
theorem q64_xor32 {p q : BitVec 32} (hx : evo σ x = some (.int .u64 a)) (hy : evo σ y = some (.int .u64 b)) (ha : a = (p.toNat : Int)) (hb : b = (q.toNat : Int)) : OpQ P E ρ n σ Γ (.binOp .xor T x y T') ty (.int .u64 ((p ^^^ q).toNat : Int)) := by
  have h1 : ∀ r : BitVec 32, (r.toNat : Int) = ((r.setWidth 64).toNat : Int) := fun r => by
    have := r.isLt
    rw [BitVec.toNat_setWidth, Nat.mod_eq_of_lt (by omega)]
  have := q64_xor (P := P) (E := E) (ρ := ρ) (n := n) (Γ := Γ) (ty := ty) (T := T) (T' := T') (p := p.setWidth 64) (q := q.setWidth 64) hx hy (by rw [ha, h1]) (by rw [hb, h1])
  rw [← BitVec.setWidth_xor, ← h1] at this
  exact this
/-! bits of a byte -/
theorem w8 (p : BitVec 8) : IntKind.wrap .u8 (p.toNat : Int) = (p.toNat : Int) := wrap_u8 (by omega) (by have := p.isLt; omega)
theorem ofInt8 (p : BitVec 8) : BitVec.ofInt (IntKind.bits .u8) (p.toNat : Int) = p := by
  show BitVec.ofInt 8 (p.toNat : Int) = p
  simp
theorem q8_xor {p q : UInt8} (hx : evo σ x = some (.int .u8 a)) (hy : evo σ y = some (.int .u8 b)) (ha : a = (p.toNat : Int)) (hb : b = (q.toNat : Int)) : OpQ P E ρ n σ Γ (.binOp .xor T x y T') ty (.int .u8 ((p ^^^ q).toNat : Int)) := by
  have := q_xor (P := P) (E := E) (ρ := ρ) (n := n) (Γ := Γ) (ty := ty) (T := T) (T' := T') hx hy
  have e : IntKind.wrap .u8 ((BitVec.ofInt (IntKind.bits .u8) a ^^^ BitVec.ofInt (IntKind.bits .u8) b).toNat : Int) = ((p ^^^ q).toNat : Int) := by
    rw [ha, hb]
    have h1 : BitVec.ofInt (IntKind.bits .u8) (p.toNat : Int) = p.toBitVec := ofInt8 p.toBitVec
    have h2 : BitVec.ofInt (IntKind.bits .u8) (q.toNat : Int) = q.toBitVec := ofInt8 q.toBitVec
    rw [h1, h2]
    exact w8 (p.toBitVec ^^^ q.toBitVec)
  rw [e] at this
  exact this
theorem q8_shl {k : IntKind} {p : UInt8} {m : Nat} (hx : evo σ x = some (.int .u8 a)) (hy : evo σ y = some (.int k b)) (ha : a = (p.toNat : Int)) (hb : b = (m : Int)) (hm : m < 8) : OpQ P E ρ n σ Γ (.binOp .shl T x y T') ty (.int .u8 ((p <<< UInt8.ofNat m).toNat : Int)) := by
  have := q_shl (P := P) (E := E) (ρ := ρ) (n := n) (Γ := Γ) (ty := ty) (T := T) (T' := T') hx hy (by omega)
  have e : IntKind.wrap .u8 (a * 2 ^ (min b.toNat (IntKind.bits .u8))) = ((p <<< UInt8.ofNat m).toNat : Int) := by
    rw [ha, hb]
    have h1 : min (m : Int).toNat (IntKind.bits .u8) = m := by simp [IntKind.bits]; omega
    have h2 : (UInt8.ofNat m).toNat = m := by simp; omega
    rw [h1]
    simp [UInt8.toNat_shiftLeft, h2, Nat.mod_eq_of_lt hm, Nat.shiftLeft_eq, IntKind.wrap, IntKind.bits, IntKind.signed]
  rw [e] at this
  exact this
/-! an int's lowest bit, and its half -/
theorem q_and1 {m : Nat} (hx : evo σ x = some (.int .i64 a)) (hy : evo σ y = some (.int .i64 1)) (ha : a = (m : Int)) (hm : m < 9223372036854775808) : OpQ P E ρ n σ Γ (.binOp .and T x y T') ty (.int .i64 ((m % 2 : Nat) : Int)) := by
  have := q_and (P := P) (E := E) (ρ := ρ) (n := n) (Γ := Γ) (ty := ty) (T := T) (T' := T') hx hy
  have e : IntKind.wrap .i64 ((BitVec.ofInt (IntKind.bits .i64) a &&& BitVec.ofInt (IntKind.bits .i64) 1).toNat : Int) = ((m % 2 : Nat) : Int) := by
    have h1 : (BitVec.ofInt (IntKind.bits .i64) a &&& BitVec.ofInt (IntKind.bits .i64) 1).toNat = m % 2 := by
      show (BitVec.ofInt 64 a &&& BitVec.ofInt 64 1).toNat = m % 2
      rw [ha, BitVec.toNat_and]
      have h2 : (BitVec.ofInt 64 1).toNat = 1 := rfl
      have h3 : (BitVec.ofInt 64 (m : Int)).toNat = m := by simp; omega
      rw [h2, h3, Nat.and_one_is_mod]
    rw [h1]
    exact wrap_i64 (by omega) (by omega)
  rw [e] at this
  exact this
theorem q_shr1 {k : IntKind} {m : Nat} (hx : evo σ x = some (.int .i64 a)) (hy : evo σ y = some (.int k 1)) (ha : a = (m : Int)) : OpQ P E ρ n σ Γ (.binOp .shr T x y T') ty (.int .i64 ((m / 2 : Nat) : Int)) := by
  have := q_shr (P := P) (E := E) (ρ := ρ) (n := n) (Γ := Γ) (ty := ty) (T := T) (T' := T') hx hy (by omega)
  have e : a.fdiv (2 ^ (min (1 : Int).toNat (IntKind.bits .i64))) = ((m / 2 : Nat) : Int) := by
    rw [ha]
    have : min (1 : Int).toNat (IntKind.bits .i64) = 1 := rfl
    rw [this, Int.fdiv_eq_ediv_of_nonneg _ (by decide)]
    omega
  rw [e] at this
  exact this
end

/-! ### Bytes -/
def encB (b : UInt8) : List Value := [.int .u8 (b.toNat : Int)]
/-- a slice of bytes -/
structure SB where
  a : Option Addr
  cap : Nat
  bs : List UInt8
  deriving Inhabited
def encS (s : SB) : List Value := [.slice s.a s.bs.length s.cap]
theorem u32e {p q : BitVec 32} (h : p = q) : Value.int .u32 (p.toNat : Int) = Value.int .u32 (q.toNat : Int) := by rw [h]
theorem inte {k : IntKind} {p q : Int} (h : p = q) : Value.int k p = Value.int k q := by rw [h]
theorem boole {p q : Bool} (h : p = q) : Value.bool p = Value.bool q := by rw [h]
theorem take_succ_getD {α : Type} [Inhabited α] (l : List α) (k : Nat) (h : k < l.length) : l.take (k + 1) = l.take k ++ [l.getD k default] := by
  rw [List.take_succ_eq_append_getElem h]
  simp [List.getD, List.getElem?_eq_getElem h]
theorem flat_take_succ {α β : Type} [Inhabited α] (f : α → List β) (l : List α) (k : Nat) (h : k < l.length) : (l.take (k + 1)).flatMap f = (l.take k).flatMap f ++ f (l.getD k default) := by
  rw [take_succ_getD l k h]; simp
theorem getD_mem {α : Type} [Inhabited α] (l : List α) (k : Nat) (h : k < l.length) : l.getD k default ∈ l := by
  simp [List.getD, List.getElem?_eq_getElem h]
theorem oneB (bs : List UInt8) : ∀ u ∈ bs.flatMap encB, u.oneCell' = true := fun u hu => by
  simp only [List.mem_flatMap, encB, List.mem_singleton] at hu
  obtain ⟨_, _, rfl⟩ := hu
  rfl
end Go.SL
