/-
  Check sums: four bytes for a sum, and none but they; a burst of at most 32 bits never goes unseen. No program in sight.
-/
import Derived.Test.YtppngeebdmbeaaaSumW
set_option linter.unusedSimpArgs false
namespace Go.Sum
open Go Go.SL

theorem steps_low : ∀ (k : Nat) (z : BitVec 32), k ≤ 32 → z.toNat < 2 ^ (32 - k) → bitSteps k (z <<< k) = z
  | 0, z, _, _ => by simp [bitSteps]
  | k + 1, z, hk, h => by
    have ht : (z <<< k).getLsbD 31 = false := by
      rw [BitVec.getLsbD_shiftLeft]
      have e : z.getLsbD (31 - k) = false := by
        rw [BitVec.getLsbD]
        exact Nat.testBit_lt_two_pow (by rw [show 31 - k = 32 - (k + 1) from by omega]; exact h)
      simp [e]
    have h1 : bitStep ((z <<< k) <<< 1) = z <<< k := by
      have := step_back (z <<< k)
      unfold backBit at this
      rw [if_neg (fun h' => by rw [(top_at _).1 h'] at ht; cases ht)] at this
      exact this
    rw [bitSteps_succ', BitVec.shiftLeft_add, h1]
    exact steps_low k z (by omega) (Nat.lt_of_lt_of_le h (Nat.pow_le_pow_right (by decide) (by omega)))
def wd (c : UInt8) : BitVec 32 := c.toBitVec.setWidth 32
theorem wd_nat (c : UInt8) : (wd c).toNat = c.toNat := by
  unfold wd
  rw [BitVec.toNat_setWidth, Nat.mod_eq_of_lt (by have := c.toNat_lt; show c.toNat < _; omega)]; rfl
theorem wd_shl (c : UInt8) (k : Nat) (hk : k ≤ 24) : (wd c <<< k).toNat = c.toNat * 2 ^ k := by
  rw [BitVec.toNat_shiftLeft, wd_nat, Nat.shiftLeft_eq, Nat.mod_eq_of_lt]
  have h1 := c.toNat_lt
  have h2 : 2 ^ k ≤ 2 ^ 24 := Nat.pow_le_pow_right (by decide) hk
  calc c.toNat * 2 ^ k < 256 * 2 ^ k := Nat.mul_lt_mul_of_pos_right (by omega) (Nat.two_pow_pos k)
    _ ≤ 256 * 2 ^ 24 := Nat.mul_le_mul_left _ h2
    _ = 2 ^ 32 := by decide
theorem e8 (c : UInt8) : bitSteps 8 (wd c <<< 8) = wd c := steps_low 8 _ (by decide) (by rw [wd_nat]; have := c.toNat_lt; omega)
theorem e16 (c : UInt8) : bitSteps 8 (wd c <<< 16) = wd c <<< 8 := by
  rw [show 16 = 8 + 8 from rfl, BitVec.shiftLeft_add]
  exact steps_low 8 _ (by decide) (by rw [wd_shl c 8 (by decide)]; have := c.toNat_lt; omega)
theorem e24 (c : UInt8) : bitSteps 8 (wd c <<< 24) = wd c <<< 16 := by
  rw [show 24 = 16 + 8 from rfl, BitVec.shiftLeft_add]
  exact steps_low 8 _ (by decide) (by rw [wd_shl c 16 (by decide)]; have := c.toNat_lt; omega)
def pack (b0 b1 b2 b3 : UInt8) : BitVec 32 := wd b0 ^^^ (wd b1 <<< 8 ^^^ (wd b2 <<< 16 ^^^ wd b3 <<< 24))
theorem crc4 (r : BitVec 32) (b0 b1 b2 b3 : UInt8) : crcR r [b0, b1, b2, b3] = bitSteps 32 (r ^^^ pack b0 b1 b2 b3) := by
  have h : ∀ x, bitSteps 32 x = bitSteps 8 (bitSteps 8 (bitSteps 8 (bitSteps 8 x))) := fun x => by
    show bitSteps (8 + (8 + (8 + 8))) x = _
    rw [bitSteps_add, bitSteps_add, bitSteps_add]
  rw [h]
  show bitSteps 8 (bitSteps 8 (bitSteps 8 (bitSteps 8 (r ^^^ wd b0) ^^^ wd b1) ^^^ wd b2) ^^^ wd b3) = _
  simp only [pack, bitSteps_xor, e8, e16, e24, BitVec.xor_assoc]
theorem wd_bit (c : UInt8) (i : Nat) : (wd c).getLsbD i = c.toBitVec.getLsbD i := by
  unfold wd
  rw [BitVec.getLsbD_setWidth]
  by_cases h : i < 32
  · simp [h]
  · rw [BitVec.getLsbD_of_ge _ _ (by omega)]; simp
theorem pack_bit (b0 b1 b2 b3 : UInt8) (i : Nat) (hi : i < 32) : (pack b0 b1 b2 b3).getLsbD i =
    if i < 8 then b0.toBitVec.getLsbD i else if i < 16 then b1.toBitVec.getLsbD (i - 8) else if i < 24 then b2.toBitVec.getLsbD (i - 16) else b3.toBitVec.getLsbD (i - 24) := by
  unfold pack
  simp only [BitVec.getLsbD_xor, BitVec.getLsbD_shiftLeft, wd_bit]
  by_cases h1 : i < 8
  · simp [h1, hi, show i < 16 by omega, show i < 24 by omega]
  · rw [BitVec.getLsbD_of_ge b0.toBitVec i (by omega)]
    by_cases h2 : i < 16
    · simp [h1, h2, hi, show i < 24 by omega]
    · rw [BitVec.getLsbD_of_ge b1.toBitVec (i - 8) (by omega)]
      by_cases h3 : i < 24
      · simp [h1, h2, h3, hi]
      · rw [BitVec.getLsbD_of_ge b2.toBitVec (i - 16) (by omega)]
        simp [h1, h2, h3, hi]
theorem byte_bit (x : BitVec 32) (j : Nat) (hj : j < 8) : (UInt8.ofNat x.toNat).toBitVec.getLsbD j = x.getLsbD j := by
  show (BitVec.ofNat 8 x.toNat).getLsbD j = _
  rw [BitVec.getLsbD_ofNat]
  simp [hj, BitVec.getLsbD]
theorem pack_bytes (r : BitVec 32) : pack (UInt8.ofNat r.toNat) (UInt8.ofNat (r >>> 8).toNat) (UInt8.ofNat (r >>> 16).toNat) (UInt8.ofNat (r >>> 24).toNat) = r := by
  apply BitVec.eq_of_getLsbD_eq
  intro i hi
  rw [pack_bit _ _ _ _ i hi]
  split
  · exact byte_bit _ _ (by omega)
  · split
    · rw [byte_bit _ _ (by omega), BitVec.getLsbD_ushiftRight, show 8 + (i - 8) = i from by omega]
    · split
      · rw [byte_bit _ _ (by omega), BitVec.getLsbD_ushiftRight, show 16 + (i - 16) = i from by omega]
      · rw [byte_bit _ _ (by omega), BitVec.getLsbD_ushiftRight, show 24 + (i - 24) = i from by omega]
theorem u8_ext {c d : UInt8} (h : ∀ j, j < 8 → c.toBitVec.getLsbD j = d.toBitVec.getLsbD j) : c = d := by
  have : c.toBitVec = d.toBitVec := BitVec.eq_of_getLsbD_eq h
  exact UInt8.eq_of_toBitVec_eq this
theorem pack_inj {b0 b1 b2 b3 c0 c1 c2 c3 : UInt8} (h : pack b0 b1 b2 b3 = pack c0 c1 c2 c3) : b0 = c0 ∧ b1 = c1 ∧ b2 = c2 ∧ b3 = c3 := by
  have key : ∀ i, i < 32 → _ := fun i hi => by
    have := congrArg (fun z : BitVec 32 => z.getLsbD i) h
    simp only [pack_bit _ _ _ _ i hi] at this
    exact this
  refine ⟨u8_ext fun j hj => ?_, u8_ext fun j hj => ?_, u8_ext fun j hj => ?_, u8_ext fun j hj => ?_⟩
  · have := key j (by omega)
    simpa [hj] using this
  · have := key (8 + j) (by omega)
    simpa [hj, show 8 + j < 16 by omega, show ¬ 8 + j < 8 by omega, show 8 + j - 8 = j by omega] using this
  · have := key (16 + j) (by omega)
    simpa [hj, show 16 + j < 24 by omega, show ¬ 16 + j < 16 by omega, show ¬ 16 + j < 8 by omega, show 16 + j - 16 = j by omega] using this
  · have := key (24 + j) (by omega)
    simpa [hj, show ¬ 24 + j < 24 by omega, show ¬ 24 + j < 16 by omega, show ¬ 24 + j < 8 by omega, show 24 + j - 24 = j by omega] using this
theorem nn (x : BitVec 32) : ~~~ ~~~ x = x := by simp
theorem fix_sum (a : List UInt8) (w : BitVec 32) : sumB (a ++ fixB (sumB a) w) = w := by
  unfold sumB moreB
  rw [crcR_append]
  show ~~~ (crcR _ (fixB _ w)) = w
  unfold fixB
  rw [crc4, pack_bytes]
  unfold fixR
  rw [nn, BitVec.xor_comm (backBits 32 (~~~ w)), xcc, steps_back, nn]
theorem fix_only {a : List UInt8} {w : BitVec 32} {o0 o1 o2 o3 : UInt8} (h : sumB (a ++ [o0, o1, o2, o3]) = w) : [o0, o1, o2, o3] = fixB (sumB a) w := by
  have h2 := (fix_sum a w).trans h.symm
  unfold sumB moreB at h2
  rw [crcR_append, crcR_append] at h2
  have h3 := congrArg (fun z => ~~~ z) h2
  simp only [nn] at h3
  unfold fixB at h3 ⊢
  rw [crc4, crc4] at h3
  have h4 := bitSteps_inj 32 h3
  have h5 := congrArg (fun z => crcR (~~~ 0#32) a ^^^ z) h4
  simp only [xcc] at h5
  obtain ⟨q0, q1, q2, q3⟩ := pack_inj h5
  unfold sumB moreB
  rw [q0, q1, q2, q3]

/-! ### Bursts -/
def flipB (c : List UInt8) (k : Nat) : List UInt8 := c.set (k / 8) (c.getD (k / 8) default ^^^ ((1 : UInt8) <<< UInt8.ofNat (k % 8)))
theorem flip_len (c : List UInt8) (k : Nat) : (flipB c k).length = c.length := by simp [flipB]
theorem one_shl : ∀ k : Fin 8, wd ((1 : UInt8) <<< UInt8.ofNat k.1) = 1#32 <<< k.1 := by decide
theorem wd_xor (b c : UInt8) : wd (b ^^^ c) = wd b ^^^ wd c := by
  apply BitVec.eq_of_getLsbD_eq
  intro i hi
  rw [BitVec.getLsbD_xor, wd_bit, wd_bit, wd_bit, UInt8.toBitVec_xor, BitVec.getLsbD_xor]
theorem one_steps (k : Nat) (hk : k < 32) : bitSteps k (1#32 <<< k) = 1#32 := steps_low k 1#32 (by omega) (by
  show 1 < 2 ^ (32 - k)
  exact Nat.one_lt_two_pow (by omega))
theorem crcR_xor (bs : List UInt8) (x y : BitVec 32) : crcR (x ^^^ y) bs = crcR x bs ^^^ bitSteps (8 * bs.length) y := by
  rw [crcR_lin bs (x ^^^ y), crcR_lin bs x, Zn_xor]
  show Zn bs.length x ^^^ Zn bs.length y ^^^ _ = _ ^^^ _ ^^^ Zn bs.length y
  rw [BitVec.xor_assoc, BitVec.xor_assoc, BitVec.xor_comm (Zn bs.length y)]
theorem flip_crc : ∀ (c : List UInt8) (k : Nat) (r : BitVec 32), k < 8 * c.length → crcR r (flipB c k) = crcR r c ^^^ bitSteps (8 * c.length - k) 1#32
  | [], k, r, h => by simp at h
  | b :: bs, k, r, h => by
    by_cases hk : k < 8
    · have e : flipB (b :: bs) k = (b ^^^ ((1 : UInt8) <<< UInt8.ofNat k)) :: bs := by
        unfold flipB
        rw [Nat.div_eq_of_lt hk, Nat.mod_eq_of_lt hk]; rfl
      rw [e]
      show crcR (bitSteps 8 (r ^^^ wd (b ^^^ _))) bs = crcR (bitSteps 8 (r ^^^ wd b)) bs ^^^ _
      rw [wd_xor, one_shl ⟨k, hk⟩, ← BitVec.xor_assoc, bitSteps_xor, crcR_xor]
      congr 1
      have e9 : bitSteps 8 (1#32 <<< k) = bitSteps (8 - k) 1#32 := by
        have := bitSteps_add (8 - k) k (1#32 <<< k)
        rw [one_steps k (by omega), show 8 - k + k = 8 from by omega] at this
        exact this
      show bitSteps (8 * bs.length) (bitSteps 8 (1#32 <<< k)) = _
      rw [e9, ← bitSteps_add]
      congr 1
      simp only [List.length_cons]
      omega
    · have e : flipB (b :: bs) k = b :: flipB bs (k - 8) := by
        unfold flipB
        have h1 : k / 8 = (k - 8) / 8 + 1 := by omega
        have h2 : k % 8 = (k - 8) % 8 := by omega
        rw [h1, h2]; simp
      rw [e]
      show crcR (stepB r b) (flipB bs (k - 8)) = crcR (stepB r b) bs ^^^ _
      rw [flip_crc bs (k - 8) _ (by simp only [List.length_cons] at h; omega)]
      congr 2
      simp only [List.length_cons]
      omega
def burstF (len p : Nat) (i : Nat) : BitVec 32 := bitSteps (8 * len - p) (1#32 <<< i)
theorem burst_step {b c : List UInt8} {r bits : BitVec 32} {p k : Nat} (hl : c.length = b.length) (hp : p + 32 ≤ 8 * b.length) (hk : k < 32) (h : crcR r c = crcR r b ^^^ timesTo (burstF b.length p) bits k)
    (hb : ((bits >>> k &&& 1#32).toNat : Int) = 1) : crcR r (flipB c (p + k)) = crcR r b ^^^ timesTo (burstF b.length p) bits (k + 1) := by
  rw [timesTo, if_pos hb, flip_crc c (p + k) r (by omega), h, BitVec.xor_assoc, hl]
  congr 2
  unfold burstF
  have : 8 * b.length - p = (8 * b.length - (p + k)) + k := by omega
  rw [this, bitSteps_add, one_steps k hk]
theorem burst_skip {b c : List UInt8} {r bits : BitVec 32} {p k : Nat} (h : crcR r c = crcR r b ^^^ timesTo (burstF b.length p) bits k) (hb : ¬ ((bits >>> k &&& 1#32).toNat : Int) = 1) :
    crcR r c = crcR r b ^^^ timesTo (burstF b.length p) bits (k + 1) := by rw [timesTo, if_neg hb, h]
theorem burst_ne {b c : List UInt8} {bits : BitVec 32} {p : Nat} (hb : ¬ (bits.toNat : Int) = 0) (h : crcR (~~~ 0#32) c = crcR (~~~ 0#32) b ^^^ timesTo (burstF b.length p) bits 32) : ¬ ((sumB b).toNat : Int) = ((sumB c).toNat : Int) := fun e => by
  have e1 : sumB b = sumB c := BitVec.eq_of_toNat_eq (by omega)
  unfold sumB moreB at e1
  have e2 := congrArg (fun z => ~~~ z) e1
  simp only [nn] at e2
  rw [h, show timesTo (burstF b.length p) bits 32 = bitSteps (8 * b.length - p) bits from times_all (bitSteps (8 * b.length - p)) (bitSteps_xor _) (bitSteps_zero _) bits] at e2
  have e3 := congrArg (fun z => crcR (~~~ 0#32) b ^^^ z) e2
  simp only [xcc, BitVec.xor_self] at e3
  rw [← bitSteps_zero (8 * b.length - p)] at e3
  have e4 := bitSteps_inj _ e3
  exact hb (by rw [← e4]; rfl)
end Go.Sum
