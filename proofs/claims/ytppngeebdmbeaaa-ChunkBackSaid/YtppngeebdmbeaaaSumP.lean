/-
  Check sums (CRC-32C), in plain Lean: the register, led on bit by bit; it is linear; joining; four bytes for any sum; bursts. No program in sight.
-/
import Derived.Test.YtppngeebdmbeaaaSlF
set_option linter.unusedSimpArgs false
namespace Go.Sum
open Go Go.SL

def poly : BitVec 32 := 2197175160#32
def bitStep (r : BitVec 32) : BitVec 32 := r >>> 1 ^^^ 2197175160#32 &&& -(r &&& 1#32)
def bitSteps : Nat → BitVec 32 → BitVec 32
  | 0, r => r
  | k + 1, r => bitStep (bitSteps k r)
def stepB (r : BitVec 32) (c : UInt8) : BitVec 32 := bitSteps 8 (r ^^^ c.toBitVec.setWidth 32)
def crcR (r : BitVec 32) (bs : List UInt8) : BitVec 32 := bs.foldl stepB r
def moreB (s : BitVec 32) (bs : List UInt8) : BitVec 32 := ~~~ (crcR (~~~ s) bs)
def sumB (bs : List UInt8) : BitVec 32 := moreB 0#32 bs
theorem crcR_append (r : BitVec 32) (a b : List UInt8) : crcR r (a ++ b) = crcR (crcR r a) b := by simp [crcR]
theorem crcR_nil (r : BitVec 32) : crcR r [] = r := rfl
theorem crcR_succ (r : BitVec 32) (bs : List UInt8) (k : Nat) (h : k < bs.length) : crcR r (bs.take (k + 1)) = stepB (crcR r (bs.take k)) (bs.getD k default) := by
  rw [take_succ_getD bs k h, crcR_append]; rfl
theorem moreB_append (s : BitVec 32) (a b : List UInt8) : moreB (moreB s a) b = moreB s (a ++ b) := by simp [moreB, crcR_append]
theorem sumB_append (a b : List UInt8) : moreB (sumB a) b = sumB (a ++ b) := moreB_append _ a b

/-! ### linear -/
theorem xlc (a b c : BitVec 32) : a ^^^ (b ^^^ c) = b ^^^ (a ^^^ c) := by rw [← BitVec.xor_assoc, BitVec.xor_comm a b, BitVec.xor_assoc]
theorem xcc (a b : BitVec 32) : a ^^^ (a ^^^ b) = b := by rw [← BitVec.xor_assoc, BitVec.xor_self, BitVec.zero_xor]
theorem bit_cases (r : BitVec 32) : bitStep r = r >>> 1 ^^^ (if r.getLsbD 0 then 2197175160#32 else 0#32) := by
  unfold bitStep
  have h : -(r &&& 1#32) = if r.getLsbD 0 then BitVec.allOnes 32 else 0#32 := by
    have h1 : r &&& 1#32 = if r.getLsbD 0 then 1#32 else 0#32 := by
      apply BitVec.eq_of_getLsbD_eq
      intro i hi
      rw [BitVec.getLsbD_and]
      by_cases h0 : i = 0
      · subst h0; cases r.getLsbD 0 <;> rfl
      · have h2 : (1#32).getLsbD i = false := by
          rw [BitVec.getLsbD_one]; simp [h0]
        rw [h2, Bool.and_false]
        cases r.getLsbD 0 with
        | true => simp [h2]
        | false => simp
    rw [h1]
    cases r.getLsbD 0 <;> decide
  rw [h]
  cases r.getLsbD 0 with
  | true => simp only [if_true]; rw [BitVec.and_allOnes]
  | false => simp
theorem bitStep_xor (a b : BitVec 32) : bitStep (a ^^^ b) = bitStep a ^^^ bitStep b := by
  rw [bit_cases, bit_cases, bit_cases, BitVec.getLsbD_xor, BitVec.ushiftRight_xor_distrib]
  cases a.getLsbD 0 <;> cases b.getLsbD 0 <;> simp [BitVec.xor_assoc]
  · exact BitVec.xor_comm _ _
  · rw [xlc, BitVec.xor_self, BitVec.xor_zero]
theorem bitSteps_xor (k : Nat) (a b : BitVec 32) : bitSteps k (a ^^^ b) = bitSteps k a ^^^ bitSteps k b := by
  induction k with
  | zero => rfl
  | succ k ih => simp only [bitSteps, ih, bitStep_xor]
theorem bitSteps_add (k m : Nat) (a : BitVec 32) : bitSteps (k + m) a = bitSteps k (bitSteps m a) := by
  induction k with
  | zero => simp [bitSteps]
  | succ k ih => rw [Nat.succ_add]; simp only [bitSteps, ih]
theorem bitSteps_zero (k : Nat) : bitSteps k 0#32 = 0#32 := by
  induction k with
  | zero => rfl
  | succ k ih => simp only [bitSteps, ih]; rfl
/-- a byte that is nought -/
def Z (r : BitVec 32) : BitVec 32 := bitSteps 8 r
def Zn (k : Nat) (r : BitVec 32) : BitVec 32 := bitSteps (8 * k) r
theorem stepB_zero (r : BitVec 32) : stepB r 0 = Zn 1 r := by simp [stepB, Zn]
theorem Zn_add (k m : Nat) (r : BitVec 32) : Zn (k + m) r = Zn k (Zn m r) := by unfold Zn; rw [Nat.mul_add, bitSteps_add]
theorem Zn_xor (k : Nat) (a b : BitVec 32) : Zn k (a ^^^ b) = Zn k a ^^^ Zn k b := bitSteps_xor _ a b
theorem stepB_lin (r : BitVec 32) (c : UInt8) : stepB r c = Zn 1 r ^^^ stepB 0#32 c := by
  simp [stepB, Zn, bitSteps_xor]
theorem crcR_lin : ∀ (bs : List UInt8) (r : BitVec 32), crcR r bs = Zn bs.length r ^^^ crcR 0#32 bs
  | [], r => by simp [crcR, Zn, bitSteps]
  | c :: bs, r => by
    show crcR (stepB r c) bs = Zn (bs.length + 1) r ^^^ crcR (stepB 0#32 c) bs
    rw [crcR_lin bs (stepB r c), crcR_lin bs (stepB 0#32 c), stepB_lin r c, Zn_xor, Zn_add, BitVec.xor_assoc]
/-- sums are joined -/
def joinB (a b : BitVec 32) (n : Nat) : BitVec 32 := Zn n a ^^^ b
theorem join_sum (a b : List UInt8) : joinB (sumB a) (sumB b) b.length = sumB (a ++ b) := by
  unfold joinB sumB moreB
  rw [crcR_append, crcR_lin b (crcR (~~~ 0#32) a), crcR_lin b (~~~ 0#32)]
  have h : ~~~ (0#32 : BitVec 32) = BitVec.allOnes 32 := by decide
  have n1 : ∀ x : BitVec 32, ~~~ x = BitVec.allOnes 32 ^^^ x := fun x => (BitVec.allOnes_xor).symm
  rw [h, n1 (crcR _ a), n1 (_ ^^^ crcR 0#32 b), n1 (_ ^^^ crcR 0#32 b), Zn_xor]
  generalize BitVec.allOnes 32 = o
  generalize Zn b.length o = p
  generalize Zn b.length (crcR o a) = q
  generalize crcR 0#32 b = s
  simp only [BitVec.xor_assoc]
  rw [xlc p q, xlc p o, xcc, xlc q o]

/-! ### A grid: what a linear map makes of the 32 bits -/
/-- the xor of the rows at r's bits below k -/
def timesTo (f : Nat → BitVec 32) (r : BitVec 32) : Nat → BitVec 32
  | 0 => 0#32
  | k + 1 => if ((r >>> k &&& 1#32).toNat : Int) = 1 then timesTo f r k ^^^ f k else timesTo f r k
theorem bit_at (r : BitVec 32) (k : Nat) : ((r >>> k &&& 1#32).toNat : Int) = 1 ↔ r.getLsbD k = true := by
  have h : r >>> k &&& 1#32 = if r.getLsbD k then 1#32 else 0#32 := by
    apply BitVec.eq_of_getLsbD_eq
    intro i hi
    rw [BitVec.getLsbD_and, BitVec.getLsbD_ushiftRight]
    by_cases h0 : i = 0
    · subst h0; rw [Nat.add_zero]; cases r.getLsbD k <;> rfl
    · have h2 : (1#32).getLsbD i = false := by
        rw [BitVec.getLsbD_one]; simp [h0]
      rw [h2, Bool.and_false]
      cases r.getLsbD k with
      | true => simp [h2]
      | false => simp
  rw [h]
  cases r.getLsbD k <;> simp
/-- r's bits below k -/
theorem low_succ (r : BitVec 32) (k : Nat) (hk : k < 32) : r &&& BitVec.ofNat 32 (2 ^ (k + 1) - 1) = (r &&& BitVec.ofNat 32 (2 ^ k - 1)) ^^^ (if r.getLsbD k then 1#32 <<< k else 0#32) := by
  have mask : ∀ m i, m ≤ 32 → i < 32 → (BitVec.ofNat 32 (2 ^ m - 1)).getLsbD i = decide (i < m) := fun m i hm hi => by
    rw [BitVec.getLsbD_ofNat, Nat.testBit_two_pow_sub_one]; simp [hi]
  apply BitVec.eq_of_getLsbD_eq
  intro i hi
  rw [BitVec.getLsbD_and, BitVec.getLsbD_xor, BitVec.getLsbD_and, mask (k + 1) i (by omega) hi, mask k i (by omega) hi]
  have e1 : (if r.getLsbD k then 1#32 <<< k else 0#32).getLsbD i = (r.getLsbD k && decide (i = k)) := by
    cases hk' : r.getLsbD k with
    | false => simp
    | true =>
      simp only [if_true, Bool.true_and]
      rw [BitVec.getLsbD_shiftLeft, BitVec.getLsbD_one]
      by_cases e : i = k
      · subst e; simp [hi]
      · have e2 : ¬ (k ≤ i ∧ i - k = 0) := by omega
        by_cases e3 : i < k
        · simp [hi, e, e3]
        · have e4 : ¬ i - k = 0 := by omega
          simp [hi, e, e3, e4]
  rw [e1]
  by_cases c1 : i < k
  · have : ¬ i = k := by omega
    simp [c1, this, show i < k + 1 by omega]
  · by_cases c2 : i = k
    · subst c2; simp
    · simp [c1, c2, show ¬ i < k + 1 by omega]
theorem timesTo_lin (f : BitVec 32 → BitVec 32) (hx : ∀ a b, f (a ^^^ b) = f a ^^^ f b) (h0 : f 0#32 = 0#32) (r : BitVec 32) : ∀ k, k ≤ 32 → timesTo (fun i => f (1#32 <<< i)) r k = f (r &&& BitVec.ofNat 32 (2 ^ k - 1))
  | 0, _ => by simp [timesTo, h0]
  | k + 1, hk => by
    rw [timesTo, low_succ r k (by omega), hx, timesTo_lin f hx h0 r k (by omega)]
    by_cases h : r.getLsbD k = true
    · rw [if_pos ((bit_at r k).2 h), if_pos h]
    · rw [if_neg (fun h' => h ((bit_at r k).1 h')), if_neg h, h0]; simp
theorem times_all (f : BitVec 32 → BitVec 32) (hx : ∀ a b, f (a ^^^ b) = f a ^^^ f b) (h0 : f 0#32 = 0#32) (r : BitVec 32) : timesTo (fun i => f (1#32 <<< i)) r 32 = f r := by
  rw [timesTo_lin f hx h0 r 32 (by omega)]
  have : BitVec.ofNat 32 (2 ^ 32 - 1) = BitVec.allOnes 32 := by decide
  rw [this, BitVec.and_allOnes]
theorem timesTo_congr {f g : Nat → BitVec 32} (r : BitVec 32) : ∀ k, (∀ i, i < k → f i = g i) → timesTo f r k = timesTo g r k
  | 0, _ => rfl
  | k + 1, h => by rw [timesTo, timesTo, timesTo_congr r k (fun i hi => h i (by omega)), h k (by omega)]
/-- the grid of m bytes that are nought -/
def gridOf (m : Nat) : List (BitVec 32) := (List.range 32).map fun i => Zn m (1#32 <<< i)
theorem gridOf_len (m : Nat) : (gridOf m).length = 32 := by simp [gridOf]
theorem gridOf_get (m i : Nat) (h : i < 32) : (gridOf m).getD i 0#32 = Zn m (1#32 <<< i) := by simp [gridOf, List.getD, h]
theorem grid_times (m : Nat) (r : BitVec 32) : timesTo (fun i => (gridOf m).getD i 0#32) r 32 = Zn m r := by
  rw [timesTo_congr (g := fun i => Zn m (1#32 <<< i)) r 32 (fun i hi => gridOf_get m i hi)]
  exact times_all (Zn m) (Zn_xor m) (bitSteps_zero _) r

/-! ### A step back -/
def backBit (r : BitVec 32) : BitVec 32 := if ((r >>> 31).toNat : Int) = 1 then (r ^^^ 2197175160#32) <<< 1 ||| 1#32 else r <<< 1
def backBits : Nat → BitVec 32 → BitVec 32
  | 0, r => r
  | k + 1, r => backBit (backBits k r)
theorem top_at (r : BitVec 32) : ((r >>> 31).toNat : Int) = 1 ↔ r.getLsbD 31 = true := by
  have h : r >>> 31 = if r.getLsbD 31 then 1#32 else 0#32 := by
    apply BitVec.eq_of_getLsbD_eq
    intro i hi
    rw [BitVec.getLsbD_ushiftRight]
    by_cases h0 : i = 0
    · subst h0; rw [Nat.add_zero]; cases r.getLsbD 31 <;> rfl
    · have h2 : (1#32).getLsbD i = false := by
        rw [BitVec.getLsbD_one]; simp [h0]
      rw [BitVec.getLsbD_of_ge r (31 + i) (by omega)]
      cases r.getLsbD 31 with
      | true => simp [h2]
      | false => simp
  rw [h]
  cases r.getLsbD 31 <;> simp
theorem poly_top : (2197175160#32 : BitVec 32).getLsbD 31 = true := by decide
theorem step_back (r : BitVec 32) : bitStep (backBit r) = r := by
  unfold backBit
  by_cases h : r.getLsbD 31 = true
  · rw [if_pos ((top_at r).2 h), bit_cases]
    have e0 : ((r ^^^ 2197175160#32) <<< 1 ||| 1#32).getLsbD 0 = true := by simp
    rw [e0, if_pos rfl]
    apply BitVec.eq_of_getLsbD_eq
    intro i hi
    rw [BitVec.getLsbD_xor, BitVec.getLsbD_ushiftRight, BitVec.getLsbD_or, BitVec.getLsbD_shiftLeft, BitVec.getLsbD_one]
    by_cases c : i = 31
    · subst c
      simp [h, poly_top]
    · have c2 : 1 + i < 32 := by omega
      simp [c2, show 1 + i - 1 = i from by omega, hi]
  · rw [if_neg (fun h' => h ((top_at r).1 h')), bit_cases]
    have e0 : (r <<< 1).getLsbD 0 = false := by simp
    rw [e0]
    apply BitVec.eq_of_getLsbD_eq
    intro i hi
    rw [BitVec.getLsbD_xor, BitVec.getLsbD_ushiftRight, BitVec.getLsbD_shiftLeft]
    by_cases c : i = 31
    · subst c
      simp
      simpa using h
    · have c2 : 1 + i < 32 := by omega
      simp [c2, show 1 + i - 1 = i from by omega]
theorem bitSteps_succ' (k : Nat) (r : BitVec 32) : bitSteps (k + 1) r = bitSteps k (bitStep r) := by
  rw [show k + 1 = k + 1 from rfl, bitSteps_add]; rfl
theorem steps_back (k : Nat) (r : BitVec 32) : bitSteps k (backBits k r) = r := by
  induction k with
  | zero => rfl
  | succ k ih => rw [bitSteps_succ', backBits, step_back, ih]
/-- the step is one to one -/
theorem bitStep_inj {a b : BitVec 32} (h : bitStep a = bitStep b) : a = b := by
  have key : ∀ x, bitStep x = 0#32 → x = 0#32 := fun x hx => by
    rw [bit_cases] at hx
    have h0 : x.getLsbD 0 = false := by
      cases h0 : x.getLsbD 0 with
      | false => rfl
      | true =>
        rw [h0, if_pos rfl] at hx
        have := congrArg (fun z : BitVec 32 => z.getLsbD 31) hx
        simp [poly_top] at this
    rw [h0] at hx
    apply BitVec.eq_of_getLsbD_eq
    intro i hi
    by_cases c : i = 0
    · subst c; simpa using h0
    · have := congrArg (fun z : BitVec 32 => z.getLsbD (i - 1)) hx
      simp [show 1 + (i - 1) = i from by omega] at this
      simpa using this
  have h2 := key (a ^^^ b) (by rw [bitStep_xor, h]; simp)
  have h3 : a ^^^ b ^^^ b = 0#32 ^^^ b := by rw [h2]
  simpa [BitVec.xor_assoc] using h3
theorem bitSteps_inj (k : Nat) {a b : BitVec 32} (h : bitSteps k a = bitSteps k b) : a = b := by
  induction k with
  | zero => exact h
  | succ k ih => exact ih (bitStep_inj h)
theorem back_steps (k : Nat) (r : BitVec 32) : backBits k (bitSteps k r) = r := bitSteps_inj k (steps_back k _)
end Go.Sum
