/-
  Several texts, put together.
-/
import Derived.Test.YtehaoafnobnneaaGreatDoorHrdPP
import Derived.Test.YtehaoafnobnneaaGreatDoorSlEc
import Derived.Test.YtehaoafnobnneaaGreatDoorHrdA
import Derived.Test.YtehaoafnobnneaaGreatDoorProg
/-
  The reference's numbers and sums, in plain words. No program in sight.
-/
set_option linter.unusedVariables false
set_option linter.unusedSimpArgs false
namespace Go.Hrd
open Go Go.SL Go.Mou Go.Dsk Go.Sm
theorem half (r : BitVec 32) : (r.toNat : Int) / (2 : Int) = ((r >>> 1).toNat : Int) := by
  rw [BitVec.toNat_ushiftRight, Nat.shiftRight_eq_div_pow]; omega
theorem low_bit (r : BitVec 32) : (r.toNat : Int) % 2 = 1 ↔ r.getLsbD 0 = true := by
  rw [BitVec.getLsbD, Nat.testBit_zero]; simp; omega
theorem bit_cases (r : BitVec 32) : bitStep r = if r.getLsbD 0 = true then r >>> 1 ^^^ 2197175160#32 else r >>> 1 := by
  unfold bitStep
  have h : r &&& 1#32 = if r.getLsbD 0 = true then 1#32 else 0#32 := by
    apply BitVec.eq_of_toNat_eq
    rw [BitVec.toNat_and, BitVec.getLsbD, Nat.testBit_zero]
    rw [show (1#32 : BitVec 32).toNat = 1 from rfl, Nat.and_one_is_mod]
    have := Nat.mod_two_eq_zero_or_one r.toNat
    rcases this with h | h <;> simp [h]
  rw [h]
  split
  · rw [show (-(1#32) : BitVec 32) = BitVec.allOnes 32 by decide, BitVec.and_allOnes]
  · rw [show (-(0#32) : BitVec 32) = 0#32 by decide, BitVec.and_zero, BitVec.xor_zero]
theorem ref_odd (r : BitVec 32) (h : (r.toNat : Int) % 2 = 1) : r >>> 1 ^^^ 2197175160#32 = bitStep r := by rw [bit_cases, if_pos ((low_bit r).1 h)]
theorem ref_even (r : BitVec 32) (h : ¬ (r.toNat : Int) % 2 = 1) : r >>> 1 = bitStep r := by rw [bit_cases, if_neg (fun h' => h ((low_bit r).2 h'))]
theorem not_xor (r : BitVec 32) : r ^^^ 4294967295#32 = ~~~ r := by
  have : (4294967295#32 : BitVec 32) = BitVec.allOnes 32 := by decide
  rw [this, BitVec.xor_allOnes]
theorem set32 (c : UInt8) : (c.toNat : Int) = ((c.toBitVec.setWidth 32).toNat : Int) := by
  have := c.toNat_lt
  rw [BitVec.toNat_setWidth, Nat.mod_eq_of_lt (by show c.toNat < _; omega)]; rfl
theorem byteM (m : Nat) : IntKind.wrap .u8 ((m : Int) % 256) = ((UInt8.ofNat m).toNat : Int) := by
  rw [show ((m : Int) % 256) = ((m % 256 : Nat) : Int) by omega, wrap8, UInt8.toNat_ofNat', UInt8.toNat_ofNat']
  congr 1; omega
theorem byteN256 (m : Nat) : UInt8.ofNat (m % 256) = UInt8.ofNat m := by
  apply UInt8.toNat_inj.1; rw [UInt8.toNat_ofNat', UInt8.toNat_ofNat']; omega
theorem numB_more {n k j : Nat} (hk : k < (lowD n).length) (hj : j = (lowD n).length - 1 - k) : numB n k ++ [(lowD n).getD j default] = numB n (k + 1) := by
  rw [numB_next hk, ← lowD_get n _ (by omega), hj]
/-! ### A number read -/
def numR (bs : List UInt8) (k : Nat) : Nat × Int × Int := match numT (bs.drop k) with
  | .ok (n, r) => (n, (bs.length : Int) - (r.length : Int), 0)
  | .error e => (0, (k : Int), e)
section
variable {bs : List UInt8} {k : Nat}
theorem drop_at (h : k < bs.length) : bs.drop k = bs.getD k default :: bs.drop (k + 1) := by
  rw [List.drop_eq_getElem_cons h]; simp [List.getD, h]
theorem numR_end (h : bs.length ≤ k) : numR bs k = (0, (k : Int), 11) := by
  unfold numR; rw [List.drop_eq_nil_of_le h]; rfl
theorem numR_big (h : k < bs.length) (h8 : 8 < (bs.getD k default).toNat) : numR bs k = (0, (k : Int), 13) := by
  unfold numR; rw [drop_at h]; simp only [numT]; rw [if_pos h8]
theorem head_at : (bs.drop (k + 1)).head? = some 0 ↔ k + 1 < bs.length ∧ bs.getD (k + 1) default = 0 := by
  rw [List.head?_drop]
  by_cases h : k + 1 < bs.length
  · simp [List.getD, h]
  · simp [List.getElem?_eq_none (show bs.length ≤ k + 1 by omega), h]
theorem numR_zero (h : k < bs.length) (h8 : ¬ 8 < (bs.getD k default).toNat) (h0 : 0 < (bs.getD k default).toNat) (h1 : k + 1 < bs.length) (h2 : bs.getD (k + 1) default = 0) : numR bs k = (0, (k : Int), 13) := by
  unfold numR; rw [drop_at h]; simp only [numT]; rw [if_neg h8, if_pos ⟨h0, head_at.2 ⟨h1, h2⟩⟩]
theorem numR_short (h : k < bs.length) (h8 : ¬ 8 < (bs.getD k default).toNat) (h0 : ¬ (k + 1 < bs.length ∧ bs.getD (k + 1) default = 0)) (h1 : bs.length < k + 1 + (bs.getD k default).toNat) : numR bs k = (0, (k : Int), 11) := by
  unfold numR; rw [drop_at h]; simp only [numT]; rw [if_neg h8, if_neg (fun q => h0 (head_at.1 q.2)), if_pos (by rw [List.length_drop]; omega)]
theorem numR_ok (h : k < bs.length) (h8 : ¬ 8 < (bs.getD k default).toNat) (h0 : 0 < (bs.getD k default).toNat → bs.getD (k + 1) default ≠ 0) (h1 : k + 1 + (bs.getD k default).toNat ≤ bs.length) :
    numR bs k = (beN ((bs.drop (k + 1)).take (bs.getD k default).toNat), (k : Int) + 1 + ((bs.getD k default).toNat : Int), 0) := by
  unfold numR; rw [drop_at h]; simp only [numT]; rw [if_neg h8, if_neg (fun q => h0 q.1 (head_at.1 q.2).2), if_neg (by rw [List.length_drop]; omega)]
  simp only [List.length_drop]
  rw [show ((bs.length : Int) - ((bs.length - (k + 1) - (bs.getD k default).toNat : Nat) : Int)) = (k : Int) + 1 + ((bs.getD k default).toNat : Int) by omega]
theorem beN_more {i : Nat} (h : k + 1 + i < bs.length) : beN ((bs.drop (k + 1)).take (i + 1)) = 256 * beN ((bs.drop (k + 1)).take i) + (bs.getD (k + 1 + i) default).toNat := by
  rw [take_succ_getD _ _ (by rw [List.length_drop]; omega), beN_snoc]
  congr 2
  simp [List.getD, List.getElem?_drop]
theorem beN_le {i : Nat} (h : i ≤ 7) : 256 * beN ((bs.drop (k + 1)).take i) + 255 < 18446744073709551616 := by
  have h1 := beN_lt ((bs.drop (k + 1)).take i)
  have h2 : ((bs.drop (k + 1)).take i).length ≤ 7 := by rw [List.length_take]; omega
  have h3 : 256 ^ ((bs.drop (k + 1)).take i).length ≤ 256 ^ 7 := Nat.pow_le_pow_right (by decide) h2
  have h4 : (256 : Nat) ^ 7 = 72057594037927936 := by decide
  omega
end
theorem numR_err {bs : List UInt8} {k : Nat} (h : (numR bs k).2.2 ≠ 0) : (numR bs k).1 = 0 ∧ (numR bs k).2.1 = (k : Int) := by
  unfold numR at h ⊢
  split
  · rename_i h1; rw [h1] at h; exact absurd rfl h
  · exact ⟨rfl, rfl⟩
/-- so many numbers, one behind another: they, and the place behind them -/
def rdN (bs : List UInt8) (k : Nat) : Nat → Except Int (List Nat × Nat)
  | 0 => .ok ([], k)
  | i + 1 => match rdN bs k i with
    | .error e => .error e
    | .ok (L, a) => if (numR bs a).2.2 = 0 then .ok (L ++ [(numR bs a).1], (numR bs a).2.1.toNat) else .error (numR bs a).2.2
theorem rdN_up {bs : List UInt8} {k : Nat} {e : Int} {j : Nat} (h : rdN bs k j = .error e) : ∀ m, rdN bs k (j + m) = .error e
  | 0 => h
  | m + 1 => by show rdN bs k (j + m + 1) = _; simp only [rdN, rdN_up h m]
theorem rdN_err {bs : List UInt8} {k i n : Nat} {L : List Nat} {a : Nat} (h : rdN bs k i = .ok (L, a)) (hi : i < n) (he : (numR bs a).2.2 ≠ 0) : rdN bs k n = .error (numR bs a).2.2 := by
  have h1 : rdN bs k (i + 1) = .error (numR bs a).2.2 := by simp only [rdN, h]; rw [if_neg he]
  have := rdN_up h1 (n - (i + 1))
  rwa [show i + 1 + (n - (i + 1)) = n by omega] at this
theorem rdN_ok {bs : List UInt8} {k i : Nat} {L : List Nat} {a : Nat} (h : rdN bs k i = .ok (L, a)) (he : (numR bs a).2.2 = 0) : rdN bs k (i + 1) = .ok (L ++ [(numR bs a).1], (numR bs a).2.1.toNat) := by simp only [rdN, h]; rw [if_pos he]
theorem numT_le {bs r : List UInt8} {n : Nat} (h : numT bs = .ok (n, r)) : r.length ≤ bs.length := by
  cases bs with
  | nil => cases h
  | cons c q =>
    simp only [numT] at h
    split at h
    · cases h
    · split at h
      · cases h
      · split at h
        · cases h
        · cases h; simp only [List.length_drop, List.length_cons]; omega
theorem numR_bd {bs : List UInt8} {k : Nat} (hk : k ≤ bs.length) : 0 ≤ (numR bs k).2.1 ∧ (numR bs k).2.1 ≤ (bs.length : Int) := by
  unfold numR
  split
  · rename_i h; have := numT_le h; rw [List.length_drop] at this; simp only []; omega
  · simp only []; omega
def leafN (n : Nat) : Val1 := ⟨n, ⟨none, [], 0⟩, ⟨none, 0, 0⟩⟩
theorem ns_at : ∀ k, k < 3 → ([[110], [110], [110]] : List (List UInt8)).getD k default = [110] := by decide
/-! ### The shape [nnn] -/
theorem q_cuts_lohi {P : Program} {E : World} {ρ : Hp} {n : Fz} {σ : Slots} {Γ : List Asn} {ty T : TypeId} {x y z : Operand} {k k' : IntKind} {i j : Int} {bs : List UInt8} (hT : P.underlying T = some .string) (hx : evo σ x = some (strB bs)) (hy : evo σ y = some (.int k i)) (hz : evo σ z = some (.int k' j)) (h0 : 0 ≤ i) (h1 : i ≤ j) (h2 : j ≤ bs.length) :
    OpQ P E ρ n σ Γ (.slice T x (some y) (some z) none) ty (strB ((bs.take j.toNat).drop i.toNat)) := fun a w e s => by
  have hs : (⟨bs.toArray⟩ : ByteArray).size = bs.length := by simp [ByteArray.size]
  have hc := strB_cut bs i.toNat j.toNat
  have h3 : 0 ≤ j := by omega
  simp [exo, execOp, e.eval hx, e.eval hy, e.eval hz, Instr.sliceAt, Instr.slice, underlying, hT, Instr.sliceBounds, Instr.sliceBound, asIntOf, strB, hs, h0, h1, h2, h3, hc]
  intro h9
  exact absurd h9 (by omega)
def nnn : List UInt8 := [91, 110, 110, 110, 93]
theorem nnn_at : ∀ k, k < 4 → (nnn.getD (k + 1) default = 93 ↔ k = 3) ∧ (k < 3 → nnn.getD (k + 1) default = 110) := by decide
theorem nnn_piece : ∀ k, k < 3 → (nnn.take (k + 1 + 1)).drop (k + 1) = [110] := by decide
end Go.Hrd

/-
  Walked.
-/
set_option maxRecDepth 100000
set_option maxHeartbeats 4000000
set_option linter.unusedSimpArgs false
set_option linter.unusedVariables false
namespace Go.HrdR
open Go Go.SL Go.Proofs Go.Mou Go.Dsk Go.Hrd Go.Sm
attribute [local irreducible] Go.SL.Ent
theorem sz_5 : sizeIs Tryz.prog 5 = some 1 := by kernel_rfl
theorem sc_5 : isScalar Tryz.prog 5 = true := by kernel_rfl
theorem eo_5 : elemOk Tryz.prog 5 1 1 = true := by kernel_rfl

theorem rstep_spec (r : BitVec 32) (c : UInt8) (ρ : Hp) : Spec0 Tryz.prog 92 #[.int .u64 (r.toNat : Int), .int .u8 (c.toNat : Int)] ρ [] (fun v Γ' => v = .int .u64 ((stepB r c).toNat : Int) ∧ Γ' = []) := by
  refine spec_of (n := 24) (vs := [_, _]) (σ := [(0, _), (1, _)]) Tryz.func92 rfl rfl rfl rfl fun E Δ => ?_
  rw [List.nil_append]
  have hc8 := c.toNat_lt
  refine sr ?_
  refine e_as rfl ?_
  refine l_n ?_
  refine sr ?_
  refine e_mv rfl ?_
  refine e_mv rfl ?_
  refine e_q (q_conv rfl Tryz.underlying5 Tryz.underlying46 (wrap_u64 (by omega) (by omega))) ?_
  refine e_q (q64_xor32 (q := c.toBitVec.setWidth 32) rfl rfl rfl (set32 c)) ?_
  refine e_as rfl ?_
  refine l_n ?_
  refine c_seq ?_
  refine sr ?_
  refine e_as rfl ?_
  refine l_n ?_
  refine c_block ?_
  refine Tr.env (σ' := [(0, _), (4, _), (5, _)]) ev_ ?_
  refine t_loop (ι := Lp (Nat)) (fun x => x.d ≤ 8) (fun x => 8 - x.d) (fun x => [(0, .int .u64 ((bitSteps x.d (r ^^^ c.toBitVec.setWidth 32)).toNat : Int)), (4, .int .u64 0), (5, .int .i64 (x.d : Int))]) (fun x => Δ) (⟨0, none, 0, none, 0, none, 0⟩ : Lp _) (by decide) ?_ ?_ ?_
  · exact .c (.c (.c (.nil _)))
  · exact en_
  intro x hx
  have hlt := (bitSteps x.d (r ^^^ c.toBitVec.setWidth 32)).isLt
  refine c_seq ?_
  refine sr ?_
  refine e_mv rfl ?_
  refine e_q (q_lss rfl rfl) ?_
  refine l_n ?_
  refine c_cond rfl (fun h0 => ?_) (fun h0 => ?_)
  · try simp only [decide_eq_true_eq, decide_eq_false_iff_not] at h0
    refine c_skip ?_
    refine k_then_n ?_
    refine c_seq ?_
    refine c_block ?_
    refine sr ?_
    refine e_mv rfl ?_
    refine e_q (q_remp rfl rfl (by omega) (by omega)) ?_
    refine e_as rfl ?_
    refine l_n ?_
    refine sr ?_
    refine e_mv rfl ?_
    refine e_q (q_as (v := .int .u64 (((bitSteps x.d (r ^^^ c.toBitVec.setWidth 32)) >>> 1).toNat : Int)) (q_quou rfl rfl (by omega) (by omega) (by omega)) (congrArg (Value.int .u64) (half _))) ?_
    refine e_as rfl ?_
    refine l_n ?_
    refine sr ?_
    refine e_mv rfl ?_
    refine e_q (q_eql rfl rfl) ?_
    refine l_n ?_
    refine c_cond rfl (fun h1 => ?_) (fun h1 => ?_)
    · try simp only [decide_eq_true_eq, decide_eq_false_iff_not] at h1
      refine c_region ?_
      refine e_mv rfl ?_
      refine e_q (q64_xor32 (q := 2197175160#32) rfl rfl rfl rfl) ?_
      refine e_as rfl ?_
      refine l_nil ?_
      refine k_blk_n ?_
      refine k_then_n ?_
      refine c_region ?_
      refine e_mv rfl ?_
      refine e_q (q_add rfl rfl (by omega) (by omega)) ?_
      refine e_as rfl ?_
      refine l_n ?_
      exact t_nx (⟨x.d + 1, none, 0, none, 0, none, 0⟩ : Lp _) ⟨by (try simp only []); omega, by (try simp only []); omega⟩ (.cons rfl (inte (by rw [bitSteps, ← ref_odd _ h1])) (.c (.c (.nil _))))
    · try simp only [decide_eq_true_eq, decide_eq_false_iff_not] at h1
      refine c_skip ?_
      refine k_blk_n ?_
      refine k_then_n ?_
      refine c_region ?_
      refine e_mv rfl ?_
      refine e_q (q_add rfl rfl (by omega) (by omega)) ?_
      refine e_as rfl ?_
      refine l_n ?_
      exact t_nx (⟨x.d + 1, none, 0, none, 0, none, 0⟩ : Lp _) ⟨by (try simp only []); omega, by (try simp only []); omega⟩ (.cons rfl (inte (by rw [bitSteps, ← ref_even _ h1])) (.c (.c (.nil _))))
  · try simp only [decide_eq_true_eq, decide_eq_false_iff_not] at h0
    have hk : x.d = 8 := by omega
    rw [hk]
    refine c_exit ?_
    refine k_then_x ?_
    refine k_then_x ?_
    refine k_blk_x ?_
    refine k_then_n ?_
    refine sr ?_
    refine e_mv rfl ?_
    refine e_as rfl ?_
    refine l_n ?_
    refine c_ret ?_
    exact t_rt [] rfl (.tmp rfl .nil) rfl ⟨rfl, rfl, rfl⟩ (by (repeat refine Ent.skip ?_); exact Ent.refl _)

theorem rof_spec (bs_a : Option Addr) (bs_n bs_c : Nat) (bs : List UInt8) (hbs_n : bs.length = bs_n) (ρ : Hp) (hro : Ro ρ 1 bs_a bs_n bs_c (bs.flatMap encB)) : Spec0 Tryz.prog 68 #[.slice bs_a bs_n bs_c] ρ [] (fun v Γ' => v = .int .u32 ((sumB bs).toNat : Int) ∧ Γ' = []) := by
  refine spec_of (n := 20) (vs := [_]) (σ := [(0, _)]) Tryz.func68 rfl rfl rfl rfl fun E Δ => ?_
  rw [List.nil_append]
  refine sr ?_
  refine e_as rfl ?_
  refine l_n ?_
  refine sr ?_
  refine e_as rfl ?_
  refine l_n ?_
  refine c_seq ?_
  refine sr ?_
  refine e_as rfl ?_
  refine l_n ?_
  refine c_block ?_
  refine Tr.env (σ' := [(0, _), (2, _), (3, _), (4, _)]) ev_ ?_
  refine t_loop (ι := Lp (Nat)) (fun x => x.d ≤ bs_n) (fun x => bs_n - x.d) (fun x => [(0, .slice bs_a bs_n bs_c), (2, .int .u32 0), (3, .int .u64 ((crcR 4294967295#32 (bs.take x.d)).toNat : Int)), (4, .int .i64 (x.d : Int))]) (fun x => Δ) (⟨0, none, 0, none, 0, none, 0⟩ : Lp _) (Nat.zero_le _) ?_ ?_ ?_
  · exact .c (.c (.c (.c (.nil _))))
  · exact en_
  intro x hx
  have hbm9 : bs_c ≤ 9223372036854775807 := hro.2.2.1
  have hbm8 := hro.2.1
  refine c_seq ?_
  refine sr ?_
  refine e_mv rfl ?_
  refine e_mv rfl ?_
  refine e_q (q_len Tryz.underlying38 rfl) ?_
  refine e_q (q_lss rfl rfl) ?_
  refine l_n ?_
  refine c_cond rfl (fun h0 => ?_) (fun h0 => ?_)
  · try simp only [decide_eq_true_eq, decide_eq_false_iff_not] at h0
    refine c_skip ?_
    refine k_then_n ?_
    refine c_seq ?_
    refine c_block ?_
    refine c_region ?_
    refine e_mv rfl ?_
    refine e_mv rfl ?_
    refine e_mv rfl ?_
    refine e_q (q_indexe x.d Tryz.underlying38 sz_5 rfl rfl (by first | assumption | exact rd_ro (by assumption) | exact rd_row pk_) (by decide) rfl (by first | assumption | omega | (simp only [List.length_cons, List.length_nil]; omega))) ?_
    refine e_q (q_loade (enc := encB) (xs := bs) (j := x.d) (off := 0) sc_5 rfl (by first | assumption | exact rd_ro (by assumption) | exact rd_row pk_) (fun _ => rfl) (by first | assumption | omega | (simp only [List.length_cons, List.length_nil]; omega)) (by decide) rfl) ?_
    refine l_step (s_fnq rfl wn Tryz.func92 rfl (by kernel_rfl) rfl (fun ρ' hL => rstep_spec (crcR 4294967295#32 (bs.take x.d)) (bs.getD x.d default) ρ') ?_)
    refine e_as rfl ?_
    refine l_nil ?_
    refine k_blk_n ?_
    refine k_then_n ?_
    refine c_region ?_
    refine e_mv rfl ?_
    refine e_q (q_add rfl rfl (by omega) (by omega)) ?_
    refine e_as rfl ?_
    refine l_n ?_
    exact t_nx (⟨x.d + 1, none, 0, none, 0, none, 0⟩ : Lp _) ⟨by (try simp only []); omega, by (try simp only []); omega⟩ (.c (.c (.cons rfl (inte (by rw [crcR_next (by omega)])) (.c (.nil _)))))
  · try simp only [decide_eq_true_eq, decide_eq_false_iff_not] at h0
    have hk : x.d = bs.length := by omega
    rw [hk, List.take_length]
    refine c_exit ?_
    refine k_then_x ?_
    refine k_then_x ?_
    refine k_blk_x ?_
    refine k_then_n ?_
    refine sr ?_
    refine e_mv rfl ?_
    refine e_q (q64_xor32 (q := 4294967295#32) rfl rfl rfl rfl) ?_
    refine e_q (q_conv rfl Tryz.underlying46 Tryz.underlying98 (w32 _)) ?_
    refine e_as rfl ?_
    refine l_n ?_
    refine c_ret ?_
    exact t_rt [] rfl (.tmp rfl .nil) rfl ⟨rfl, inte (by rw [not_xor]; rfl), rfl⟩ (by (repeat refine Ent.skip ?_); exact Ent.refl _)

theorem rnumber_spec (n : Nat) (ρ : Hp) (hn : n < 18446744073709551616) : Spec0 Tryz.prog 67 #[.int .u64 (n : Int)] ρ [] (fun v Γ' => ∃ a c, v = .slice a (numF n).length c ∧ Γ' = [.row 5 1 a (numF n).length c ((numF n).flatMap encB)]) := by
  refine spec_of (n := 35) (vs := [_]) (σ := [(0, _)]) Tryz.func67 rfl rfl rfl rfl fun E Δ => ?_
  rw [List.nil_append]
  have h8 := lowD_le8 hn
  refine sr ?_
  refine e_as rfl ?_
  refine l_n ?_
  refine sr ?_
  refine e_as rfl ?_
  refine l_n ?_
  refine c_seq ?_
  refine c_block ?_
  refine Tr.ent (Ent.nilrow 5 1 _) ?_
  refine Tr.env (σ' := [(0, _), (2, _), (3, _)]) ev_ ?_
  refine t_loop (ι := Lp (Nat × List UInt8)) (fun x => x.d.1 < 18446744073709551616 ∧ lowD n = x.d.2 ++ lowD x.d.1) (fun x => x.d.1) (fun x => [(0, .int .u64 (x.d.1 : Int)), (2, .slice none 0 0), (3, .slice x.a1 x.d.2.length x.c1)]) (fun x => .row 5 1 x.a1 x.d.2.length x.c1 (x.d.2.flatMap encB) :: Δ) (⟨(n, []), none, 0, none, 0, none, 0⟩ : Lp _) ⟨hn, rfl⟩ ?_ ?_ ?_
  · exact .c (.c (.c (.nil _)))
  · exact en_
  intro x hx
  obtain ⟨hx1, hx2⟩ := hx
  have hll : x.d.2.length ≤ 8 := by have h9 := congrArg List.length hx2; rw [List.length_append] at h9; omega
  refine c_seq ?_
  refine sr ?_
  refine e_mv rfl ?_
  refine e_q (q_gtr rfl rfl) ?_
  refine l_n ?_
  refine c_cond rfl (fun h0 => ?_) (fun h0 => ?_)
  · try simp only [decide_eq_true_eq, decide_eq_false_iff_not] at h0
    have hd0 := lowD_pos (n := x.d.1) (by omega)
    refine c_skip ?_
    refine k_then_n ?_
    refine c_block ?_
    refine sr ?_
    refine e_mv rfl ?_
    refine e_mv rfl ?_
    refine e_q (q_remp rfl rfl (by omega) (by omega)) ?_
    refine e_q (q_as (v := .int .u8 ((UInt8.ofNat x.d.1).toNat : Int)) (q_convw rfl Tryz.underlying46 Tryz.underlying5) (congrArg (Value.int .u8) (byteM _))) ?_
    refine e_s (s_buildSlice (cs := ([(UInt8.ofNat x.d.1)] : List UInt8).flatMap encB) Tryz.underlying38 eo_5 rfl rfl rfl rfl (by decide) (by decide)) ?_
    rintro _ _ ⟨b12, rfl, rfl⟩
    refine e_s (s_appendn (enc := encB) (xs := (x.d.2 : List UInt8)) (ys := ([(UInt8.ofNat x.d.1)] : List UInt8)) (Γ' := fun a' cap' => _) Tryz.underlying38 eo_5 (by decide) rfl rfl (rd_row pk_) (oneB _) (by first | omega | (simp only [List.length_append, List.length_cons, List.length_nil] at *; omega)) (by first | omega | (simp only [List.length_append, List.length_cons, List.length_nil] at *; omega)) (fun _ _ => pk_)) ?_
    rintro _ _ ⟨a13, c13, rfl, rfl⟩
    refine e_as rfl ?_
    refine l_n ?_
    refine c_region ?_
    refine e_mv rfl ?_
    refine e_q (q_as (v := .int .u64 ((x.d.1 / 256 : Nat) : Int)) (q_quou rfl rfl (by omega) (by omega) (by omega)) (inte (by omega))) ?_
    refine e_as rfl ?_
    refine l_nil ?_
    refine k_blk_n ?_
    refine k_then_n ?_
    rw [show x.d.2.length + 1 = (x.d.2 ++ [UInt8.ofNat x.d.1]).length from by simp]
    exact t_nx (⟨(x.d.1 / 256, x.d.2 ++ [UInt8.ofNat x.d.1]), a13, c13, none, 0, none, 0⟩ : Lp _) ⟨⟨by (try simp only []); omega, by simp only []; rw [hx2, hd0, List.append_assoc, byteN256]; rfl⟩, by (try simp only []); omega⟩ (.c (.c (.c (.nil _))))
  · try simp only [decide_eq_true_eq, decide_eq_false_iff_not] at h0
    have hm0 : x.d.1 = 0 := by omega
    have hlo : x.d.2 = lowD n := by rw [hx2, hm0, lowD_zero, List.append_nil]
    rw [hlo]
    refine c_exit ?_
    refine k_then_x ?_
    refine k_then_x ?_
    refine k_blk_x ?_
    refine k_then_n ?_
    refine sr ?_
    refine e_mv rfl ?_
    refine e_q (q_len Tryz.underlying38 rfl) ?_
    refine e_q (q_as (v := .int .u8 ((UInt8.ofNat (lowD n).length).toNat : Int)) (q_convw rfl Tryz.underlying3 Tryz.underlying5) (congrArg (Value.int .u8) (wrap8 _))) ?_
    refine e_s (s_buildSlice (cs := ([(UInt8.ofNat (lowD n).length)] : List UInt8).flatMap encB) Tryz.underlying38 eo_5 rfl rfl rfl rfl (by decide) (by decide)) ?_
    rintro _ _ ⟨b19, rfl, rfl⟩
    refine e_as rfl ?_
    refine l_n ?_
    refine c_seq ?_
    refine sr ?_
    refine e_mv rfl ?_
    refine e_q (q_len Tryz.underlying38 rfl) ?_
    refine e_q (q_sub rfl rfl (by omega) (by omega)) ?_
    refine e_as rfl ?_
    refine l_n ?_
    refine c_block ?_
    refine Tr.env (σ' := [(2, _), (3, _), (4, _), (5, _)]) ev_ ?_
    refine t_loop (ι := Lp (Nat × Nat)) (fun y => y.d.1 + y.d.2 = (lowD n).length) (fun y => y.d.2) (fun y => [(2, .slice none 0 0), (3, .slice x.a1 ((lowD n).length) x.c1), (4, .slice y.a1 ((numB n y.d.1).length) y.c1), (5, .int .i64 ((y.d.2 : Int) - 1))]) (fun y => .row 5 1 y.a1 ((numB n y.d.1).length) y.c1 ((numB n y.d.1).flatMap encB) :: .row 5 1 x.a1 ((lowD n).length) x.c1 ((lowD n).flatMap encB) :: Δ) (⟨(0, (lowD n).length), (some ⟨b19, 0, none⟩), 1, none, 0, none, 0⟩ : Lp _) (by simp) ?_ ?_ ?_
    · exact .c (.c (.c (.c (.nil _))))
    · exact en_
    intro y hy
    have hnl := numB_len n y.d.1 (by omega)
    refine c_seq ?_
    refine sr ?_
    refine e_mv rfl ?_
    refine e_q (q_geq rfl rfl) ?_
    refine l_n ?_
    refine c_cond rfl (fun h1 => ?_) (fun h1 => ?_)
    · try simp only [decide_eq_true_eq, decide_eq_false_iff_not] at h1
      refine c_skip ?_
      refine k_then_n ?_
      refine c_seq ?_
      refine c_block ?_
      refine c_region ?_
      refine e_mv rfl ?_
      refine e_mv rfl ?_
      refine e_mv rfl ?_
      refine e_q (q_indexe ((((y.d.2 : Int) - 1)).toNat) Tryz.underlying38 sz_5 rfl rfl (rd_row pk_) (by decide) (by omega) (by first | assumption | omega | (simp only [List.length_cons, List.length_nil]; omega))) ?_
      refine e_q (q_loade (enc := encB) (xs := (lowD n)) (j := (((y.d.2 : Int) - 1)).toNat) (off := 0) sc_5 rfl (rd_row pk_) (fun _ => rfl) (by first | assumption | omega | (simp only [List.length_cons, List.length_nil]; omega)) (by decide) rfl) ?_
      refine e_s (s_buildSlice (cs := ([((lowD n).getD ((((y.d.2 : Int) - 1)).toNat) default)] : List UInt8).flatMap encB) Tryz.underlying38 eo_5 rfl rfl rfl rfl (by decide) (by decide)) ?_
      rintro _ _ ⟨b32, rfl, rfl⟩
      refine e_s (s_appendn (enc := encB) (xs := ((numB n y.d.1) : List UInt8)) (ys := ([((lowD n).getD ((((y.d.2 : Int) - 1)).toNat) default)] : List UInt8)) (Γ' := fun a' cap' => _) Tryz.underlying38 eo_5 (by decide) rfl rfl (rd_row pk_) (oneB _) (by first | omega | (simp only [List.length_append, List.length_cons, List.length_nil] at *; omega)) (by first | omega | (simp only [List.length_append, List.length_cons, List.length_nil] at *; omega)) (fun _ _ => pk_)) ?_
      rintro _ _ ⟨a33, c33, rfl, rfl⟩
      refine e_as rfl ?_
      refine l_nil ?_
      refine k_blk_n ?_
      refine k_then_n ?_
      refine c_region ?_
      refine e_mv rfl ?_
      refine e_q (q_sub rfl rfl (by omega) (by omega)) ?_
      refine e_as rfl ?_
      refine l_n ?_
      rw [show (numB n y.d.1).length + 1 = (numB n y.d.1 ++ [(lowD n).getD (((y.d.2 : Int) - 1)).toNat default]).length from by simp]
      rw [numB_more (n := n) (k := y.d.1) (j := (((y.d.2 : Int) - 1)).toNat) (by omega) (by omega)]
      exact t_nx (⟨(y.d.1 + 1, y.d.2 - 1), a33, c33, none, 0, none, 0⟩ : Lp _) ⟨by (try simp only []); omega, by (try simp only []); omega⟩ (.c (.c (.c (.cons rfl (inte (by (try simp only []); omega)) (.nil _)))))
    · try simp only [decide_eq_true_eq, decide_eq_false_iff_not] at h1
      have hk2 : y.d.1 = (lowD n).length := by omega
      rw [hk2, numB_all]
      refine c_exit ?_
      refine k_then_x ?_
      refine k_then_x ?_
      refine k_blk_x ?_
      refine k_then_n ?_
      refine sr ?_
      refine e_mv rfl ?_
      refine e_as rfl ?_
      refine l_n ?_
      refine c_ret ?_
      exact t_rt [.row 5 1 y.a1 (numF n).length y.c1 ((numF n).flatMap encB)] rfl (.tmp rfl .nil) rfl ⟨rfl, y.a1, y.c1, rfl, rfl⟩
end Go.HrdR

/-
  Walked.
-/
set_option maxRecDepth 100000
set_option maxHeartbeats 4000000
set_option linter.unusedSimpArgs false
set_option linter.unusedVariables false
namespace Go.HrdR
open Go Go.SL Go.Proofs Go.Mou Go.Dsk Go.Hrd Go.Sm
attribute [local irreducible] Go.SL.Ent


theorem rnum_spec (bs_a : Option Addr) (bs_n bs_c : Nat) (bs : List UInt8) (hbs_n : bs.length = bs_n) (at_ : Nat) (ρ : Hp) (hro : Ro ρ 1 bs_a bs_n bs_c (bs.flatMap encB)) (hl : bs.length ≤ 1000000000000) (hat : at_ ≤ bs.length) : Spec0 Tryz.prog 100 #[.slice bs_a bs_n bs_c, .int .i64 (at_ : Int)] ρ [] (fun v Γ' => v = .tuple #[.int .u64 (((numR bs at_).1) : Int), .int .i64 ((numR bs at_).2.1), .int .i64 ((numR bs at_).2.2)] ∧ Γ' = []) := by
  refine spec_of (n := 63) (vs := [_, _]) (σ := [(0, _), (1, _)]) Tryz.func100 rfl rfl rfl rfl fun E Δ => ?_
  rw [List.nil_append]
  have hC8 := (bs.getD at_ default).toNat_lt
  refine sr ?_
  refine e_as rfl ?_
  refine e_as rfl ?_
  refine e_as rfl ?_
  refine l_n ?_
  refine c_seq ?_
  refine sr ?_
  refine e_mv rfl ?_
  refine e_mv rfl ?_
  refine e_q (q_len Tryz.underlying38 rfl) ?_
  refine e_q (q_geq rfl rfl) ?_
  refine l_n ?_
  refine c_cond rfl (fun h0 => ?_) (fun h0 => ?_)
  · try simp only [decide_eq_true_eq, decide_eq_false_iff_not] at h0
    refine sr ?_
    refine e_mv rfl ?_
    refine e_as rfl ?_
    refine e_as rfl ?_
    refine e_as rfl ?_
    refine l_n ?_
    refine c_ret ?_
    refine k_then_r ?_
    have hr : (numR bs at_) = (0, (at_ : Int), 11) := numR_end (by omega)
    rw [hr]
    exact t_rt [] rfl (.tmp rfl (.tmp rfl (.tmp rfl .nil))) rfl ⟨rfl, rfl, rfl⟩ (by (repeat refine Ent.skip ?_); exact Ent.refl _)
  · try simp only [decide_eq_true_eq, decide_eq_false_iff_not] at h0
    refine c_skip ?_
    refine k_then_n ?_
    refine sr ?_
    refine e_mv rfl ?_
    refine e_mv rfl ?_
    refine e_q (q_indexe at_ Tryz.underlying38 sz_5 rfl rfl (by first | assumption | exact rd_ro (by assumption) | exact rd_row pk_) (by decide) rfl (by first | assumption | omega | (simp only [List.length_cons, List.length_nil]; omega))) ?_
    refine e_q (q_loade (enc := encB) (xs := bs) (j := at_) (off := 0) sc_5 rfl (by first | assumption | exact rd_ro (by assumption) | exact rd_row pk_) (fun _ => rfl) (by first | assumption | omega | (simp only [List.length_cons, List.length_nil]; omega)) (by decide) rfl) ?_
    refine e_q (q_conv rfl Tryz.underlying5 Tryz.underlying3 (by first | assumption | exact wrap_i64 (by omega) (by omega))) ?_
    refine e_as rfl ?_
    refine l_n ?_
    refine c_seq ?_
    refine sr ?_
    refine e_mv rfl ?_
    refine e_q (q_gtr rfl rfl) ?_
    refine l_n ?_
    refine c_cond rfl (fun h1 => ?_) (fun h1 => ?_)
    · try simp only [decide_eq_true_eq, decide_eq_false_iff_not] at h1
      refine sr ?_
      refine e_mv rfl ?_
      refine e_as rfl ?_
      refine e_as rfl ?_
      refine e_as rfl ?_
      refine l_n ?_
      refine c_ret ?_
      refine k_then_r ?_
      have hr : (numR bs at_) = (0, (at_ : Int), 13) := numR_big (by omega) (by omega)
      rw [hr]
      exact t_rt [] rfl (.tmp rfl (.tmp rfl (.tmp rfl .nil))) rfl ⟨rfl, rfl, rfl⟩ (by (repeat refine Ent.skip ?_); exact Ent.refl _)
    · try simp only [decide_eq_true_eq, decide_eq_false_iff_not] at h1
      refine c_skip ?_
      refine k_then_n ?_
      refine sr ?_
      refine e_as rfl ?_
      refine l_n ?_
      refine c_seq ?_
      refine sr ?_
      refine e_as rfl ?_
      refine l_n ?_
      refine c_block ?_
      refine Tr.env (σ' := [(0, _), (1, _), (7, _), (8, _), (9, _)]) ev_ ?_
      refine t_loop (ι := Lp (Nat)) (fun x => x.d ≤ (bs.getD at_ default).toNat ∧ at_ + 1 + x.d ≤ bs.length ∧ (0 < x.d → bs.getD (at_ + 1) default ≠ 0)) (fun x => (bs.getD at_ default).toNat - x.d) (fun x => [(0, .slice bs_a bs_n bs_c), (1, .int .i64 (at_ : Int)), (7, .int .i64 ((bs.getD at_ default).toNat : Int)), (8, .int .u64 (((beN ((bs.drop (at_ + 1)).take x.d)) : Nat) : Int)), (9, .int .i64 (x.d : Int))]) (fun x => Δ) (⟨0, none, 0, none, 0, none, 0⟩ : Lp _) ⟨Nat.zero_le _, by (try simp only []); omega, fun h => absurd h (Nat.lt_irrefl 0)⟩ ?_ ?_ ?_
      · exact .c (.c (.c (.c (.c (.nil _)))))
      · exact en_
      intro x hx
      obtain ⟨hx1, hx2, hx3⟩ := hx
      refine c_seq ?_
      refine sr ?_
      refine e_mv rfl ?_
      refine e_mv rfl ?_
      refine e_q (q_lss rfl rfl) ?_
      refine l_n ?_
      refine c_cond rfl (fun h2 => ?_) (fun h2 => ?_)
      · try simp only [decide_eq_true_eq, decide_eq_false_iff_not] at h2
        have hbl := beN_le (bs := bs) (k := at_) (i := x.d) (by omega)
        have hb8 := (bs.getD (((((at_ : Int) + 1) + (x.d : Int))).toNat) default).toNat_lt
        have htn : ((((at_ : Int) + 1) + (x.d : Int))).toNat = at_ + 1 + x.d := by omega
        have ht1 : (((at_ : Int) + 1)).toNat = at_ + 1 := by omega
        refine c_skip ?_
        refine k_then_n ?_
        refine c_seq ?_
        refine c_block ?_
        refine c_seq ?_
        refine sr ?_
        refine e_mv rfl ?_
        refine e_q (q_add rfl rfl (by omega) (by omega)) ?_
        refine e_mv rfl ?_
        refine e_q (q_add rfl rfl (by omega) (by omega)) ?_
        refine e_mv rfl ?_
        refine e_q (q_len Tryz.underlying38 rfl) ?_
        refine e_q (q_geq rfl rfl) ?_
        refine l_n ?_
        refine c_cond rfl (fun h3 => ?_) (fun h3 => ?_)
        · try simp only [decide_eq_true_eq, decide_eq_false_iff_not] at h3
          refine sr ?_
          refine e_mv rfl ?_
          refine e_as rfl ?_
          refine e_as rfl ?_
          refine e_as rfl ?_
          refine l_n ?_
          refine c_ret ?_
          refine k_then_r ?_
          refine k_blk_r ?_
          refine k_then_r ?_
          refine k_then_r ?_
          refine k_blk_r ?_
          refine k_then_r ?_
          have hr : (numR bs at_) = (0, (at_ : Int), 11) := numR_short (by omega) (by omega) (fun q => if h9 : 0 < x.d then hx3 h9 q.2 else by omega) (by omega)
          rw [hr]
          exact t_rt [] rfl (.tmp rfl (.tmp rfl (.tmp rfl .nil))) rfl ⟨rfl, rfl, rfl⟩ (by (repeat refine Ent.skip ?_); exact Ent.refl _)
        · try simp only [decide_eq_true_eq, decide_eq_false_iff_not] at h3
          refine c_skip ?_
          refine k_then_n ?_
          refine c_seq ?_
          refine sr ?_
          refine e_mv rfl ?_
          refine e_q (q_eql rfl rfl) ?_
          refine e_mv rfl ?_
          refine l_step (s_qg rfl (ask_t rfl rfl) (b := (decide ((x.d : Int) = 0))) (fun hb => q_move rfl) ?_)
          refine l_step (s_qg rfl (ask_t rfl rfl) (b := (decide ((x.d : Int) = 0))) (fun hb => q_move rfl) ?_)
          refine l_step (s_qg rfl (ask_t rfl rfl) (b := (decide ((x.d : Int) = 0))) (fun hb => OpQ.env (.cons rfl (gd_t hb) (.nil _) : EnvLe [(40, .int .i64 (at_ : Int))] _) (q_add rfl rfl (by first | omega | (have hb2 := hb; (try simp only [Bool.and_eq_true, Bool.or_eq_true, Bool.not_eq_true', Bool.and_eq_false_iff, Bool.or_eq_false_iff, Bool.not_eq_false', decide_eq_true_eq, decide_eq_false_iff_not, Bool.not_eq_eq_eq_not, Bool.not_true, Bool.not_false, Bool.not_eq_true, Bool.not_eq_false, beq_iff_eq, bne_iff_ne, ne_eq, Decidable.not_not] at hb2); omega)) (by first | omega | (have hb2 := hb; (try simp only [Bool.and_eq_true, Bool.or_eq_true, Bool.not_eq_true', Bool.and_eq_false_iff, Bool.or_eq_false_iff, Bool.not_eq_false', decide_eq_true_eq, decide_eq_false_iff_not, Bool.not_eq_eq_eq_not, Bool.not_true, Bool.not_false, Bool.not_eq_true, Bool.not_eq_false, beq_iff_eq, bne_iff_ne, ne_eq, Decidable.not_not] at hb2); omega)))) ?_)
          refine l_step (s_qg rfl (ask_t rfl rfl) (b := (decide ((x.d : Int) = 0))) (fun hb => OpQ.env (.cons rfl (gd_t hb) (.cons rfl (gd_t hb) (.nil _)) : EnvLe [(39, .slice bs_a bs_n bs_c), (41, .int .i64 ((at_ : Int) + 1))] _) (q_indexe ((((at_ : Int) + 1)).toNat) Tryz.underlying38 sz_5 rfl rfl (by first | assumption | exact rd_ro (by assumption) | exact rd_row pk_) (by decide) (by first | omega | (have hb2 := hb; (try simp only [Bool.and_eq_true, Bool.or_eq_true, Bool.not_eq_true', Bool.and_eq_false_iff, Bool.or_eq_false_iff, Bool.not_eq_false', decide_eq_true_eq, decide_eq_false_iff_not, Bool.not_eq_eq_eq_not, Bool.not_true, Bool.not_false, Bool.not_eq_true, Bool.not_eq_false, beq_iff_eq, bne_iff_ne, ne_eq, Decidable.not_not] at hb2); omega)) (by first | assumption | omega | (have hb2 := hb; (try simp only [Bool.and_eq_true, Bool.or_eq_true, Bool.not_eq_true', Bool.and_eq_false_iff, Bool.or_eq_false_iff, Bool.not_eq_false', decide_eq_true_eq, decide_eq_false_iff_not, Bool.not_eq_eq_eq_not, Bool.not_true, Bool.not_false, Bool.not_eq_true, Bool.not_eq_false, beq_iff_eq, bne_iff_ne, ne_eq, Decidable.not_not] at hb2); omega) | (simp only [List.length_cons, List.length_nil]; omega)))) ?_)
          refine l_step (s_qg rfl (ask_t rfl rfl) (b := (decide ((x.d : Int) = 0))) (fun hb => OpQ.env (.cons rfl (gd_t hb) (.nil _) : EnvLe [(42, pe bs_a ((((at_ : Int) + 1)).toNat) 1 0)] _) (q_loade (enc := encB) (xs := bs) (j := (((at_ : Int) + 1)).toNat) (off := 0) sc_5 rfl (by first | assumption | exact rd_ro (by assumption) | exact rd_row pk_) (fun _ => rfl) (by first | assumption | omega | (have hb2 := hb; (try simp only [Bool.and_eq_true, Bool.or_eq_true, Bool.not_eq_true', Bool.and_eq_false_iff, Bool.or_eq_false_iff, Bool.not_eq_false', decide_eq_true_eq, decide_eq_false_iff_not, Bool.not_eq_eq_eq_not, Bool.not_true, Bool.not_false, Bool.not_eq_true, Bool.not_eq_false, beq_iff_eq, bne_iff_ne, ne_eq, Decidable.not_not] at hb2); omega) | (simp only [List.length_cons, List.length_nil]; omega)) (by decide) rfl)) ?_)
          refine l_step (s_qg rfl (ask_t rfl rfl) (b := (decide ((x.d : Int) = 0))) (fun hb => OpQ.env (.cons rfl (gd_t hb) (.nil _) : EnvLe [(43, .int .u8 ((bs.getD ((((at_ : Int) + 1)).toNat) default).toNat : Int))] _) (q_eql rfl rfl)) ?_)
          refine e_q (q_pick_and rfl rfl rfl (fun h => h)) ?_
          refine l_n ?_
          refine c_cond rfl (fun h4 => ?_) (fun h4 => ?_)
          · try simp only [decide_eq_true_eq, decide_eq_false_iff_not, Bool.and_eq_true, Bool.and_eq_false_iff] at h4
            have hz9 : bs.getD (at_ + 1) default = 0 := by have h9 := h4.2; rw [ht1] at h9; exact UInt8.toNat_inj.1 (by show _ = 0; omega)
            refine sr ?_
            refine e_mv rfl ?_
            refine e_as rfl ?_
            refine e_as rfl ?_
            refine e_as rfl ?_
            refine l_n ?_
            refine c_ret ?_
            refine k_then_r ?_
            refine k_blk_r ?_
            refine k_then_r ?_
            refine k_then_r ?_
            refine k_blk_r ?_
            refine k_then_r ?_
            have hr : (numR bs at_) = (0, (at_ : Int), 13) := numR_zero (by omega) (by omega) (by omega) (by omega) hz9
            rw [hr]
            exact t_rt [] rfl (.tmp rfl (.tmp rfl (.tmp rfl .nil))) rfl ⟨rfl, rfl, rfl⟩ (by (repeat refine Ent.skip ?_); exact Ent.refl _)
          · try simp only [decide_eq_true_eq, decide_eq_false_iff_not, Bool.and_eq_true, Bool.and_eq_false_iff] at h4
            have hnz : bs.getD (at_ + 1) default ≠ 0 := fun e => by rcases h4 with q | q; exact hx3 (by omega) e; rw [ht1, e] at q; exact q rfl
            refine c_skip ?_
            refine k_then_n ?_
            refine c_region ?_
            refine e_mv rfl ?_
            refine e_q (q_as (v := .int .u64 ((256 * (beN ((bs.drop (at_ + 1)).take x.d)) : Nat) : Int)) (q_mulw rfl rfl) (inte (by rw [wrap_u64 (by omega) (by omega)]; omega))) ?_
            refine e_mv rfl ?_
            refine e_mv rfl ?_
            refine e_q (q_add rfl rfl (by omega) (by omega)) ?_
            refine e_mv rfl ?_
            refine e_q (q_add rfl rfl (by omega) (by omega)) ?_
            refine e_q (q_indexe (((((at_ : Int) + 1) + (x.d : Int))).toNat) Tryz.underlying38 sz_5 rfl rfl (by first | assumption | exact rd_ro (by assumption) | exact rd_row pk_) (by decide) (by omega) (by first | assumption | omega | (simp only [List.length_cons, List.length_nil]; omega))) ?_
            refine e_q (q_loade (enc := encB) (xs := bs) (j := ((((at_ : Int) + 1) + (x.d : Int))).toNat) (off := 0) sc_5 rfl (by first | assumption | exact rd_ro (by assumption) | exact rd_row pk_) (fun _ => rfl) (by first | assumption | omega | (simp only [List.length_cons, List.length_nil]; omega)) (by decide) rfl) ?_
            refine e_q (q_conv rfl Tryz.underlying5 Tryz.underlying46 (by first | assumption | exact wrap_u64 (by omega) (by omega))) ?_
            refine e_q (q_as (v := .int .u64 ((256 * (beN ((bs.drop (at_ + 1)).take x.d)) + (bs.getD (((((at_ : Int) + 1) + (x.d : Int))).toNat) default).toNat : Nat) : Int)) (q_addw rfl rfl) (inte (by rw [wrap_u64 (by omega) (by omega)]; omega))) ?_
            refine e_as rfl ?_
            refine l_nil ?_
            refine k_blk_n ?_
            refine k_then_n ?_
            refine c_region ?_
            refine e_mv rfl ?_
            refine e_q (q_add rfl rfl (by omega) (by omega)) ?_
            refine e_as rfl ?_
            refine l_n ?_
            exact t_nx (⟨x.d + 1, none, 0, none, 0, none, 0⟩ : Lp _) ⟨⟨by (try simp only []); omega, by (try simp only []); omega, fun _ => hnz⟩, by (try simp only []); omega⟩ (.c (.c (.c (.cons rfl (inte (by rw [htn, beN_more (by omega)])) (.c (.nil _))))))
      · try simp only [decide_eq_true_eq, decide_eq_false_iff_not] at h2
        have hk : x.d = (bs.getD at_ default).toNat := by omega
        refine c_exit ?_
        refine k_then_x ?_
        refine k_then_x ?_
        refine k_blk_x ?_
        refine k_then_n ?_
        refine sr ?_
        refine e_mv rfl ?_
        refine e_mv rfl ?_
        refine e_q (q_add rfl rfl (by omega) (by omega)) ?_
        refine e_mv rfl ?_
        refine e_q (q_add rfl rfl (by omega) (by omega)) ?_
        refine e_as rfl ?_
        refine e_as rfl ?_
        refine e_as rfl ?_
        refine l_n ?_
        refine c_ret ?_
        have hr : (numR bs at_) = (beN ((bs.drop (at_ + 1)).take (bs.getD at_ default).toNat), (at_ : Int) + 1 + ((bs.getD at_ default).toNat : Int), 0) := numR_ok (by omega) (by omega) (fun h9 => hx3 (by omega)) (by omega)
        rw [hr]
        rw [← hk]
        exact t_rt [] rfl (.tmp rfl (.tmp rfl (.tmp rfl .nil))) rfl ⟨rfl, rfl, rfl⟩ (by (repeat refine Ent.skip ?_); exact Ent.refl _)
end Go.HrdR

/-
  Walked.
-/
set_option maxRecDepth 100000
set_option maxHeartbeats 4000000
set_option linter.unusedSimpArgs false
set_option linter.unusedVariables false
namespace Go.HrdR
open Go Go.SL Go.Proofs Go.Mou Go.Dsk Go.Hrd Go.Sm
attribute [local irreducible] Go.SL.Ent
theorem eo_9 : elemOk Tryz.prog 9 1 16 = true := by kernel_rfl

theorem rend_spec (s : (List UInt8)) (at_ : Nat) (dp : Int) (ρ : Hp) (h1 : at_ < s.length) (h2 : s.getD at_ default = 110) (h3 : dp ≤ 8) (hs : s.length ≤ 1000) : Spec0 Tryz.prog 119 #[(strB s), .int .i64 (at_ : Int), .int .i64 dp] ρ [] (fun v Γ' => v = .int .i64 ((((at_ + 1 : Nat)) : Int)) ∧ Γ' = []) := by
  refine spec_of (n := 58) (vs := [_, _, _]) (σ := [(0, _), (1, _), (2, _)]) Tryz.func119 rfl rfl rfl rfl fun E Δ => ?_
  rw [List.nil_append]
  refine sr ?_
  refine e_as rfl ?_
  refine l_n ?_
  refine c_seq ?_
  refine sr ?_
  refine e_mv rfl ?_
  refine e_mv rfl ?_
  refine e_q (q_lensB Tryz.underlying9 rfl) ?_
  refine e_q (q_geq rfl rfl) ?_
  refine e_mv rfl ?_
  refine l_step (s_qg rfl (ask_f rfl rfl) (b := (!(decide ((s.length : Int) ≤ (at_ : Int))))) (fun hb => q_move rfl) ?_)
  refine l_step (s_qg rfl (ask_f rfl rfl) (b := (!(decide ((s.length : Int) ≤ (at_ : Int))))) (fun hb => OpQ.env (.cons rfl (gd_t hb) (.nil _) : EnvLe [(12, .int .i64 dp)] _) (q_gtr rfl rfl)) ?_)
  refine e_q (q_pick_or rfl rfl rfl (fun h => by first | (rw [h]; rfl) | exact congrArg not h)) ?_
  refine l_n ?_
  refine c_sure false rfl (by rw [Bool.or_eq_false_iff]; exact ⟨decide_eq_false (by omega), decide_eq_false (by omega)⟩) ?_
  simp only [Bool.false_eq_true, if_true, if_false]
  refine c_skip ?_
  refine k_then_n ?_
  refine c_seq ?_
  refine sr ?_
  refine e_mv rfl ?_
  refine e_mv rfl ?_
  refine e_q (q_indexs at_ Tryz.underlying9 rfl rfl rfl (by first | assumption | omega)) ?_
  refine l_n ?_
  refine c_block ?_
  refine c_seq ?_
  refine sr ?_
  refine e_q (q_eql rfl rfl) ?_
  refine e_as rfl ?_
  refine l_n ?_
  refine c_sure true rfl (by rw [h2]; rfl) ?_
  simp only [Bool.false_eq_true, if_true, if_false]
  refine c_skip ?_
  refine k_then_n ?_
  refine c_sure true rfl (by rw [h2]; rfl) ?_
  simp only [Bool.false_eq_true, if_true, if_false]
  refine sr ?_
  refine e_mv rfl ?_
  refine e_q (q_add rfl rfl (by omega) (by omega)) ?_
  refine e_as rfl ?_
  refine l_n ?_
  refine c_ret ?_
  refine k_blk_r ?_
  refine k_then_r ?_
  exact t_rt [] rfl (.tmp rfl .nil) rfl ⟨rfl, inte (by omega), rfl⟩ (by (repeat refine Ent.skip ?_); exact Ent.refl _)

theorem rrows_spec  (ρ : Hp) : Spec0 Tryz.prog 99 #[strB nnn] ρ [] (fun v Γ' => ∃ a c, v = .slice a 3 c ∧ Γ' = [.row 9 1 a 3 c (([[110], [110], [110]] : List (List UInt8)).flatMap encStr)]) := by
  refine spec_of (n := 22) (vs := [_]) (σ := [(0, _)]) Tryz.func99 rfl rfl rfl rfl fun E Δ => ?_
  rw [List.nil_append]
  have hnl : nnn.length = 5 := rfl
  refine sr ?_
  refine e_as rfl ?_
  refine l_n ?_
  refine sr ?_
  refine e_as rfl ?_
  refine l_n ?_
  refine sr ?_
  refine e_as rfl ?_
  refine l_n ?_
  refine c_seq ?_
  refine c_block ?_
  refine Tr.ent (Ent.nilrow 9 1 _) ?_
  refine Tr.env (σ' := [(0, _), (2, _), (3, _), (4, _)]) ev_ ?_
  refine t_loop (ι := Lp (Nat)) (fun x => x.d ≤ 3) (fun x => 3 - x.d) (fun x => [(0, (strB nnn)), (2, .slice none 0 0), (3, .slice x.a1 ((List.replicate x.d ([110] : List UInt8)).length) x.c1), (4, .int .i64 ((x.d + 1 : Nat) : Int))]) (fun x => .row 9 1 x.a1 ((List.replicate x.d ([110] : List UInt8)).length) x.c1 ((List.replicate x.d ([110] : List UInt8)).flatMap Go.SL.encStr) :: Δ) (⟨0, none, 0, none, 0, none, 0⟩ : Lp _) (by decide) ?_ ?_ ?_
  · exact .c (.c (.c (.c (.nil _))))
  · exact en_
  intro x hx
  have hx3 : x.d ≤ 3 := hx
  have hrl : (List.replicate x.d ([110] : List UInt8)).length = x.d := by simp
  refine c_seq ?_
  refine sr ?_
  refine e_mv rfl ?_
  refine e_mv rfl ?_
  refine e_q (q_indexs (x.d + 1) Tryz.underlying9 rfl rfl (by omega) (by first | assumption | omega)) ?_
  refine e_q (q_neq rfl rfl) ?_
  refine l_n ?_
  refine c_cond rfl (fun h0 => ?_) (fun h0 => ?_)
  · skip
    have hk3 : x.d < 3 := by have h9 := of_decide_eq_true h0; have h8 := (nnn_at x.d (by omega)).1; refine Classical.byContradiction fun q => ?_; rw [h8.2 (by omega)] at h9; exact h9 rfl
    refine c_skip ?_
    refine k_then_n ?_
    refine c_block ?_
    refine sr ?_
    refine e_mv rfl ?_
    refine e_mv rfl ?_
    refine e_fn Tryz.func119 rfl sl_ (fun ρ' hL => rend_spec nnn (x.d + 1) 0 ρ' (by show _ < 5; omega) ((nnn_at x.d (by omega)).2 hk3) (by decide) (by decide)) ?_
    rintro _ _ ⟨rfl, rfl⟩
    try simp only [List.cons_append, List.nil_append]
    refine e_as rfl ?_
    refine l_n ?_
    refine sr ?_
    refine e_mv rfl ?_
    refine e_mv rfl ?_
    refine e_mv rfl ?_
    refine e_mv rfl ?_
    refine e_q (q_cuts_lohi Tryz.underlying9 rfl rfl rfl (by omega) (by omega) (by omega)) ?_
    refine e_s (s_buildSlice (cs := ([((nnn.take (x.d + 1 + 1)).drop (x.d + 1))] : List (List UInt8)).flatMap Go.SL.encStr) Tryz.underlying49 eo_9 rfl rfl rfl rfl (by decide) (by decide)) ?_
    rintro _ _ ⟨b18, rfl, rfl⟩
    refine e_s (s_appendn (enc := Go.SL.encStr) (xs := ((List.replicate x.d ([110] : List UInt8)) : List (List UInt8))) (ys := ([((nnn.take (x.d + 1 + 1)).drop (x.d + 1))] : List (List UInt8))) (Γ' := fun a' cap' => _) Tryz.underlying49 eo_9 (by decide) rfl rfl (rd_row pk_) (oneStr _) (by first | omega | (simp only [List.length_append, List.length_cons, List.length_nil] at *; omega)) (by first | omega | (simp only [List.length_append, List.length_cons, List.length_nil] at *; omega)) (fun _ _ => pk_)) ?_
    rintro _ _ ⟨a19, c19, rfl, rfl⟩
    refine e_as rfl ?_
    refine l_n ?_
    refine c_region ?_
    refine e_mv rfl ?_
    refine e_as rfl ?_
    refine l_nil ?_
    refine k_blk_n ?_
    refine k_then_n ?_
    rw [show ((nnn.take (x.d + 1 + 1)).drop (x.d + 1)) = [110] from nnn_piece x.d hk3]
    rw [show (List.replicate x.d ([110] : List UInt8)).length + 1 = (List.replicate (x.d + 1) ([110] : List UInt8)).length from by simp, ← List.replicate_succ']
    exact t_nx (⟨x.d + 1, a19, c19, none, 0, none, 0⟩ : Lp _) ⟨by (try simp only []); omega, by (try simp only []); omega⟩ (.c (.c (.c (.c (.nil _)))))
  · skip
    have hk3 : x.d = 3 := by have h9 := of_decide_eq_false h0; refine (nnn_at x.d (by omega)).1.1 (UInt8.toNat_inj.1 ?_); show _ = 93; omega
    rw [hk3]
    refine c_exit ?_
    refine k_then_x ?_
    refine k_then_x ?_
    refine k_blk_x ?_
    refine k_then_n ?_
    refine sr ?_
    refine e_mv rfl ?_
    refine e_as rfl ?_
    refine l_n ?_
    refine c_ret ?_
    exact t_rt [.row 9 1 x.a1 3 x.c1 (([[110], [110], [110]] : List (List UInt8)).flatMap encStr)] rfl (.tmp rfl .nil) rfl ⟨rfl, x.a1, x.c1, rfl, rfl⟩
end Go.HrdR
