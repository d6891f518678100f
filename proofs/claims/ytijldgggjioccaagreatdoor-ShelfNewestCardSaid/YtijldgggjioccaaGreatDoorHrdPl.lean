/- part -/
import Derived.Test.YtijldgggjioccaaGreatDoorHrdPP
import Derived.Test.YtijldgggjioccaaGreatDoorDskR2
set_option linter.unusedVariables false
set_option linter.unusedSimpArgs false
namespace Go.Hrd
open Go Go.SL Go.Mou Go.Dsk Go.Sm
theorem half (r : BitVec 32) : (r.toNat : Int) / (2 : Int) = ((r >>> 1).toNat : Int) := by
  rw [BitVec.toNat_ushiftRight, Nat.shiftRight_eq_div_pow]; omega
theorem low_bit (r : BitVec 32) : (r.toNat : Int) % 2 = 1 ↔ r.getLsbD 0 = true := by
  rw [BitVec.getLsbD, Nat.testBit_zero]; simp; omega
theorem bit_cases (r : BitVec 32) : bitStep r = if r.getLsbD 0 = true then r >>> 1 ^^^ 2197175160#32 else r >>> 1 := by
  unfold bitStep
  have h : r &&& 1#32 = if r.getLsbD 0 = true then 1#32 else 0#32 := by
    apply BitVec.eq_of_toNat_eq; rw [BitVec.toNat_and, BitVec.getLsbD, Nat.testBit_zero]; rw [show (1#32 : BitVec 32).toNat = 1 from rfl, Nat.and_one_is_mod]; have := Nat.mod_two_eq_zero_or_one r.toNat
    rcases this with h | h <;> simp [h]
  rw [h]
  split
  · rw [show (-(1#32) : BitVec 32) = BitVec.allOnes 32 by decide, BitVec.and_allOnes]
  · rw [show (-(0#32) : BitVec 32) = 0#32 by decide, BitVec.and_zero, BitVec.xor_zero]
theorem ref_odd (r : BitVec 32) (h : (r.toNat : Int) % 2 = 1) : r >>> 1 ^^^ 2197175160#32 = bitStep r := by rw [bit_cases, if_pos ((low_bit r).1 h)]
theorem ref_even (r : BitVec 32) (h : ¬ (r.toNat : Int) % 2 = 1) : r >>> 1 = bitStep r := by rw [bit_cases, if_neg (fun h' => h ((low_bit r).2 h'))]
theorem not_xor (r : BitVec 32) : r ^^^ 4294967295#32 = ~~~ r := by
  have : (4294967295#32 : BitVec 32) = BitVec.allOnes 32 := by decide
  rw [this, BitVec.xor_allOnes]
theorem set32 (c : UInt8) : (c.toNat : Int) = ((c.toBitVec.setWidth 32).toNat : Int) := by
  have := c.toNat_lt; rw [BitVec.toNat_setWidth, Nat.mod_eq_of_lt (by show c.toNat < _; omega)]; rfl
theorem byteM (m : Nat) : IntKind.wrap .u8 ((m : Int) % 256) = ((UInt8.ofNat m).toNat : Int) := by
  rw [show ((m : Int) % 256) = ((m % 256 : Nat) : Int) by omega, wrap8, UInt8.toNat_ofNat', UInt8.toNat_ofNat']
  congr 1; omega
theorem byteN256 (m : Nat) : UInt8.ofNat (m % 256) = UInt8.ofNat m := by
  apply UInt8.toNat_inj.1; rw [UInt8.toNat_ofNat', UInt8.toNat_ofNat']; omega
theorem numB_more {n k j : Nat} (hk : k < (lowD n).length) (hj : j = (lowD n).length - 1 - k) : numB n k ++ [(lowD n).getD j default] = numB n (k + 1) := by
  rw [numB_next hk, ← lowD_get n _ (by omega), hj]
def numR (bs : List UInt8) (k : Nat) : Nat × Int × Int := match numT (bs.drop k) with
  | .ok (n, r) => (n, (bs.length : Int) - (r.length : Int), 0)
  | .error e => (0, (k : Int), e)
section
variable {bs : List UInt8} {k : Nat}
theorem drop_at (h : k < bs.length) : bs.drop k = bs.getD k default :: bs.drop (k + 1) := by
  rw [List.drop_eq_getElem_cons h]; simp [List.getD, h]
theorem numR_end (h : bs.length ≤ k) : numR bs k = (0, (k : Int), 11) := by
  unfold numR; rw [List.drop_eq_nil_of_le h]; rfl
theorem numR_big (h : k < bs.length) (h8 : 8 < (bs.getD k default).toNat) : numR bs k = (0, (k : Int), 13) := by
  unfold numR; rw [drop_at h]; simp only [numT]; rw [if_pos h8]
theorem head_at : (bs.drop (k + 1)).head? = some 0 ↔ k + 1 < bs.length ∧ bs.getD (k + 1) default = 0 := by
  rw [List.head?_drop]
  by_cases h : k + 1 < bs.length
  · simp [List.getD, h]
  · simp [List.getElem?_eq_none (show bs.length ≤ k + 1 by omega), h]
theorem numR_zero (h : k < bs.length) (h8 : ¬ 8 < (bs.getD k default).toNat) (h0 : 0 < (bs.getD k default).toNat) (h1 : k + 1 < bs.length) (h2 : bs.getD (k + 1) default = 0) : numR bs k = (0, (k : Int), 13) := by
  unfold numR; rw [drop_at h]; simp only [numT]; rw [if_neg h8, if_pos ⟨h0, head_at.2 ⟨h1, h2⟩⟩]
theorem numR_short (h : k < bs.length) (h8 : ¬ 8 < (bs.getD k default).toNat) (h0 : ¬ (k + 1 < bs.length ∧ bs.getD (k + 1) default = 0)) (h1 : bs.length < k + 1 + (bs.getD k default).toNat) : numR bs k = (0, (k : Int), 11) := by
  unfold numR; rw [drop_at h]; simp only [numT]; rw [if_neg h8, if_neg (fun q => h0 (head_at.1 q.2)), if_pos (by rw [List.length_drop]; omega)]
theorem numR_ok (h : k < bs.length) (h8 : ¬ 8 < (bs.getD k default).toNat) (h0 : 0 < (bs.getD k default).toNat → bs.getD (k + 1) default ≠ 0) (h1 : k + 1 + (bs.getD k default).toNat ≤ bs.length) :
    numR bs k = (beN ((bs.drop (k + 1)).take (bs.getD k default).toNat), (k : Int) + 1 + ((bs.getD k default).toNat : Int), 0) := by
  unfold numR; rw [drop_at h]; simp only [numT]; rw [if_neg h8, if_neg (fun q => h0 q.1 (head_at.1 q.2).2), if_neg (by rw [List.length_drop]; omega)]; simp only [List.length_drop]; rw [show ((bs.length : Int) - ((bs.length - (k + 1) - (bs.getD k default).toNat : Nat) : Int)) = (k : Int) + 1 + ((bs.getD k default).toNat : Int) by omega]
theorem beN_more {i : Nat} (h : k + 1 + i < bs.length) : beN ((bs.drop (k + 1)).take (i + 1)) = 256 * beN ((bs.drop (k + 1)).take i) + (bs.getD (k + 1 + i) default).toNat := by
  rw [take_succ_getD _ _ (by rw [List.length_drop]; omega), beN_snoc]
  congr 2
  simp [List.getD, List.getElem?_drop]
theorem beN_le {i : Nat} (h : i ≤ 7) : 256 * beN ((bs.drop (k + 1)).take i) + 255 < 18446744073709551616 := by
  have h1 := beN_lt ((bs.drop (k + 1)).take i); have h2 : ((bs.drop (k + 1)).take i).length ≤ 7 := by rw [List.length_take]; omega
  have h3 : 256 ^ ((bs.drop (k + 1)).take i).length ≤ 256 ^ 7 := Nat.pow_le_pow_right (by decide) h2; have h4 : (256 : Nat) ^ 7 = 72057594037927936 := by decide
  omega
end
theorem numR_err {bs : List UInt8} {k : Nat} (h : (numR bs k).2.2 ≠ 0) : (numR bs k).1 = 0 ∧ (numR bs k).2.1 = (k : Int) := by
  unfold numR at h ⊢
  split
  · rename_i h1; rw [h1] at h; exact absurd rfl h
  · exact ⟨rfl, rfl⟩
theorem numT_le {bs r : List UInt8} {n : Nat} (h : numT bs = .ok (n, r)) : r.length ≤ bs.length := by
  cases bs with
  | nil => cases h
  | cons c q =>
    simp only [numT] at h
    split at h
    · cases h
    · split at h
      · cases h
      · split at h
        · cases h
        · cases h; simp only [List.length_drop, List.length_cons]; omega
theorem numR_bd {bs : List UInt8} {k : Nat} (hk : k ≤ bs.length) : 0 ≤ (numR bs k).2.1 ∧ (numR bs k).2.1 ≤ (bs.length : Int) := by
  unfold numR
  split
  · rename_i h; have := numT_le h; rw [List.length_drop] at this; simp only []; omega
  · simp only []; omega
theorem q_cuts_lohi {P : Program} {E : World} {ρ : Hp} {n : Fz} {σ : Slots} {Γ : List Asn} {ty T : TypeId} {x y z : Operand} {k k' : IntKind} {i j : Int} {bs : List UInt8} (hT : P.underlying T = some .string) (hx : evo σ x = some (strB bs)) (hy : evo σ y = some (.int k i)) (hz : evo σ z = some (.int k' j)) (h0 : 0 ≤ i) (h1 : i ≤ j) (h2 : j ≤ bs.length) :
    OpQ P E ρ n σ Γ (.slice T x (some y) (some z) none) ty (strB ((bs.take j.toNat).drop i.toNat)) := fun a w e s => by
  have hs : (⟨bs.toArray⟩ : ByteArray).size = bs.length := by simp [ByteArray.size]
  have hc := strB_cut bs i.toNat j.toNat; have h3 : 0 ≤ j := by omega
  simp [exo, execOp, e.eval hx, e.eval hy, e.eval hz, Instr.sliceAt, Instr.slice, underlying, hT, Instr.sliceBounds, Instr.sliceBound, asIntOf, strB, hs, h0, h1, h2, h3, hc]; intro h9; exact absurd h9 (by omega)
end Go.Hrd
namespace Go.Hrd
open Go Go.SL Go.Mou Go.Dsk Go.Sm
theorem beW_nat (a b c d : UInt8) : (beW a b c d).toNat = a.toNat * 16777216 + b.toNat * 65536 + c.toNat * 256 + d.toNat := by
  have ha := a.toNat_lt; have hb := b.toNat_lt; have hc := c.toNat_lt; have hd := d.toNat_lt
  have e : ∀ x : UInt8, (x.toBitVec.setWidth 32).toNat = x.toNat := fun x => by
    have := x.toNat_lt; rw [BitVec.toNat_setWidth, Nat.mod_eq_of_lt (by show x.toNat < _; omega)]; rfl
  unfold beW; rw [BitVec.toNat_or, BitVec.toNat_or, BitVec.toNat_or, BitVec.toNat_shiftLeft, BitVec.toNat_shiftLeft, BitVec.toNat_shiftLeft, e, e, e, e]; have e3 : a.toNat <<< 24 % 2 ^ 32 = 2 ^ 24 * a.toNat := by rw [Nat.shiftLeft_eq]; omega
  have e2 : b.toNat <<< 16 % 2 ^ 32 = 2 ^ 16 * b.toNat := by rw [Nat.shiftLeft_eq]; omega
  have e1 : c.toNat <<< 8 % 2 ^ 32 = 2 ^ 8 * c.toNat := by rw [Nat.shiftLeft_eq]; omega
  rw [e3, e2, e1]; rw [← Nat.two_pow_add_eq_or_of_lt (i := 24) (by omega)]; rw [show 2 ^ 24 * a.toNat + 2 ^ 16 * b.toNat = 2 ^ 16 * (2 ^ 8 * a.toNat + b.toNat) from by omega]; rw [← Nat.two_pow_add_eq_or_of_lt (i := 16) (by omega)]; rw [show 2 ^ 16 * (2 ^ 8 * a.toNat + b.toNat) + 2 ^ 8 * c.toNat = 2 ^ 8 * (2 ^ 8 * (2 ^ 8 * a.toNat + b.toNat) + c.toNat) from by omega]; rw [← Nat.two_pow_add_eq_or_of_lt (i := 8) (by omega)]; omega
theorem sum_is (w : BitVec 32) (a b c d : UInt8) : w = beW a b c d ↔ a.toNat = w.toNat / 16777216 % 256 ∧ b.toNat = w.toNat / 65536 % 256 ∧ c.toNat = w.toNat / 256 % 256 ∧ d.toNat = w.toNat % 256 := by
  have ha := a.toNat_lt; have hb := b.toNat_lt; have hc := c.toNat_lt; have hd := d.toNat_lt; have hw := w.isLt; have hn := beW_nat a b c d
  constructor
  · intro e; rw [← e] at hn; omega
  · intro h; apply BitVec.eq_of_toNat_eq; rw [hn]; omega
theorem numT_drop {bs r : List UInt8} {n : Nat} (h : numT bs = .ok (n, r)) : r = bs.drop (bs.length - r.length) := by
  cases bs with
  | nil => cases h
  | cons c q =>
    simp only [numT] at h
    split at h
    · cases h
    · split at h
      · cases h
      · split at h
        · cases h
        · rename_i h3
          cases h
          rw [List.length_drop, List.length_cons, show q.length + 1 - (q.length - c.toNat) = c.toNat + 1 by omega, List.drop_succ_cons]
theorem numR_is {bs : List UInt8} {k : Nat} (hk : k ≤ bs.length) :
    ((numR bs k).2.2 = 0 → numT (bs.drop k) = .ok ((numR bs k).1, bs.drop (numR bs k).2.1.toNat)) ∧ ((numR bs k).2.2 ≠ 0 → numT (bs.drop k) = .error (numR bs k).2.2) := by
  unfold numR
  split
  · rename_i n r h
    refine ⟨fun _ => ?_, fun h9 => absurd rfl h9⟩; have h1 := numT_drop h; have h2 := numT_le h; rw [List.length_drop] at h1 h2; rw [List.drop_drop] at h1; rw [h]; simp only []; rw [show ((bs.length : Int) - (r.length : Int)).toNat = k + (bs.length - k - r.length) by omega, ← h1]
  · rename_i e h
    refine ⟨fun h9 => ?_, fun _ => h⟩; simp only at h9; subst h9
    exfalso
    cases hq : bs.drop k with
    | nil => rw [hq] at h; cases h
    | cons c q =>
      rw [hq] at h; simp only [numT] at h
      split at h
      · cases h
      · split at h
        · cases h
        · split at h <;> cases h
theorem quo32 {n k : Nat} (h : n < 4294967296) : IntKind.wrap .u32 (((n : Int)).tdiv (k : Int)) = ((n / k : Nat) : Int) := by
  have h1 := Nat.div_le_self n k; rw [Int.tdiv_eq_ediv_of_nonneg (by omega), ← Int.natCast_ediv]
  generalize n / k = q at h1 ⊢
  exact wrap_u32 (by omega) (by omega)
theorem conv8 (n : Nat) : IntKind.wrap .u8 (n : Int) = ((n % 256 : Nat) : Int) := by rw [wrap8, UInt8.toNat_ofNat']
section
variable {bs : List UInt8} {b : Nat} {L : List Nat}
end
end Go.Hrd
namespace Go.Hrd
open Go Go.SL Go.Mou Go.Dsk Go.Sm
theorem cvW (w : BitVec 32) {K k : Nat} (h : K = 2 ^ k) : IntKind.wrap .u8 ((w.toNat / K : Nat) : Int) = ((UInt8.ofNat (w >>> k).toNat).toNat : Int) := by
  rw [wrap8, BitVec.toNat_ushiftRight, Nat.shiftRight_eq_div_pow, h]
end Go.Hrd
namespace Go.Hrd
open Go Go.SL Go.Mou Go.Dsk Go.Sm
def remE (e : Bool) (c : Int) (V : FV) (o : Nm) : Int × FV × Int := if mhas V o = true then ((remR (cI e c) V [o]).1, (remR (cI e c) V [o]).2, decR e c) else (0, V, c)
section
variable {room c : Int} {e : Bool} {V : FV} {h s : State1} {o : Nm}
theorem rE_has (hm : mhas V o = true) : remE e c V o = ((remR (cI e c) V [o]).1, (remR (cI e c) V [o]).2, decR e c) := if_pos hm
theorem rE_no (hm : mhas V o = false) : remE e c V o = (0, V, c) := if_neg (by rw [hm]; decide)
theorem decR_le : decR e c ≤ c := by unfold decR; split <;> omega
theorem rE_ok (hV : VOk V) : VOk (remE e c V o).2.1 := by
  unfold remE
  split
  · exact vok_rem hV
  · exact hV
theorem rE_used : usedV (remE e c V o).2.1 ≤ usedV V := by
  have h9 := remS_used (cI e c) V o; unfold remS at h9; unfold remE
  split
  · rename_i hm; rw [if_pos hm] at h9; exact h9
  · exact Nat.le_refl _
theorem rE_c (hc : e = true → 0 ≤ c) : e = true → 0 ≤ (remE e c V o).2.2 := by
  unfold remE
  split
  · exact (decR_ok hc).2
  · exact hc
theorem rE_c2 (hc : c ≤ 9223372036854775807) : (remE e c V o).2.2 ≤ 9223372036854775807 := by
  have h9 := decR_le (e := e) (c := c); unfold remE
  split
  · show decR e c ≤ _; omega
  · exact hc
theorem th_all {T : RT} {t : Nm} : ((T.map (·.Name)).take T.length).any (fun n => decide (n = t)) = mhas (rvw T) t := by
  rw [List.take_of_length_le (by simp), Bool.eq_iff_iff, mhas_iff, rvw_keys]; simp
theorem rE_sim (hS : Sim V V) : Sim (remE e c V o).2.1 (remE e c V o).2.1 := by
  unfold remE
  split
  · exact (sim_rem hS [o]).2
  · exact hS
theorem vok_appI {calls : Int} {b : List UInt8} (hS : Sim V V) (hV : VOk V) (hb : usedV V + b.length ≤ 1000000000000) : VOk (appI room calls V o b).2 :=
  (sim_app hS o b).2.vok (vok_app hV hb)
end
end Go.Hrd
namespace Go.Hrd
open Go Go.SL Go.Mou Go.Dsk Go.Sm
section
variable {room calls c : Int} {e : Bool} {V L : FV} {h s : State1} {o : Nm} {b : List UInt8}
end
end Go.Hrd
namespace Go.Hrd
open Go Go.SL Go.Mou Go.Dsk Go.Sm
structure Alike (room calls : Int) (e : Bool) (c : Int) (V L : FV) (n : Nat) : Prop where
  sim : Sim V L
  cl : cI e c = calls
  ce : e = true → 0 ≤ c
  cb : c ≤ 9223372036854775807
  lim : Lim V n
  us : (usedV V : Int) ≤ room
theorem used_mono_le {V W : FV} {room : Int} (h : usedV W ≤ usedV V) (hr : (usedV V : Int) ≤ room) : (usedV W : Int) ≤ room := by omega
theorem lim_self {V : FV} (h : VOk V) : Lim V (usedV V) := ⟨h, Nat.le_refl _, h.us⟩
section
variable {room calls c : Int} {e : Bool} {V L : FV} {h s : State1} {o : Nm} {b : List UInt8} {n : Nat}
theorem al_rem (ha : Alike room calls e c V L n) (ns : List Nm) : Alike room (decC calls) e (decR e c) (remR calls V ns).2 (remR (cI e c) L ns).2 n := by
  obtain ⟨sim, cl, ce, cb, lim, us⟩ := ha; subst cl; have hd := decR_ok ce; exact ⟨(sim_rem sim ns).2, hd.1, hd.2, Int.le_trans decR_le cb, lim_rem lim, used_mono_le (lim_rem (lim_self lim.ok)).us us⟩
theorem al_app (ha : Alike room calls e c V L n) (hn : n + b.length ≤ 1000000000000) : Alike room (decC calls) e (decR e c) (appR room calls V o b).2 (appI room (cI e c) L o b).2 (n + b.length) := by
  obtain ⟨sim, cl, ce, cb, lim, us⟩ := ha; subst cl; have hd := decR_ok ce; exact ⟨(sim_app sim o b).2, hd.1, hd.2, Int.le_trans decR_le cb, lim_app lim hn, used_app_room us⟩
theorem al_cr (ha : Alike room calls e c V L n) (keep : List Int) : Alike room (-1) false c (crR keep V).1 (crK keep (mkeys L) L L.length).1 n := by
  obtain ⟨sim, cl, ce, cb, lim, us⟩ := ha; exact ⟨(sim_cr sim keep).2, rfl, (fun h => by cases h), cb, lim_cr lim, used_mono_le (lim_cr (lim_self lim.ok)).us us⟩
end
end Go.Hrd
namespace Go.Hrd
open Go Go.SL Go.Mou Go.Dsk Go.Sm
section
variable {room calls c : Int} {e : Bool} {V L : FV} {n : Nat}
theorem al_stop (ha : Alike room calls e c V L n) {k : Int} (hk : k ≤ 9223372036854775807) : Alike room (if (-1) > k then (-1) else k) (decide (0 ≤ k)) k V L n := by
  refine ⟨ha.sim, ?_, fun h => of_decide_eq_true h, hk, ha.lim, ha.us⟩; unfold cI
  by_cases h7 : 0 ≤ k
  · rw [decide_eq_true h7, if_pos rfl, if_neg (by omega)]
  · rw [decide_eq_false h7]; simp only [Bool.false_eq_true, if_false]
    split <;> omega
theorem al_to {V' L' : FV} (hv : V' = V) (hw : L' = L) (ha : Alike room calls e c V L n) : Alike room calls e c V' L' n := by rw [hv, hw]; exact ha
theorem al_cb (ha : Alike room calls e c V L n) : calls ≤ 9223372036854775807 := by
  have h1 := ha.cl; have h2 := ha.cb; unfold cI at h1
  split at h1 <;> omega
theorem sim_right (h : Sim V L) : Sim L L := ⟨h.nl, h.nl, h.so, fun _ => rfl⟩
theorem sim_nil_ : Sim [] [] := ⟨List.nodup_nil, List.nodup_nil, List.Pairwise.nil, fun _ => rfl⟩
end
end Go.Hrd
