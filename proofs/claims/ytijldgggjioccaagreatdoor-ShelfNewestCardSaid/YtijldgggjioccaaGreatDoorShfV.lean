/- part -/
import Derived.Test.YtijldgggjioccaaGreatDoorShfQ
import Derived.Test.YtijldgggjioccaaGreatDoorHrdPl
set_option linter.unusedVariables false
set_option linter.unusedSimpArgs false
namespace Go.Shf
open Go Go.SL Go.Mou Go.Dsk Go.Sm Go.Hrd
theorem lowD_back : ∀ (m : List UInt8), m.reverse.head? ≠ some 0 → lowD (beN m.reverse) = m
  | [], _ => lowD_zero
  | x :: t, h => by
    rw [List.reverse_cons] at h ⊢; rw [beN_snoc]; have hx := x.toNat_lt
    cases t with
    | nil =>
      have h0 : x ≠ 0 := fun e => h (by rw [e]; rfl); have h1 : x.toNat ≠ 0 := fun e => h0 (UInt8.toNat_inj.1 e); rw [show beN ([] : List UInt8).reverse = 0 from rfl, Nat.mul_zero, Nat.zero_add, lowD_pos h1, Nat.mod_eq_of_lt hx, Nat.div_eq_of_lt hx, lowD_zero, UInt8.ofNat_toNat]
    | cons y t =>
      have ih := lowD_back (y :: t) (by
        intro e; apply h; rw [List.head?_append, e]; rfl)
      have h0 : beN (y :: t).reverse ≠ 0 := fun e => by rw [e, lowD_zero] at ih; cases ih
      rw [lowD_pos (by omega), show (256 * beN (y :: t).reverse + x.toNat) % 256 = x.toNat by omega, show (256 * beN (y :: t).reverse + x.toNat) / 256 = beN (y :: t).reverse by omega, ih, UInt8.ofNat_toNat]
theorem numF_back {l : List UInt8} (h : l.head? ≠ some 0) : numF (beN l) = UInt8.ofNat l.length :: l := by
  have h1 := lowD_back l.reverse (by rw [List.reverse_reverse]; exact h); rw [List.reverse_reverse] at h1; unfold numF; rw [h1, List.reverse_reverse, List.length_reverse]
theorem numT_canon {bs r : List UInt8} {n : Nat} (h : numT bs = .ok (n, r)) : numF n ++ r = bs := by
  cases bs with
  | nil => cases h
  | cons c q =>
    simp only [numT] at h
    split at h
    · cases h
    · split at h
      · cases h
      · split at h
        · cases h
        · rename_i h1 h2 h3
          cases h
          have hl : (q.take c.toNat).length = c.toNat := by rw [List.length_take]; omega
          have hh : (q.take c.toNat).head? ≠ some 0 := by
            intro e
            cases hc : c.toNat with
            | zero => rw [hc] at e; cases e
            | succ k =>
              cases q with
              | nil => rw [hc] at e; cases e
              | cons y q => rw [hc] at e; exact h2 ⟨by omega, by simpa using e⟩
          rw [numF_back hh, hl, UInt8.ofNat_toNat, List.cons_append, List.take_append_drop]
theorem cntT_num {s : Bool} {bs r : List UInt8} {n : Nat} (h : cntT s bs = .ok (n, r)) : numT bs = .ok (n, r) := by
  unfold cntT at h
  split at h
  · cases h
  · rename_i m q h1
    split at h
    · cases h
    · split at h
      · cases h
      · cases h; exact h1
theorem leaf_canon {s : Sh} {bs r : List UInt8} {x : PV} (hs : s = .n ∨ s = .b) (h : takeF s bs = .ok (x, r)) : form s x ++ r = bs := by
  rcases hs with hs | hs <;> subst hs
  · simp only [takeF] at h
    split at h
    · cases h
    · rename_i n q h1
      cases h
      show numF n ++ _ = _; exact numT_canon h1
  · simp only [takeF] at h
    split at h
    · cases h
    · rename_i n q h1
      cases h
      have hb := (cntT_bd h1).1 rfl; have h2 := numT_canon (cntT_num h1); have hl : (q.take n).length = n := by rw [List.length_take]; omega
      show (numF (q.take n).length ++ q.take n) ++ q.drop n = bs; rw [hl, List.append_assoc, List.take_append_drop, h2]
theorem takes_canon : ∀ (l : List Sh) (L M : List PV) (bs r : List UInt8), (∀ s ∈ l, s = .n ∨ s = .b) → takes l L bs = .ok (M, r) → ∃ K, M = L ++ K ∧ forms l K ++ r = bs
  | [], L, M, bs, r, _, h => by
    simp only [takes] at h; cases h; exact ⟨[], by simp, rfl⟩
  | s :: l, L, M, bs, r, hl, h => by
    simp only [takes] at h
    split at h
    · cases h
    · rename_i x q h1
      obtain ⟨K, k1, k2⟩ := takes_canon l _ M q r (fun t ht => hl t (List.mem_cons_of_mem _ ht)) h; refine ⟨x :: K, by rw [k1, List.append_assoc]; rfl, ?_⟩; show (form s x ++ forms l K) ++ r = bs; rw [List.append_assoc, k2, leaf_canon (hl s List.mem_cons_self) h1]
theorem take_canon4 {b r : List UInt8} {v : PV} (h : takeF sh4 b = .ok (v, r)) : bodyX (valX v) ++ r = b := by
  have hlen := take4_len h; unfold sh4 at h; simp only [takeF] at h
  split at h
  · cases h
  · rename_i L q h1
    cases h
    obtain ⟨K, k1, k2⟩ := takes_canon _ _ _ _ _ (by intro s hs; simp only [List.mem_cons, List.not_mem_nil, or_false] at hs; rcases hs with rfl | rfl | rfl | rfl <;> simp) h1; rw [List.nil_append] at k1; subst k1; rw [← k2]; have hL : L.length = 4 := hlen
    match L, hL with
    | [a, b, c, d], _ =>
      rw [bodyX_eq]; simp [valX, PV.L, forms, form, List.getD]
theorem wB_of {w : BitVec 32} {a b c d : UInt8} (h : w = beW a b c d) : wB w = [a, b, c, d] := by
  obtain ⟨h1, h2, h3, h4⟩ := (sum_is w a b c d).1 h; have e : ∀ (x : UInt8) (m : Nat), x.toNat = m % 256 → UInt8.ofNat m = x := fun x m hx => UInt8.toNat_inj.1 (by rw [UInt8.toNat_ofNat', hx]); unfold wB; rw [e a _ (by rw [BitVec.toNat_ushiftRight, Nat.shiftRight_eq_div_pow]; exact h1), e b _ (by rw [BitVec.toNat_ushiftRight, Nat.shiftRight_eq_div_pow]; exact h2), e c _ (by rw [BitVec.toNat_ushiftRight, Nat.shiftRight_eq_div_pow]; exact h3), e d _ h4]
theorem four_drop {b : List UInt8} (h : ¬ b.length < 4) : b = [b.getD 0 default, b.getD 1 default, b.getD 2 default, b.getD 3 default] ++ b.drop 4 := by
  match b, h with
  | a :: b :: c :: d :: r, _ => simp [List.getD]
  | [], h => exact absurd (by decide) h
  | [_], h => exact absurd (by simp) h
  | [_, _], h => exact absurd (by simp) h
  | [_, _, _], h => exact absurd (by simp) h
theorem numT_err {bs : List UInt8} {e : Int} (h : numT bs = .error e) : e ≠ 0 := by
  cases bs with
  | nil => cases h; decide
  | cons c q =>
    simp only [numT] at h
    split at h
    · cases h; decide
    · split at h
      · cases h; decide
      · split at h
        · cases h; decide
        · cases h
theorem cntT_err {s : Bool} {bs : List UInt8} {e : Int} (h : cntT s bs = .error e) : e ≠ 0 := by
  unfold cntT at h
  split at h
  · rename_i e' h1; cases h; exact numT_err h1
  · split at h
    · cases h; decide
    · split at h
      · cases h; decide
      · cases h
theorem leaf_err {s : Sh} {bs : List UInt8} {e : Int} (hs : s = .n ∨ s = .b) (h : takeF s bs = .error e) : e ≠ 0 := by
  rcases hs with hs | hs <;> subst hs
  · simp only [takeF] at h
    split at h
    · rename_i e' h1; cases h; exact numT_err h1
    · cases h
  · simp only [takeF] at h
    split at h
    · rename_i e' h1; cases h; exact cntT_err h1
    · cases h
theorem takes_err0 : ∀ (l : List Sh) (L : List PV) (bs : List UInt8) (e : Int), (∀ s ∈ l, s = .n ∨ s = .b) → takes l L bs = .error e → e ≠ 0
  | [], L, bs, e, _, h => by simp only [takes] at h; cases h
  | s :: l, L, bs, e, hl, h => by
    simp only [takes] at h
    split at h
    · rename_i e' h1; cases h; exact leaf_err (hl s List.mem_cons_self) h1
    · exact takes_err0 l _ _ e (fun t ht => hl t (List.mem_cons_of_mem _ ht)) h
theorem leaf4 : ∀ s ∈ ([.n, .n, .b, .b] : List Sh), s = .n ∨ s = .b := by
  intro s hs; simp only [List.mem_cons, List.not_mem_nil, or_false] at hs; rcases hs with rfl | rfl | rfl | rfl <;> simp
theorem take4_err0 (b : List UInt8) : takeF sh4 (b.drop 4) ≠ .error 0 := fun h => by
  unfold sh4 at h; simp only [takeF] at h
  split at h
  · rename_i e h1; cases h; exact takes_err0 _ _ _ _ leaf4 h1 rfl
  · cases h
theorem parse_canon {b : List UInt8} {x : PSnap} (h : parseX b = (0, x)) : b = snB x ∧ rightM x.ix x.tm = true := by
  unfold parseX at h
  split at h
  · cases h
  · rename_i h0
    split at h
    · rename_i h1
      split at h
      · rename_i e he
        have e0 : e = 0 := congrArg Prod.fst h; subst e0; exact absurd he (take4_err0 b)
      · rename_i v hv
        split at h
        · cases h
        · split at h
          · rename_i h2 h3
            have hx : valX v = x := congrArg Prod.snd h; subst hx; refine ⟨?_, h3⟩; have h4 := take_canon4 hv; rw [List.append_nil] at h4; unfold snB; rw [h4, wB_of h1]; exact four_drop h0
          · cases h
      · cases h
    · cases h
structure XBig (x : PSnap) : Prop where
  rt : rightM x.ix x.tm = true
  cf : x.conf.length ≤ 400000000000
  bd : x.body.length ≤ 400000000000
theorem gcnt_back (c : List UInt8) (r : List UInt8) (h : c.length < 18446744073709551616) : cntT true (numF c.length ++ (c ++ r)) = .ok (c.length, c ++ r) := by
  unfold cntT; rw [numT_numF h]; simp only; rw [if_neg (by rw [List.length_append]; omega), if_neg (fun q => by cases q.1)]
theorem gbody_back {x : PSnap} (h : XBig x) : takeF sh4 (bodyX x) = .ok (pvX x, []) := by
  obtain ⟨h1, h2, h3, h4⟩ := right_yes h.rt; have h5 := h.cf; have h6 := h.bd; have e : bodyX x = numF x.ix.toNat ++ (numF x.tm.toNat ++ (numF x.conf.length ++ (x.conf ++ (numF x.body.length ++ (x.body ++ []))))) := by rw [bodyX_eq]; simp
  rw [e]; unfold sh4; simp only [takeF, takes, numT_numF (show x.ix.toNat < 18446744073709551616 by omega), numT_numF (show x.tm.toNat < 18446744073709551616 by omega), gcnt_back x.conf _ (show x.conf.length < 18446744073709551616 by omega), List.take_left, List.drop_left, gcnt_back x.body [] (show x.body.length < 18446744073709551616 by omega), List.nil_append, List.cons_append]; rfl
theorem gparse_back {x : PSnap} (h : XBig x) : parseX (snB x) = (0, x) := by
  obtain ⟨h1, h2, h3, h4⟩ := right_yes h.rt; have hd : (snB x).drop 4 = bodyX x := rfl
  have hv : valX (pvX x) = x := by
    cases x
    simp only [valX, pvX, PV.L, PV.N, PV.B, List.getD_cons_zero, List.getD_cons_succ] at *
    congr 1 <;> omega
  have ht : RTake sh4 ((snB x).drop 4) (pvX x) 0 := .inl ⟨by rw [hd]; exact gbody_back h, rfl⟩
  have hb : bigX (pvX x) = false := by
    unfold bigX; show (decide (10000000000 ≤ x.ix.toNat) || decide (10000000000 ≤ x.tm.toNat)) = false; rw [decide_eq_false (by omega), decide_eq_false (by omega)]; rfl
  have := px_ok (b := snB x) (by simp [snB, wB]) (by rw [hd]; exact (beW_wB _).symm) ht rfl hb (by rw [hv]; exact h.rt); rw [this, hv]
end Go.Shf
