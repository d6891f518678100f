/- part -/
import Derived.Test.YtijldgggjioccaaGreatDoorShfR
set_option linter.unusedVariables false
set_option linter.unusedSimpArgs false
namespace Go.Shf
open Go Go.SL Go.Mou Go.Dsk Go.Sm Go.Hrd
def numI (s : Nm) : Int := match namedX s with | none => -1 | some n => n
theorem numI_some {s : Nm} {k : Int} (h : namedX s = some k) : numI s = k := by unfold numI; rw [h]
theorem numI_cases (s : Nm) : numI s = -1 ∨ ∃ k : Nat, k < 10000000000 ∧ s = pre5 ++ digT 10 k := by
  unfold numI
  cases hn : namedX s with
  | none => exact .inl rfl
  | some k =>
    obtain ⟨h1, h2, h3⟩ := named_back hn; exact .inr ⟨k.toNat, by omega, h3.trans (name_dig (by omega))⟩
theorem numI_pre {s : Nm} (h : ¬ (s.length : Int) = 15 ∨ ¬ s.take 5 = pre5) : numI s = -1 := by
  rcases numI_cases s with q | ⟨k, h1, h2⟩
  · exact q
  · exfalso
    subst h2
    rcases h with h | h
    · apply h; rw [List.length_append, digT_len]; rfl
    · apply h; show (pre5 ++ digT 10 k).take pre5.length = pre5; exact List.take_left
theorem numI_bad {s : Nm} {i : Nat} (hi : i < 10) (hc : (s.getD (i + 5) default).toNat < 48 ∨ 57 < (s.getD (i + 5) default).toNat) : numI s = -1 := by
  rcases numI_cases s with q | ⟨k, h1, h2⟩
  · exact q
  · exfalso
    subst h2
    have e : (pre5 ++ digT 10 k).getD (i + 5) default = (digT 10 k).getD i default := by
      simp only [List.getD]; rw [List.getElem?_append_right (by show 5 ≤ i + 5; omega), show i + 5 - pre5.length = i from by show i + 5 - 5 = i; omega]
    rw [e] at hc; have := digT_digits 10 k _ (getD_in (l := digT 10 k) (k := i) (by rw [digT_len]; exact hi)); omega
theorem numI_ok {s : Nm} {n : Nat} (h1 : s.length = 15) (h2 : s.take 5 = pre5) (h3 : ∀ c ∈ s.drop 5, 48 ≤ c.toNat ∧ c.toNat ≤ 57) (h4 : Lib.decFrom 0 (s.drop 5) = some n) : numI s = (n : Int) := by
  have e : s = pre5 ++ s.drop 5 := by rw [← h2]; exact (List.take_append_drop 5 s).symm
  have hl : (s.drop 5).length = 10 := by rw [List.length_drop]; omega
  have hn : s.drop 5 ≠ [] := fun q => by rw [q] at hl; cases hl
  refine numI_some ?_; rw [e]; unfold namedX; rw [pre_trim, if_pos ⟨pre_has _, hl, trim_digs h3⟩, atoi_digits h3 hn, h4]; rfl
theorem dec_app : ∀ (a : List UInt8) (acc : Nat) (c : UInt8) {n : Nat}, Lib.decFrom acc a = some n → 48 ≤ c.toNat ∧ c.toNat ≤ 57 → Lib.decFrom acc (a ++ [c]) = some (10 * n + (c.toNat - 48))
  | [], acc, c, n, h, hc => by
    simp only [Lib.decFrom] at h; cases h; have hd : Lib.digitVal c = some (c.toNat - 48) := if_pos hc; rw [List.nil_append, Lib.decFrom, hd]; show Lib.decFrom _ [] = _; rw [Lib.decFrom, Nat.mul_comm]
  | d :: a, acc, c, n, h, hc => by
    rw [List.cons_append, Lib.decFrom]; rw [Lib.decFrom] at h
    cases hd : Lib.digitVal d with
    | none => rw [hd] at h; cases h
    | some m => rw [hd] at h; simp only at h ⊢; exact dec_app a _ c h hc
theorem dec_next {s : List UInt8} {k n : Nat} (hk : k < s.length) (h : Lib.decFrom 0 (s.take k) = some n) (hc : 48 ≤ (s.getD k default).toNat ∧ (s.getD k default).toNat ≤ 57) : Lib.decFrom 0 (s.take (k + 1)) = some (10 * n + ((s.getD k default).toNat - 48)) := by
  rw [take_succ_getD s k hk]; exact dec_app _ _ _ h hc
theorem dig_next {s : List UInt8} {k : Nat} (hk : k < s.length) (h : ∀ c ∈ s.take k, 48 ≤ c.toNat ∧ c.toNat ≤ 57) (hc : 48 ≤ (s.getD k default).toNat ∧ (s.getD k default).toNat ≤ 57) : ∀ c ∈ s.take (k + 1), 48 ≤ c.toNat ∧ c.toNat ≤ 57 := by
  rw [take_succ_getD s k hk]; intro c hcm
  rcases List.mem_append.1 hcm with q | q
  · exact h c q
  · rw [List.mem_singleton.1 q]; exact hc
theorem dec_bound {n k : Nat} {c : UInt8} (h : n < 10 ^ k) (hk : k ≤ 9) (hc : c.toNat ≤ 57) : 10 * n + (c.toNat - 48) < 10 ^ (k + 1) ∧ n < 1000000000 := by
  have h1 : 10 ^ (k + 1) = 10 ^ k * 10 := Nat.pow_succ ..; have h2 : 10 ^ k ≤ 10 ^ 9 := Nat.pow_le_pow_right (by decide) hk; have h3 : (10 : Nat) ^ 9 = 1000000000 := by decide
  omega
theorem drop5 {s : List UInt8} {k : Nat} : (s.drop 5).getD k default = s.getD (k + 5) default := by
  simp [List.getD, List.getElem?_drop, Nat.add_comm]
theorem dig_at {d : Nat} (h : d < 10) : (digs.take (d + 1)).drop d = [UInt8.ofNat (48 + d)] := by
  have : ∀ e : Fin 10, (digs.take (e.val + 1)).drop e.val = [UInt8.ofNat (48 + e.val)] := by decide
  exact this ⟨d, h⟩
theorem pow_next (i k : Nat) : ((i / 10 ^ k : Nat) : Int) / 10 = ((i / 10 ^ (k + 1) : Nat) : Int) := by
  rw [Nat.pow_succ, ← Nat.div_div_eq_div_mul]; omega
theorem right_gt (i t : Int) : (((decide (0 < i) && decide (0 < t)) && decide (i < 10000000000)) && decide (t < 10000000000)) = rightM i t := by
  unfold rightM; rw [show decide (0 < i) = decide (1 ≤ i) from decide_eq_decide.2 (by omega), show decide (0 < t) = decide (1 ≤ t) from decide_eq_decide.2 (by omega)]
theorem th6_yes {T : RT} {t : Nm} {k : Nat} (hk : k < T.length) (e : (T.getD k default).Name = t) : mhas (rvw T) t = true := by
  refine mhas_iff.2 ?_; rw [rvw_keys, ← e]; exact List.mem_map.2 ⟨_, getD_in hk, rfl⟩
theorem th6_no {T : RT} {t : Nm} (h : ((T.map (·.Name)).take T.length).any (fun n => decide (n = t)) = false) : mhas (rvw T) t = false := by rw [← th_all]; exact h
def leafB (s : Sh) : Prop := s = .n ∨ s = .b
def lrow (l : List Sh) : List UInt8 := 91 :: (l.map wh ++ [93])
theorem lrow_len (l : List Sh) : (lrow l).length = l.length + 2 := by simp [lrow]
theorem lrow_at {l : List Sh} {k : Nat} (hk : k < l.length) : (lrow l).getD (k + 1) default = wh (l.getD k default) := by
  simp only [lrow, List.getD, List.getElem?_cons_succ]; rw [List.getElem?_append_left (by rw [List.length_map]; exact hk)]; simp [hk]
theorem lrow_end (l : List Sh) : (lrow l).getD (l.length + 1) default = 93 := by
  simp only [lrow, List.getD, List.getElem?_cons_succ]; rw [List.getElem?_append_right (by rw [List.length_map]; exact Nat.le_refl _), List.length_map, Nat.sub_self]; rfl
theorem wh_leaf {s : Sh} (h : leafB s) : (wh s).toNat = 110 ∨ (wh s).toNat = 98 := by rcases h with h | h <;> subst h <;> decide
theorem lrow_piece {l : List Sh} {k : Nat} (hk : k < l.length) : ((lrow l).take (k + 1 + 1)).drop (k + 1) = [wh (l.getD k default)] := by
  have h := lrow_at hk; rw [take_succ_getD (lrow l) (k + 1) (by rw [lrow_len]; omega), List.drop_append_of_le_length (by rw [List.length_take, lrow_len]; omega), List.drop_eq_nil_of_le (by rw [List.length_take]; omega), h]; rfl
theorem leaf_getD {l : List Sh} {k : Nat} (h : ∀ s ∈ l, leafB s) (hk : k < l.length) : leafB (l.getD k default) := h _ (getD_in hk)
def takeR (s : Sh) (bs : List UInt8) (k : Nat) : Except Int (PV × Nat) := match takeF s (bs.drop k) with | .error e => .error e | .ok (v, r) => .ok (v, bs.length - r.length)
theorem takeR_n {bs : List UInt8} {k : Nat} (hk : k ≤ bs.length) : ((numR bs k).2.2 = 0 → takeR .n bs k = .ok (.mk (numR bs k).1 [] [], (numR bs k).2.1.toNat)) ∧ ((numR bs k).2.2 ≠ 0 → takeR .n bs k = .error (numR bs k).2.2) := by
  obtain ⟨h1, h2⟩ := numR_is hk; have h3 := numR_bd hk
  constructor
  · intro h; have h4 := h1 h; unfold takeR; simp only [takeF, h4, List.length_drop]
    congr 2; omega
  · intro h; unfold takeR; simp only [takeF, h2 h]
theorem takeR_b {bs : List UInt8} {k : Nat} (hk : k ≤ bs.length) : ((numR bs k).2.2 = 0 → (numR bs k).1 ≤ bs.length - (numR bs k).2.1.toNat → takeR .b bs k = .ok (.mk 0 ((bs.drop (numR bs k).2.1.toNat).take (numR bs k).1) [], (numR bs k).2.1.toNat + (numR bs k).1)) ∧ ((numR bs k).2.2 = 0 → bs.length - (numR bs k).2.1.toNat < (numR bs k).1 → takeR .b bs k = .error 11) ∧ ((numR bs k).2.2 ≠ 0 → takeR .b bs k = .error (numR bs k).2.2) := by
  obtain ⟨h1, h2⟩ := numR_is hk; have h3 := numR_bd hk; refine ⟨fun h hn => ?_, fun h hn => ?_, fun h => ?_⟩
  · have h4 := h1 h; unfold takeR; simp only [takeF, cntT, h4, List.length_drop]; rw [if_neg (by intro q; omega), if_neg (by intro q; cases q.1)]; simp only [List.length_drop]
    congr 2; omega
  · have h4 := h1 h; unfold takeR; simp only [takeF, cntT, h4, List.length_drop]; rw [if_pos ⟨trivial, by omega⟩]
  · unfold takeR; simp only [takeF, cntT, h2 h]
theorem takeR_drop {s : Sh} (hs : leafB s) {bs : List UInt8} {k p : Nat} {v : PV} (hk : k ≤ bs.length) (h : takeR s bs k = .ok (v, p)) : takeF s (bs.drop k) = .ok (v, bs.drop p) := by
  unfold takeR at h
  split at h
  · cases h
  · rename_i w r hr
    cases h
    have hc := leaf_canon hs hr; have e : bs = (bs.take k ++ form s v) ++ r := by rw [List.append_assoc, hc, List.take_append_drop]
    have hl : bs.length = (bs.take k ++ form s v).length + r.length := by
      have := congrArg List.length e; rw [List.length_append] at this; exact this
    rw [hr, show bs.length - r.length = (bs.take k ++ form s v).length from by omega]; have h9 : bs.drop (bs.take k ++ form s v).length = r := (congrArg (List.drop (bs.take k ++ form s v).length) e).trans List.drop_left; rw [h9]
theorem takeR_err {s : Sh} (hs : leafB s) {bs : List UInt8} {k : Nat} {e : Int} (h : takeR s bs k = .error e) : takeF s (bs.drop k) = .error e ∧ e ≠ 0 := by
  unfold takeR at h
  split at h
  · rename_i e' he; cases h; exact ⟨he, leaf_err hs he⟩
  · cases h
theorem row_ok {l : List Sh} {k p q : Nat} {bs : List UInt8} {M : List PV} {x : PV} {a : Nat} (hl : ∀ s ∈ l, leafB s) (hk : k < l.length) (hp : p ≤ bs.length) (h : takes (l.take k) [] (bs.drop a) = .ok (M, bs.drop p)) (he : takeR (l.getD k default) bs p = .ok (x, q)) : takes (l.take (k + 1)) [] (bs.drop a) = .ok (M ++ [x], bs.drop q) :=
  takes_ok_at hk h (takeR_drop (leaf_getD hl hk) hp he)
theorem row_err {l : List Sh} {k p : Nat} {bs : List UInt8} {M : List PV} {e : Int} {a : Nat} (hl : ∀ s ∈ l, leafB s) (hk : k < l.length) (h : takes (l.take k) [] (bs.drop a) = .ok (M, bs.drop p)) (he : takeR (l.getD k default) bs p = .error e) : takeF (.row l) (bs.drop a) = .error e ∧ e ≠ 0 := by
  obtain ⟨h1, h2⟩ := takeR_err (leaf_getD hl hk) he; refine ⟨?_, h2⟩; simp only [takeF, takes_err_at hk h h1]
theorem row_done {l : List Sh} {p : Nat} {bs : List UInt8} {M : List PV} {a : Nat} (h : takes (l.take l.length) [] (bs.drop a) = .ok (M, bs.drop p)) : takeF (.row l) (bs.drop a) = .ok (.mk 0 [] M, bs.drop p) := by
  rw [List.take_length] at h; simp only [takeF, h]
theorem spec0_ent {P : Program} {f : FuncId} {vs : Array Value} {ρ : Hp} {L : List Asn} {R R' : Value → List Asn → Prop} (h : Spec0 P f vs ρ L R) (hm : ∀ v Γ', R v Γ' → ∃ Γ'', Ent Γ' Γ'' ∧ R' v Γ'') : Spec0 P f vs ρ L R' := fun E Δ w s => by
  refine (h E Δ w s).mono ?_; rintro e w' ⟨ρ', v, Γ', l, ⟨h1, h2⟩, h3, s'⟩; obtain ⟨Γ'', e1, e2⟩ := hm _ _ h2; refine ⟨ρ', v, Γ'', l, ⟨h1, e2⟩, h3, ?_⟩; obtain ⟨x, lw, hh, lh, d, st⟩ := s'; obtain ⟨k1, k2, d2, l1, l2, sB, sG⟩ := star_split st; exact ⟨x, lw, hh, lh, d, star_append (e1 _ sB) sG d2 l1 l2⟩
end Go.Shf
