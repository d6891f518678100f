/- part -/
import Derived.Test.YtijldgggjioccaaGreatDoorShfW
set_option linter.unusedVariables false
set_option linter.unusedSimpArgs false
namespace Go.Shf
open Go Go.SL Go.Mou Go.Dsk Go.Sm Go.Hrd
def digT : Nat → Nat → List UInt8
  | 0, _ => []
  | n + 1, i => UInt8.ofNat (48 + i / 10 ^ n % 10) :: digT n i
theorem digT_len : ∀ n i, (digT n i).length = n
  | 0, _ => rfl
  | n + 1, i => by rw [digT, List.length_cons, digT_len n i]
theorem pw_pos (n : Nat) : 0 < 10 ^ n := Nat.pow_pos (by decide)
theorem digT_mod : ∀ (n : Nat) {i j : Nat}, i % 10 ^ n = j % 10 ^ n → digT n i = digT n j
  | 0, _, _, _ => rfl
  | n + 1, i, j, h => by
    have e : ∀ k : Nat, k / 10 ^ n % 10 = k % 10 ^ (n + 1) / 10 ^ n := fun k => by rw [Nat.pow_succ, Nat.mod_mul_right_div_self]
    have e2 : ∀ k : Nat, k % 10 ^ n = k % 10 ^ (n + 1) % 10 ^ n := fun k => (Nat.mod_mod_of_dvd k ⟨10, Nat.pow_succ ..⟩).symm; rw [digT, digT, e i, e j, h, digT_mod n (i := i) (j := j) (by rw [e2 i, e2 j, h])]
theorem digT_snoc : ∀ n i, digT (n + 1) i = digT n (i / 10) ++ [UInt8.ofNat (48 + i % 10)]
  | 0, i => by simp [digT]
  | n + 1, i => by
    rw [digT, digT_snoc n i, digT, List.cons_append, Nat.div_div_eq_div_mul, Nat.pow_succ, Nat.mul_comm (10 ^ n) 10]
theorem digT_zero : ∀ n, digT n 0 = Lib.repeatL [48] n
  | 0 => rfl
  | n + 1 => by
    rw [digT, digT_zero n, Nat.zero_div]; rfl
theorem pad_dig : ∀ (n i : Nat), i < 10 ^ (n + 1) → (Lib.decDigits i).length ≤ n + 1 ∧ Lib.repeatL [48] (n + 1 - (Lib.decDigits i).length) ++ Lib.decDigits i = digT (n + 1) i := by
  intro n
  induction n with
  | zero =>
    intro i h; have h10 : i < 10 := h; have e : Lib.decDigits i = [UInt8.ofNat (48 + i)] := by rw [Lib.decDigits, dif_pos h10]
    rw [e]; refine ⟨Nat.le_refl 1, ?_⟩; rw [digT_snoc, Nat.mod_eq_of_lt h10]; rfl
  | succ n ih =>
    intro i h
    by_cases h10 : i < 10
    · have e : Lib.decDigits i = [UInt8.ofNat (48 + i)] := by rw [Lib.decDigits, dif_pos h10]
      rw [e]; refine ⟨by simp, ?_⟩; rw [digT_snoc, Nat.mod_eq_of_lt h10, Nat.div_eq_of_lt h10, digT_zero]; rfl
    · have e : Lib.decDigits i = Lib.decDigits (i / 10) ++ [UInt8.ofNat (48 + i % 10)] := by rw [Lib.decDigits, dif_neg h10]
      have hp : 10 ^ (n + 1 + 1) = 10 ^ (n + 1) * 10 := Nat.pow_succ ..; obtain ⟨h1, h2⟩ := ih (i / 10) (by omega); rw [e, List.length_append, List.length_singleton]; refine ⟨by omega, ?_⟩; rw [digT_snoc, ← h2, show n + 1 + 1 - ((Lib.decDigits (i / 10)).length + 1) = n + 1 - (Lib.decDigits (i / 10)).length from by omega, List.append_assoc]
theorem name_dig {i : Nat} (h : i < 10000000000) : nameX i = pre5 ++ digT 10 i := by
  unfold nameX; rw [(pad_dig 9 i h).2]
theorem dec_len10 {i : Nat} (h : i < 10000000000) : (Lib.decDigits i).length ≤ 10 := (pad_dig 9 i h).1
theorem dig_val {d : Nat} (h : d < 10) : (UInt8.ofNat (48 + d)).toNat = 48 + d := by rw [UInt8.toNat_ofNat']; omega
theorem digitVal_of {d : Nat} (h : d < 10) : Lib.digitVal (UInt8.ofNat (48 + d)) = some d := by
  unfold Lib.digitVal; rw [dig_val h, if_pos ⟨by omega, by omega⟩, Nat.add_sub_cancel_left]
theorem mod_split (i n : Nat) : i % 10 ^ (n + 1) = i % 10 ^ n + 10 ^ n * (i / 10 ^ n % 10) := Nat.mod_pow_succ
theorem dec_dig : ∀ (n i acc : Nat), Lib.decFrom acc (digT n i) = some (acc * 10 ^ n + i % 10 ^ n)
  | 0, i, acc => by simp [digT, Lib.decFrom, Nat.mod_one]
  | n + 1, i, acc => by
    have hd : i / 10 ^ n % 10 < 10 := Nat.mod_lt _ (by decide); rw [digT, Lib.decFrom, digitVal_of hd]; show Lib.decFrom _ _ = _; rw [dec_dig n i, mod_split, Nat.pow_succ, Nat.add_mul, Nat.mul_assoc, Nat.mul_comm 10 (10 ^ n), Nat.mul_comm (i / 10 ^ n % 10)]
    congr 1; omega
theorem digT_digits : ∀ (n i : Nat), ∀ c ∈ digT n i, 48 ≤ c.toNat ∧ c.toNat ≤ 57
  | 0, i, c, h => by cases h
  | n + 1, i, c, h => by
    have hd : i / 10 ^ n % 10 < 10 := Nat.mod_lt _ (by decide); rw [digT] at h
    rcases List.mem_cons.1 h with h | h
    · rw [h, dig_val hd]; omega
    · exact digT_digits n i c h
theorem trim_digs {s : List UInt8} (h : ∀ c ∈ s, 48 ≤ c.toNat ∧ c.toNat ≤ 57) : Lib.trimS s digs = [] := by
  refine (trim_nil s digs).2 (fun c hc => ?_); obtain ⟨h1, h2⟩ := h c hc; have e : c = UInt8.ofNat c.toNat := (UInt8.ofNat_toNat).symm; have h3 : c.toNat = 48 ∨ c.toNat = 49 ∨ c.toNat = 50 ∨ c.toNat = 51 ∨ c.toNat = 52 ∨ c.toNat = 53 ∨ c.toNat = 54 ∨ c.toNat = 55 ∨ c.toNat = 56 ∨ c.toNat = 57 := by omega
  rw [e]
  rcases h3 with h | h | h | h | h | h | h | h | h | h <;> rw [h] <;> decide
theorem atoi_digits {s : List UInt8} (h : ∀ c ∈ s, 48 ≤ c.toNat ∧ c.toNat ≤ 57) (hn : s ≠ []) : Lib.atoi s = Option.map (fun n : Nat => (n : Int)) (Lib.decFrom 0 s) := by
  cases s with
  | nil => exact absurd rfl hn
  | cons c r =>
    have hc := h c (by simp); have h1 : (c == 45) = false := by rw [beq_eq_false_iff_ne]; rintro rfl; exact absurd hc (by decide)
    have h2 : (c == 43) = false := by rw [beq_eq_false_iff_ne]; rintro rfl; exact absurd hc (by decide)
    unfold Lib.atoi; simp only [h1, h2, Bool.false_eq_true, if_false, Lib.decNat, List.isEmpty_cons]
theorem pre_has (x : List UInt8) : Lib.hasPrefix (pre5 ++ x) pre5 = true := by
  unfold Lib.hasPrefix; exact List.isPrefixOf_iff_prefix.2 (List.prefix_append _ _)
theorem pre_trim (x : List UInt8) : Lib.trimPrefix (pre5 ++ x) pre5 = x := by
  unfold Lib.trimPrefix; rw [if_pos (pre_has x), List.drop_left]
theorem gname_named {i : Nat} (h : i < 10000000000) : namedX (nameX i) = some (i : Int) := by
  rw [name_dig h]; unfold namedX; rw [pre_trim, if_pos ⟨pre_has _, digT_len 10 i, trim_digs (digT_digits 10 i)⟩, atoi_digits (digT_digits 10 i) (by rw [digT]; exact List.cons_ne_nil _ _), dec_dig, Nat.mod_eq_of_lt h]; simp
theorem gname_len {i : Nat} (h : i < 10000000000) : (nameX i).length = 15 := by rw [name_dig h, List.length_append, digT_len]; rfl
theorem digT_lt : ∀ (n : Nat) {i j : Nat}, i % 10 ^ n < j % 10 ^ n → digT n i < digT n j
  | 0, i, j, h => by simp [Nat.mod_one] at h
  | n + 1, i, j, h => by
    have hi : i / 10 ^ n % 10 < 10 := Nat.mod_lt _ (by decide); have hj : j / 10 ^ n % 10 < 10 := Nat.mod_lt _ (by decide); have ri := Nat.mod_lt i (pw_pos n); have rj := Nat.mod_lt j (pw_pos n); rw [mod_split, mod_split] at h; rw [digT, digT, List.cons_lt_cons_iff]
    rcases Nat.lt_trichotomy (i / 10 ^ n % 10) (j / 10 ^ n % 10) with q | q | q
    · exact .inl (by rw [UInt8.lt_iff_toNat_lt, dig_val hi, dig_val hj]; omega)
    · exact .inr ⟨by rw [q], digT_lt n (by rw [q] at h; omega)⟩
    · have := Nat.mul_le_mul_left (10 ^ n) (show j / 10 ^ n % 10 + 1 ≤ i / 10 ^ n % 10 from q); rw [Nat.mul_add, Nat.mul_one] at this; omega
theorem app_lt {a b : List UInt8} : ∀ (p : List UInt8), a < b → p ++ a < p ++ b
  | [], h => h
  | c :: p, h => by rw [List.cons_append, List.cons_append, List.cons_lt_cons_iff]; exact .inr ⟨rfl, app_lt p h⟩
theorem gname_lt {i j : Nat} (h : j < 10000000000) (hij : i < j) : nameX i < nameX j := by
  rw [name_dig h, name_dig (Nat.lt_trans hij h)]; exact app_lt pre5 (digT_lt 10 (by rw [Nat.mod_eq_of_lt (show i < 10 ^ 10 by omega), Nat.mod_eq_of_lt (show j < 10 ^ 10 from h)]; exact hij))
theorem aside_named9 : namedX aside = none := by decide +kernel
theorem gname_aside {i : Nat} (h : i < 10000000000) : nameX i ≠ aside := fun e => by
  have h1 := gname_named h; rw [e, aside_named9] at h1; cases h1
theorem digit_ok {c : UInt8} (h : 48 ≤ c.toNat ∧ c.toNat ≤ 57) : charB c = true := by
  have e : c = UInt8.ofNat c.toNat := (UInt8.ofNat_toNat).symm; have h3 : c.toNat = 48 ∨ c.toNat = 49 ∨ c.toNat = 50 ∨ c.toNat = 51 ∨ c.toNat = 52 ∨ c.toNat = 53 ∨ c.toNat = 54 ∨ c.toNat = 55 ∨ c.toNat = 56 ∨ c.toNat = 57 := by omega
  rw [e]
  rcases h3 with h | h | h | h | h | h | h | h | h | h <;> rw [h] <;> decide
theorem gname_nameB {i : Nat} (h : i < 10000000000) : nameB (nameX i) = true := by
  refine (nameB_iff _).2 ⟨?_, by rw [gname_len h]; decide, fun c hc => ?_⟩
  · intro e; have h1 := gname_len h; rw [e] at h1; cases h1
  · rw [name_dig h] at hc
    rcases List.mem_append.1 hc with hc | hc
    · exact (show ∀ c ∈ pre5, charB c = true by decide) c hc
    · exact digit_ok (digT_digits 10 i c hc)
theorem dig_back : ∀ (s : List UInt8), (∀ c ∈ s, 48 ≤ c.toNat ∧ c.toNat ≤ 57) → ∃ v, v < 10 ^ s.length ∧ s = digT s.length v
  | [], _ => ⟨0, by simp, rfl⟩
  | c :: s, h => by
    obtain ⟨v, h1, h2⟩ := dig_back s (fun d hd => h d (List.mem_cons_of_mem _ hd)); obtain ⟨c1, c2⟩ := h c List.mem_cons_self; have hp : 10 ^ (s.length + 1) = 10 ^ s.length * 10 := Nat.pow_succ ..; have hm : 10 ^ s.length * (c.toNat - 48) ≤ 10 ^ s.length * 9 := Nat.mul_le_mul_left _ (by omega); refine ⟨v + 10 ^ s.length * (c.toNat - 48), by rw [List.length_cons, hp]; omega, ?_⟩
    rw [List.length_cons, digT, Nat.add_mul_div_left _ _ (pw_pos _), Nat.div_eq_of_lt h1, Nat.zero_add, Nat.mod_eq_of_lt (show c.toNat - 48 < 10 by omega), show 48 + (c.toNat - 48) = c.toNat from by omega, UInt8.ofNat_toNat,
      digT_mod s.length (j := v) (by rw [Nat.add_mul_mod_self_left]), ← h2]
theorem named_back {s : Nm} {k : Int} (h : namedX s = some k) : 0 ≤ k ∧ k < 10000000000 ∧ s = nameX k.toNat := by
  unfold namedX at h
  split at h
  · rename_i hc
    obtain ⟨h1, h2, h3⟩ := hc; obtain ⟨x, hx⟩ := List.isPrefixOf_iff_prefix.1 (show pre5.isPrefixOf s = true from h1); subst hx; rw [pre_trim] at h h2 h3; have hd := digs_all h3; obtain ⟨v, v1, v2⟩ := dig_back x hd; rw [h2] at v1 v2; have v3 : v < 10000000000 := v1; subst v2; rw [atoi_digits hd (by rw [digT]; exact List.cons_ne_nil _ _), dec_dig, Nat.mod_eq_of_lt v1] at h; simp at h; subst h; exact ⟨by omega, by omega, by rw [Int.toNat_natCast, name_dig v3]⟩
  · cases h
end Go.Shf
