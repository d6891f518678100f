/-
  Package sum and its reference, walked: what each function returns, and that it leaves memory as it was.
-/
import Derived.Test.YtppngeebdmbeaaaSumP
import Derived.Test.YtppngeebdmbeaaaSlG
import Derived.Test.YtppngeebdmbeaaaProg
set_option maxRecDepth 100000
set_option linter.unusedSimpArgs false
set_option linter.unusedVariables false
namespace Go.Sum
open Go Go.SL Go.Proofs

theorem flat32 (x : BitVec 32) : ([.int .u32 (x.toNat : Int)] : List Value).length = 1 := rfl
/-- a byte slice reads, whatever else there is -/
def RdB (ρ : Hp) (Γ : List Asn) (t : SB) : Prop := ∀ Δ, Rd ρ (Γ ++ Δ) 1 t.a t.bs.length t.cap (t.bs.flatMap encB)
def RdBB (ρ : Hp) (Γ : List Asn) (a : Option Addr) (cap : Nat) (L : List SB) : Prop := (∀ Δ, Rd ρ (Γ ++ Δ) 1 a L.length cap (L.flatMap encS)) ∧ ∀ t ∈ L, RdB ρ Γ t
def w32s (G : List (BitVec 32)) : List Value := G.map fun x => .int .u32 (x.toNat : Int)
theorem w32s_get (G : List (BitVec 32)) (hG : G.length = 32) (k : Nat) (hk : k < 32) : (w32s G)[0 + (k : Int).toNat * 1]? = some (.int .u32 ((G.getD k 0#32).toNat : Int)) := by
  have e : 0 + (k : Int).toNat * 1 = k := by omega
  have hk' : k < G.length := by omega
  rw [e]
  simp [w32s, List.getD, hk']
theorem w32s_set (G : List (BitVec 32)) (hG : G.length = 32) (k : Nat) (hk : k < 32) (x : BitVec 32) : (w32s G).take (0 + (k : Int).toNat * 1) ++ [.int .u32 (x.toNat : Int)] ++ (w32s G).drop (0 + (k : Int).toNat * 1 + 1) = w32s (G.set k x) := by
  have e : 0 + (k : Int).toNat * 1 = k := by omega
  rw [e]
  unfold w32s
  rw [List.set_eq_take_append_cons_drop, if_pos (by omega)]
  simp
/-- a grid that is filled up to k -/
def upTo (f : Nat → BitVec 32) (k : Nat) : List (BitVec 32) := (List.range 32).map fun i => if i < k then f i else 0#32
theorem upTo_len (f : Nat → BitVec 32) (k : Nat) : (upTo f k).length = 32 := by simp [upTo]
theorem upTo_succ (f : Nat → BitVec 32) (k : Nat) (hk : k < 32) : (upTo f k).set k (f k) = upTo f (k + 1) := by
  apply List.ext_getElem?
  intro i
  by_cases hi : i < 32
  · rw [List.getElem?_set]
    by_cases e : k = i
    · subst e; simp [upTo, hk]
    · have : (i < k + 1) = (i < k) := by apply propext; omega
      simp [upTo, hi, e, this]
  · rw [List.getElem?_eq_none (by simp [upTo]; omega), List.getElem?_eq_none (by simp [upTo]; omega)]
theorem upTo_all (m : Nat) (f : Nat → BitVec 32) (h : ∀ i, i < 32 → f i = Zn m (1#32 <<< i)) : upTo f 32 = gridOf m := by
  unfold upTo gridOf
  apply List.map_congr_left
  intro i hi
  have : i < 32 := by simpa using hi
  simp [this, h i this]
/-- how a join stands: so many bytes still, the register, the grid's block, of how many bytes -/
structure JS where
  nn : Nat
  a : BitVec 32
  b : Nat
  m : Nat
theorem join_odd (nn m : Nat) (a : BitVec 32) (h : nn % 2 = 1) : Zn (nn / 2 * (m + m)) (Zn m a) = Zn (nn * m) a := by
  rw [← Zn_add]
  congr 1
  have : nn = 2 * (nn / 2) + 1 := by omega
  calc nn / 2 * (m + m) + m = (2 * (nn / 2) + 1) * m := by rw [Nat.add_mul, Nat.mul_add, Nat.mul_comm 2, Nat.mul_assoc, Nat.two_mul, Nat.mul_add, Nat.one_mul]
    _ = nn * m := by rw [← this]
theorem join_even (nn m : Nat) (h : ¬ nn % 2 = 1) : nn / 2 * (m + m) = nn * m := by
  have : nn = 2 * (nn / 2) := by omega
  calc nn / 2 * (m + m) = (2 * (nn / 2)) * m := by rw [Nat.mul_add, Nat.mul_comm 2, Nat.mul_assoc, Nat.two_mul, Nat.mul_add]
    _ = nn * m := by rw [← this]
/-- four bytes for a sum -/
def fixR (s w : BitVec 32) : BitVec 32 := backBits 32 (~~~ w) ^^^ ~~~ s
def fixB (s w : BitVec 32) : List UInt8 := [UInt8.ofNat (fixR s w).toNat, UInt8.ofNat (fixR s w >>> 8).toNat, UInt8.ofNat (fixR s w >>> 16).toNat, UInt8.ofNat (fixR s w >>> 24).toNat]
theorem backBits_add (k m : Nat) (r : BitVec 32) : backBits (k + m) r = backBits k (backBits m r) := by
  induction k with
  | zero => simp [backBits]
  | succ k ih => rw [Nat.succ_add]; simp only [backBits, ih]
/-- the reference's step: by division -/
theorem half (r : BitVec 32) : (r.toNat : Int) / (2 : Int) = ((r >>> 1).toNat : Int) := by
  rw [BitVec.toNat_ushiftRight, Nat.shiftRight_eq_div_pow]; omega
theorem low_bit (r : BitVec 32) : (r.toNat : Int) % 2 = 1 ↔ r.getLsbD 0 = true := by
  rw [BitVec.getLsbD, Nat.testBit_zero]; simp; omega
theorem ref_odd (r : BitVec 32) (h : (r.toNat : Int) % 2 = 1) : r >>> 1 ^^^ 2197175160#32 = bitStep r := by
  rw [bit_cases, if_pos ((low_bit r).1 h)]
theorem ref_even (r : BitVec 32) (h : ¬ (r.toNat : Int) % 2 = 1) : r >>> 1 = bitStep r := by
  rw [bit_cases, if_neg (fun h' => h ((low_bit r).2 h'))]; simp
theorem not_xor (r : BitVec 32) : r ^^^ 4294967295#32 = ~~~ r := by
  have : (4294967295#32 : BitVec 32) = BitVec.allOnes 32 := by decide
  rw [this, BitVec.xor_allOnes]
theorem rda_nil (ρ : Hp) (Γ : List Asn) : ∀ t ∈ ([] : List SB), RdB ρ Γ t := fun _ h => by cases h
theorem rda {ρ : Hp} {Γ : List Asn} {t : SB} {L : List SB} (h : RdB ρ Γ t) (hL : ∀ t ∈ L, RdB ρ Γ t) : ∀ u ∈ t :: L, RdB ρ Γ u := fun u hu => by
  rcases List.mem_cons.1 hu with rfl | h'
  · exact h
  · exact hL u h'
theorem joinS (m : Nat) (a b : BitVec 32) : joinB a b m = Zn m a ^^^ b := rfl
theorem sel_app (Γ Δ : List Asn) : Sel Γ (Γ ++ Δ) Δ := by
  induction Γ with
  | nil => exact Sel.nil
  | cons A Γ ih => exact Sel.cons Pick.here ih

theorem ag_37 : aggSize Try.prog 37 = some 4 := by kernel_rfl
theorem pl_37 : placesOf Try.prog 37 = some [(0, 1), (1, 1), (2, 1), (3, 1)] := by kernel_rfl
theorem sc_22 : isScalar Try.prog 22 = true := by kernel_rfl
theorem sc_23 : isScalar Try.prog 23 = true := by kernel_rfl
theorem sc_5 : isScalar Try.prog 5 = true := by kernel_rfl
theorem sz_22 : sizeIs Try.prog 22 = some 1 := by kernel_rfl
theorem sz_23 : sizeIs Try.prog 23 = some 1 := by kernel_rfl
theorem sz_37 : sizeIs Try.prog 37 = some 4 := by kernel_rfl
theorem sz_5 : sizeIs Try.prog 5 = some 1 := by kernel_rfl
theorem zc_144 : zeroCs Try.prog 144 = some [.int .u32 0, .int .u32 0, .int .u32 0, .int .u32 0, .int .u32 0, .int .u32 0, .int .u32 0, .int .u32 0, .int .u32 0, .int .u32 0, .int .u32 0, .int .u32 0, .int .u32 0, .int .u32 0, .int .u32 0, .int .u32 0, .int .u32 0, .int .u32 0, .int .u32 0, .int .u32 0, .int .u32 0, .int .u32 0, .int .u32 0, .int .u32 0, .int .u32 0, .int .u32 0, .int .u32 0, .int .u32 0, .int .u32 0, .int .u32 0, .int .u32 0, .int .u32 0] := by kernel_rfl
theorem zc_37 : zeroCs Try.prog 37 = some [.int .u8 0, .int .u8 0, .int .u8 0, .int .u8 0] := by kernel_rfl

theorem step_spec (r : BitVec 32) (c : UInt8) (ρ : Hp) : Spec0 Try.prog 50 #[.int .u32 (r.toNat : Int), .int .u8 (c.toNat : Int)] ρ [] (fun v Γ' => v = .int .u32 ((stepB r c).toNat : Int) ∧ Γ' = []) := by
  have hc : IntKind.wrap .u32 (c.toNat : Int) = c.toNat := wrap_u32 (by omega) (by have := c.toNat_lt; omega)
  have hc2 : (c.toNat : Int) = ((c.toBitVec.setWidth 32).toNat : Int) := by
    have := c.toNat_lt
    rw [BitVec.toNat_setWidth, Nat.mod_eq_of_lt (by show c.toNat < _; omega)]; rfl
  refine spec_of (n := 20) (vs := [_, _]) (σ := [(0, _), (1, _)]) Try.func50 rfl rfl rfl rfl fun E Δ => ?_
  rw [List.nil_append]
  refine c_seq ?_
  refine c_region ?_
  refine l_step (s_q rfl wn (q_assign rfl) ?_)
  refine l_nil ?_
  refine k_then_n ?_
  refine c_seq ?_
  refine c_region ?_
  refine l_step (s_q rfl wn (q_move rfl) ?_)
  refine l_step (s_q rfl wn (q_move rfl) ?_)
  refine l_step (s_q rfl wn (by first | exact q_conv rfl Try.underlying5 Try.underlying23 (by assumption) | exact q_conv rfl Try.underlying5 Try.underlying23 (wrap_u32 (by omega) (by omega)) | exact q_convw rfl Try.underlying5 Try.underlying23) ?_)
  refine l_step (s_q rfl wn (q32_xor (q := c.toBitVec.setWidth 32) rfl rfl rfl hc2) ?_)
  refine l_step (s_q rfl wn (q_assign rfl) ?_)
  refine l_nil ?_
  refine k_then_n ?_
  refine c_seq ?_
  refine c_seq ?_
  refine c_region ?_
  refine l_step (s_q rfl wn (q_move rfl) ?_)
  refine l_nil ?_
  refine k_then_n ?_
  refine c_block ?_
  refine t_loop (ι := Nat) (fun k => k ≤ 8) (fun k => 8 - k) (fun k => [(0, .int .u32 ((bitSteps k (r ^^^ c.toBitVec.setWidth 32)).toNat : Int)), (9, .int .i64 (k : Int))]) (fun k => Δ) 0 (by omega) ?_ ?_ ?_
  · exact .cons rfl (by first | rfl | (simp; done) | simp [*]) (.cons rfl (by first | rfl | (simp; done) | simp [*]) (.nil _))
  · exact (by repeat (first | exact Ent.nil _ | exact Ent.refl _ | (refine Ent.pick (by repeat (first | exact Pick.here | apply Pick.there)) ?_) | refine Ent.skip ?_))
  intro k hk
  refine c_seq ?_
  refine c_region ?_
  refine l_step (s_q rfl wn (q_lss rfl rfl) ?_)
  refine l_nil ?_
  refine k_then_n ?_
  refine c_seq ?_
  first | refine c_if rfl (fun h0 => ?_) (fun h0 => ?_) | refine c_cond rfl (fun h0 => ?_) (fun h0 => ?_)
  · skip
    refine c_skip ?_
    refine k_then_n ?_
    refine c_seq ?_
    refine c_block ?_
    refine c_region ?_
    refine l_step (s_q rfl wn (q_move rfl) ?_)
    refine l_step (s_q rfl wn (q32_shr (m := 1) rfl rfl rfl rfl (by omega)) ?_)
    refine l_step (s_q rfl wn (q_move rfl) ?_)
    refine l_step (s_q rfl wn (q32_and (q := 1#32) rfl rfl rfl rfl) ?_)
    refine l_step (s_q rfl wn (q32_neg rfl rfl) ?_)
    refine l_step (s_q rfl wn (q32_and (p := 2197175160#32) rfl rfl rfl rfl) ?_)
    refine l_step (s_q rfl wn (q32_xor rfl rfl rfl rfl) ?_)
    refine l_step (s_q rfl wn (q_assign rfl) ?_)
    refine l_nil ?_
    refine k_blk_n ?_
    refine k_then_n ?_
    refine c_region ?_
    refine l_step (s_q rfl wn (by first | exact q_add rfl rfl (by omega) (by omega) | exact q_addw rfl rfl) ?_)
    refine l_step (s_q rfl wn (q_move rfl) ?_)
    refine l_nil ?_
    refine k_then_n ?_
    exact t_next (k + 1) (by omega) (.cons rfl (by first | rfl | (simp; done) | simp [*]) (.cons rfl (by first | rfl | (simp; done) | simp [*]) (.nil _))) (by repeat (first | exact Ent.nil _ | exact Ent.refl _ | (refine Ent.pick (by repeat (first | exact Pick.here | apply Pick.there)) ?_) | refine Ent.skip ?_))
  · skip
    obtain rfl : k = 8 := by omega
    refine c_exit ?_
    refine k_then_x ?_
    refine k_then_x ?_
    refine k_blk_x ?_
    refine k_then_n ?_
    refine c_seq ?_
    refine c_region ?_
    refine l_step (s_q rfl wn (q_move rfl) ?_)
    refine l_step (s_q rfl wn (q_assign rfl) ?_)
    refine l_nil ?_
    refine k_then_n ?_
    refine c_ret ?_
    exact t_ret [] rfl (.tmp rfl .nil) rfl (Hp.le_refl _) ⟨rfl, rfl, rfl⟩ (by (repeat refine Ent.skip ?_); exact Ent.refl _)

theorem more_spec (s : BitVec 32) (a : Option Addr) (cap : Nat) (L : List SB) (ρ : Hp) (Γ : List Asn) (hL : L.length ≤ 1000000000) (hl : ∀ t ∈ L, t.bs.length ≤ 1000000000000) (h : RdBB ρ Γ a cap L) : Spec0 Try.prog 17 #[.int .u32 (s.toNat : Int), .slice a L.length cap] ρ Γ (fun v Γ' => v = .int .u32 ((moreB s (L.flatMap SB.bs)).toNat : Int) ∧ Γ = Γ') := by
  refine spec_of (n := 31) (vs := [_, _]) (σ := [(0, _), (1, _)]) Try.func17 rfl rfl rfl rfl fun E Δ => ?_
  have rd := h.1 Δ
  refine c_seq ?_
  refine c_region ?_
  refine l_step (s_q rfl wn (q_assign rfl) ?_)
  refine l_nil ?_
  refine k_then_n ?_
  refine c_seq ?_
  refine c_region ?_
  refine l_step (s_q rfl wn (q_move rfl) ?_)
  refine l_step (s_q rfl wn (q32_compl rfl rfl) ?_)
  refine l_step (s_q rfl wn (q_assign rfl) ?_)
  refine l_nil ?_
  refine k_then_n ?_
  refine c_seq ?_
  refine c_seq ?_
  refine c_region ?_
  refine l_step (s_q rfl wn (q_move rfl) ?_)
  refine l_step (s_q rfl wn (q_len Try.underlying32 rfl) ?_)
  refine l_step (s_q rfl wn (q_move rfl) ?_)
  refine l_nil ?_
  refine k_then_n ?_
  refine c_block ?_
  refine t_loop (ι := Nat) (fun k => k ≤ L.length) (fun k => L.length - k) (fun k => [(5, .int .u32 ((crcR (~~~ s) ((L.take k).flatMap SB.bs)).toNat : Int)), (12, .slice a L.length cap), (13, .int .i64 (L.length : Int)), (14, .int .i64 (k : Int))]) (fun k => Γ ++ Δ) 0 (by omega) ?_ ?_ ?_
  · exact .cons rfl (by first | rfl | (simp; done) | simp [*]) (.cons rfl (by first | rfl | (simp; done) | simp [*]) (.cons rfl (by first | rfl | (simp; done) | simp [*]) (.cons rfl (by first | rfl | (simp; done) | simp [*]) (.nil _))))
  · exact (by repeat (first | exact Ent.nil _ | exact Ent.refl _ | (refine Ent.pick (by repeat (first | exact Pick.here | apply Pick.there)) ?_) | refine Ent.skip ?_))
  intro k hk
  refine c_seq ?_
  refine c_region ?_
  refine l_step (s_q rfl wn (q_lss rfl rfl) ?_)
  refine l_nil ?_
  refine k_then_n ?_
  refine c_seq ?_
  first | refine c_if rfl (fun h0 => ?_) (fun h0 => ?_) | refine c_cond rfl (fun h0 => ?_) (fun h0 => ?_)
  · skip
    have hk2 : k < L.length := by omega
    have rdk := h.2 _ (getD_mem L k hk2) Δ
    have hlk := hl _ (getD_mem L k hk2)
    refine c_skip ?_
    refine k_then_n ?_
    refine c_seq ?_
    refine c_block ?_
    refine c_seq ?_
    refine c_region ?_
    refine l_step (s_q rfl wn (q_indexe _ Try.underlying32 sz_22 rfl rfl (by first | assumption | exact rd_ro (by assumption) | exact rd_row (by repeat (first | exact Pick.here | apply Pick.there))) (by decide) rfl (by first | assumption | omega)) ?_)
    refine l_step (s_q rfl wn (by first | exact q_loadp sc_22 rfl (by repeat (first | exact Pick.here | apply Pick.there)) rfl | exact q_loade sc_22 rfl (by first | assumption | exact rd_ro (by assumption) | exact rd_row (by repeat (first | exact Pick.here | apply Pick.there))) (fun _ => rfl) (by first | assumption | omega) (by decide) rfl) ?_)
    refine l_step (s_q rfl wn (q_assign rfl) ?_)
    refine l_nil ?_
    refine k_then_n ?_
    refine c_seq ?_
    refine c_region ?_
    refine l_step (s_q rfl wn (q_move rfl) ?_)
    refine l_step (s_q rfl wn (q_len Try.underlying22 rfl) ?_)
    refine l_step (s_q rfl wn (q_move rfl) ?_)
    refine l_nil ?_
    refine k_then_n ?_
    refine c_block ?_
    refine t_loop (ι := Nat) (fun j => j ≤ (L.getD k default).bs.length) (fun j => (L.getD k default).bs.length - j) (fun j => [(5, .int .u32 ((crcR (crcR (~~~ s) ((L.take k).flatMap SB.bs)) ((L.getD k default).bs.take j)).toNat : Int)), (12, .slice a L.length cap), (13, .int .i64 (L.length : Int)), (14, .int .i64 (k : Int)), (18, .slice (L.getD k default).a (L.getD k default).bs.length (L.getD k default).cap), (19, .int .i64 ((L.getD k default).bs.length : Int)), (20, .int .i64 (j : Int))]) (fun j => Γ ++ Δ) 0 (by omega) ?_ ?_ ?_
    · exact .cons rfl (by first | rfl | (simp; done) | simp [*]) (.cons rfl (by first | rfl | (simp; done) | simp [*]) (.cons rfl (by first | rfl | (simp; done) | simp [*]) (.cons rfl (by first | rfl | (simp; done) | simp [*]) (.cons rfl (by first | rfl | (simp; done) | simp [*]) (.cons rfl (by first | rfl | (simp; done) | simp [*]) (.cons rfl (by first | rfl | (simp; done) | simp [*]) (.nil _)))))))
    · exact (by repeat (first | exact Ent.nil _ | exact Ent.refl _ | (refine Ent.pick (by repeat (first | exact Pick.here | apply Pick.there)) ?_) | refine Ent.skip ?_))
    intro j hj
    refine c_seq ?_
    refine c_region ?_
    refine l_step (s_q rfl wn (q_lss rfl rfl) ?_)
    refine l_nil ?_
    refine k_then_n ?_
    refine c_seq ?_
    first | refine c_if rfl (fun h1 => ?_) (fun h1 => ?_) | refine c_cond rfl (fun h1 => ?_) (fun h1 => ?_)
    · skip
      have hj2 : j < (L.getD k default).bs.length := by omega
      refine c_skip ?_
      refine k_then_n ?_
      refine c_seq ?_
      refine c_block ?_
      refine c_seq ?_
      refine c_region ?_
      refine l_step (s_q rfl wn (q_indexe _ Try.underlying22 sz_5 rfl rfl (by first | assumption | exact rd_ro (by assumption) | exact rd_row (by repeat (first | exact Pick.here | apply Pick.there))) (by decide) rfl (by first | assumption | omega)) ?_)
      refine l_step (s_q rfl wn (by first | exact q_loadp sc_5 rfl (by repeat (first | exact Pick.here | apply Pick.there)) rfl | exact q_loade sc_5 rfl (by first | assumption | exact rd_ro (by assumption) | exact rd_row (by repeat (first | exact Pick.here | apply Pick.there))) (fun _ => rfl) (by first | assumption | omega) (by decide) rfl) ?_)
      refine l_step (s_q rfl wn (q_assign rfl) ?_)
      refine l_nil ?_
      refine k_then_n ?_
      refine c_region ?_
      refine l_step (s_q rfl wn (q_move rfl) ?_)
      refine l_step (s_q rfl wn (q_move rfl) ?_)
      refine l_step (s_fn rfl wn Try.func50 rfl (by kernel_rfl) rfl (step_spec _ _ ρ) (by repeat (first | exact Sel.nil | exact Pick.here | apply Sel.cons | apply Pick.there)) ?_)
      rintro _ _ _ - ⟨rfl, rfl, rfl⟩
      try simp only [List.cons_append, List.nil_append]
      refine l_step (s_q rfl wn (q_assign rfl) ?_)
      refine l_nil ?_
      refine k_blk_n ?_
      refine k_then_n ?_
      refine c_region ?_
      refine l_step (s_q rfl wn (by first | exact q_add rfl rfl (by omega) (by omega) | exact q_addw rfl rfl) ?_)
      refine l_step (s_q rfl wn (q_move rfl) ?_)
      refine l_nil ?_
      refine k_then_n ?_
      exact t_next (j + 1) (by omega) (.cons rfl (u32e (crcR_succ _ _ _ hj2).symm) (.cons rfl (by first | rfl | (simp; done) | simp [*]) (.cons rfl (by first | rfl | (simp; done) | simp [*]) (.cons rfl (by first | rfl | (simp; done) | simp [*]) (.cons rfl (by first | rfl | (simp; done) | simp [*]) (.cons rfl (by first | rfl | (simp; done) | simp [*]) (.cons rfl (by first | rfl | (simp; done) | simp [*]) (.nil _)))))))) (by repeat (first | exact Ent.nil _ | exact Ent.refl _ | (refine Ent.pick (by repeat (first | exact Pick.here | apply Pick.there)) ?_) | refine Ent.skip ?_))
    · skip
      obtain rfl : j = (L.getD k default).bs.length := by omega
      refine c_exit ?_
      refine k_then_x ?_
      refine k_then_x ?_
      refine k_blk_x ?_
      refine k_blk_n ?_
      refine k_then_n ?_
      refine c_region ?_
      refine l_step (s_q rfl wn (by first | exact q_add rfl rfl (by omega) (by omega) | exact q_addw rfl rfl) ?_)
      refine l_step (s_q rfl wn (q_move rfl) ?_)
      refine l_nil ?_
      refine k_then_n ?_
      exact t_next (k + 1) (by omega) (.cons rfl (u32e (by rw [flat_take_succ _ _ _ hk2, crcR_append, List.take_of_length_le (Nat.le_refl _)])) (.cons rfl (by first | rfl | (simp; done) | simp [*]) (.cons rfl (by first | rfl | (simp; done) | simp [*]) (.cons rfl (by first | rfl | (simp; done) | simp [*]) (.nil _))))) (by repeat (first | exact Ent.nil _ | exact Ent.refl _ | (refine Ent.pick (by repeat (first | exact Pick.here | apply Pick.there)) ?_) | refine Ent.skip ?_))
  · skip
    obtain rfl : k = L.length := by omega
    rw [List.take_length]
    refine c_exit ?_
    refine k_then_x ?_
    refine k_then_x ?_
    refine k_blk_x ?_
    refine k_then_n ?_
    refine c_seq ?_
    refine c_region ?_
    refine l_step (s_q rfl wn (q_move rfl) ?_)
    refine l_step (s_q rfl wn (q32_compl rfl rfl) ?_)
    refine l_step (s_q rfl wn (q_assign rfl) ?_)
    refine l_nil ?_
    refine k_then_n ?_
    refine c_ret ?_
    exact t_ret Γ rfl (.tmp rfl .nil) rfl (Hp.le_refl _) ⟨rfl, rfl, rfl⟩ (by (repeat refine Ent.skip ?_); exact Ent.refl _)

theorem of_spec (a : Option Addr) (cap : Nat) (L : List SB) (ρ : Hp) (Γ : List Asn) (hL : L.length ≤ 1000000000) (hl : ∀ t ∈ L, t.bs.length ≤ 1000000000000) (h : RdBB ρ Γ a cap L) : Spec0 Try.prog 15 #[.slice a L.length cap] ρ Γ (fun v Γ' => v = .int .u32 ((sumB (L.flatMap SB.bs)).toNat : Int) ∧ Γ = Γ') := by
  refine spec_of (n := 5) (vs := [_]) (σ := [(0, _)]) Try.func15 rfl rfl rfl rfl fun E Δ => ?_
  refine c_seq ?_
  refine c_region ?_
  refine l_step (s_q rfl wn (q_assign rfl) ?_)
  refine l_nil ?_
  refine k_then_n ?_
  refine c_seq ?_
  refine c_region ?_
  refine l_step (s_q rfl wn (q_move rfl) ?_)
  refine l_step (s_fn rfl wn Try.func17 rfl (by kernel_rfl) rfl (more_spec 0#32 a cap L ρ Γ hL hl h) (sel_app Γ Δ) ?_)
  rintro _ _ _ - ⟨rfl, rfl, rfl⟩
  refine l_step (s_q rfl wn (q_assign rfl) ?_)
  refine l_nil ?_
  refine k_then_n ?_
  refine c_ret ?_
  exact t_ret Γ rfl (.tmp rfl .nil) rfl (Hp.le_refl _) ⟨rfl, rfl, rfl⟩ (by (repeat refine Ent.skip ?_); exact Ent.refl _)

theorem fits_spec (w : BitVec 32) (a : Option Addr) (cap : Nat) (L : List SB) (ρ : Hp) (Γ : List Asn) (hL : L.length ≤ 1000000000) (hl : ∀ t ∈ L, t.bs.length ≤ 1000000000000) (h : RdBB ρ Γ a cap L) : Spec0 Try.prog 18 #[.int .u32 (w.toNat : Int), .slice a L.length cap] ρ Γ (fun v Γ' => v = .bool (decide (((sumB (L.flatMap SB.bs)).toNat : Int) = (w.toNat : Int))) ∧ Γ = Γ') := by
  refine spec_of (n := 9) (vs := [_, _]) (σ := [(0, _), (1, _)]) Try.func18 rfl rfl rfl rfl fun E Δ => ?_
  refine c_seq ?_
  refine c_region ?_
  refine l_step (s_q rfl wn (q_assign rfl) ?_)
  refine l_nil ?_
  refine k_then_n ?_
  refine c_seq ?_
  refine c_region ?_
  refine l_step (s_q rfl wn (q_move rfl) ?_)
  refine l_step (s_fn rfl wn Try.func15 rfl (by kernel_rfl) rfl (of_spec a cap L ρ Γ hL hl h) (sel_app Γ Δ) ?_)
  rintro _ _ _ - ⟨rfl, rfl, rfl⟩
  refine l_step (s_q rfl wn (q_move rfl) ?_)
  refine l_step (s_q rfl wn (q_eql rfl rfl) ?_)
  refine l_step (s_q rfl wn (q_assign rfl) ?_)
  refine l_nil ?_
  refine k_then_n ?_
  refine c_ret ?_
  exact t_ret Γ rfl (.tmp rfl .nil) rfl (Hp.le_refl _) ⟨rfl, rfl, rfl⟩ (by (repeat refine Ent.skip ?_); exact Ent.refl _)

theorem times_spec (b : Nat) (G : List (BitVec 32)) (hG : G.length = 32) (r : BitVec 32) (ρ : Hp) : Spec0 Try.prog 52 #[.pointer (some ⟨b, 0, none⟩), .int .u32 (r.toNat : Int)] ρ [.pts b (w32s G) 144] (fun v Γ' => v = .int .u32 ((timesTo (fun i => G.getD i 0#32) r 32).toNat : Int) ∧ Γ' = [.pts b (w32s G) 144]) := by
  refine spec_of (n := 24) (vs := [_, _]) (σ := [(0, _), (1, _)]) Try.func52 rfl rfl rfl rfl fun E Δ => ?_
  simp only [List.cons_append, List.nil_append]
  refine c_seq ?_
  refine c_region ?_
  refine l_step (s_q rfl wn (q_assign rfl) ?_)
  refine l_nil ?_
  refine k_then_n ?_
  refine c_seq ?_
  refine c_region ?_
  refine l_step (s_q rfl wn (q_assign rfl) ?_)
  refine l_nil ?_
  refine k_then_n ?_
  refine c_seq ?_
  refine c_seq ?_
  refine c_region ?_
  refine l_step (s_q rfl wn (q_move rfl) ?_)
  refine l_nil ?_
  refine k_then_n ?_
  refine c_block ?_
  refine t_loop (ι := Nat) (fun k => k ≤ 32) (fun k => 32 - k) (fun k => [(0, .pointer (some ⟨b, 0, none⟩)), (1, .int .u32 (r.toNat : Int)), (5, .int .u32 ((timesTo (fun i => G.getD i 0#32) r k).toNat : Int)), (7, .int .i64 (k : Int))]) (fun k => .pts b (w32s G) 144 :: Δ) 0 (by omega) ?_ ?_ ?_
  · exact .cons rfl (by first | rfl | (simp; done) | simp [*]) (.cons rfl (by first | rfl | (simp; done) | simp [*]) (.cons rfl (by first | rfl | (simp; done) | simp [*]) (.cons rfl (by first | rfl | (simp; done) | simp [*]) (.nil _))))
  · exact (by repeat (first | exact Ent.nil _ | exact Ent.refl _ | (refine Ent.pick (by repeat (first | exact Pick.here | apply Pick.there)) ?_) | refine Ent.skip ?_))
  intro k hk
  refine c_seq ?_
  refine c_region ?_
  refine l_step (s_q rfl wn (q_lss rfl rfl) ?_)
  refine l_nil ?_
  refine k_then_n ?_
  refine c_seq ?_
  first | refine c_if rfl (fun h0 => ?_) (fun h0 => ?_) | refine c_cond rfl (fun h0 => ?_) (fun h0 => ?_)
  · skip
    refine c_skip ?_
    refine k_then_n ?_
    refine c_seq ?_
    refine c_block ?_
    refine c_seq ?_
    refine c_region ?_
    refine l_step (s_q rfl wn (q_move rfl) ?_)
    refine l_step (s_q rfl wn (q_assign rfl) ?_)
    refine l_nil ?_
    refine k_then_n ?_
    refine c_seq ?_
    refine c_region ?_
    refine l_step (s_q rfl wn (q_move rfl) ?_)
    refine l_step (s_q rfl wn (q_move rfl) ?_)
    refine l_step (s_q rfl wn (q32_shr (m := k) rfl rfl rfl rfl (by omega)) ?_)
    refine l_step (s_q rfl wn (q32_and (q := 1#32) rfl rfl rfl rfl) ?_)
    refine l_step (s_q rfl wn (q_eql rfl rfl) ?_)
    refine l_nil ?_
    refine k_then_n ?_
    first | refine c_if rfl (fun h1 => ?_) (fun h1 => ?_) | refine c_cond rfl (fun h1 => ?_) (fun h1 => ?_)
    · skip
      refine c_region ?_
      refine l_step (s_q rfl wn (q_move rfl) ?_)
      refine l_step (s_q rfl wn (q_move rfl) ?_)
      refine l_step (s_q rfl wn (q_move rfl) ?_)
      refine l_step (s_q rfl wn (q_nilCheck rfl) ?_)
      refine l_step (s_q rfl wn (q_indexp Try.underlying144 sz_23 rfl rfl (by omega) (by omega)) ?_)
      refine l_step (s_q rfl wn (q_loadp sc_23 rfl (by repeat (first | exact Pick.here | apply Pick.there)) (w32s_get G hG k (by omega))) ?_)
      refine l_step (s_q rfl wn (q32_xor rfl rfl rfl rfl) ?_)
      refine l_step (s_q rfl wn (q_assign rfl) ?_)
      refine l_nil ?_
      refine k_blk_n ?_
      refine k_then_n ?_
      refine c_region ?_
      refine l_step (s_q rfl wn (by first | exact q_add rfl rfl (by omega) (by omega) | exact q_addw rfl rfl) ?_)
      refine l_step (s_q rfl wn (q_move rfl) ?_)
      refine l_nil ?_
      refine k_then_n ?_
      exact t_next (k + 1) (by omega) (.cons rfl (by first | rfl | (simp; done) | simp [*]) (.cons rfl (by first | rfl | (simp; done) | simp [*]) (.cons rfl (u32e (by rw [timesTo, if_pos h1])) (.cons rfl (by first | rfl | (simp; done) | simp [*]) (.nil _))))) (by repeat (first | exact Ent.nil _ | exact Ent.refl _ | (refine Ent.pick (by repeat (first | exact Pick.here | apply Pick.there)) ?_) | refine Ent.skip ?_))
    · skip
      refine c_skip ?_
      refine k_blk_n ?_
      refine k_then_n ?_
      refine c_region ?_
      refine l_step (s_q rfl wn (by first | exact q_add rfl rfl (by omega) (by omega) | exact q_addw rfl rfl) ?_)
      refine l_step (s_q rfl wn (q_move rfl) ?_)
      refine l_nil ?_
      refine k_then_n ?_
      exact t_next (k + 1) (by omega) (.cons rfl (by first | rfl | (simp; done) | simp [*]) (.cons rfl (by first | rfl | (simp; done) | simp [*]) (.cons rfl (u32e (by rw [timesTo, if_neg h1])) (.cons rfl (by first | rfl | (simp; done) | simp [*]) (.nil _))))) (by repeat (first | exact Ent.nil _ | exact Ent.refl _ | (refine Ent.pick (by repeat (first | exact Pick.here | apply Pick.there)) ?_) | refine Ent.skip ?_))
  · skip
    obtain rfl : k = 32 := by omega
    refine c_exit ?_
    refine k_then_x ?_
    refine k_then_x ?_
    refine k_blk_x ?_
    refine k_then_n ?_
    refine c_seq ?_
    refine c_region ?_
    refine l_step (s_q rfl wn (q_move rfl) ?_)
    refine l_step (s_q rfl wn (q_assign rfl) ?_)
    refine l_nil ?_
    refine k_then_n ?_
    refine c_ret ?_
    exact t_ret [_] rfl (.tmp rfl .nil) rfl (Hp.le_refl _) ⟨rfl, rfl, rfl⟩ (by repeat (first | exact Ent.nil _ | exact Ent.refl _ | (refine Ent.pick (by repeat (first | exact Pick.here | apply Pick.there)) ?_) | refine Ent.skip ?_))

theorem twice_spec (b m : Nat) (ρ : Hp) : Spec0 Try.prog 53 #[.pointer (some ⟨b, 0, none⟩)] ρ [.pts b (w32s (gridOf m)) 144] (fun v Γ' => ∃ b', v = .pointer (some ⟨b', 0, none⟩) ∧ Γ' = [.pts b' (w32s (gridOf (m + m))) 144]) := by
  refine spec_of (n := 18) (vs := [_]) (σ := [(0, _)]) Try.func53 rfl rfl rfl rfl fun E Δ => ?_
  simp only [List.cons_append, List.nil_append]
  refine c_seq ?_
  refine c_region ?_
  refine l_step (s_q rfl wn (q_assign rfl) ?_)
  refine l_nil ?_
  refine k_then_n ?_
  refine c_seq ?_
  refine c_region ?_
  refine l_step (s_s rfl wn (s_allocz zc_144) ?_)
  rintro _ _ ⟨b3, rfl, rfl⟩
  refine l_nil ?_
  refine k_then_n ?_
  refine c_seq ?_
  refine c_seq ?_
  refine c_region ?_
  refine l_step (s_q rfl wn (q_move rfl) ?_)
  refine l_nil ?_
  refine k_then_n ?_
  refine c_block ?_
  refine t_loop (ι := Nat) (fun k => k ≤ 32) (fun k => 32 - k) (fun k => [(0, .pointer (some ⟨b, 0, none⟩)), (3, .pointer (some ⟨b3, 0, none⟩)), (5, .int .i64 (k : Int))]) (fun k => .pts b3 (w32s (upTo (fun i => Zn m ((gridOf m).getD i 0#32)) k)) 144 :: .pts b (w32s (gridOf m)) 144 :: Δ) 0 (by omega) ?_ ?_ ?_
  · exact .cons rfl (by first | rfl | (simp; done) | simp [*]) (.cons rfl (by first | rfl | (simp; done) | simp [*]) (.cons rfl (by first | rfl | (simp; done) | simp [*]) (.nil _)))
  · exact Ent.refl _
  intro k hk
  refine c_seq ?_
  refine c_region ?_
  refine l_step (s_q rfl wn (q_lss rfl rfl) ?_)
  refine l_nil ?_
  refine k_then_n ?_
  refine c_seq ?_
  first | refine c_if rfl (fun h0 => ?_) (fun h0 => ?_) | refine c_cond rfl (fun h0 => ?_) (fun h0 => ?_)
  · skip
    refine c_skip ?_
    refine k_then_n ?_
    refine c_seq ?_
    refine c_block ?_
    refine c_seq ?_
    refine c_region ?_
    refine l_step (s_q rfl wn (q_move rfl) ?_)
    refine l_step (s_q rfl wn (q_assign rfl) ?_)
    refine l_nil ?_
    refine k_then_n ?_
    refine c_region ?_
    refine l_step (s_q rfl wn (q_move rfl) ?_)
    refine l_step (s_q rfl wn (q_move rfl) ?_)
    refine l_step (s_q rfl wn (q_move rfl) ?_)
    refine l_step (s_q rfl wn (q_move rfl) ?_)
    refine l_step (s_q rfl wn (q_nilCheck rfl) ?_)
    refine l_step (s_q rfl wn (q_indexp Try.underlying144 sz_23 rfl rfl (by omega) (by omega)) ?_)
    refine l_step (s_q rfl wn (q_loadp sc_23 rfl (by repeat (first | exact Pick.here | apply Pick.there)) (w32s_get _ (gridOf_len m) k (by omega))) ?_)
    refine l_step (s_fn rfl wn Try.func52 rfl (by kernel_rfl) rfl (times_spec _ _ (gridOf_len m) _ ρ) (by repeat (first | exact Sel.nil | exact Pick.here | apply Sel.cons | apply Pick.there)) ?_)
    rintro _ _ _ - ⟨rfl, rfl, rfl⟩
    try simp only [List.cons_append, List.nil_append]
    refine l_step (s_q rfl wn (q_indexp Try.underlying144 sz_23 rfl rfl (by omega) (by omega)) ?_)
    refine l_step (s_s0 wn (s_storep rfl rfl rfl sz_23 (by simp [Value.oneCell']) (by simp [w32s, upTo]; omega) ((w32s_set _ (upTo_len _ _) k (by omega) _).trans (by rw [grid_times, upTo_succ (fun i => Zn m ((gridOf m).getD i 0#32)) k (by omega)])) (by repeat (first | exact Pick.here | apply Pick.there))) ?_)
    rintro _ _ ⟨rfl, rfl⟩
    refine l_nil ?_
    refine k_blk_n ?_
    refine k_then_n ?_
    refine c_region ?_
    refine l_step (s_q rfl wn (by first | exact q_add rfl rfl (by omega) (by omega) | exact q_addw rfl rfl) ?_)
    refine l_step (s_q rfl wn (q_move rfl) ?_)
    refine l_nil ?_
    refine k_then_n ?_
    exact t_next (k + 1) (by omega) (.cons rfl (by first | rfl | (simp; done) | simp [*]) (.cons rfl (by first | rfl | (simp; done) | simp [*]) (.cons rfl (by first | rfl | (simp; done) | simp [*]) (.nil _)))) (by repeat (first | exact Ent.nil _ | exact Ent.refl _ | (refine Ent.pick (by repeat (first | exact Pick.here | apply Pick.there)) ?_) | refine Ent.skip ?_))
  · skip
    obtain rfl : k = 32 := by omega
    rw [upTo_all (m + m) _ (fun i hi => by rw [gridOf_get m i hi, ← Zn_add])]
    refine c_exit ?_
    refine k_then_x ?_
    refine k_then_x ?_
    refine k_blk_x ?_
    refine k_then_n ?_
    refine c_seq ?_
    refine c_region ?_
    refine l_step (s_q rfl wn (q_assign rfl) ?_)
    refine l_nil ?_
    refine k_then_n ?_
    refine c_ret ?_
    exact t_ret [_] rfl (.tmp rfl .nil) rfl (Hp.le_refl _) ⟨rfl, _, rfl, rfl⟩ (by repeat (first | exact Ent.nil _ | exact Ent.refl _ | (refine Ent.pick (by repeat (first | exact Pick.here | apply Pick.there)) ?_) | refine Ent.skip ?_))

theorem noughts_spec (ρ : Hp) : Spec0 Try.prog 51 #[] ρ [] (fun v Γ' => ∃ b', v = .pointer (some ⟨b', 0, none⟩) ∧ Γ' = [.pts b' (w32s (gridOf 1)) 144]) := by
  refine spec_of (n := 12) (vs := []) (σ := []) Try.func51 rfl rfl rfl rfl fun E Δ => ?_
  rw [List.nil_append]
  refine c_seq ?_
  refine c_region ?_
  refine l_step (s_q rfl wn (q_assign rfl) ?_)
  refine l_nil ?_
  refine k_then_n ?_
  refine c_seq ?_
  refine c_region ?_
  refine l_step (s_s rfl wn (s_allocz zc_144) ?_)
  rintro _ _ ⟨b1, rfl, rfl⟩
  refine l_nil ?_
  refine k_then_n ?_
  refine c_seq ?_
  refine c_seq ?_
  refine c_region ?_
  refine l_step (s_q rfl wn (q_move rfl) ?_)
  refine l_nil ?_
  refine k_then_n ?_
  refine c_block ?_
  refine t_loop (ι := Nat) (fun k => k ≤ 32) (fun k => 32 - k) (fun k => [(1, .pointer (some ⟨b1, 0, none⟩)), (3, .int .i64 (k : Int))]) (fun k => .pts b1 (w32s (upTo (fun i => stepB (1#32 <<< i) 0) k)) 144 :: Δ) 0 (by omega) ?_ ?_ ?_
  · exact .cons rfl (by first | rfl | (simp; done) | simp [*]) (.cons rfl (by first | rfl | (simp; done) | simp [*]) (.nil _))
  · exact Ent.refl _
  intro k hk
  refine c_seq ?_
  refine c_region ?_
  refine l_step (s_q rfl wn (q_lss rfl rfl) ?_)
  refine l_nil ?_
  refine k_then_n ?_
  refine c_seq ?_
  first | refine c_if rfl (fun h0 => ?_) (fun h0 => ?_) | refine c_cond rfl (fun h0 => ?_) (fun h0 => ?_)
  · skip
    refine c_skip ?_
    refine k_then_n ?_
    refine c_seq ?_
    refine c_block ?_
    refine c_seq ?_
    refine c_region ?_
    refine l_step (s_q rfl wn (q_move rfl) ?_)
    refine l_step (s_q rfl wn (q_assign rfl) ?_)
    refine l_nil ?_
    refine k_then_n ?_
    refine c_region ?_
    refine l_step (s_q rfl wn (q_move rfl) ?_)
    refine l_step (s_q rfl wn (q_move rfl) ?_)
    refine l_step (s_q rfl wn (q32_shl (p := 1#32) (m := k) rfl rfl rfl rfl (by omega)) ?_)
    refine l_step (s_fn rfl wn Try.func50 rfl (by kernel_rfl) rfl (step_spec _ 0 ρ) (by repeat (first | exact Sel.nil | exact Pick.here | apply Sel.cons | apply Pick.there)) ?_)
    rintro _ _ _ - ⟨rfl, rfl, rfl⟩
    try simp only [List.cons_append, List.nil_append]
    refine l_step (s_q rfl wn (q_indexp Try.underlying144 sz_23 rfl rfl (by omega) (by omega)) ?_)
    refine l_step (s_s0 wn (s_storep rfl rfl rfl sz_23 (by simp [Value.oneCell']) (by simp [w32s, upTo]; omega) ((w32s_set _ (upTo_len _ _) k (by omega) _).trans (by rw [upTo_succ (fun i => stepB (1#32 <<< i) 0) k (by omega)])) (by repeat (first | exact Pick.here | apply Pick.there))) ?_)
    rintro _ _ ⟨rfl, rfl⟩
    refine l_nil ?_
    refine k_blk_n ?_
    refine k_then_n ?_
    refine c_region ?_
    refine l_step (s_q rfl wn (by first | exact q_add rfl rfl (by omega) (by omega) | exact q_addw rfl rfl) ?_)
    refine l_step (s_q rfl wn (q_move rfl) ?_)
    refine l_nil ?_
    refine k_then_n ?_
    exact t_next (k + 1) (by omega) (.cons rfl (by first | rfl | (simp; done) | simp [*]) (.cons rfl (by first | rfl | (simp; done) | simp [*]) (.nil _))) (by repeat (first | exact Ent.nil _ | exact Ent.refl _ | (refine Ent.pick (by repeat (first | exact Pick.here | apply Pick.there)) ?_) | refine Ent.skip ?_))
  · skip
    obtain rfl : k = 32 := by omega
    rw [upTo_all 1 _ (fun i hi => stepB_zero _)]
    refine c_exit ?_
    refine k_then_x ?_
    refine k_then_x ?_
    refine k_blk_x ?_
    refine k_then_n ?_
    refine c_seq ?_
    refine c_region ?_
    refine l_step (s_q rfl wn (q_assign rfl) ?_)
    refine l_nil ?_
    refine k_then_n ?_
    refine c_ret ?_
    exact t_ret [_] rfl (.tmp rfl .nil) rfl (Hp.le_refl _) ⟨rfl, _, rfl, rfl⟩ (by repeat (first | exact Ent.nil _ | exact Ent.refl _ | (refine Ent.pick (by repeat (first | exact Pick.here | apply Pick.there)) ?_) | refine Ent.skip ?_))

theorem timesG_spec (b m : Nat) (r : BitVec 32) (ρ : Hp) : Spec0 Try.prog 52 #[.pointer (some ⟨b, 0, none⟩), .int .u32 (r.toNat : Int)] ρ [.pts b (w32s (gridOf m)) 144] (fun v Γ' => v = .int .u32 ((Zn m r).toNat : Int) ∧ Γ' = [.pts b (w32s (gridOf m)) 144]) := by
  rw [← grid_times m r]
  exact times_spec b (gridOf m) (gridOf_len m) r ρ

theorem join_spec (a b : BitVec 32) (size : Nat) (hs : size < 9223372036854775808) (ρ : Hp) : Spec0 Try.prog 19 #[.int .u32 (a.toNat : Int), .int .u32 (b.toNat : Int), .int .i64 (size : Int)] ρ [] (fun v Γ' => v = .tuple #[.int .u32 ((joinB a b size).toNat : Int), .int .i64 0] ∧ Γ' = []) := by
  refine spec_of (n := 29) (vs := [_, _, _]) (σ := [(0, _), (1, _), (2, _)]) Try.func19 rfl rfl rfl rfl fun E Δ => ?_
  rw [List.nil_append]
  refine c_seq ?_
  refine c_region ?_
  refine l_step (s_q rfl wn (q_assign rfl) ?_)
  refine l_step (s_q rfl wn (q_assign rfl) ?_)
  refine l_nil ?_
  refine k_then_n ?_
  refine c_seq ?_
  refine c_seq ?_
  refine c_region ?_
  refine l_step (s_q rfl wn (q_move rfl) ?_)
  refine l_step (s_q rfl wn (q_lss rfl rfl) ?_)
  refine l_nil ?_
  refine k_then_n ?_
  refine c_sure false rfl (decide_eq_false (by omega)) ?_
  simp only [Bool.false_eq_true, if_true, if_false]
  refine c_skip ?_
  refine k_then_n ?_
  refine c_seq ?_
  refine c_region ?_
  refine l_step (s_fn rfl wn Try.func51 rfl (by kernel_rfl) rfl (noughts_spec ρ) (by repeat (first | exact Sel.nil | exact Pick.here | apply Sel.cons | apply Pick.there)) ?_)
  rintro _ _ _ - ⟨rfl, ⟨bn, rfl, rfl⟩⟩
  try simp only [List.cons_append, List.nil_append]
  refine l_step (s_q rfl wn (q_assign rfl) ?_)
  refine l_nil ?_
  refine k_then_n ?_
  refine c_seq ?_
  refine c_seq ?_
  refine c_region ?_
  refine l_step (s_q rfl wn (q_move rfl) ?_)
  refine l_step (s_q rfl wn (q_assign rfl) ?_)
  refine l_nil ?_
  refine k_then_n ?_
  refine c_block ?_
  refine t_loop (ι := JS) (fun x => x.nn < 9223372036854775808 ∧ Zn (x.nn * x.m) x.a = Zn size a) (fun x => x.nn) (fun x => [(0, .int .u32 (x.a.toNat : Int)), (1, .int .u32 (b.toNat : Int)), (8, .pointer (some ⟨x.b, 0, none⟩)), (9, .int .i64 (x.nn : Int))]) (fun x => .pts x.b (w32s (gridOf x.m)) 144 :: Δ) ⟨size, a, bn, 1⟩ ⟨hs, by simp⟩ ?_ ?_ ?_
  · exact .cons rfl (by first | rfl | (simp; done) | simp [*]) (.cons rfl (by first | rfl | (simp; done) | simp [*]) (.cons rfl (by first | rfl | (simp; done) | simp [*]) (.cons rfl (by first | rfl | (simp; done) | simp [*]) (.nil _))))
  · exact (by repeat (first | exact Ent.nil _ | exact Ent.refl _ | (refine Ent.pick (by repeat (first | exact Pick.here | apply Pick.there)) ?_) | refine Ent.skip ?_))
  intro x hx
  obtain ⟨hx1, hx2⟩ := hx
  refine c_seq ?_
  refine c_seq ?_
  refine c_region ?_
  refine l_step (s_q rfl wn (q_move rfl) ?_)
  refine l_step (s_q rfl wn (q_gtr rfl rfl) ?_)
  refine l_nil ?_
  refine k_then_n ?_
  first | refine c_if rfl (fun h1 => ?_) (fun h1 => ?_) | refine c_cond rfl (fun h1 => ?_) (fun h1 => ?_)
  · skip
    refine c_skip ?_
    refine k_then_n ?_
    refine c_seq ?_
    refine c_block ?_
    refine c_seq ?_
    refine c_seq ?_
    refine c_region ?_
    refine l_step (s_q rfl wn (q_move rfl) ?_)
    refine l_step (s_q rfl wn (q_and1 rfl rfl rfl hx1) ?_)
    refine l_step (s_q rfl wn (q_eql rfl rfl) ?_)
    refine l_nil ?_
    refine k_then_n ?_
    first | refine c_if rfl (fun h2 => ?_) (fun h2 => ?_) | refine c_cond rfl (fun h2 => ?_) (fun h2 => ?_)
    · skip
      refine c_region ?_
      refine l_step (s_q rfl wn (q_move rfl) ?_)
      refine l_step (s_q rfl wn (q_move rfl) ?_)
      refine l_step (s_fn rfl wn Try.func52 rfl (by kernel_rfl) rfl (timesG_spec _ _ _ ρ) (by repeat (first | exact Sel.nil | exact Pick.here | apply Sel.cons | apply Pick.there)) ?_)
      rintro _ _ _ - ⟨rfl, rfl, rfl⟩
      try simp only [List.cons_append, List.nil_append]
      refine l_step (s_q rfl wn (q_assign rfl) ?_)
      refine l_nil ?_
      refine k_then_n ?_
      refine c_region ?_
      refine l_step (s_q rfl wn (q_move rfl) ?_)
      refine l_step (s_fn rfl wn Try.func53 rfl (by kernel_rfl) rfl (twice_spec _ _ ρ) (by repeat (first | exact Sel.nil | exact Pick.here | apply Sel.cons | apply Pick.there)) ?_)
      rintro _ _ _ - ⟨rfl, ⟨b2, rfl, rfl⟩⟩
      try simp only [List.cons_append, List.nil_append]
      refine l_step (s_q rfl wn (q_assign rfl) ?_)
      refine l_nil ?_
      refine k_blk_n ?_
      refine k_then_n ?_
      refine c_region ?_
      refine l_step (s_q rfl wn (q_move rfl) ?_)
      refine l_step (s_q rfl wn (q_shr1 rfl rfl rfl) ?_)
      refine l_step (s_q rfl wn (q_assign rfl) ?_)
      refine l_nil ?_
      refine k_then_n ?_
      exact t_next ⟨x.nn / 2, Zn x.m x.a, b2, x.m + x.m⟩ ⟨⟨by simp only []; omega, (join_odd _ _ _ (by omega)).trans hx2⟩, by simp only []; omega⟩ (.cons rfl (by first | rfl | (simp; done) | simp [*]) (.cons rfl (by first | rfl | (simp; done) | simp [*]) (.cons rfl (by first | rfl | (simp; done) | simp [*]) (.cons rfl (by first | rfl | (simp; done) | simp [*]) (.nil _))))) (by repeat (first | exact Ent.nil _ | exact Ent.refl _ | (refine Ent.pick (by repeat (first | exact Pick.here | apply Pick.there)) ?_) | refine Ent.skip ?_))
    · skip
      refine c_skip ?_
      refine k_then_n ?_
      refine c_region ?_
      refine l_step (s_q rfl wn (q_move rfl) ?_)
      refine l_step (s_fn rfl wn Try.func53 rfl (by kernel_rfl) rfl (twice_spec _ _ ρ) (by repeat (first | exact Sel.nil | exact Pick.here | apply Sel.cons | apply Pick.there)) ?_)
      rintro _ _ _ - ⟨rfl, ⟨b2, rfl, rfl⟩⟩
      try simp only [List.cons_append, List.nil_append]
      refine l_step (s_q rfl wn (q_assign rfl) ?_)
      refine l_nil ?_
      refine k_blk_n ?_
      refine k_then_n ?_
      refine c_region ?_
      refine l_step (s_q rfl wn (q_move rfl) ?_)
      refine l_step (s_q rfl wn (q_shr1 rfl rfl rfl) ?_)
      refine l_step (s_q rfl wn (q_assign rfl) ?_)
      refine l_nil ?_
      refine k_then_n ?_
      exact t_next ⟨x.nn / 2, x.a, b2, x.m + x.m⟩ ⟨⟨by simp only []; omega, by simp only []; rw [join_even _ _ (by omega)]; exact hx2⟩, by simp only []; omega⟩ (.cons rfl (by first | rfl | (simp; done) | simp [*]) (.cons rfl (by first | rfl | (simp; done) | simp [*]) (.cons rfl (by first | rfl | (simp; done) | simp [*]) (.cons rfl (by first | rfl | (simp; done) | simp [*]) (.nil _))))) (by repeat (first | exact Ent.nil _ | exact Ent.refl _ | (refine Ent.pick (by repeat (first | exact Pick.here | apply Pick.there)) ?_) | refine Ent.skip ?_))
  · skip
    have hn0 : x.nn = 0 := by omega
    have hz : x.a = Zn size a := by rw [← hx2, hn0]; simp [Zn, bitSteps]
    rw [hz]
    refine c_exit ?_
    refine k_then_x ?_
    refine k_then_x ?_
    refine k_blk_x ?_
    refine k_then_n ?_
    refine c_seq ?_
    refine c_region ?_
    refine l_step (s_q rfl wn (q_move rfl) ?_)
    refine l_step (s_q rfl wn (q_move rfl) ?_)
    refine l_step (s_q rfl wn (q32_xor rfl rfl rfl rfl) ?_)
    refine l_step (s_q rfl wn (q_assign rfl) ?_)
    refine l_step (s_q rfl wn (q_assign rfl) ?_)
    refine l_nil ?_
    refine k_then_n ?_
    refine c_ret ?_
    exact t_ret [] rfl (.tmp rfl (.tmp rfl .nil)) rfl (Hp.le_refl _) ⟨rfl, rfl, rfl⟩ (by (repeat refine Ent.skip ?_); exact Ent.refl _)

theorem join_bad (a b : BitVec 32) (size : Int) (hs : size < 0) (ρ : Hp) : Spec0 Try.prog 19 #[.int .u32 (a.toNat : Int), .int .u32 (b.toNat : Int), .int .i64 size] ρ [] (fun v Γ' => v = .tuple #[.int .u32 0, .int .i64 2] ∧ Γ' = []) := by
  refine spec_of (n := 29) (vs := [_, _, _]) (σ := [(0, _), (1, _), (2, _)]) Try.func19 rfl rfl rfl rfl fun E Δ => ?_
  rw [List.nil_append]
  refine c_seq ?_
  refine c_region ?_
  refine l_step (s_q rfl wn (q_assign rfl) ?_)
  refine l_step (s_q rfl wn (q_assign rfl) ?_)
  refine l_nil ?_
  refine k_then_n ?_
  refine c_seq ?_
  refine c_seq ?_
  refine c_region ?_
  refine l_step (s_q rfl wn (q_move rfl) ?_)
  refine l_step (s_q rfl wn (q_lss rfl rfl) ?_)
  refine l_nil ?_
  refine k_then_n ?_
  refine c_sure true rfl (by simpa using hs) ?_
  simp only [Bool.false_eq_true, if_true, if_false]
  refine c_seq ?_
  refine c_region ?_
  refine l_step (s_q rfl wn (q_assign rfl) ?_)
  refine l_step (s_q rfl wn (q_assign rfl) ?_)
  refine l_nil ?_
  refine k_then_n ?_
  refine c_ret ?_
  refine k_then_r ?_
  exact t_ret [] rfl (.tmp rfl (.tmp rfl .nil)) rfl (Hp.le_refl _) ⟨rfl, rfl, rfl⟩ (by (repeat refine Ent.skip ?_); exact Ent.refl _)

theorem back_spec (r : BitVec 32) (ρ : Hp) : Spec0 Try.prog 54 #[.int .u32 (r.toNat : Int)] ρ [] (fun v Γ' => v = .int .u32 ((backBits 8 r).toNat : Int) ∧ Γ' = []) := by
  refine spec_of (n := 16) (vs := [_]) (σ := [(0, _)]) Try.func54 rfl rfl rfl rfl fun E Δ => ?_
  rw [List.nil_append]
  refine c_seq ?_
  refine c_region ?_
  refine l_step (s_q rfl wn (q_assign rfl) ?_)
  refine l_nil ?_
  refine k_then_n ?_
  refine c_seq ?_
  refine c_seq ?_
  refine c_region ?_
  refine l_step (s_q rfl wn (q_move rfl) ?_)
  refine l_nil ?_
  refine k_then_n ?_
  refine c_block ?_
  refine t_loop (ι := Nat) (fun k => k ≤ 8) (fun k => 8 - k) (fun k => [(0, .int .u32 ((backBits k r).toNat : Int)), (3, .int .i64 (k : Int))]) (fun k => Δ) 0 (by omega) ?_ ?_ ?_
  · exact .cons rfl (by first | rfl | (simp; done) | simp [*]) (.cons rfl (by first | rfl | (simp; done) | simp [*]) (.nil _))
  · exact (by repeat (first | exact Ent.nil _ | exact Ent.refl _ | (refine Ent.pick (by repeat (first | exact Pick.here | apply Pick.there)) ?_) | refine Ent.skip ?_))
  intro k hk
  refine c_seq ?_
  refine c_region ?_
  refine l_step (s_q rfl wn (q_lss rfl rfl) ?_)
  refine l_nil ?_
  refine k_then_n ?_
  refine c_seq ?_
  first | refine c_if rfl (fun h0 => ?_) (fun h0 => ?_) | refine c_cond rfl (fun h0 => ?_) (fun h0 => ?_)
  · skip
    refine c_skip ?_
    refine k_then_n ?_
    refine c_seq ?_
    refine c_block ?_
    refine c_seq ?_
    refine c_region ?_
    refine l_step (s_q rfl wn (q_move rfl) ?_)
    refine l_step (s_q rfl wn (q32_shr (m := 31) rfl rfl rfl rfl (by omega)) ?_)
    refine l_step (s_q rfl wn (q_eql rfl rfl) ?_)
    refine l_nil ?_
    refine k_then_n ?_
    first | refine c_if rfl (fun h1 => ?_) (fun h1 => ?_) | refine c_cond rfl (fun h1 => ?_) (fun h1 => ?_)
    · skip
      refine c_region ?_
      refine l_step (s_q rfl wn (q_move rfl) ?_)
      refine l_step (s_q rfl wn (q32_xor (q := 2197175160#32) rfl rfl rfl rfl) ?_)
      refine l_step (s_q rfl wn (q32_shl (m := 1) rfl rfl rfl rfl (by omega)) ?_)
      refine l_step (s_q rfl wn (q32_or (q := 1#32) rfl rfl rfl rfl) ?_)
      refine l_step (s_q rfl wn (q_assign rfl) ?_)
      refine l_nil ?_
      refine k_blk_n ?_
      refine k_then_n ?_
      refine c_region ?_
      refine l_step (s_q rfl wn (by first | exact q_add rfl rfl (by omega) (by omega) | exact q_addw rfl rfl) ?_)
      refine l_step (s_q rfl wn (q_move rfl) ?_)
      refine l_nil ?_
      refine k_then_n ?_
      exact t_next (k + 1) (by omega) (.cons rfl (u32e (by rw [backBits, backBit, if_pos h1])) (.cons rfl (by first | rfl | (simp; done) | simp [*]) (.nil _))) (by repeat (first | exact Ent.nil _ | exact Ent.refl _ | (refine Ent.pick (by repeat (first | exact Pick.here | apply Pick.there)) ?_) | refine Ent.skip ?_))
    · skip
      refine c_region ?_
      refine l_step (s_q rfl wn (q_move rfl) ?_)
      refine l_step (s_q rfl wn (q32_shl (m := 1) rfl rfl rfl rfl (by omega)) ?_)
      refine l_step (s_q rfl wn (q_assign rfl) ?_)
      refine l_nil ?_
      refine k_blk_n ?_
      refine k_then_n ?_
      refine c_region ?_
      refine l_step (s_q rfl wn (by first | exact q_add rfl rfl (by omega) (by omega) | exact q_addw rfl rfl) ?_)
      refine l_step (s_q rfl wn (q_move rfl) ?_)
      refine l_nil ?_
      refine k_then_n ?_
      exact t_next (k + 1) (by omega) (.cons rfl (u32e (by rw [backBits, backBit, if_neg h1])) (.cons rfl (by first | rfl | (simp; done) | simp [*]) (.nil _))) (by repeat (first | exact Ent.nil _ | exact Ent.refl _ | (refine Ent.pick (by repeat (first | exact Pick.here | apply Pick.there)) ?_) | refine Ent.skip ?_))
  · skip
    obtain rfl : k = 8 := by omega
    refine c_exit ?_
    refine k_then_x ?_
    refine k_then_x ?_
    refine k_blk_x ?_
    refine k_then_n ?_
    refine c_seq ?_
    refine c_region ?_
    refine l_step (s_q rfl wn (q_move rfl) ?_)
    refine l_step (s_q rfl wn (q_assign rfl) ?_)
    refine l_nil ?_
    refine k_then_n ?_
    refine c_ret ?_
    exact t_ret [] rfl (.tmp rfl .nil) rfl (Hp.le_refl _) ⟨rfl, rfl, rfl⟩ (by (repeat refine Ent.skip ?_); exact Ent.refl _)

theorem fix_spec (s w : BitVec 32) (ρ : Hp) : Spec0 Try.prog 20 #[.int .u32 (s.toNat : Int), .int .u32 (w.toNat : Int)] ρ [] (fun v Γ' => v = .agg ((fixB s w).flatMap encB).toArray ∧ Γ' = []) := by
  refine spec_of (n := 29) (vs := [_, _]) (σ := [(0, _), (1, _)]) Try.func20 rfl rfl rfl rfl fun E Δ => ?_
  rw [List.nil_append]
  refine c_seq ?_
  refine c_region ?_
  refine l_step (s_s rfl wn (s_allocz zc_37) ?_)
  rintro _ _ ⟨b4, rfl, rfl⟩
  refine l_nil ?_
  refine k_then_n ?_
  refine c_seq ?_
  refine c_region ?_
  refine l_step (s_q rfl wn (q_move rfl) ?_)
  refine l_step (s_q rfl wn (q32_compl rfl rfl) ?_)
  refine l_step (s_q rfl wn (q_assign rfl) ?_)
  refine l_nil ?_
  refine k_then_n ?_
  refine c_seq ?_
  refine c_seq ?_
  refine c_region ?_
  refine l_step (s_q rfl wn (q_move rfl) ?_)
  refine l_nil ?_
  refine k_then_n ?_
  refine c_block ?_
  refine t_loop (ι := Nat) (fun k => k ≤ 4) (fun k => 4 - k) (fun k => [(0, .int .u32 (s.toNat : Int)), (4, .pointer (some ⟨b4, 0, none⟩)), (5, .int .u32 ((backBits (8 * k) (~~~ w)).toNat : Int)), (8, .int .i64 (k : Int))]) (fun k => .pts b4 [.int .u8 0, .int .u8 0, .int .u8 0, .int .u8 0] 37 :: Δ) 0 (by omega) ?_ ?_ ?_
  · exact .cons rfl (by first | rfl | (simp; done) | simp [*]) (.cons rfl (by first | rfl | (simp; done) | simp [*]) (.cons rfl (by first | rfl | (simp; done) | simp [*]) (.cons rfl (by first | rfl | (simp; done) | simp [*]) (.nil _))))
  · exact (by repeat (first | exact Ent.nil _ | exact Ent.refl _ | (refine Ent.pick (by repeat (first | exact Pick.here | apply Pick.there)) ?_) | refine Ent.skip ?_))
  intro k hk
  refine c_seq ?_
  refine c_region ?_
  refine l_step (s_q rfl wn (q_lss rfl rfl) ?_)
  refine l_nil ?_
  refine k_then_n ?_
  refine c_seq ?_
  first | refine c_if rfl (fun h0 => ?_) (fun h0 => ?_) | refine c_cond rfl (fun h0 => ?_) (fun h0 => ?_)
  · skip
    refine c_skip ?_
    refine k_then_n ?_
    refine c_seq ?_
    refine c_block ?_
    refine c_region ?_
    refine l_step (s_q rfl wn (q_move rfl) ?_)
    refine l_step (s_fn rfl wn Try.func54 rfl (by kernel_rfl) rfl (back_spec _ ρ) (by repeat (first | exact Sel.nil | exact Pick.here | apply Sel.cons | apply Pick.there)) ?_)
    rintro _ _ _ - ⟨rfl, rfl, rfl⟩
    try simp only [List.cons_append, List.nil_append]
    refine l_step (s_q rfl wn (q_assign rfl) ?_)
    refine l_nil ?_
    refine k_blk_n ?_
    refine k_then_n ?_
    refine c_region ?_
    refine l_step (s_q rfl wn (by first | exact q_add rfl rfl (by omega) (by omega) | exact q_addw rfl rfl) ?_)
    refine l_step (s_q rfl wn (q_move rfl) ?_)
    refine l_nil ?_
    refine k_then_n ?_
    exact t_next (k + 1) (by omega) (.cons rfl (by first | rfl | (simp; done) | simp [*]) (.cons rfl (by first | rfl | (simp; done) | simp [*]) (.cons rfl (u32e (by rw [← backBits_add]; congr 1; omega)) (.cons rfl (by first | rfl | (simp; done) | simp [*]) (.nil _))))) (by repeat (first | exact Ent.nil _ | exact Ent.refl _ | (refine Ent.pick (by repeat (first | exact Pick.here | apply Pick.there)) ?_) | refine Ent.skip ?_))
  · skip
    obtain rfl : k = 4 := by omega
    refine c_exit ?_
    refine k_then_x ?_
    refine k_then_x ?_
    refine k_blk_x ?_
    refine k_then_n ?_
    refine c_seq ?_
    refine c_region ?_
    refine l_step (s_q rfl wn (q_move rfl) ?_)
    refine l_step (s_q rfl wn (q_move rfl) ?_)
    refine l_step (s_q rfl wn (q32_compl rfl rfl) ?_)
    refine l_step (s_q rfl wn (q32_xor rfl rfl rfl rfl) ?_)
    refine l_step (s_q rfl wn (q_assign rfl) ?_)
    refine l_nil ?_
    refine k_then_n ?_
    refine c_seq ?_
    refine c_region ?_
    refine l_step (s_q rfl wn (q_move rfl) ?_)
    refine l_step (s_q rfl wn (q32_to8 rfl Try.underlying23 Try.underlying5 rfl) ?_)
    refine l_step (s_q rfl wn (q_move rfl) ?_)
    refine l_step (s_q rfl wn (q32_shr (m := 8) rfl rfl rfl rfl (by omega)) ?_)
    refine l_step (s_q rfl wn (q32_to8 rfl Try.underlying23 Try.underlying5 rfl) ?_)
    refine l_step (s_q rfl wn (q_move rfl) ?_)
    refine l_step (s_q rfl wn (q32_shr (m := 16) rfl rfl rfl rfl (by omega)) ?_)
    refine l_step (s_q rfl wn (q32_to8 rfl Try.underlying23 Try.underlying5 rfl) ?_)
    refine l_step (s_q rfl wn (q_move rfl) ?_)
    refine l_step (s_q rfl wn (q32_shr (m := 24) rfl rfl rfl rfl (by omega)) ?_)
    refine l_step (s_q rfl wn (q32_to8 rfl Try.underlying23 Try.underlying5 rfl) ?_)
    refine l_step (s_q rfl wn (q_build (cs := [_, _, _, _]) zc_37 pl_37 rfl rfl) ?_)
    refine l_step (s_s0 wn (s_storep (ws := [_, _, _, _]) (cs := [.int .u8 0, .int .u8 0, .int .u8 0, .int .u8 0]) (cs' := (fixB s w).flatMap encB) rfl rfl rfl sz_37 (by simp [Value.oneCell']) (by simp) rfl (by repeat (first | exact Pick.here | apply Pick.there))) ?_)
    rintro _ _ ⟨rfl, rfl⟩
    refine l_nil ?_
    refine k_then_n ?_
    refine c_ret ?_
    exact t_ret [] rfl (.cell rfl (by repeat (first | exact Pick.here | apply Pick.there)) (fun ww h => run_loadVar_agg (cs := (fixB s w).flatMap encB) ag_37 (fun j u hj => by rw [addr_add, cell_at h]; simpa using hj)) .nil) rfl (Hp.le_refl _) ⟨rfl, rfl, rfl⟩ (by (repeat refine Ent.skip ?_); exact Ent.refl _)

theorem refStep_spec (r : BitVec 32) (c : UInt8) (ρ : Hp) : Spec0 Try.prog 49 #[.int .u64 (r.toNat : Int), .int .u8 (c.toNat : Int)] ρ [] (fun v Γ' => v = .int .u64 ((stepB r c).toNat : Int) ∧ Γ' = []) := by
  have hc : IntKind.wrap .u64 (c.toNat : Int) = c.toNat := wrap_u64 (by omega) (by have := c.toNat_lt; omega)
  have hc2 : (c.toNat : Int) = ((c.toBitVec.setWidth 32).toNat : Int) := by
    have := c.toNat_lt
    rw [BitVec.toNat_setWidth, Nat.mod_eq_of_lt (by show c.toNat < _; omega)]; rfl
  refine spec_of (n := 24) (vs := [_, _]) (σ := [(0, _), (1, _)]) Try.func49 rfl rfl rfl rfl fun E Δ => ?_
  rw [List.nil_append]
  refine c_seq ?_
  refine c_region ?_
  refine l_step (s_q rfl wn (q_assign rfl) ?_)
  refine l_nil ?_
  refine k_then_n ?_
  refine c_seq ?_
  refine c_region ?_
  refine l_step (s_q rfl wn (q_move rfl) ?_)
  refine l_step (s_q rfl wn (q_move rfl) ?_)
  refine l_step (s_q rfl wn (by first | exact q_conv rfl Try.underlying5 Try.underlying112 (by assumption) | exact q_conv rfl Try.underlying5 Try.underlying112 (wrap_u64 (by omega) (by omega)) | exact q_convw rfl Try.underlying5 Try.underlying112) ?_)
  refine l_step (s_q rfl wn (q64_xor32 (q := c.toBitVec.setWidth 32) rfl rfl rfl hc2) ?_)
  refine l_step (s_q rfl wn (q_assign rfl) ?_)
  refine l_nil ?_
  refine k_then_n ?_
  refine c_seq ?_
  refine c_seq ?_
  refine c_region ?_
  refine l_step (s_q rfl wn (q_assign rfl) ?_)
  refine l_nil ?_
  refine k_then_n ?_
  refine c_block ?_
  refine t_loop (ι := Nat) (fun k => k ≤ 8) (fun k => 8 - k) (fun k => [(0, .int .u64 ((bitSteps k (r ^^^ c.toBitVec.setWidth 32)).toNat : Int)), (5, .int .i64 (k : Int))]) (fun k => Δ) 0 (by omega) ?_ ?_ ?_
  · exact .cons rfl (by first | rfl | (simp; done) | simp [*]) (.cons rfl (by first | rfl | (simp; done) | simp [*]) (.nil _))
  · exact (by repeat (first | exact Ent.nil _ | exact Ent.refl _ | (refine Ent.pick (by repeat (first | exact Pick.here | apply Pick.there)) ?_) | refine Ent.skip ?_))
  intro k hk
  have hlt := (bitSteps k (r ^^^ c.toBitVec.setWidth 32)).isLt
  refine c_seq ?_
  refine c_seq ?_
  refine c_region ?_
  refine l_step (s_q rfl wn (q_move rfl) ?_)
  refine l_step (s_q rfl wn (q_lss rfl rfl) ?_)
  refine l_nil ?_
  refine k_then_n ?_
  first | refine c_if rfl (fun h0 => ?_) (fun h0 => ?_) | refine c_cond rfl (fun h0 => ?_) (fun h0 => ?_)
  · skip
    refine c_skip ?_
    refine k_then_n ?_
    refine c_seq ?_
    refine c_block ?_
    refine c_seq ?_
    refine c_region ?_
    refine l_step (s_q rfl wn (q_move rfl) ?_)
    refine l_step (s_q rfl wn (q_remp rfl rfl (by omega) (by omega)) ?_)
    refine l_step (s_q rfl wn (q_assign rfl) ?_)
    refine l_nil ?_
    refine k_then_n ?_
    refine c_seq ?_
    refine c_region ?_
    refine l_step (s_q rfl wn (q_move rfl) ?_)
    refine l_step (s_q rfl wn (q_quou rfl rfl (by omega) (by omega) (by omega)) ?_)
    refine l_step (s_q rfl wn (q_assign rfl) ?_)
    refine l_nil ?_
    refine k_then_n ?_
    refine c_seq ?_
    refine c_region ?_
    refine l_step (s_q rfl wn (q_move rfl) ?_)
    refine l_step (s_q rfl wn (q_eql rfl rfl) ?_)
    refine l_nil ?_
    refine k_then_n ?_
    first | refine c_if rfl (fun h1 => ?_) (fun h1 => ?_) | refine c_cond rfl (fun h1 => ?_) (fun h1 => ?_)
    · skip
      refine c_region ?_
      refine l_step (s_q rfl wn (q_move rfl) ?_)
      refine l_step (s_q rfl wn (q64_xor32 (q := 2197175160#32) rfl rfl (half _) rfl) ?_)
      refine l_step (s_q rfl wn (q_assign rfl) ?_)
      refine l_nil ?_
      refine k_blk_n ?_
      refine k_then_n ?_
      refine c_region ?_
      refine l_step (s_q rfl wn (q_move rfl) ?_)
      refine l_step (s_q rfl wn (by first | exact q_add rfl rfl (by omega) (by omega) | exact q_addw rfl rfl) ?_)
      refine l_step (s_q rfl wn (q_assign rfl) ?_)
      refine l_nil ?_
      refine k_then_n ?_
      exact t_next (k + 1) (by omega) (.cons rfl (inte (by rw [bitSteps, ← ref_odd _ h1])) (.cons rfl (by first | rfl | (simp; done) | simp [*]) (.nil _))) (by repeat (first | exact Ent.nil _ | exact Ent.refl _ | (refine Ent.pick (by repeat (first | exact Pick.here | apply Pick.there)) ?_) | refine Ent.skip ?_))
    · skip
      refine c_skip ?_
      refine k_blk_n ?_
      refine k_then_n ?_
      refine c_region ?_
      refine l_step (s_q rfl wn (q_move rfl) ?_)
      refine l_step (s_q rfl wn (by first | exact q_add rfl rfl (by omega) (by omega) | exact q_addw rfl rfl) ?_)
      refine l_step (s_q rfl wn (q_assign rfl) ?_)
      refine l_nil ?_
      refine k_then_n ?_
      exact t_next (k + 1) (by omega) (.cons rfl (inte (by rw [bitSteps, ← ref_even _ h1, half])) (.cons rfl (by first | rfl | (simp; done) | simp [*]) (.nil _))) (by repeat (first | exact Ent.nil _ | exact Ent.refl _ | (refine Ent.pick (by repeat (first | exact Pick.here | apply Pick.there)) ?_) | refine Ent.skip ?_))
  · skip
    obtain rfl : k = 8 := by omega
    refine c_exit ?_
    refine k_then_x ?_
    refine k_then_x ?_
    refine k_blk_x ?_
    refine k_then_n ?_
    refine c_seq ?_
    refine c_region ?_
    refine l_step (s_q rfl wn (q_move rfl) ?_)
    refine l_step (s_q rfl wn (q_assign rfl) ?_)
    refine l_nil ?_
    refine k_then_n ?_
    refine c_ret ?_
    exact t_ret [] rfl (.tmp rfl .nil) rfl (Hp.le_refl _) ⟨rfl, rfl, rfl⟩ (by (repeat refine Ent.skip ?_); exact Ent.refl _)

theorem refOf_spec (t : SB) (ρ : Hp) (Γ : List Asn) (hl : t.bs.length ≤ 1000000000000) (h : RdB ρ Γ t) : Spec0 Try.prog 16 #[.slice t.a t.bs.length t.cap] ρ Γ (fun v Γ' => v = .int .u32 ((sumB t.bs).toNat : Int) ∧ Γ = Γ') := by
  refine spec_of (n := 20) (vs := [_]) (σ := [(0, _)]) Try.func16 rfl rfl rfl rfl fun E Δ => ?_
  have rd := h Δ
  have hw : IntKind.wrap .u32 (((crcR 4294967295#32 t.bs) ^^^ 4294967295#32).toNat : Int) = (((crcR 4294967295#32 t.bs) ^^^ 4294967295#32).toNat : Int) := w32 _
  refine c_seq ?_
  refine c_region ?_
  refine l_step (s_q rfl wn (q_assign rfl) ?_)
  refine l_nil ?_
  refine k_then_n ?_
  refine c_seq ?_
  refine c_region ?_
  refine l_step (s_q rfl wn (q_assign rfl) ?_)
  refine l_nil ?_
  refine k_then_n ?_
  refine c_seq ?_
  refine c_seq ?_
  refine c_region ?_
  refine l_step (s_q rfl wn (q_assign rfl) ?_)
  refine l_nil ?_
  refine k_then_n ?_
  refine c_block ?_
  refine t_loop (ι := Nat) (fun k => k ≤ t.bs.length) (fun k => t.bs.length - k) (fun k => [(0, .slice t.a t.bs.length t.cap), (3, .int .u64 ((crcR 4294967295#32 (t.bs.take k)).toNat : Int)), (4, .int .i64 (k : Int))]) (fun k => Γ ++ Δ) 0 (by omega) ?_ ?_ ?_
  · exact .cons rfl (by first | rfl | (simp; done) | simp [*]) (.cons rfl (by first | rfl | (simp; done) | simp [*]) (.cons rfl (by first | rfl | (simp; done) | simp [*]) (.nil _)))
  · exact (by repeat (first | exact Ent.nil _ | exact Ent.refl _ | (refine Ent.pick (by repeat (first | exact Pick.here | apply Pick.there)) ?_) | refine Ent.skip ?_))
  intro k hk
  refine c_seq ?_
  refine c_seq ?_
  refine c_region ?_
  refine l_step (s_q rfl wn (q_move rfl) ?_)
  refine l_step (s_q rfl wn (q_move rfl) ?_)
  refine l_step (s_q rfl wn (q_len Try.underlying22 rfl) ?_)
  refine l_step (s_q rfl wn (q_lss rfl rfl) ?_)
  refine l_nil ?_
  refine k_then_n ?_
  first | refine c_if rfl (fun h0 => ?_) (fun h0 => ?_) | refine c_cond rfl (fun h0 => ?_) (fun h0 => ?_)
  · skip
    refine c_skip ?_
    refine k_then_n ?_
    refine c_seq ?_
    refine c_block ?_
    refine c_region ?_
    refine l_step (s_q rfl wn (q_move rfl) ?_)
    refine l_step (s_q rfl wn (q_move rfl) ?_)
    refine l_step (s_q rfl wn (q_move rfl) ?_)
    refine l_step (s_q rfl wn (q_indexe _ Try.underlying22 sz_5 rfl rfl (by first | assumption | exact rd_ro (by assumption) | exact rd_row (by repeat (first | exact Pick.here | apply Pick.there))) (by decide) rfl (by first | assumption | omega)) ?_)
    refine l_step (s_q rfl wn (by first | exact q_loadp sc_5 rfl (by repeat (first | exact Pick.here | apply Pick.there)) rfl | exact q_loade sc_5 rfl (by first | assumption | exact rd_ro (by assumption) | exact rd_row (by repeat (first | exact Pick.here | apply Pick.there))) (fun _ => rfl) (by first | assumption | omega) (by decide) rfl) ?_)
    refine l_step (s_fn rfl wn Try.func49 rfl (by kernel_rfl) rfl (refStep_spec _ _ ρ) (by repeat (first | exact Sel.nil | exact Pick.here | apply Sel.cons | apply Pick.there)) ?_)
    rintro _ _ _ - ⟨rfl, rfl, rfl⟩
    try simp only [List.cons_append, List.nil_append]
    refine l_step (s_q rfl wn (q_assign rfl) ?_)
    refine l_nil ?_
    refine k_blk_n ?_
    refine k_then_n ?_
    refine c_region ?_
    refine l_step (s_q rfl wn (q_move rfl) ?_)
    refine l_step (s_q rfl wn (by first | exact q_add rfl rfl (by omega) (by omega) | exact q_addw rfl rfl) ?_)
    refine l_step (s_q rfl wn (q_assign rfl) ?_)
    refine l_nil ?_
    refine k_then_n ?_
    exact t_next (k + 1) (by omega) (.cons rfl (by first | rfl | (simp; done) | simp [*]) (.cons rfl (inte (by rw [crcR_succ _ _ _ (by omega)])) (.cons rfl (by first | rfl | (simp; done) | simp [*]) (.nil _)))) (by repeat (first | exact Ent.nil _ | exact Ent.refl _ | (refine Ent.pick (by repeat (first | exact Pick.here | apply Pick.there)) ?_) | refine Ent.skip ?_))
  · skip
    obtain rfl : k = t.bs.length := by omega
    rw [List.take_length]
    refine c_exit ?_
    refine k_then_x ?_
    refine k_then_x ?_
    refine k_blk_x ?_
    refine k_then_n ?_
    refine c_seq ?_
    refine c_region ?_
    refine l_step (s_q rfl wn (q_move rfl) ?_)
    refine l_step (s_q rfl wn (q64_xor32 (q := 4294967295#32) rfl rfl rfl rfl) ?_)
    refine l_step (s_q rfl wn (by first | exact q_conv rfl Try.underlying112 Try.underlying23 (by assumption) | exact q_conv rfl Try.underlying112 Try.underlying23 (wrap_u32 (by omega) (by omega)) | exact q_convw rfl Try.underlying112 Try.underlying23) ?_)
    refine l_step (s_q rfl wn (q_assign rfl) ?_)
    refine l_nil ?_
    refine k_then_n ?_
    refine c_ret ?_
    rw [show crcR 4294967295#32 t.bs ^^^ 4294967295#32 = sumB t.bs from (not_xor _).trans rfl]
    exact t_ret Γ rfl (.tmp rfl .nil) rfl (Hp.le_refl _) ⟨rfl, rfl, rfl⟩ (by (repeat refine Ent.skip ?_); exact Ent.refl _)
end Go.Sum
