/- part -/
import Derived.Test.YtijldgggjioccaaGreatDoorSlEc
import Derived.Test.YtijldgggjioccaaGreatDoorProg
set_option linter.unusedVariables false
set_option linter.unusedSimpArgs false
namespace Go.Sm
open Go Go.SL
def bitStep (r : BitVec 32) : BitVec 32 := r >>> 1 ^^^ 2197175160#32 &&& -(r &&& 1#32)
def bitSteps : Nat → BitVec 32 → BitVec 32
  | 0, r => r
  | k + 1, r => bitStep (bitSteps k r)
def stepB (r : BitVec 32) (c : UInt8) : BitVec 32 := bitSteps 8 (r ^^^ c.toBitVec.setWidth 32)
def crcR (r : BitVec 32) (bs : List UInt8) : BitVec 32 := bs.foldl stepB r
def moreB (s : BitVec 32) (bs : List UInt8) : BitVec 32 := ~~~ (crcR (~~~ s) bs)
def sumB (bs : List UInt8) : BitVec 32 := moreB 0#32 bs
def catB (ls : List (SL UInt8)) : List UInt8 := ls.flatMap fun x : SL UInt8 => x.xs
theorem crcR_next {r : BitVec 32} {bs : List UInt8} {k : Nat} (h : k < bs.length) : crcR r (bs.take (k + 1)) = stepB (crcR r (bs.take k)) (bs.getD k default) := by
  rw [take_succ_getD bs k h]; simp [crcR]
theorem crcR_app (r : BitVec 32) (a b : List UInt8) : crcR r (a ++ b) = crcR (crcR r a) b := by simp [crcR]
theorem catB_next {bs : List (SL UInt8)} {k : Nat} (h : k < bs.length) : catB (bs.take (k + 1)) = catB (bs.take k) ++ (bs.getD k default).xs := by
  rw [take_succ_getD bs k h]; simp [catB]
theorem catB_one (x : SL UInt8) : catB [x] = x.xs := by simp [catB]
theorem fits_eq {a b : BitVec 32} : decide ((a.toNat : Int) = (b.toNat : Int)) = decide (a = b) := by
  by_cases h : a = b
  · subst h; simp
  · rw [decide_eq_false h, decide_eq_false]; intro e; exact h (BitVec.eq_of_toNat_eq (by omega))
end Go.Sm
set_option maxRecDepth 100000
set_option maxHeartbeats 4000000
namespace Go.Sm
open Go Go.SL Go.Proofs
attribute [local irreducible] Go.SL.Ent
theorem sz_22 : sizeIs Tryz.prog 22 = some 1 := by kernel_rfl
theorem sc_22 : isScalar Tryz.prog 22 = true := by kernel_rfl
theorem sz_5 : sizeIs Tryz.prog 5 = some 1 := by kernel_rfl
theorem sc_5 : isScalar Tryz.prog 5 = true := by kernel_rfl
theorem step_spec (r : BitVec 32) (c : UInt8) (ρ : Hp) : Spec0 Tryz.prog 195 #[.int .u32 (r.toNat : Int), .int .u8 (c.toNat : Int)] ρ [] (fun v Γ' => v = .int .u32 ((stepB r c).toNat : Int) ∧ Γ' = []) := by
  refine spec_of (n := 20) (vs := [_, _]) (σ := [(0, _), (1, _)]) Tryz.func195 rfl rfl rfl rfl fun E Δ => ?_; rw [List.nil_append]; refine sr (e_as rfl (l_n (sr (e_mv rfl (e_mv rfl (e_q (q_as (v := .int .u32 (((UInt8.toBitVec c).setWidth 32).toNat : Int)) (q_conv rfl Tryz.underlying5 Tryz.underlying126 (wrap_u32 (by omega) (by have := UInt8.toNat_lt c; omega))) (inte (b2w _))) ?_)))))); refine e_q (q32_xor (p := r) (q := ((UInt8.toBitVec c).setWidth 32)) rfl rfl rfl rfl) ?_; refine e_as rfl (l_n (c_seq (sr (e_mv rfl (l_n (c_block ?_)))))); refine Tr.env (σ' := [(0, _), (4, _), (9, _)]) ev_ ?_; refine t_loop (ι := Lp (Nat)) (fun x => x.d ≤ 8) (fun x => 8 - x.d) (fun x => [(0, .int .u32 ((bitSteps x.d (r ^^^ c.toBitVec.setWidth 32)).toNat : Int)), (4, .int .u32 0), (9, .int .i64 (x.d : Int))]) (fun x => Δ) (⟨0, none, 0, none, 0, none, 0⟩ : Lp _) (by decide) ?_ ?_ ?_
  · exact .c (.c (.c (.nil _)))
  · exact en_
  intro x hx; refine sr (e_q (q_lss rfl rfl) (l_n (c_seq ?_))); refine c_cond rfl (fun h0 => ?_) (fun h0 => ?_)
  · try simp only [dt_, df_] at h0
    refine c_skip (k_then_n (c_seq (c_block (c_region (e_mv rfl (e_q (q32_shr (p := (bitSteps x.d (r ^^^ c.toBitVec.setWidth 32))) (m := 1) rfl rfl rfl rfl (by omega)) ?_)))))); refine e_mv rfl (e_q (q32_and (p := (bitSteps x.d (r ^^^ c.toBitVec.setWidth 32))) (q := 1#32) rfl rfl rfl rfl) ?_); refine e_q (q32_neg (p := ((bitSteps x.d (r ^^^ c.toBitVec.setWidth 32)) &&& 1#32)) rfl rfl) ?_; refine e_q (q32_and (p := 2197175160#32) (q := (-((bitSteps x.d (r ^^^ c.toBitVec.setWidth 32)) &&& 1#32))) rfl rfl rfl rfl) ?_; refine e_q (q32_xor (p := ((bitSteps x.d (r ^^^ c.toBitVec.setWidth 32)) >>> 1)) (q := (2197175160#32 &&& (-((bitSteps x.d (r ^^^ c.toBitVec.setWidth 32)) &&& 1#32)))) rfl rfl rfl rfl) ?_; refine e_as rfl (l_nil (k_blk_n (k_then_n (c_region (e_q (q_add rfl rfl (by omega) (by omega)) ?_))))); refine e_mv rfl (l_n ?_); exact t_nx (⟨x.d + 1, none, 0, none, 0, none, 0⟩ : Lp _) ⟨by (try simp only []); omega, by (try simp only []); omega⟩ (.c (.c (.c (.nil _))))
  · try simp only [dt_, df_] at h0
    have hk : x.d = 8 := by omega
    rw [hk]; refine c_exit (k_then_x (k_then_x (k_blk_x (k_then_n (sr (e_mv rfl (e_as rfl (l_n (c_ret ?_))))))))); exact t_rt [] rfl (.tmp rfl .nil) rfl ⟨rfl, rfl, rfl⟩ (by (repeat refine Ent.skip ?_); exact Ent.refl _)
theorem more_spec (s : BitVec 32) (bs_a : Option Addr) (bs_n bs_c : Nat) (bs : List (SL UInt8)) (hbs_n : bs.length = bs_n) (ρ : Hp) (hro : Ro ρ 1 bs_a bs_n bs_c (bs.flatMap encSL)) (hbm : ∀ s ∈ bs, s.ro encB 1 ρ) : Spec0 Tryz.prog 148 #[.int .u32 (s.toNat : Int), .slice bs_a bs_n bs_c] ρ [] (fun v Γ' => v = .int .u32 (((moreB s (catB bs))).toNat : Int) ∧ Γ' = []) := by
  refine spec_of (n := 31) (vs := [_, _]) (σ := [(0, _), (1, _)]) Tryz.func148 rfl rfl rfl rfl fun E Δ => ?_; rw [List.nil_append]; have hnb : bs_n ≤ 9223372036854775807 := Nat.le_trans hro.2.1 hro.2.2.1; refine sr (e_as rfl (l_n (sr (e_mv rfl (e_q (q32_compl (p := s) rfl rfl) ?_))))); refine e_as rfl (l_n (c_seq (sr (e_mv rfl (e_q (q_len Tryz.underlying37 rfl) ?_))))); refine e_mv rfl (l_n (c_block ?_)); refine Tr.env (σ' := [(4, _), (5, _), (12, _), (13, _), (14, _)]) ev_ ?_; refine t_loop (ι := Lp (Nat)) (fun x => x.d ≤ bs_n) (fun x => bs_n - x.d) (fun x => [(4, .int .u32 0), (5, .int .u32 ((crcR (~~~s) (catB (bs.take x.d))).toNat : Int)), (12, .slice bs_a bs_n bs_c), (13, .int .i64 (bs_n : Int)), (14, .int .i64 (x.d : Int))]) (fun x => Δ) (⟨0, none, 0, none, 0, none, 0⟩ : Lp _) (Nat.zero_le _) ?_ ?_ ?_
  · exact .c (.c (.c (.c (.c (.nil _)))))
  · exact en_
  intro x hx; refine sr (e_q (q_lss rfl rfl) (l_n (c_seq ?_))); refine c_cond rfl (fun h0 => ?_) (fun h0 => ?_)
  · try simp only [dt_, df_] at h0
    have hBr : Ro ρ 1 (bs.getD x.d default).a (bs.getD x.d default).xs.length (bs.getD x.d default).cap ((bs.getD x.d default).xs.flatMap encB) := hbm _ (getD_in (by omega)); have hBn : (bs.getD x.d default).xs.length ≤ 9223372036854775807 := Nat.le_trans hBr.2.1 hBr.2.2.1; refine c_skip (k_then_n (c_seq (c_block (sr (e_q (q_indexe x.d Tryz.underlying37 sz_22 rfl rfl (by first | assumption | exact rd_ro (by assumption) | exact rd_row pk_) (by decide) rfl (by first | assumption | omega | (simp only [lk_, le_]; omega))) ?_))))); refine e_q (q_loade (enc := encSL) (xs := bs) (j := x.d) (off := 0) sc_22 rfl (by first | assumption | exact rd_ro (by assumption) | exact rd_row pk_) (fun _ => rfl) (by first | assumption | omega | (simp only [lk_, le_]; omega)) (by decide) rfl) ?_; refine e_as rfl (l_n (sr (e_mv rfl (e_q (q_len Tryz.underlying22 rfl) ?_)))); refine e_mv rfl (l_n (c_block ?_)); refine Tr.env (σ' := [(4, _), (5, _), (7, _), (12, _), (13, _), (14, _), (15, _), (16, _), (17, _), (18, _), (19, _), (20, _)]) ev_ ?_; refine t_loop (ι := Lp (Nat)) (fun y => y.d ≤ (bs.getD x.d default).xs.length) (fun y => (bs.getD x.d default).xs.length - y.d) (fun y => [(4, .int .u32 0), (5, .int .u32 ((crcR (crcR (~~~s) (catB (bs.take x.d))) ((bs.getD x.d default).xs.take y.d)).toNat : Int)), (7, .slice ((bs.getD x.d default).a) ((bs.getD x.d default).xs.length) ((bs.getD x.d default).cap)), (12, .slice bs_a bs_n bs_c), (13, .int .i64 (bs_n : Int)), (14, .int .i64 (x.d : Int)), (15, .bool (decide ((x.d : Int) < (bs_n : Int)))), (16, pe bs_a x.d 1 0), (17, .slice ((bs.getD x.d default).a) ((bs.getD x.d default).xs.length) ((bs.getD x.d default).cap)), (18, .slice ((bs.getD x.d default).a) ((bs.getD x.d default).xs.length) ((bs.getD x.d default).cap)), (19, .int .i64 ((bs.getD x.d default).xs.length : Int)), (20, .int .i64 (y.d : Int))]) (fun y => Δ) (⟨0, none, 0, none, 0, none, 0⟩ : Lp _) (Nat.zero_le _) ?_ ?_ ?_
    · exact .c (.c (.c (.c (.c (.c (.c (.c (.c (.c (.c (.c (.nil _))))))))))))
    · exact en_
    intro y hy; refine sr (e_q (q_lss rfl rfl) (l_n (c_seq ?_))); refine c_cond rfl (fun h1 => ?_) (fun h1 => ?_)
    · try simp only [dt_, df_] at h1
      refine c_skip (k_then_n (c_seq (c_block (sr (e_q (q_indexe y.d Tryz.underlying22 sz_5 rfl rfl (rd_ro hBr) (by decide) rfl (by first | assumption | omega | (simp only [lk_, le_]; omega))) ?_))))); refine e_q (q_loade (enc := encB) (xs := (bs.getD x.d default).xs) (j := y.d) (off := 0) sc_5 rfl (rd_ro hBr) (fun _ => rfl) (by first | assumption | omega | (simp only [lk_, le_]; omega)) (by decide) rfl) ?_; refine e_as rfl (l_n (c_region (e_mv rfl (e_mv rfl (l_step (s_fnq rfl wn Tryz.func195 rfl (by kernel_rfl) rfl (fun ρ' hL => step_spec (crcR (crcR (~~~s) (catB (bs.take x.d))) ((bs.getD x.d default).xs.take y.d)) ((bs.getD x.d default).xs.getD y.d default) ρ') ?_)))))); refine e_as rfl (l_nil (k_blk_n (k_then_n (c_region (e_q (q_add rfl rfl (by omega) (by omega)) ?_))))); refine e_mv rfl (l_n ?_); exact t_nx (⟨y.d + 1, none, 0, none, 0, none, 0⟩ : Lp _) ⟨by (try simp only []); omega, by (try simp only []); omega⟩ (.c (.cons rfl (u32e (crcR_next (by omega)).symm) (.c (.c (.c (.c (.c (.c (.c (.c (.c (.c (.nil _)))))))))))))
    · try simp only [dt_, df_] at h1
      have hk2 : y.d = (bs.getD x.d default).xs.length := by omega
      rw [hk2, List.take_length]; refine c_exit (k_then_x (k_then_x (k_blk_x (k_blk_n (k_then_n (c_region (e_q (q_add rfl rfl (by omega) (by omega)) ?_))))))); refine e_mv rfl (l_n ?_); exact t_nx (⟨x.d + 1, none, 0, none, 0, none, 0⟩ : Lp _) ⟨by (try simp only []); omega, by (try simp only []); omega⟩ (.c (.cons rfl (u32e (by rw [catB_next (by omega), crcR_app])) (.c (.c (.c (.nil _))))))
  · try simp only [dt_, df_] at h0
    have hk : x.d = bs.length := by omega
    rw [hk, List.take_length]; refine c_exit (k_then_x (k_then_x (k_blk_x (k_then_n (sr (e_mv rfl (e_q (q32_compl (p := (crcR (~~~s) (catB bs))) rfl rfl) ?_))))))); refine e_as rfl (l_n (c_ret ?_)); exact t_rt [] rfl (.tmp rfl .nil) rfl ⟨rfl, rfl, rfl⟩ (by (repeat refine Ent.skip ?_); exact Ent.refl _)
theorem of_spec (bs_a : Option Addr) (bs_n bs_c : Nat) (bs : List (SL UInt8)) (hbs_n : bs.length = bs_n) (ρ : Hp) (hro : Ro ρ 1 bs_a bs_n bs_c (bs.flatMap encSL)) (hbm : ∀ s ∈ bs, s.ro encB 1 ρ) : Spec0 Tryz.prog 68 #[.slice bs_a bs_n bs_c] ρ [] (fun v Γ' => v = .int .u32 (((sumB (catB bs))).toNat : Int) ∧ Γ' = []) := by
  refine spec_of (n := 5) (vs := [_]) (σ := [(0, _)]) Tryz.func68 rfl rfl rfl rfl fun E Δ => ?_; rw [List.nil_append]; refine sr (e_as rfl (l_n (sr (e_mv rfl (l_step (s_fnq rfl wn Tryz.func148 rfl (by kernel_rfl) rfl (fun ρ' hL => more_spec 0#32 bs_a bs_n bs_c bs hbs_n ρ' (hL.ro hro) (fun s hs => Ro.mono hL.1 (hbm s hs))) ?_)))))); refine e_as rfl (l_n (c_ret ?_)); exact t_rt [] rfl (.tmp rfl .nil) rfl ⟨rfl, rfl, rfl⟩ (by (repeat refine Ent.skip ?_); exact Ent.refl _)
theorem fits_spec (want : BitVec 32) (bs_a : Option Addr) (bs_n bs_c : Nat) (bs : List (SL UInt8)) (hbs_n : bs.length = bs_n) (ρ : Hp) (hro : Ro ρ 1 bs_a bs_n bs_c (bs.flatMap encSL)) (hbm : ∀ s ∈ bs, s.ro encB 1 ρ) : Spec0 Tryz.prog 62 #[.int .u32 (want.toNat : Int), .slice bs_a bs_n bs_c] ρ [] (fun v Γ' => v = .bool ((decide (sumB (catB bs) = want))) ∧ Γ' = []) := by
  refine spec_of (n := 9) (vs := [_, _]) (σ := [(0, _), (1, _)]) Tryz.func62 rfl rfl rfl rfl fun E Δ => ?_; rw [List.nil_append]; refine sr (e_as rfl (l_n (sr (e_mv rfl (l_step (s_fnq rfl wn Tryz.func68 rfl (by kernel_rfl) rfl (fun ρ' hL => of_spec bs_a bs_n bs_c bs hbs_n ρ' (hL.ro hro) (fun s hs => Ro.mono hL.1 (hbm s hs))) ?_)))))); refine e_mv rfl (e_q (q_eql rfl rfl) (e_as rfl (l_n (c_ret ?_)))); exact t_rt [] rfl (.tmp rfl .nil) rfl ⟨rfl, boole fits_eq, rfl⟩ (by (repeat refine Ent.skip ?_); exact Ent.refl _)
end Go.Sm
