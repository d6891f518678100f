/- part -/
import Derived.Test.YtijldgggjioccaaGreatDoorShfP
set_option linter.unusedVariables false
set_option linter.unusedSimpArgs false
namespace Go.Shf
open Go Go.SL Go.Mou Go.Dsk Go.Sm Go.Hrd
def vtX (x : Snap1) (a : Option Addr) : VT := .mk 0 ⟨none, [], 0⟩ a 4 [.mk x.Mark.Index.toNat ⟨none, [], 0⟩ none 0 [], .mk x.Mark.Term.toNat ⟨none, [], 0⟩ none 0 [], .mk 0 x.Conf none 0 [], .mk 0 x.Body none 0 []]
theorem fits4 {x : Snap1} (a : Option Addr) (h1 : x.Mark.Index < 10000000000) (h2 : x.Mark.Term < 10000000000) : fits sh4 (vtX x a).pv :=
  ⟨_, _, rfl, (show x.Mark.Index.toNat < 18446744073709551616 by omega), _, _, rfl, (show x.Mark.Term.toNat < 18446744073709551616 by omega), _, _, rfl, trivial, _, _, rfl, trivial, rfl⟩
theorem leafB_ro {B : SL UInt8} {ρ : Hp} (h : B.ro encB 1 ρ) : (VT.mk 0 B none 0 []).ro ρ := ⟨h, Ro.nil _ _, trivial⟩
theorem vtX_ro {x : Snap1} {a : Option Addr} {ρ : Hp} (h : Ro ρ 3 a 4 4 (((vtX x a).L.map VT.val).flatMap encVal1)) (h1 : x.Conf.ro encB 1 ρ) (h2 : x.Body.ro encB 1 ρ) : (vtX x a).ro ρ := by
  refine ro_mk (SL.ro_nil encB 1 ρ) h (fun y hy => ?_); simp only [List.mem_cons, List.not_mem_nil, or_false] at hy
  rcases hy with rfl | rfl | rfl | rfl
  · exact leaf_ro _ _
  · exact leaf_ro _ _
  · exact leafB_ro h1
  · exact leafB_ro h2
theorem bodyX_len {x : PSnap} (h1 : x.ix < 10000000000) (h2 : x.tm < 10000000000) (h3 : x.conf.length ≤ 400000000000) (h4 : x.body.length ≤ 400000000000) : (bodyX x).length ≤ 36 + x.conf.length + x.body.length := by
  have a1 := numF_le (n := x.ix.toNat) (by omega); have a2 := numF_le (n := x.tm.toNat) (by omega); have a3 := numF_le (n := x.conf.length) (by omega); have a4 := numF_le (n := x.body.length) (by omega); rw [bodyX_eq]; simp only [List.length_append]; omega
theorem right_yes {i t : Int} (h : rightM i t = true) : 1 ≤ i ∧ 1 ≤ t ∧ i < 10000000000 ∧ t < 10000000000 := by
  unfold rightM at h; simp only [Bool.and_eq_true, decide_eq_true_eq] at h; omega
theorem snB_len4 (x : PSnap) : (snB x).length = 4 + (bodyX x).length := by simp only [snB, wB, List.length_append, List.length_cons, List.length_nil]
theorem four {l : List VT} (h : l.length = 4) : ∃ a b c d, l = [a, b, c, d] := by
  match l, h with
  | [a, b, c, d], _ => exact ⟨a, b, c, d, rfl⟩
theorem v_open4 {tu tv : TypeId} {v a b c d : VT} {Γ Γ1 : List Asn} (hL : v.L = [a, b, c, d]) (p : Pick (VA tu tv v) [] Γ Γ1) :
    Ent Γ (.row tv 3 v.a 4 v.cap ([a.val, b.val, c.val, d.val].flatMap encVal1) :: .row tu 1 c.B.a c.B.xs.length c.B.cap (c.B.xs.flatMap encB) :: .row tu 1 d.B.a d.B.xs.length d.B.cap (d.B.xs.flatMap encB) :: Γ1) := by
  refine Ent.trans (v_open p) ?_; rw [hL]; refine Ent.skip ?_; refine Ent.pick Pick.here ?_; refine Ent.trans (bun_out _ _) ?_; simp only [List.map_cons, List.map_nil, lc_, ln_]; refine Ent.skip (Ent.skip ?_); refine Ent.trans (v_open Pick.here) ?_; refine Ent.pick Pick.here (Ent.skip (Ent.skip ?_)); refine Ent.trans (v_open Pick.here) ?_; exact Ent.pick Pick.here (Ent.skip (Ent.skip (Ent.refl _)))
theorem val4 {v a b c d : VT} (hL : v.L = [a, b, c, d]) : valX v.pv = ⟨(a.N : Int), (b.N : Int), c.B.xs, d.B.xs⟩ ∧ bigX v.pv = (decide (10000000000 ≤ a.N) || decide (10000000000 ≤ b.N)) := by
  unfold valX bigX; rw [pv_L, hL]; simp [pv_N, pv_B]
theorem vval4 {v a b c d : VT} (hL : v.L = [a, b, c, d]) : v.val = (⟨v.N, v.B, ⟨v.a, 4, v.cap⟩⟩ : Val1) := by
  unfold VT.val; rw [hL]; rfl
def namN (s : Nm) : Int := match namedX s with | none => 0 | some n => n
def namB (s : Nm) : Bool := (namedX s).isSome
theorem nam_no {s : Nm} (h : namedX s = none) : namN s = 0 ∧ namB s = false := by unfold namN namB; rw [h]; exact ⟨rfl, rfl⟩
theorem nam_yes {s : Nm} {n : Int} (h : namedX s = some n) : namN s = n ∧ namB s = true := by unfold namN namB; rw [h]; exact ⟨rfl, rfl⟩
theorem nam_of {s : Nm} (h : namB s = true) : namedX s = some (namN s) := by
  unfold namB at h; unfold namN
  cases c : namedX s with
  | none => rw [c] at h; cases h
  | some n => rfl
theorem nam_not {s : Nm} (h : namB s = false) : namedX s = none := by
  unfold namB at h
  cases c : namedX s with
  | none => rfl
  | some n => rw [c] at h; cases h
theorem trimp_len (s p : List UInt8) : (Lib.trimPrefix s p).length ≤ s.length := by
  unfold Lib.trimPrefix
  split
  · rw [List.length_drop]; omega
  · exact Nat.le_refl _
end Go.Shf
