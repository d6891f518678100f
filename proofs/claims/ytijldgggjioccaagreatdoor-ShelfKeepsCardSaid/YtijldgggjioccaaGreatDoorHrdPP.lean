/-
  Several texts, put together.
-/
import Derived.Test.YtijldgggjioccaaGreatDoorSlEb
import Derived.Test.YtijldgggjioccaaGreatDoorSmAA
import Derived.Test.YtijldgggjioccaaGreatDoorMouPP
import Derived.Test.YtijldgggjioccaaGreatDoorDskPP
/-
  The structures of package hard.
-/
set_option linter.unusedVariables false
namespace Go.Hrd
open Go Go.SL
structure State1 where
  Term : Int
  Vote : Int
def zState1 : State1 := ⟨0, 0⟩
instance : Inhabited State1 := ⟨zState1⟩
def encState1 (x : State1) : List Value := [.int .i64 x.Term, .int .i64 x.Vote]
theorem oneState1 (x : State1) : ∀ u ∈ encState1 x, u.oneCell' = true := fun u hu => by
  simp only [encState1, List.mem_cons, List.not_mem_nil, or_false] at hu
  rcases hu with rfl | rfl <;> rfl
theorem oneState1s (xs : List State1) : ∀ u ∈ xs.flatMap encState1, u.oneCell' = true := fun u hu => by
  obtain ⟨b, _, hb⟩ := List.mem_flatMap.1 hu
  exact oneState1 b u hb
structure Hard1 where
  State : State1
  d : (Option Nat)
def zHard1 : Hard1 := ⟨zState1, none⟩
instance : Inhabited Hard1 := ⟨zHard1⟩
def encHard1 (x : Hard1) : List Value := [.int .i64 x.State.Term, .int .i64 x.State.Vote, (ptV x.d)]
theorem oneHard1 (x : Hard1) : ∀ u ∈ encHard1 x, u.oneCell' = true := fun u hu => by
  simp only [encHard1, List.mem_cons, List.not_mem_nil, or_false] at hu
  rcases hu with rfl | rfl | rfl <;> rfl
theorem oneHard1s (xs : List Hard1) : ∀ u ∈ xs.flatMap encHard1, u.oneCell' = true := fun u hu => by
  obtain ⟨b, _, hb⟩ := List.mem_flatMap.1 hu
  exact oneHard1 b u hb
end Go.Hrd

/-
  Package hard, in plain words: slots, the newest one, what a saving does. No program in sight.
-/
set_option linter.unusedVariables false
set_option linter.unusedSimpArgs false
namespace Go.Hrd
open Go Go.SL Go.Mou Go.Dsk Go.Sm
instance : DecidableEq State1 := fun a b => if h : a.Term = b.Term ∧ a.Vote = b.Vote then isTrue (by cases a; cases b; simp_all) else isFalse (fun e => h (by subst e; exact ⟨rfl, rfl⟩))
def n0 : Nm := [104, 97, 114, 100, 45, 48]
def n1 : Nm := [104, 97, 114, 100, 45, 49]
def sh3 : Sh := .row [.n, .n, .n]
def beW (a b c d : UInt8) : BitVec 32 := ((((a.toBitVec.setWidth 32) <<< 24) ||| ((b.toBitVec.setWidth 32) <<< 16)) ||| ((c.toBitVec.setWidth 32) <<< 8)) ||| (d.toBitVec.setWidth 32)
def wB (w : BitVec 32) : List UInt8 := [UInt8.ofNat (w >>> 24).toNat, UInt8.ofNat (w >>> 16).toNat, UInt8.ofNat (w >>> 8).toNat, UInt8.ofNat w.toNat]
def zSt : State1 := ⟨0, 0⟩
def top62 : Nat := 4611686018427387904
def goodV (v : PV) : Bool := !(decide (top62 ≤ (v.L.getD 0 default).N) || decide (top62 ≤ (v.L.getD 1 default).N) || decide (top62 < (v.L.getD 2 default).N))
def valF (v : PV) : Nat × State1 := if goodV v = true then ((v.L.getD 0 default).N, ⟨((v.L.getD 1 default).N : Int), ((v.L.getD 2 default).N : Int) - 1⟩) else (0, zSt)
def bodyF (b : List UInt8) : Nat × State1 := match takeF sh3 b with
  | .ok (v, []) => valF v
  | _ => (0, zSt)
/-- what bytes say: the count (0: they aren't whole), the state -/
def slotF (b : List UInt8) : Nat × State1 :=
  if b.length < 4 then (0, zSt) else if sumB (b.drop 4) = beW (b.getD 0 default) (b.getD 1 default) (b.getD 2 default) (b.getD 3 default) then bodyF (b.drop 4) else (0, zSt)
def slotV (V : FV) (n : Nm) : Nat × State1 := slotF (mgetD V n zF).1
def newF (V : FV) : Nm × Nat × State1 :=
  if (slotV V n0).1 = 0 ∧ (slotV V n1).1 = 0 then ([], 0, ⟨0, -1⟩) else if (slotV V n0).1 < (slotV V n1).1 then (n1, (slotV V n1).1, (slotV V n1).2) else (n0, (slotV V n0).1, (slotV V n0).2)
def folB (s e : State1) : Bool := !(decide (s.Term < e.Term) || ((decide (s.Term = e.Term) && decide (s.Vote ≠ e.Vote)) && decide (e.Vote ≠ -1)))
def folL (s : State1) (es : List State1) : Bool := !(decide (s.Term < 0) || decide (s.Vote < -1)) && es.all (folB s)
def pvS (cnt : Nat) (s : State1) : PV := .mk 0 [] [.mk cnt [] [], .mk s.Term.toNat [] [], .mk (s.Vote + 1).toNat [] []]
def bodyB (cnt : Nat) (s : State1) : List UInt8 := form sh3 (pvS cnt s)
def slotB (cnt : Nat) (s : State1) : List UInt8 := wB (sumB (bodyB cnt s)) ++ bodyB cnt s
def othF (V : FV) : Nm := if (newF V).1 = n0 then n1 else n0
/-- a saving: the error, the files, the calls that are left, the state -/
def remS (calls : Int) (V : FV) (o : Nm) : Int × FV × Int := if mhas V o = true then ((remR calls V [o]).1, (remR calls V [o]).2, decC calls) else (0, V, calls)
def putS (room calls : Int) (V : FV) (o : Nm) (b : List UInt8) (h s : State1) : Int × FV × Int × State1 :=
  if (appR room calls V o b).1 ≠ 0 then ((appR room calls V o b).1, (appR room calls V o b).2, decC calls, h)
  else if (syncR (decC calls) (appR room calls V o b).2 [o]).1 ≠ 0 then ((syncR (decC calls) (appR room calls V o b).2 [o]).1, (syncR (decC calls) (appR room calls V o b).2 [o]).2, decC (decC calls), h)
  else (0, (syncR (decC calls) (appR room calls V o b).2 [o]).2, decC (decC calls), s)
def saveO (room calls : Int) (V : FV) (o : Nm) (b : List UInt8) (h s : State1) : Int × FV × Int × State1 :=
  if (remS calls V o).1 ≠ 0 then ((remS calls V o).1, (remS calls V o).2.1, (remS calls V o).2.2, h)
  else putS room (remS calls V o).2.2 (remS calls V o).2.1 o b h s
def badS (h s : State1) : Bool := (!folL s [h] || decide (4611686018427387904 ≤ s.Term)) || decide (4611686018427387904 ≤ s.Vote)
def saveP (room calls : Int) (V : FV) (h s : State1) : Int × FV × Int × State1 :=
  if badS h s = true then (2, V, calls, h) else if s = h then (0, V, calls, h)
  else saveO room calls V (othF V) (slotB ((newF V).2.1 + 1) s) h s
/-! ### What the walk needs -/
theorem get_used : ∀ (V : FV) (s : Nm), (mgetD V s zF).1.length ≤ usedV V
  | [], _ => Nat.zero_le _
  | (k, u) :: V, s => by
    have h := get_used V s
    unfold mgetD at h ⊢
    simp only [mget, usedV, List.map_cons, List.sum_cons] at h ⊢
    split
    · simp only [Option.getD_some]; omega
    · omega
theorem name_used {T : FT} (h : FOk T) (s : Nm) : (mgetD (vw T) s zF).1.length ≤ 1000000000000 := by
  have h1 := get_used (vw T) s
  rw [used_vw] at h1
  exact Nat.le_trans h1 h.us
theorem slot_short {b : List UInt8} (h : b.length < 4) : slotF b = (0, zSt) := if_pos h
theorem slot_bad {b : List UInt8} (h : ¬ sumB (b.drop 4) = beW (b.getD 0 default) (b.getD 1 default) (b.getD 2 default) (b.getD 3 default)) : slotF b = (0, zSt) := by
  by_cases h0 : b.length < 4
  · exact slot_short h0
  · unfold slotF; rw [if_neg h0, if_neg h]
theorem slot_sum {b : List UInt8} (h0 : ¬ b.length < 4) (h : sumB (b.drop 4) = beW (b.getD 0 default) (b.getD 1 default) (b.getD 2 default) (b.getD 3 default)) : slotF b = bodyF (b.drop 4) := by
  unfold slotF; rw [if_neg h0, if_pos h]
theorem body_err {b : List UInt8} {v : PV} {e : Int} (h : RTake sh3 b v e) (he : e ≠ 0) : bodyF b = (0, zSt) := by
  unfold bodyF
  rcases h with ⟨h1, h2⟩ | ⟨p, r, h1, h2, h3⟩ | ⟨c, h1, h2, h3⟩
  · exact absurd h2 he
  · rw [h1]
    cases r with
    | nil => exact absurd rfl h2
    | cons x r => rfl
  · rw [h1]
theorem take3_len {b r : List UInt8} {v : PV} (h : takeF sh3 b = .ok (v, r)) : v.L.length = 3 := by
  unfold sh3 at h
  simp only [takeF, takes] at h
  split at h
  · cases h
  · rename_i L r1 h1
    cases h
    cases a1 : numT b with
    | error e => rw [a1] at h1; cases h1
    | ok p1 =>
      rw [a1] at h1; simp only at h1
      cases a2 : numT p1.2 with
      | error e => rw [a2] at h1; cases h1
      | ok p2 =>
        rw [a2] at h1; simp only at h1
        cases a3 : numT p2.2 with
        | error e => rw [a3] at h1; cases h1
        | ok p3 => rw [a3] at h1; cases h1; rfl
theorem body_ok {b : List UInt8} {v : PV} {e : Int} (h : RTake sh3 b v e) (he : e = 0) : bodyF b = valF v ∧ v.L.length = 3 := by
  rcases h with ⟨h1, h2⟩ | ⟨p, r, h1, h2, h3⟩ | ⟨c, h1, h2, h3⟩
  · exact ⟨by unfold bodyF; rw [h1], take3_len h1⟩
  · subst he; cases h3
  · exact absurd (h2.symm.trans he) h3
theorem pv_at (v : VT) {i : Nat} (hi : i < v.L.length) : (v.pv.L.getD i default).N = ((v.L.map VT.val).getD i default).N := by
  rw [pv_L, Go.Mou.getD_map VT.pv hi, Go.Mou.getD_map VT.val hi, pv_N]; rfl
theorem val_bad {v : PV} (h : goodV v = false) : valF v = (0, zSt) := by unfold valF; rw [h]; rfl
theorem val_good {v : PV} (h : goodV v = true) : valF v = ((v.L.getD 0 default).N, ⟨((v.L.getD 1 default).N : Int), ((v.L.getD 2 default).N : Int) - 1⟩) := by unfold valF; rw [h]; rfl
theorem new_none {V : FV} (h1 : (slotV V n0).1 = 0) (h2 : (slotV V n1).1 = 0) : newF V = ([], 0, ⟨0, -1⟩) := if_pos ⟨h1, h2⟩
theorem new_one {V : FV} (h : ¬((slotV V n0).1 = 0 ∧ (slotV V n1).1 = 0)) (h2 : (slotV V n0).1 < (slotV V n1).1) : newF V = (n1, (slotV V n1).1, (slotV V n1).2) := by unfold newF; rw [if_neg h, if_pos h2]
theorem new_zero {V : FV} (h : ¬((slotV V n0).1 = 0 ∧ (slotV V n1).1 = 0)) (h2 : ¬(slotV V n0).1 < (slotV V n1).1) : newF V = (n0, (slotV V n0).1, (slotV V n0).2) := by unfold newF; rw [if_neg h, if_neg h2]
theorem val_lt (v : PV) : (valF v).1 < 4611686018427387904 := by
  unfold valF
  split
  · rename_i h
    unfold goodV at h
    simp only [Bool.not_eq_true', Bool.or_eq_false_iff, decide_eq_false_iff_not] at h
    have h1 := h.1.1
    unfold top62 at h1
    show (v.L.getD 0 default).N < _
    omega
  · decide
theorem slot_lt (b : List UInt8) : (slotF b).1 < 4611686018427387904 := by
  by_cases h0 : b.length < 4
  · rw [slot_short h0]; decide
  · by_cases h1 : sumB (b.drop 4) = beW (b.getD 0 default) (b.getD 1 default) (b.getD 2 default) (b.getD 3 default)
    · rw [slot_sum h0 h1]
      unfold bodyF
      split
      · exact val_lt _
      · decide
    · rw [slot_bad h1]; decide
theorem new_lt (V : FV) : (newF V).2.1 < 4611686018427387904 := by
  by_cases h : (slotV V n0).1 = 0 ∧ (slotV V n1).1 = 0
  · rw [new_none h.1 h.2]; decide
  · by_cases h2 : (slotV V n0).1 < (slotV V n1).1
    · rw [new_one h h2]; exact slot_lt _
    · rw [new_zero h h2]; exact slot_lt _
theorem st_eq {a b : State1} : decide ([a.Term, a.Vote] = [b.Term, b.Vote]) = decide (a = b) := by
  cases a; cases b; simp
theorem fol_pos {h s : State1} (hb : badS h s = false) : 0 ≤ s.Term ∧ -1 ≤ s.Vote ∧ s.Term < 4611686018427387904 ∧ s.Vote < 4611686018427387904 := by
  unfold badS folL at hb
  simp only [Bool.or_eq_false_iff, Bool.not_eq_false', Bool.and_eq_true, Bool.not_eq_true', decide_eq_false_iff_not] at hb
  obtain ⟨⟨⟨⟨h1, h2⟩, -⟩, h3⟩, h4⟩ := hb
  omega
theorem fol_any {es : List State1} {s : State1} : (es.map fun e => !folB s e).any id = !es.all (folB s) := by simp [List.any_map, List.any_eq_not_all_not, Function.comp_def]
theorem fol_no {s : State1} {es : List State1} (h : s.Term < 0 ∨ s.Vote < -1) : folL s es = false := by
  unfold folL
  rcases h with h | h
  · rw [decide_eq_true h]; rfl
  · rw [decide_eq_true h, Bool.or_true]; rfl
theorem fol_yes {s : State1} {es : List State1} (h : ¬ s.Term < 0 ∧ ¬ s.Vote < -1) : folL s es = es.all (folB s) := by
  unfold folL; rw [decide_eq_false h.1, decide_eq_false h.2]; rfl
theorem leaf_ro (n : Nat) (ρ : Hp) : (VT.mk n ⟨none, [], 0⟩ none 0 []).ro ρ := ⟨Ro.nil _ _, Ro.nil _ _, trivial⟩
theorem ro_mk {ρ : Hp} {n : Nat} {b : SL UInt8} {a : Option Addr} {c : Nat} {l : List VT} (h1 : b.ro encB 1 ρ) (h2 : Ro ρ 3 a l.length c ((l.map VT.val).flatMap encVal1)) (h3 : ∀ x ∈ l, x.ro ρ) : (VT.mk n b a c l).ro ρ := ⟨h1, h2, (ros_all ρ).2 h3⟩
def vtS (cnt : Nat) (s : State1) (a : Option Addr) : VT := .mk 0 ⟨none, [], 0⟩ a 3 [.mk cnt ⟨none, [], 0⟩ none 0 [], .mk s.Term.toNat ⟨none, [], 0⟩ none 0 [], .mk (s.Vote + 1).toNat ⟨none, [], 0⟩ none 0 []]
theorem vtS_pv (cnt : Nat) (s : State1) (a : Option Addr) : (vtS cnt s a).pv = pvS cnt s := rfl
theorem numF_le {n : Nat} (h : n < 18446744073709551616) : (numF n).length ≤ 9 := by
  have := lowD_le8 h; rw [numF_len]; omega
theorem body_eq (cnt : Nat) (s : State1) : bodyB cnt s = numF cnt ++ (numF s.Term.toNat ++ numF (s.Vote + 1).toNat) := by
  simp [bodyB, sh3, pvS, form, forms, PV.L, PV.N]
theorem body_len {cnt : Nat} {s : State1} (h1 : cnt < 18446744073709551616) (h2 : s.Term < 4611686018427387904) (h3 : s.Vote < 4611686018427387904) : (bodyB cnt s).length ≤ 27 := by
  rw [body_eq, List.length_append, List.length_append]
  have a1 := numF_le h1
  have a2 := numF_le (n := s.Term.toNat) (by omega)
  have a3 := numF_le (n := (s.Vote + 1).toNat) (by omega)
  omega
theorem slotB_len {cnt : Nat} {s : State1} (h1 : cnt < 18446744073709551616) (h2 : s.Term < 4611686018427387904) (h3 : s.Vote < 4611686018427387904) : (slotB cnt s).length ≤ 31 := by
  have := body_len h1 h2 h3
  unfold slotB wB
  simp only [List.length_append, List.length_cons, List.length_nil]
  omega
theorem fits3 {cnt : Nat} {s : State1} {a : Option Addr} (h1 : cnt < 18446744073709551616) (h2 : s.Term < 4611686018427387904) (h3 : s.Vote < 4611686018427387904) : fits sh3 (vtS cnt s a).pv :=
  ⟨_, _, rfl, h1, _, _, rfl, (show s.Term.toNat < 18446744073709551616 by omega), _, _, rfl, (show (s.Vote + 1).toNat < 18446744073709551616 by omega), rfl⟩
/-! ### A saving's ways -/
section
variable {room calls : Int} {V : FV} {h s : State1}
theorem save_bad (hb : badS h s = true) : saveP room calls V h s = (2, V, calls, h) := if_pos hb
theorem save_same (hb : badS h s = false) (he : s = h) : saveP room calls V h s = (0, V, calls, h) := by unfold saveP; rw [if_neg (by rw [hb]; decide), if_pos he]
theorem save_go (hb : badS h s = false) (he : s ≠ h) : saveP room calls V h s = saveO room calls V (othF V) (slotB ((newF V).2.1 + 1) s) h s := by unfold saveP; rw [if_neg (by rw [hb]; decide), if_neg he]
theorem save_rem {o : Nm} {b : List UInt8} (hr : (remS calls V o).1 ≠ 0) : saveO room calls V o b h s = ((remS calls V o).1, (remS calls V o).2.1, (remS calls V o).2.2, h) := if_pos hr
theorem save_put {o : Nm} {b : List UInt8} (hr : (remS calls V o).1 = 0) : saveO room calls V o b h s = putS room (remS calls V o).2.2 (remS calls V o).2.1 o b h s := if_neg (fun k => k hr)
theorem put_app {o : Nm} {b : List UInt8} (ha : (appR room calls V o b).1 ≠ 0) : putS room calls V o b h s = ((appR room calls V o b).1, (appR room calls V o b).2, decC calls, h) := if_pos ha
theorem put_syn {o : Nm} {b : List UInt8} (ha : (appR room calls V o b).1 = 0) (hy : (syncR (decC calls) (appR room calls V o b).2 [o]).1 ≠ 0) : putS room calls V o b h s = ((syncR (decC calls) (appR room calls V o b).2 [o]).1, (syncR (decC calls) (appR room calls V o b).2 [o]).2, decC (decC calls), h) := by
  unfold putS; rw [if_neg (fun k => k ha), if_pos hy]
theorem put_yes {o : Nm} {b : List UInt8} (ha : (appR room calls V o b).1 = 0) (hy : (syncR (decC calls) (appR room calls V o b).2 [o]).1 = 0) : putS room calls V o b h s = (0, (syncR (decC calls) (appR room calls V o b).2 [o]).2, decC (decC calls), s) := by
  unfold putS; rw [if_neg (fun k => k ha), if_neg (fun k => k hy)]
end
theorem decC_le {c : Int} (h : c ≤ 9223372036854775807) : decC c ≤ 9223372036854775807 := by unfold decC; split <;> omega
theorem remS_calls {c : Int} (V : FV) (o : Nm) (h : c ≤ 9223372036854775807) : (remS c V o).2.2 ≤ 9223372036854775807 := by
  unfold remS
  split
  · exact decC_le h
  · exact h
theorem get_set : ∀ (V : FV) (s : Nm) (x : List UInt8 × Int), usedV (mset V s x) + (mgetD V s zF).1.length = usedV V + x.1.length
  | [], s, x => by simp [mset, mgetD, mget, usedV, zF]
  | (k, u) :: V, s, x => by
    have h := get_set V s x
    unfold mgetD at h ⊢
    simp only [mset, mget] at h ⊢
    split
    · simp only [usedV, List.map_cons, List.sum_cons, Option.getD_some]; omega
    · simp only [usedV, List.map_cons, List.sum_cons] at h ⊢; omega
theorem get_del : ∀ (V : FV) (s : Nm), usedV (mdel V s) + (mgetD V s zF).1.length = usedV V
  | [], s => by simp [mdel, mgetD, mget, usedV, zF]
  | (k, u) :: V, s => by
    have h := get_del V s
    unfold mgetD at h ⊢
    simp only [mdel, mget] at h ⊢
    split
    · simp only [usedV, List.map_cons, List.sum_cons, Option.getD_some]; omega
    · simp only [usedV, List.map_cons, List.sum_cons] at h ⊢; omega
theorem remS_used (c : Int) (V : FV) (o : Nm) : usedV (remS c V o).2.1 ≤ usedV V := by
  unfold remS
  split
  · show usedV (remR c V [o]).2 ≤ _
    unfold remR
    split
    · exact Nat.le_refl _
    · split
      · exact Nat.le_refl _
      · show usedV ([o].foldl mdel V) ≤ _
        have := get_del V o
        simp only [List.foldl_cons, List.foldl_nil]
        omega
  · exact Nat.le_refl _
theorem remS_has {c : Int} {V : FV} {o : Nm} (h : mhas V o = true) : remS c V o = ((remR c V [o]).1, (remR c V [o]).2, decC c) := if_pos h
theorem remS_no {c : Int} {V : FV} {o : Nm} (h : mhas V o = false) : remS c V o = (0, V, c) := if_neg (by rw [h]; decide)
theorem oth_yes {V : FV} (h : (newF V).1 = n0) : othF V = n1 := if_pos h
theorem oth_no {V : FV} (h : ¬(newF V).1 = n0) : othF V = n0 := if_neg h
theorem oth_name (V : FV) : othF V = n0 ∨ othF V = n1 := by unfold othF; split <;> simp
theorem nameB_has {V : FV} (h : VOk V) {s : Nm} (hs : nameB s = true) : s.length ≤ 32 := ((nameB_iff s).1 hs).2.1
theorem mem_set : ∀ {V : FV} {s : Nm} {x : List UInt8 × Int} {p : Nm × (List UInt8 × Int)}, p ∈ mset V s x → p ∈ V ∨ p = (s, x)
  | [], s, x, p, h => by simp only [mset, List.mem_singleton] at h; exact .inr h
  | (k, u) :: V, s, x, p, h => by
    simp only [mset] at h
    split at h
    · rename_i e
      rcases List.mem_cons.1 h with h | h
      · exact .inr (by first | exact h | rw [h, e])
      · exact .inl (List.mem_cons_of_mem _ h)
    · rcases List.mem_cons.1 h with h | h
      · exact .inl (by rw [h]; exact List.mem_cons_self)
      · exact (mem_set h).imp (List.mem_cons_of_mem _) id
theorem mem_del : ∀ {V : FV} {s : Nm} {p : Nm × (List UInt8 × Int)}, p ∈ mdel V s → p ∈ V
  | [], _, _, h => by cases h
  | (k, u) :: V, s, p, h => by
    simp only [mdel] at h
    split at h
    · exact List.mem_cons_of_mem _ h
    · rcases List.mem_cons.1 h with h | h
      · rw [h]; exact List.mem_cons_self
      · exact List.mem_cons_of_mem _ (mem_del h)
theorem len_del : ∀ (V : FV) (s : Nm), (mdel V s).length ≤ V.length
  | [], _ => Nat.le_refl _
  | (k, u) :: V, s => by
    have := len_del V s
    simp only [mdel]
    split
    · simp
    · simp only [List.length_cons]; omega
theorem vok_del {V : FV} (h : VOk V) (s : Nm) : VOk (mdel V s) :=
  ⟨mdel_nodup h.nd _, fun p hp => h.sf p (mem_del hp), fun p hp => h.nm p (mem_del hp), Nat.le_trans (len_del V s) h.ln, by have := get_del V s; have := h.us; omega⟩
theorem vok_rem {V : FV} {calls : Int} {o : Nm} (h : VOk V) : VOk (remR calls V [o]).2 := by
  unfold remR
  split
  · exact h
  · split
    · exact h
    · exact vok_del h o
theorem safe_get {V : FV} (h : VOk V) (s : Nm) : 0 ≤ (mgetD V s zF).2 ∧ (mgetD V s zF).2 ≤ ((mgetD V s zF).1.length : Int) := by
  cases c : mget V s with
  | none => rw [show mgetD V s zF = zF from by unfold mgetD; rw [c]; rfl]; exact ⟨by decide, by decide⟩
  | some x => rw [getD_of c]; exact h.sf _ (mget_some c)
theorem vok_set {V : FV} {s : Nm} {b : List UInt8} {k : Int} (h : VOk V) (hs : s.length ≤ 32) (hl : mhas V s = true ∨ V.length < 4096) (hk : 0 ≤ k ∧ k ≤ (b.length : Int)) (hu : usedV (mset V s (b, k)) ≤ 1000000000000) : VOk (mset V s (b, k)) := by
  refine ⟨mset_nodup h.nd _ _, fun p hp => ?_, fun p hp => ?_, ?_, hu⟩
  · rcases mem_set hp with hp | rfl
    · exact h.sf p hp
    · exact hk
  · rcases mem_set hp with hp | rfl
    · exact h.nm p hp
    · exact hs
  · rcases hl with hl | hl
    · have h1 := congrArg List.length (mkeys_set V s (b, k))
      rw [if_pos (mhas_iff.1 hl)] at h1
      have h2 : (mset V s (b, k)).length = V.length := by simpa [mkeys] using h1
      rw [h2]; exact h.ln
    · have := mset_len V s (b, k); omega
theorem vok_app {room calls : Int} {V : FV} {name : Nm} {more : List UInt8} (h : VOk V) (hb : usedV V + more.length ≤ 1000000000000) : VOk (appR room calls V name more).2 := by
  unfold appR
  split
  · exact h
  · split
    · exact h
    · rename_i hn
      split
      · exact h
      · rename_i hq
        simp only [Bool.or_eq_true, Bool.and_eq_true, decide_eq_true_eq, Bool.not_eq_true', not_or, not_and] at hq
        have hs := safe_get h name
        have hu := get_set V name ((mgetD V name zF).1 ++ more, (mgetD V name zF).2)
        simp only [List.length_append] at hu
        refine vok_set h (nameB_has h (by simpa using hn)) ?_ ⟨hs.1, by simp only [List.length_append]; omega⟩ (by omega)
        by_cases c : mhas V name = true
        · exact .inl c
        · have := hq.2 (by simpa using c); exact .inr (by omega)
theorem oth_len (V : FV) : (othF V).length ≤ 32 := by rcases oth_name V with h | h <;> rw [h] <;> decide
end Go.Hrd

/-
  A hard state on a disk: what is whole, what outlives a crash. No program in sight.
-/
set_option linter.unusedVariables false
set_option linter.unusedSimpArgs false
namespace Go.Hrd
open Go Go.SL Go.Mou Go.Dsk Go.Sm
theorem byteN (w : BitVec 32) (k : Nat) : ((UInt8.ofNat (w >>> k).toNat).toBitVec.setWidth 32).toNat = w.toNat / 2 ^ k % 256 := by
  rw [BitVec.toNat_setWidth, UInt8.toNat_toBitVec, UInt8.toNat_ofNat', BitVec.toNat_ushiftRight, Nat.shiftRight_eq_div_pow]
  omega
theorem beW_wB (w : BitVec 32) : beW (UInt8.ofNat (w >>> 24).toNat) (UInt8.ofNat (w >>> 16).toNat) (UInt8.ofNat (w >>> 8).toNat) (UInt8.ofNat w.toNat) = w := by
  apply BitVec.eq_of_toNat_eq
  have h24 := byteN w 24
  have h16 := byteN w 16
  have h8 := byteN w 8
  have h0 := byteN w 0
  rw [BitVec.ushiftRight_zero] at h0
  unfold beW
  rw [BitVec.toNat_or, BitVec.toNat_or, BitVec.toNat_or, BitVec.toNat_shiftLeft, BitVec.toNat_shiftLeft, BitVec.toNat_shiftLeft, h24, h16, h8, h0]
  have hw := w.isLt
  generalize w.toNat = x at *
  have e3 : (x / 2 ^ 24 % 256) <<< 24 % 2 ^ 32 = 2 ^ 24 * (x / 2 ^ 24 % 256) := by rw [Nat.shiftLeft_eq]; omega
  have e2 : (x / 2 ^ 16 % 256) <<< 16 % 2 ^ 32 = 2 ^ 16 * (x / 2 ^ 16 % 256) := by rw [Nat.shiftLeft_eq]; omega
  have e1 : (x / 2 ^ 8 % 256) <<< 8 % 2 ^ 32 = 2 ^ 8 * (x / 2 ^ 8 % 256) := by rw [Nat.shiftLeft_eq]; omega
  rw [e3, e2, e1]
  rw [← Nat.two_pow_add_eq_or_of_lt (i := 24) (by omega)]
  rw [show 2 ^ 24 * (x / 2 ^ 24 % 256) + 2 ^ 16 * (x / 2 ^ 16 % 256) = 2 ^ 16 * (2 ^ 8 * (x / 2 ^ 24 % 256) + x / 2 ^ 16 % 256) from by omega]
  rw [← Nat.two_pow_add_eq_or_of_lt (i := 16) (by omega)]
  rw [show 2 ^ 16 * (2 ^ 8 * (x / 2 ^ 24 % 256) + x / 2 ^ 16 % 256) + 2 ^ 8 * (x / 2 ^ 8 % 256) = 2 ^ 8 * (2 ^ 16 * (x / 2 ^ 24 % 256) + 2 ^ 8 * (x / 2 ^ 16 % 256) + x / 2 ^ 8 % 256) from by omega]
  rw [← Nat.two_pow_add_eq_or_of_lt (i := 8) (by omega)]
  omega
theorem num_app {bs r e : List UInt8} {n : Nat} (h : numT bs = .ok (n, r)) : numT (bs ++ e) = .ok (n, r ++ e) := by
  cases bs with
  | nil => cases h
  | cons c q =>
    simp only [numT] at h
    split at h
    · cases h
    · rename_i h1
      split at h
      · cases h
      · rename_i h2
        split at h
        · cases h
        · rename_i h3
          cases h
          simp only [List.cons_append, numT]
          rw [if_neg h1, if_neg, if_neg (by rw [List.length_append]; omega), List.take_append_of_le_length (by omega), List.drop_append_of_le_length (by omega)]
          rintro ⟨a, b⟩
          refine h2 ⟨a, ?_⟩
          cases q with
          | nil => simp at h3; omega
          | cons d q => simpa using b
theorem take3_of {bs r1 r2 r3 : List UInt8} {a b c : Nat} (h1 : numT bs = .ok (a, r1)) (h2 : numT r1 = .ok (b, r2)) (h3 : numT r2 = .ok (c, r3)) : takeF sh3 bs = .ok (.mk 0 [] [.mk a [] [], .mk b [] [], .mk c [] []], r3) := by
  simp only [sh3, takeF, takes, h1, h2, h3, List.nil_append, List.cons_append]
theorem take3_inv {bs r : List UInt8} {v : PV} (h : takeF sh3 bs = .ok (v, r)) : ∃ a r1 b r2 c, numT bs = .ok (a, r1) ∧ numT r1 = .ok (b, r2) ∧ numT r2 = .ok (c, r) ∧ v = .mk 0 [] [.mk a [] [], .mk b [] [], .mk c [] []] := by
  unfold sh3 at h
  simp only [takeF, takes] at h
  split at h
  · cases h
  · rename_i L r1 h1
    cases h
    cases a1 : numT bs with
    | error e => rw [a1] at h1; cases h1
    | ok p1 =>
      rw [a1] at h1; simp only at h1
      cases a2 : numT p1.2 with
      | error e => rw [a2] at h1; cases h1
      | ok p2 =>
        rw [a2] at h1; simp only at h1
        cases a3 : numT p2.2 with
        | error e => rw [a3] at h1; cases h1
        | ok p3 => rw [a3] at h1; cases h1; exact ⟨p1.1, p1.2, p2.1, p2.2, p3.1, rfl, a2, a3, rfl⟩
theorem take3_app {bs r e : List UInt8} {v : PV} (h : takeF sh3 bs = .ok (v, r)) : takeF sh3 (bs ++ e) = .ok (v, r ++ e) := by
  obtain ⟨a, r1, b, r2, c, h1, h2, h3, rfl⟩ := take3_inv h
  exact take3_of (num_app h1) (num_app h2) (num_app h3)
theorem slot_nz {Y : List UInt8} (h : (slotF Y).1 ≠ 0) : 4 ≤ Y.length ∧ ∃ v, takeF sh3 (Y.drop 4) = .ok (v, []) := by
  by_cases h0 : Y.length < 4
  · rw [slot_short h0] at h; exact absurd rfl h
  · by_cases h1 : sumB (Y.drop 4) = beW (Y.getD 0 default) (Y.getD 1 default) (Y.getD 2 default) (Y.getD 3 default)
    · rw [slot_sum h0 h1] at h
      unfold bodyF at h
      split at h
      · rename_i v hv; exact ⟨by omega, v, hv⟩
      · exact absurd rfl h
    · rw [slot_bad h1] at h; exact absurd rfl h
theorem prefix_zero {X : List UInt8} {m : Nat} (h : (slotF X).1 ≠ 0) (hm : m < X.length) : (slotF (X.take m)).1 = 0 := by
  refine Classical.byContradiction fun h2 => ?_
  obtain ⟨a1, v, a2⟩ := slot_nz h
  obtain ⟨b1, u, b2⟩ := slot_nz h2
  rw [List.length_take] at b1
  have h3 := take3_app (e := X.drop m) b2
  have e : (X.take m).drop 4 ++ X.drop m = X.drop 4 := by
    conv => rhs; rw [← List.take_append_drop m X]
    rw [List.drop_append_of_le_length (by rw [List.length_take]; omega)]
  rw [e, a2] at h3
  have h4 := congrArg (fun x => match x with | Except.ok p => p.2.length | .error _ => 0) h3
  simp at h4
  omega
theorem slot_round {c : Nat} {s : State1} (hc : c < 4611686018427387904) (h1 : 0 ≤ s.Term) (h2 : -1 ≤ s.Vote) (h3 : s.Term < 4611686018427387904) (h4 : s.Vote < 4611686018427387904) : slotF (slotB c s) = (c, s) := by
  have hb : takeF sh3 (bodyB c s) = .ok (pvS c s, []) := by
    rw [body_eq]
    refine take3_of (numT_numF (by omega) _) (numT_numF (by omega) _) ?_
    have := numT_numF (n := (s.Vote + 1).toNat) (by omega) []
    rwa [List.append_nil] at this
  have hd : (slotB c s).drop 4 = bodyB c s := by simp [slotB, wB]
  rw [slot_sum (by simp [slotB, wB]) (by rw [hd]; show sumB (bodyB c s) = beW _ _ _ _; exact (beW_wB _).symm), hd]
  unfold bodyF
  rw [hb]
  simp only
  rw [val_good]
  · show (c, (⟨((s.Term.toNat : Nat) : Int), (((s.Vote + 1).toNat : Nat) : Int) - 1⟩ : State1)) = (c, s)
    rw [Int.toNat_of_nonneg h1, Int.toNat_of_nonneg (by omega)]
    congr 1
    cases s
    simp
  · unfold goodV top62
    show (!(decide (4611686018427387904 ≤ c) || decide (4611686018427387904 ≤ s.Term.toNat) || decide (4611686018427387904 < (s.Vote + 1).toNat))) = true
    rw [decide_eq_false (by omega), decide_eq_false (by omega), decide_eq_false (by omega)]; rfl
/-! ### Crashes -/
theorem setD (V : FV) (s : Nm) (x : List UInt8 × Int) (t : Nm) : mgetD (mset V s x) t zF = if s = t then x else mgetD V t zF := by
  unfold mgetD; rw [mget_set]; split <;> rfl
theorem delD {V : FV} (h : (mkeys V).Nodup) (s t : Nm) : mgetD (mdel V s) t zF = if s = t then zF else mgetD V t zF := by
  unfold mgetD; rw [mget_del h]; split <;> rfl
theorem hasD {V : FV} {s : Nm} (h : mhas V s = false) : mgetD V s zF = zF := by
  unfold mgetD; rw [mget_none.2 (fun c => by rw [mhas_iff.2 c] at h; cases h)]; rfl
theorem at_all {ns : List Nm} {V : FV} (ha : ns.all (mhas V) = true) {k : Nat} (hk : k < ns.length) : mhas V (ns.getD k default) = true := (List.all_eq_true.1 ha) _ (getD_in hk)
theorem nd_ne {ns : List Nm} (hn : ns.Nodup) {j k : Nat} (hj : j < ns.length) (hk : k < ns.length) (h : j ≠ k) : ns.getD j default ≠ ns.getD k default := by
  intro e
  simp only [List.getD, List.getElem?_eq_getElem hj, List.getElem?_eq_getElem hk, Option.getD_some] at e
  exact h ((List.getElem_inj hn).1 e)
def Crd (f g : List UInt8 × Int) : Prop := ∃ m : Nat, f.2 ≤ (m : Int) ∧ m ≤ f.1.length ∧ g = (f.1.take m, (m : Int))
theorem crK_has {keep : List Int} {ns : List Nm} {V : FV} {t : Nm} (ha : ns.all (mhas V) = true) : ∀ {k : Nat}, k ≤ ns.length → mhas (crK keep ns V k).1 t = mhas V t
  | 0, _ => rfl
  | k + 1, hk => by
    have ih := fun t => crK_has (keep := keep) (t := t) ha (k := k) (by omega)
    simp only [crK]
    unfold mhas at ih ⊢
    rw [mget_set]
    split
    · rename_i e
      have h := at_all ha (show k < ns.length by omega)
      rw [e] at h
      unfold mhas at h
      rw [h]; rfl
    · exact ih t
theorem crK_at {keep : List Int} {ns : List Nm} {V : FV} (h : VOk V) (hn : ns.Nodup) (ha : ns.all (mhas V) = true) : ∀ {k : Nat}, k ≤ ns.length →
    mkeys (crK keep ns V k).1 = mkeys V ∧ usedV (crK keep ns V k).1 ≤ usedV V ∧
    (∀ j, j < k → Crd (mgetD V (ns.getD j default) zF) (mgetD (crK keep ns V k).1 (ns.getD j default) zF) ∧ (keep = [] → (mgetD (crK keep ns V k).1 (ns.getD j default) zF).2 = (mgetD V (ns.getD j default) zF).2)) ∧ ∀ s, s ∉ ns.take k → mgetD (crK keep ns V k).1 s zF = mgetD V s zF
  | 0, _ => ⟨rfl, Nat.le_refl _, fun j hj => by omega, fun s _ => rfl⟩
  | k + 1, hk => by
    obtain ⟨i1, i2, i3, i4⟩ := crK_at (keep := keep) h hn ha (k := k) (by omega)
    have hs : mhas (crK keep ns V k).1 (ns.getD k default) = true := by rw [crK_has ha (by omega)]; exact at_all ha (by omega)
    have hno : ns.getD k default ∉ ns.take k := fun hm => by
      obtain ⟨j, hj, e⟩ := List.getElem_of_mem hm
      have hj2 : j < k := by rw [List.length_take] at hj; omega
      exact nd_ne hn (show j < ns.length by omega) (show k < ns.length by omega) (by omega) (by rw [List.getElem_take] at e; simp only [List.getD, List.getElem?_eq_getElem (show j < ns.length by omega), Option.getD_some]; exact e)
    have e0 := i4 _ hno
    have hb := safe_get h (ns.getD k default)
    have hst := stay_bd keep k hb.2
    have hum := get_set (crK keep ns V k).1 (ns.getD k default)
    simp only [crK, e0]
    generalize hf : mgetD V (ns.getD k default) zF = f at *
    generalize hq : stayF keep k f = q at *
    have hm : ((f.2 + q).toNat : Int) = f.2 + q := by omega
    have hl : (f.1.take (f.2 + q).toNat).length = (f.2 + q).toNat := by rw [List.length_take]; omega
    have hu := hum (f.1.take (f.2 + q).toNat, f.2 + q)
    rw [e0, hl] at hu
    refine ⟨by rw [mkeys_set, if_pos (mhas_iff.1 hs), i1], by omega, fun j hj => ?_, fun s hs2 => ?_⟩
    · rw [setD]
      by_cases e : j = k
      · subst e
        rw [if_pos rfl, hf]
        refine ⟨⟨(f.2 + q).toNat, by omega, by omega, by rw [hm]⟩, fun hk0 => ?_⟩
        subst hk0
        show f.2 + q = f.2
        have : q = 0 := by rw [← hq]; unfold stayF; rw [if_neg (by simp)]
        omega
      · rw [if_neg (nd_ne hn (show k < ns.length by omega) (show j < ns.length by omega) (fun h => e h.symm))]
        exact i3 j (by omega)
    · rw [setD]
      rw [take_succ_getD _ _ (by omega), List.mem_append, not_or, List.mem_singleton] at hs2
      rw [if_neg (fun h => hs2.2 h.symm)]
      exact i4 s hs2.1
theorem cr_at {V : FV} (h : VOk V) (keep : List Int) : mkeys (crR keep V).1 = mkeys V ∧ usedV (crR keep V).1 ≤ usedV V ∧ ∀ s, Crd (mgetD V s zF) (mgetD (crR keep V).1 s zF) ∧ (keep = [] → (mgetD (crR keep V).1 s zF).2 = (mgetD V s zF).2) := by
  have hl : V.length = (sortS (mkeys V)).length := by rw [sortS_len]; simp [mkeys]
  have ha : (sortS (mkeys V)).all (mhas V) = true := by
    rw [List.all_eq_true]; intro t ht; exact mhas_iff.2 (sortS_mem.1 ht)
  obtain ⟨h1, h2, h3, h4⟩ := crK_at (keep := keep) h ((sortS_perm _).nodup_iff.2 h.nd) ha (k := V.length) (by omega)
  refine ⟨h1, h2, fun s => ?_⟩
  by_cases hs : s ∈ sortS (mkeys V)
  · obtain ⟨j, hj, e⟩ := List.getElem_of_mem hs
    have := h3 j (by omega)
    rw [show (sortS (mkeys V)).getD j default = s by simp only [List.getD, List.getElem?_eq_getElem hj, Option.getD_some]; exact e] at this
    exact this
  · have e := h4 s (fun hm => hs (List.mem_of_mem_take hm))
    have hz : mgetD V s zF = zF := by
      unfold mgetD; rw [mget_none.2 (fun c => hs (sortS_mem.2 c))]; rfl
    unfold crR
    rw [e, hz]
    exact ⟨⟨0, by decide, by decide, rfl⟩, fun _ => rfl⟩
theorem vok_cr {V : FV} (h : VOk V) (keep : List Int) : VOk (crR keep V).1 := by
  obtain ⟨h1, h2, h3⟩ := cr_at h keep
  have hnd : (mkeys (crR keep V).1).Nodup := by rw [h1]; exact h.nd
  refine ⟨hnd, fun p hp => ?_, fun p hp => ?_, ?_, Nat.le_trans h2 h.us⟩
  · obtain ⟨m, a1, a2, a3⟩ := (h3 p.1).1
    rw [getD_of (mget_of_mem hnd (show (p.1, p.2) ∈ _ from hp))] at a3
    rw [a3]
    simp only [List.length_take]
    omega
  · have : p.1 ∈ mkeys V := by rw [← h1]; exact List.mem_map.2 ⟨p, hp, rfl⟩
    obtain ⟨q, hq, e⟩ := List.mem_map.1 this
    rw [← e]; exact h.nm q hq
  · have := congrArg List.length h1
    simp only [mkeys, List.length_map] at this
    rw [this]; exact h.ln
/-! ### A state that is kept -/
def opp (o : Nm) : Nm := if o = n0 then n1 else n0
structure Gd (V : FV) (st : State1) (c : Nat) (o : Nm) : Prop where
  po : o = n0 ∨ o = n1
  ok : VOk V
  kn : ∀ n ∈ mkeys V, n = n0 ∨ n = n1
  le : ∀ n, (mgetD V n zF).1.length ≤ 31
  cz : c = 0 → o = n0 ∧ st = ⟨0, -1⟩ ∧ ∀ n m, (slotF ((mgetD V n zF).1.take m)).1 = 0
  cp : c ≠ 0 → slotV V (opp o) = (c, st) ∧ (mgetD V (opp o) zF).2 = ((mgetD V (opp o) zF).1.length : Int) ∧ ∀ m, (slotF ((mgetD V o zF).1.take m)).1 < c
theorem opp_ne {o : Nm} (h : o = n0 ∨ o = n1) : opp o ≠ o ∧ opp (opp o) = o ∧ (opp o = n0 ∨ opp o = n1) := by
  rcases h with rfl | rfl <;> decide
theorem full (x : List UInt8) : x.take x.length = x := List.take_length
theorem gd_new {V : FV} {st : State1} {c : Nat} {o : Nm} (h : Gd V st c o) : (newF V).2 = (c, st) ∧ othF V = o := by
  by_cases h0 : c = 0
  · obtain ⟨h1, h2, h3⟩ := h.cz h0
    have z : ∀ n, (slotV V n).1 = 0 := fun n => by have := h3 n (mgetD V n zF).1.length; rwa [full] at this
    have e := new_none (z n0) (z n1)
    exact ⟨by rw [e, h0, h2], by rw [oth_no (by rw [e]; show ¬ ([] : Nm) = n0; decide)]; exact h1.symm⟩
  · obtain ⟨h1, h2, h3⟩ := h.cp h0
    have hlt : (slotV V o).1 < c := by have := h3 (mgetD V o zF).1.length; rwa [full] at this
    have hc : (slotV V (opp o)).1 = c := by rw [h1]
    rcases h.po with rfl | rfl
    · have e : newF V = (n1, (slotV V n1).1, (slotV V n1).2) := by
        have hc' : (slotV V n1).1 = c := hc
        exact new_one (by omega) (by omega)
      have h1' : slotV V n1 = (c, st) := h1
      exact ⟨by rw [e, h1'], by rw [oth_no (by rw [e]; show ¬ n1 = n0; decide)]⟩
    · have e : newF V = (n0, (slotV V n0).1, (slotV V n0).2) := by
        have hc' : (slotV V n0).1 = c := hc
        exact new_zero (by omega) (by omega)
      have h1' : slotV V n0 = (c, st) := h1
      exact ⟨by rw [e, h1'], by rw [oth_yes (by rw [e])]⟩
theorem kn_len {V : FV} (h : (mkeys V).Nodup) (hk : ∀ n ∈ mkeys V, n = n0 ∨ n = n1) : V.length ≤ 2 := by
  match V, h, hk with
  | [], _, _ => exact Nat.zero_le _
  | [a], _, _ => simp
  | [a, b], _, _ => simp
  | a :: b :: d :: t, h, hk =>
    exfalso
    simp only [mkeys, List.map_cons, List.nodup_cons, List.mem_cons, not_or] at h
    have ha := hk a.1 (by simp [mkeys])
    have hb := hk b.1 (by simp [mkeys])
    have hd := hk d.1 (by simp [mkeys])
    rcases ha with ha | ha <;> rcases hb with hb | hb <;> rcases hd with hd | hd <;> simp_all
theorem kn_used {V : FV} (h : VOk V) (hk : ∀ n ∈ mkeys V, n = n0 ∨ n = n1) (hl : ∀ n, (mgetD V n zF).1.length ≤ 31) : usedV V ≤ 62 := by
  have hlen := kn_len h.nd hk
  have hp : ∀ p ∈ V, p.2.1.length ≤ 31 := fun p hp => by
    have := hl p.1
    rwa [getD_of (mget_of_mem h.nd (show (p.1, p.2) ∈ _ from hp))] at this
  match V, hlen, hp with
  | [], _, _ => exact Nat.zero_le _
  | [a], _, hp => have := hp a (by simp); simp [usedV]; omega
  | [a, b], _, hp => have h1 := hp a (by simp); have h2 := hp b (by simp); simp [usedV]; omega
theorem Gd.used {V : FV} {st : State1} {c : Nat} {o : Nm} (h : Gd V st c o) : usedV V ≤ 62 := kn_used h.ok h.kn h.le
theorem Gd.len {V : FV} {st : State1} {c : Nat} {o : Nm} (h : Gd V st c o) : V.length ≤ 2 := kn_len h.ok.nd h.kn
theorem slot_nil (m : Nat) : (slotF (zF.1.take m)).1 = 0 := by simp [zF, slotF, zSt]
theorem gd_nil : Gd [] ⟨0, -1⟩ 0 n0 where
  po := .inl rfl
  ok := vok_nil
  kn := fun n hn => by cases hn
  le := fun n => Nat.zero_le _
  cz := fun _ => ⟨rfl, rfl, fun n m => slot_nil m⟩
  cp := fun h => absurd rfl h
theorem gd_crash {V : FV} {st : State1} {c : Nat} {o : Nm} (h : Gd V st c o) (keep : List Int) : Gd (crR keep V).1 st c o := by
  obtain ⟨h1, h2, h3⟩ := cr_at h.ok keep
  have tk : ∀ n m, ∃ m', ((mgetD (crR keep V).1 n zF).1.take m) = (mgetD V n zF).1.take m' := fun n m => by
    obtain ⟨k, _, _, e⟩ := (h3 n).1
    exact ⟨min m k, by rw [e]; simp only [List.take_take]⟩
  refine ⟨h.po, vok_cr h.ok keep, by rw [h1]; exact h.kn, fun n => ?_, fun h0 => ?_, fun h0 => ?_⟩
  · obtain ⟨k, _, _, e⟩ := (h3 n).1
    rw [e]; have := h.le n; simp only [List.length_take]; omega
  · obtain ⟨a1, a2, a3⟩ := h.cz h0
    exact ⟨a1, a2, fun n m => by obtain ⟨m', e⟩ := tk n m; rw [e]; exact a3 n m'⟩
  · obtain ⟨a1, a2, a3⟩ := h.cp h0
    have e : mgetD (crR keep V).1 (opp o) zF = mgetD V (opp o) zF := by
      obtain ⟨k, b1, b2, e⟩ := (h3 (opp o)).1
      have : k = (mgetD V (opp o) zF).1.length := by omega
      rw [e, this, full, ← a2]
    exact ⟨by unfold slotV; rw [e]; exact a1, by rw [e]; exact a2, fun m => by obtain ⟨m', e'⟩ := tk o m; rw [e']; exact a3 m'⟩
theorem gd_del {V : FV} {st : State1} {c : Nat} {o : Nm} (h : Gd V st c o) : Gd (mdel V o) st c o := by
  have hd := fun t => delD h.ok.nd o t
  refine ⟨h.po, vok_del h.ok o, fun n hn => ?_, fun n => ?_, fun h0 => ?_, fun h0 => ?_⟩
  · obtain ⟨p, hp, e⟩ := List.mem_map.1 hn
    exact h.kn n (List.mem_map.2 ⟨p, mem_del hp, e⟩)
  · rw [hd]; split
    · exact Nat.zero_le _
    · exact h.le n
  · obtain ⟨a1, a2, a3⟩ := h.cz h0
    refine ⟨a1, a2, fun n m => ?_⟩
    rw [hd]; split
    · exact slot_nil m
    · exact a3 n m
  · obtain ⟨a1, a2, a3⟩ := h.cp h0
    have hne := (opp_ne h.po).1
    refine ⟨by unfold slotV; rw [hd, if_neg (fun e => hne e.symm)]; exact a1, by rw [hd, if_neg (fun e => hne e.symm)]; exact a2, fun m => ?_⟩
    rw [hd, if_pos rfl, slot_nil m]; omega
theorem gd_lt {V : FV} {st : State1} {c : Nat} {o : Nm} (h : Gd V st c o) (m : Nat) : (slotF ((mgetD V (opp o) zF).1.take m)).1 < c + 1 := by
  by_cases h0 : c = 0
  · rw [(h.cz h0).2.2]; omega
  · have a1 : slotF (mgetD V (opp o) zF).1 = (c, st) := (h.cp h0).1
    by_cases hm : m < (mgetD V (opp o) zF).1.length
    · rw [prefix_zero (by rw [a1]; exact h0) hm]; omega
    · rw [List.take_of_length_le (by omega), a1]; omega
section
variable {V : FV} {st s : State1} {c : Nat} {o : Nm}
theorem kn_set (h : Gd V st c o) (x : List UInt8 × Int) : ∀ n ∈ mkeys (mset V o x), n = n0 ∨ n = n1 := fun n hn => by
  rw [mkeys_set] at hn
  split at hn
  · exact h.kn n hn
  · rcases List.mem_append.1 hn with hn | hn
    · exact h.kn n hn
    · rw [List.mem_singleton.1 hn]; exact h.po
theorem vok_put (h : Gd V st c o) {b : List UInt8} {k : Int} (hb : b.length ≤ 31) (hk : 0 ≤ k ∧ k ≤ (b.length : Int)) : VOk (mset V o (b, k)) ∧ usedV (mset V o (b, k)) ≤ 93 := by
  have h1 := get_set V o (b, k)
  have h2 := h.used
  have h3 := h.len
  simp only at h1
  exact ⟨vok_set h.ok (by rcases h.po with e | e <;> rw [e] <;> decide) (.inr (by omega)) hk (by omega), by omega⟩
/-- the new slot is there, whole, and safe -/
theorem gd_done (h : Gd V st c o) (hc : c + 1 < 4611686018427387904) (hb : badS st s = false) : Gd (mset V o (slotB (c + 1) s, ((slotB (c + 1) s).length : Int))) s (c + 1) (opp o) := by
  obtain ⟨p1, p2, p3, p4⟩ := fol_pos hb
  have hl := slotB_len (cnt := c + 1) (s := s) (by omega) p3 p4
  obtain ⟨q1, q2, q3⟩ := opp_ne h.po
  refine ⟨q3, (vok_put h hl ⟨by omega, Int.le_refl _⟩).1, kn_set h _, fun n => ?_, fun h0 => by omega, fun _ => ?_⟩
  · rw [setD]; split
    · exact hl
    · exact h.le n
  · rw [q2]
    refine ⟨by unfold slotV; rw [setD, if_pos rfl]; exact slot_round hc p1 p2 p3 p4, by rw [setD, if_pos rfl], fun m => ?_⟩
    rw [setD, if_neg (fun e => q1 e.symm)]
    exact gd_lt h m
/-- the new slot is there, nothing of it safe: a crash -/
theorem gd_half (h : Gd V st c o) (hc : c + 1 < 4611686018427387904) (hb : badS st s = false) (keep : List Int) :
    (Gd (crR keep (mset V o (slotB (c + 1) s, 0))).1 st c o ∨ Gd (crR keep (mset V o (slotB (c + 1) s, 0))).1 s (c + 1) (opp o)) ∧ (keep = [] → Gd (crR keep (mset V o (slotB (c + 1) s, 0))).1 st c o) := by
  obtain ⟨p1, p2, p3, p4⟩ := fol_pos hb
  have hl := slotB_len (cnt := c + 1) (s := s) (by omega) p3 p4
  obtain ⟨q1, q2, q3⟩ := opp_ne h.po
  have hr : slotF (slotB (c + 1) s) = (c + 1, s) := slot_round hc p1 p2 p3 p4
  have hv := (vok_put (k := 0) h hl ⟨by omega, by omega⟩).1
  obtain ⟨h1, h2, h3⟩ := cr_at hv keep
  have hW := vok_cr hv keep
  generalize crR keep (mset V o (slotB (c + 1) s, 0)) = W at *
  have kn : ∀ n ∈ mkeys W.1, n = n0 ∨ n = n1 := by rw [h1]; exact kn_set h _
  have tk : ∀ n, n ≠ o → ∀ m, ∃ m', ((mgetD W.1 n zF).1.take m) = (mgetD V n zF).1.take m' := fun n hn m => by
    obtain ⟨k, _, _, e⟩ := (h3 n).1
    rw [setD, if_neg (fun x => hn x.symm)] at e
    exact ⟨min m k, by rw [e]; simp only [List.take_take]⟩
  have le : ∀ n, (mgetD W.1 n zF).1.length ≤ 31 := fun n => by
    obtain ⟨k, _, b2, e⟩ := (h3 n).1
    rw [e]; simp only [List.length_take]
    rw [setD] at b2 ⊢
    split at b2
    · rename_i q; rw [if_pos q]; simp only at b2 ⊢; omega
    · rename_i q; rw [if_neg q]; have := h.le n; omega
  obtain ⟨⟨k, b1, b2, b3⟩, b4⟩ := h3 o
  rw [setD, if_pos rfl] at b1 b2 b3 b4
  simp only at b1 b2 b3 b4
  have old : k < (slotB (c + 1) s).length → Gd W.1 st c o := fun hk => by
    have zo : ∀ m, (slotF ((mgetD W.1 o zF).1.take m)).1 = 0 := fun m => by
      rw [b3]; simp only [List.take_take]
      exact prefix_zero (by rw [hr]; simp) (by omega)
    refine ⟨h.po, hW, kn, le, fun h0 => ?_, fun h0 => ?_⟩
    · obtain ⟨a1, a2, a3⟩ := h.cz h0
      refine ⟨a1, a2, fun n m => ?_⟩
      by_cases e : n = o
      · subst e; exact zo m
      · obtain ⟨m', e'⟩ := tk n e m; rw [e']; exact a3 n m'
    · obtain ⟨a1, a2, a3⟩ := h.cp h0
      have e : mgetD W.1 (opp o) zF = mgetD V (opp o) zF := by
        obtain ⟨j, c1, c2, e⟩ := (h3 (opp o)).1
        rw [setD, if_neg (fun x => q1 x.symm)] at c1 c2 e
        have : j = (mgetD V (opp o) zF).1.length := by omega
        rw [e, this, full, ← a2]
      exact ⟨by unfold slotV; rw [e]; exact a1, by rw [e]; exact a2, fun m => by rw [zo m]; omega⟩
  refine ⟨?_, fun hk => old ?_⟩
  · by_cases hk : k < (slotB (c + 1) s).length
    · exact .inl (old hk)
    · have hk2 : k = (slotB (c + 1) s).length := by omega
      rw [hk2, full] at b3
      refine .inr ⟨q3, hW, kn, le, fun h0 => by omega, fun _ => ?_⟩
      rw [q2]
      refine ⟨by unfold slotV; rw [b3]; exact hr, by rw [b3], fun m => ?_⟩
      obtain ⟨m', e'⟩ := tk (opp o) q1 m
      rw [e']; exact gd_lt h m'
  · have := b4 hk
    rw [b3] at this
    simp only at this
    have h4 : 4 ≤ (slotB (c + 1) s).length := by simp [slotB, wB]
    omega
end
end Go.Hrd

/-
  A saving over a state that is kept; what follows what. No program in sight.
-/
set_option linter.unusedVariables false
set_option linter.unusedSimpArgs false
namespace Go.Hrd
open Go Go.SL Go.Mou Go.Dsk Go.Sm
theorem name_ok {o : Nm} (h : o = n0 ∨ o = n1) : nameB o = true := by rcases h with rfl | rfl <;> decide
/-- what a saving may have come to -/
structure Stp (V : FV) (st s : State1) (c : Nat) (o : Nm) : Prop where
  ok : VOk V
  us : usedV V ≤ 200
  cr : ∀ keep, Gd (crR keep V).1 st c o ∨ Gd (crR keep V).1 s (c + 1) (opp o)
  no : Gd (crR [] V).1 st c o
def Out (V : FV) (st s : State1) (c : Nat) (o : Nm) (calls : Int) (q : Int × FV × Int × State1) : Prop :=
  (-1 ≤ q.2.2.1 ∧ (calls = -1 → q.2.2.1 = -1 ∧ q.1 = 0) ∧ (calls = 0 ∨ calls = 1 → q.1 = 32)) ∧
  ((q.1 = 0 ∧ Gd q.2.1 s (c + 1) (opp o) ∧ q.2.2.2 = s) ∨ (q.1 = 32 ∧ q.2.2.2 = st ∧ Stp q.2.1 st s c o))
theorem gd_stp {V : FV} {st s : State1} {c : Nat} {o : Nm} (h : Gd V st c o) : Stp V st s c o :=
  ⟨h.ok, Nat.le_trans h.used (by decide), fun keep => .inl (gd_crash h keep), gd_crash h []⟩
theorem put_any {V : FV} {st s : State1} {c : Nat} {o : Nm} (h : Gd V st c o) (hno : mhas V o = false) (hc : c + 1 < 4611686018427387904) (hb : badS st s = false) {room calls : Int} (hr : 200 ≤ room) (hk : -1 ≤ calls) :
    Out V st s c o calls (putS room calls V o (slotB (c + 1) s) st s) := by
  obtain ⟨p1, p2, p3, p4⟩ := fol_pos hb
  have hl := slotB_len (cnt := c + 1) (s := s) (by omega) p3 p4
  have hd : decC calls = if calls > 0 then calls - 1 else calls := rfl
  by_cases h0 : calls = 0
  · subst h0
    have ha : appR room 0 V o (slotB (c + 1) s) = (32, V) := if_pos rfl
    rw [put_app (by rw [ha]; show (32 : Int) ≠ 0; decide), ha]
    exact ⟨⟨by show (-1 : Int) ≤ decC 0; decide, fun e => by omega, fun _ => rfl⟩, .inr ⟨rfl, rfl, gd_stp h⟩⟩
  · have hx : (!mhas V o && decide ((V.length : Int) ≥ 4096)) = false := by
      have := h.len; rw [decide_eq_false (show ¬ (V.length : Int) ≥ 4096 by omega), Bool.and_false]
    have ha : appR room calls V o (slotB (c + 1) s) = (0, mset V o (slotB (c + 1) s, 0)) := by
      unfold appR
      rw [if_neg h0, if_neg (by rw [name_ok h.po]; decide), if_neg (by rw [hx]; have := h.used; simp; omega), hasD hno]
      rfl
    have ha0 : (appR room calls V o (slotB (c + 1) s)).1 = 0 := by rw [ha]
    have hu := (vok_put (k := 0) h hl ⟨by omega, by omega⟩)
    by_cases h1 : calls = 1
    · subst h1
      have hy : syncR (decC 1) (appR room 1 V o (slotB (c + 1) s)).2 [o] = (32, mset V o (slotB (c + 1) s, 0)) := by rw [ha]; rfl
      rw [put_syn ha0 (by rw [hy]; show (32 : Int) ≠ 0; decide), hy]
      refine ⟨⟨by show -1 ≤ decC (decC 1); decide, fun e => by omega, fun _ => rfl⟩, .inr ⟨rfl, rfl, hu.1, ?_, fun keep => (gd_half h hc hb keep).1, (gd_half h hc hb []).2 rfl⟩⟩
      exact Nat.le_trans hu.2 (by decide)
    · have hy : syncR (decC calls) (appR room calls V o (slotB (c + 1) s)).2 [o] = (0, mset V o (slotB (c + 1) s, ((slotB (c + 1) s).length : Int))) := by
        rw [ha]
        unfold syncR
        have hm : mhas (mset V o (slotB (c + 1) s, (0 : Int))) o = true := by unfold mhas; rw [mget_set, if_pos rfl]; rfl
        rw [if_neg (by rw [hd]; split <;> omega), if_neg (by simp [hm])]
        simp only [List.foldl_cons, List.foldl_nil]
        unfold syncStep
        rw [setD, if_pos rfl, mset_two]
      have hdd : -1 ≤ decC (decC calls) ∧ (calls = -1 → decC (decC calls) = -1) := by
        constructor
        · have a : -1 ≤ decC calls := by rw [hd]; split <;> omega
          have b : decC (decC calls) = if decC calls > 0 then decC calls - 1 else decC calls := rfl
          rw [b]; split <;> omega
        · intro e; subst e; rfl
      rw [put_yes ha0 (by rw [hy]), hy]
      exact ⟨⟨hdd.1, fun e => ⟨hdd.2 e, rfl⟩, fun e => by omega⟩, .inl ⟨rfl, gd_done h hc hb, rfl⟩⟩
theorem del_has {V : FV} (h : VOk V) (o : Nm) : mhas (mdel V o) o = false := by unfold mhas; rw [mget_del h.nd, if_pos rfl]; rfl
theorem save_any {V : FV} {st s : State1} {c : Nat} {o : Nm} (h : Gd V st c o) (hc : c + 1 < 4611686018427387904) (hb : badS st s = false) (hne : s ≠ st) {room calls : Int} (hr : 200 ≤ room) (hk : -1 ≤ calls) :
    Out V st s c o calls (saveP room calls V st s) := by
  obtain ⟨g1, g2⟩ := gd_new h
  rw [save_go hb hne, g1, g2]
  cases hm : mhas V o with
  | false =>
    have e := remS_no (c := calls) hm
    rw [save_put (by rw [e]), e]
    exact put_any h hm hc hb hr hk
  | true =>
    by_cases h0 : calls = 0
    · subst h0
      have e : remS 0 V o = (32, V, 0) := by rw [remS_has hm]; rfl
      rw [save_rem (by rw [e]; show (32 : Int) ≠ 0; decide), e]
      exact ⟨⟨by show (-1 : Int) ≤ 0; decide, fun e => by omega, fun _ => rfl⟩, .inr ⟨rfl, rfl, gd_stp h⟩⟩
    · have e : remS calls V o = (0, mdel V o, decC calls) := by
        rw [remS_has hm]
        unfold remR
        rw [if_neg h0, if_neg (by simp [hm, onceB])]
        rfl
      rw [save_put (by rw [e]), e]
      have hd : -1 ≤ decC calls ∧ (calls = -1 → decC calls = -1) ∧ (calls = 1 → decC calls = 0) := by
        unfold decC; refine ⟨?_, ?_, ?_⟩
        · split <;> omega
        · intro e; subst e; rfl
        · intro e; subst e; rfl
      obtain ⟨⟨a1, a2, a3⟩, a4⟩ := put_any (gd_del h) (del_has h.ok o) hc hb hr hd.1
      refine ⟨⟨a1, fun e => a2 (hd.2.1 e), fun e => a3 ?_⟩, a4⟩
      rcases e with e | e
      · omega
      · exact .inl (hd.2.2 e)
theorem save_one {V : FV} {st s : State1} {room calls : Int} (hb : badS st s = true) : saveP room calls V st s = (2, V, calls, st) := save_bad hb
/-! ### What follows what -/
theorem fol_iff {s e : State1} : folB s e = true ↔ e.Term ≤ s.Term ∧ (s.Term = e.Term → s.Vote = e.Vote ∨ e.Vote = -1) := by
  unfold folB
  simp only [Bool.not_eq_true', Bool.or_eq_false_iff, decide_eq_false_iff_not, Bool.and_eq_false_iff, Bool.and_eq_false_imp, decide_eq_true_eq]
  omega
theorem fol_rfl (s : State1) : folB s s = true := fol_iff.2 ⟨Int.le_refl _, fun _ => .inl rfl⟩
theorem fol_trans {a b c : State1} (h1 : folB a b = true) (h2 : folB b c = true) : folB a c = true := by
  rw [fol_iff] at *
  omega
theorem bad_fol {h s : State1} (hb : badS h s = false) : folB s h = true := by
  unfold badS folL at hb
  simp only [Bool.or_eq_false_iff, Bool.not_eq_false', Bool.and_eq_true, List.all_cons, List.all_nil, Bool.and_true] at hb
  exact hb.1.1.2
theorem bad_mk {h s : State1} (h1 : 0 ≤ s.Term) (h2 : -1 ≤ s.Vote) (h3 : folB s h = true) (h4 : s.Term < 4611686018427387904) (h5 : s.Vote < 4611686018427387904) : badS h s = false := by
  unfold badS folL
  simp only [List.all_cons, List.all_nil, h3, Bool.and_true]
  rw [decide_eq_false (show ¬ s.Term < 0 by omega), decide_eq_false (show ¬ s.Vote < -1 by omega), decide_eq_false (show ¬ 4611686018427387904 ≤ s.Term by omega), decide_eq_false (show ¬ 4611686018427387904 ≤ s.Vote by omega)]
  rfl
/-! ### The same, as the laws' walks want it -/
section
variable {T T' : FT} {st s : State1} {c : Nat} {o : Nm} {room calls : Int}
theorem Gd.fok (h : Gd (vw T) st c o) : FOk T := Go.Dsk.fok.2 h.ok
theorem Gd.usd (h : Gd (vw T) st c o) : usedT T ≤ 62 := by rw [← used_vw]; exact h.used
theorem Stp.fok (h : Stp (vw T) st s c o) : FOk T := Go.Dsk.fok.2 h.ok
theorem Stp.usd (h : Stp (vw T) st s c o) : usedT T ≤ 200 := by rw [← used_vw]; exact h.us
theorem Gd.on (h : Gd (vw T) st c o) : (newF (vw T)).2.2 = st := by rw [(gd_new h).1]
theorem save_fine (h : Gd (vw T) st c o) (hc : c + 1 < 4611686018427387904) (hb : badS st s = false) (hne : s ≠ st) (hr : 200 ≤ room) (hv : vw T' = (saveP room (-1) (vw T) st s).2.1) :
    (saveP room (-1) (vw T) st s).1 = 0 ∧ Gd (vw T') s (c + 1) (opp o) ∧ (saveP room (-1) (vw T) st s).2.2.2 = s ∧ (saveP room (-1) (vw T) st s).2.2.1 = -1 := by
  obtain ⟨⟨-, a2, -⟩, a4⟩ := save_any h hc hb hne hr (Int.le_refl (-1))
  obtain ⟨b1, b2⟩ := a2 rfl
  rcases a4 with ⟨c1, c2, c3⟩ | ⟨c1, c2, c3⟩
  · exact ⟨c1, by rw [hv]; exact c2, c3, b1⟩
  · rw [b2] at c1; cases c1
theorem save_stop (h : Gd (vw T) st c o) (hc : c + 1 < 4611686018427387904) (hb : badS st s = false) (hne : s ≠ st) (hr : 200 ≤ room) (hk : calls = 0 ∨ calls = 1) (hv : vw T' = (saveP room calls (vw T) st s).2.1) :
    (saveP room calls (vw T) st s).1 = 32 ∧ Stp (vw T') st s c o ∧ (saveP room calls (vw T) st s).2.2.2 = st := by
  obtain ⟨⟨-, -, a3⟩, a4⟩ := save_any h hc hb hne hr (show -1 ≤ calls by omega)
  have b := a3 hk
  rcases a4 with ⟨c1, c2, c3⟩ | ⟨c1, c2, c3⟩
  · rw [c1] at b; cases b
  · exact ⟨c1, by rw [hv]; exact c3, c2⟩
theorem save_not (h : Gd (vw T) st c o) (hb : badS st s = true) (hv : vw T' = (saveP room calls (vw T) st s).2.1) :
    (saveP room calls (vw T) st s).1 = 2 ∧ Gd (vw T') st c o ∧ (saveP room calls (vw T) st s).2.2.2 = st ∧ (saveP room calls (vw T) st s).2.2.1 = calls := by
  rw [save_bad hb] at hv ⊢
  exact ⟨rfl, by rw [hv]; exact h, rfl, rfl⟩
theorem save_self (h : Gd (vw T) st c o) (hb : badS st st = false) (hv : vw T' = (saveP room calls (vw T) st st).2.1) :
    (saveP room calls (vw T) st st).1 = 0 ∧ Gd (vw T') st c o ∧ (saveP room calls (vw T) st st).2.2.2 = st ∧ (saveP room calls (vw T) st st).2.2.1 = calls := by
  rw [save_same hb rfl] at hv ⊢
  exact ⟨rfl, by rw [hv]; exact h, rfl, rfl⟩
theorem save_again {t u w : Int} (h : Gd (vw T) ⟨t, u⟩ c o) (ht : 0 ≤ t ∧ t < 1000) (hu : 0 ≤ u ∧ u < 9) (hw : 0 ≤ w ∧ w < 9) (hv : vw T' = (saveP room calls (vw T) ⟨t, u⟩ ⟨t, w⟩).2.1) :
    (saveP room calls (vw T) ⟨t, u⟩ ⟨t, w⟩).1 = (if u = w then 0 else 2) ∧ Gd (vw T') ⟨t, u⟩ c o ∧ (saveP room calls (vw T) ⟨t, u⟩ ⟨t, w⟩).2.2.2 = ⟨t, u⟩ ∧ (saveP room calls (vw T) ⟨t, u⟩ ⟨t, w⟩).2.2.1 = calls := by
  by_cases e : u = w
  · subst e
    rw [if_pos rfl]
    exact save_self h (bad_mk (by simp only []; omega) (by simp only []; omega) (fol_rfl _) (by simp only []; omega) (by simp only []; omega)) hv
  · rw [if_neg e]
    refine save_not h ?_ hv
    have h1 : folB ⟨t, w⟩ ⟨t, u⟩ = false := by
      cases hf : folB ⟨t, w⟩ ⟨t, u⟩ with
      | false => rfl
      | true => rcases (fol_iff.1 hf).2 rfl with h9 | h9 <;> simp only [] at h9 <;> omega
    unfold badS folL
    simp only [List.all_cons, List.all_nil, h1, Bool.false_and, Bool.and_false, Bool.not_false, Bool.true_or]
theorem Gd.crash (h : Gd (vw T) st c o) {keep : List Int} (hv : vw T' = (crR keep (vw T)).1) : Gd (vw T') st c o := by rw [hv]; exact gd_crash h keep
theorem Stp.crash (h : Stp (vw T) st s c o) {keep : List Int} (hv : vw T' = (crR keep (vw T)).1) : Gd (vw T') st c o ∨ Gd (vw T') s (c + 1) (opp o) := by rw [hv]; exact h.cr keep
theorem Stp.crash0 (h : Stp (vw T) st s c o) (hv : vw T' = (crR [] (vw T)).1) : Gd (vw T') st c o := by rw [hv]; exact h.no
end
theorem rfol {s e : State1} : (decide (s.Term > e.Term) || (decide (s.Term = e.Term) && (decide (s.Vote = e.Vote) || decide (e.Vote = -1)))) = folB s e := by
  rw [Bool.eq_iff_iff, fol_iff]; simp only [Bool.or_eq_true, Bool.and_eq_true, decide_eq_true_eq]; omega
theorem fol_two {s a b : State1} : folL s [a, b] = (folL s [a] && folL s [b]) := by
  unfold folL
  simp only [List.all_cons, List.all_nil, Bool.and_true]
  generalize (!(decide (s.Term < 0) || decide (s.Vote < -1))) = X
  cases X <;> simp
theorem fol_nil {s : State1} : folL s [] = (decide (s.Term ≥ 0) && decide (s.Vote ≥ -1)) := by
  unfold folL
  rw [Bool.eq_iff_iff]
  simp
end Go.Hrd
