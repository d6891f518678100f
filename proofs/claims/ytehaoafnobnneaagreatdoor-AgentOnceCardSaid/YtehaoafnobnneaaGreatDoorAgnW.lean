/-
  What the walks over package agent want. No program in sight.
-/
import Derived.Test.YtehaoafnobnneaaGreatDoorAgnL
set_option linter.unusedVariables false
set_option linter.unusedSimpArgs false
namespace Go.Agn
open Go Go.SL Go.Mou Go.Dsk Go.Sm Go.Hrd
/-! ### Four bytes' number -/
theorem sh24 (c : UInt8) : IntKind.wrap .i64 ((c.toNat : Int) * 2 ^ (min (24 : Int).toNat 64)) = ((c.toNat * 16777216 : Nat) : Int) := by
  have := c.toNat_lt
  rw [show min (24 : Int).toNat 64 = 24 from by decide, show (2 : Int) ^ 24 = 16777216 from by decide, wrap_i64 (by omega) (by omega)]; omega
theorem sh16 (c : UInt8) : IntKind.wrap .i64 ((c.toNat : Int) * 2 ^ (min (16 : Int).toNat 64)) = ((c.toNat * 65536 : Nat) : Int) := by
  have := c.toNat_lt
  rw [show min (16 : Int).toNat 64 = 16 from by decide, show (2 : Int) ^ 16 = 65536 from by decide, wrap_i64 (by omega) (by omega)]; omega
theorem sh08 (c : UInt8) : IntKind.wrap .i64 ((c.toNat : Int) * 2 ^ (min (8 : Int).toNat 64)) = ((c.toNat * 256 : Nat) : Int) := by
  have := c.toNat_lt
  rw [show min (8 : Int).toNat 64 = 8 from by decide, show (2 : Int) ^ 8 = 256 from by decide, wrap_i64 (by omega) (by omega)]; omega
theorem or64 {A b : Nat} (i a : Nat) (hA : A = 2 ^ i * a) (hb : b < 2 ^ i) (h : A + b < 9223372036854775808) : IntKind.wrap .i64 (((BitVec.ofInt 64 (A : Int) ||| BitVec.ofInt 64 (b : Int)).toNat : Nat) : Int) = ((A + b : Nat) : Int) := by
  have e1 : (BitVec.ofInt 64 (A : Int)).toNat = A := by rw [BitVec.ofInt_natCast, BitVec.toNat_ofNat]; omega
  have e2 : (BitVec.ofInt 64 (b : Int)).toNat = b := by rw [BitVec.ofInt_natCast, BitVec.toNat_ofNat]; omega
  have e3 : A ||| b = A + b := by rw [hA]; exact (Nat.two_pow_add_eq_or_of_lt hb a).symm
  rw [BitVec.toNat_or, e1, e2, e3, wrap_i64 (by omega) (by omega)]
theorem beW_nat (a b c d : UInt8) : (beW a b c d).toNat = a.toNat * 16777216 + b.toNat * 65536 + c.toNat * 256 + d.toNat := by
  have ha := a.toNat_lt
  have hb := b.toNat_lt
  have hc := c.toNat_lt
  have hd := d.toNat_lt
  unfold beW
  rw [BitVec.toNat_or, BitVec.toNat_or, BitVec.toNat_or, BitVec.toNat_shiftLeft, BitVec.toNat_shiftLeft, BitVec.toNat_shiftLeft]
  simp only [BitVec.toNat_setWidth, UInt8.toNat_toBitVec]
  generalize a.toNat = a at *
  generalize b.toNat = b at *
  generalize c.toNat = c at *
  generalize d.toNat = d at *
  have e3 : (a % 2 ^ 32) <<< 24 % 2 ^ 32 = 2 ^ 24 * a := by rw [Nat.shiftLeft_eq]; omega
  have e2 : (b % 2 ^ 32) <<< 16 % 2 ^ 32 = 2 ^ 16 * b := by rw [Nat.shiftLeft_eq]; omega
  have e1 : (c % 2 ^ 32) <<< 8 % 2 ^ 32 = 2 ^ 8 * c := by rw [Nat.shiftLeft_eq]; omega
  have e0 : d % 2 ^ 32 = d := by omega
  rw [e3, e2, e1, e0]
  rw [← Nat.two_pow_add_eq_or_of_lt (i := 24) (by omega)]
  rw [show 2 ^ 24 * a + 2 ^ 16 * b = 2 ^ 16 * (2 ^ 8 * a + b) from by omega]
  rw [← Nat.two_pow_add_eq_or_of_lt (i := 16) (by omega)]
  rw [show 2 ^ 16 * (2 ^ 8 * a + b) + 2 ^ 8 * c = 2 ^ 8 * (2 ^ 16 * a + 2 ^ 8 * b + c) from by omega]
  rw [← Nat.two_pow_add_eq_or_of_lt (i := 8) (by omega)]
  omega
theorem numW_nat (b : List UInt8) : numW b = (b.getD 0 default).toNat * 16777216 + (b.getD 1 default).toNat * 65536 + (b.getD 2 default).toNat * 256 + (b.getD 3 default).toNat := beW_nat _ _ _ _
theorem numW_lt (b : List UInt8) : numW b < 4294967296 := (beW _ _ _ _).isLt
def takeS (B : SL UInt8) (m : Nat) : SL UInt8 := ⟨B.a, B.xs.take m, B.cap⟩
theorem ro_cut {ρ : Hp} {B : SL UInt8} (h : B.ro encB 1 ρ) {m n : Nat} (hm : m ≤ n) (hn : n ≤ B.xs.length) : (dropS (takeS B n) m).ro encB 1 ρ :=
  (Suf.drop (takeS B n) (by show m ≤ (B.xs.take n).length; rw [List.length_take]; omega)).1 ρ (ro_takeS h hn)
theorem right_next {ns : List Int} {j : Nat} (hj : j < ns.length) : rightB (ns.take (j + 1)) = (rightB (ns.take j) && (decide (0 ≤ ns.getD j default) && decide (ns.getD j default < 1099511627776))) := by
  unfold rightB
  rw [take_succ_getD ns j hj, List.all_append]; simp
theorem right_bad {ns : List Int} {i : Nat} (hi : i < ns.length) (h : ns.getD i default < 0 ∨ 1099511627776 ≤ ns.getD i default) : rightB ns = false := by
  unfold rightB
  rw [Bool.eq_false_iff]
  intro q
  have := (List.all_eq_true.1 q) _ (getD_in hi)
  simp only [Bool.and_eq_true, decide_eq_true_eq] at this
  omega
/-! ### A row as a value -/
def lf (n : Int) : VT := .mk n.toNat ⟨none, [], 0⟩ none 0 []
def vtK (k : Kept1) (a : Option Addr) (c : Nat) : VT := .mk 0 ⟨none, [], 0⟩ a c ((kL k).map lf)
theorem vtK_pv (k : Kept1) (a : Option Addr) (c : Nat) : (vtK k a c).pv = pvK k := rfl
theorem fits6 {k : Kept1} (h : KOk k) (a : Option Addr) (c : Nat) : fits sh6 (vtK k a c).pv := by
  obtain ⟨b1, b2, b3, b4, b5, b6⟩ := kok_at h
  exact ⟨_, _, rfl, (show k.Fence.ID.toNat < 18446744073709551616 by omega), _, _, rfl, (show k.Fence.Epoch.toNat < 18446744073709551616 by omega), _, _, rfl, (show k.version.toNat < 18446744073709551616 by omega), _, _, rfl, (show k.done.toNat < 18446744073709551616 by omega), _, _, rfl, (show k.at_.toNat < 18446744073709551616 by omega), _, _, rfl, (show k.to_.toNat < 18446744073709551616 by omega), rfl⟩
theorem vtK_ro {k : Kept1} {a : Option Addr} {c : Nat} {ρ : Hp} (h : Ro ρ 3 a 6 c ((((kL k).map lf).map VT.val).flatMap encVal1)) : (vtK k a c).ro ρ := by
  refine ro_mk (SL.ro_nil encB 1 ρ) h (fun x hx => ?_)
  obtain ⟨n, hn, rfl⟩ := List.mem_map.1 hx
  exact leaf_ro _ _
def vsK (k : Kept1) (j : Nat) : List Val1 := ((kL k).take j).map fun n => (lf n).val
theorem vsK_next {k : Kept1} {j : Nat} (hj : j < 6) : vsK k (j + 1) = vsK k j ++ [(lf ((kL k).getD j default)).val] := by
  unfold vsK
  rw [take_succ_getD _ _ (show j < (kL k).length from hj), List.map_append]; rfl
theorem kL_nn {k : Kept1} (h : KOk k) {j : Nat} (hj : j < 6) : 0 ≤ (kL k).getD j default ∧ (kL k).getD j default < 4611686018427387904 := h _ (getD_in (show j < (kL k).length from hj))
theorem lenK_len (k : Kept1) : (lenK k).length = 4 + (bodyK k).length := by simp only [lenK, wB, List.length_append, List.length_cons, List.length_nil]
theorem rowK_len4 (k : Kept1) : (rowK k).length = 4 + (lenK k).length := by simp only [rowK, wB, List.length_append, List.length_cons, List.length_nil]
/-! ### A row taken -/
def nsV (L : List VT) : List Int := L.map fun y => (y.N : Int)
theorem nsV_next {L : List VT} {j : Nat} (hj : j < L.length) : nsV (L.take (j + 1)) = nsV (L.take j) ++ [((L.getD j default).N : Int)] := by
  unfold nsV; rw [take_succ_getD _ _ hj, List.map_append]; rfl
theorem val_N {L : List VT} {j : Nat} (hj : j < L.length) : ((L.map VT.val).getD j default).N = (L.getD j default).N := by rw [Go.Mou.getD_map VT.val hj]; rfl
theorem good_no {L : List VT} {j : Nat} (hj : j < L.length) (h : top62 ≤ (L.getD j default).N) (v : VT) (hv : v.L = L) : goodK v.pv = false := by
  unfold goodK
  rw [pv_L, hv, Bool.eq_false_iff]
  intro q
  rw [List.all_map, List.all_eq_true] at q
  have := q _ (getD_in hj)
  simp only [Function.comp, pv_N, decide_eq_true_eq] at this
  omega
theorem good_yes (v : VT) (h : ∀ y ∈ v.L, y.N < top62) : goodK v.pv = true := by
  unfold goodK
  rw [pv_L, List.all_map, List.all_eq_true]
  intro y hy
  simp only [Function.comp, pv_N, decide_eq_true_eq]
  exact h y hy
theorem pv_ns (v : VT) : (v.pv.L.map fun x => (x.N : Int)) = nsV v.L := by
  rw [pv_L, List.map_map]
  apply List.map_congr_left
  intro y _
  simp only [Function.comp, pv_N]
/-! ### Keeping, opening -/
section
variable {room calls : Int} {V : FV} {k k' : Kept1}
theorem ks_lt (h : (mgetD V nA zF).1.length < 512) : keepS room calls V k = wrS room calls V nA (rowK k) := if_pos h
theorem ks_er (h : ¬ (mgetD V nA zF).1.length < 512) (h1 : (wrS room calls V nF (rowK k)).1 ≠ 0) : keepS room calls V k = wrS room calls V nF (rowK k) := by unfold keepS; rw [if_neg h, if_pos h1]
theorem ks_ok (h : ¬ (mgetD V nA zF).1.length < 512) (h1 : (wrS room calls V nF (rowK k)).1 = 0) : keepS room calls V k = ((renR (wrS room calls V nF (rowK k)).2.2 (wrS room calls V nF (rowK k)).2.1 nF nA).1, (renR (wrS room calls V nF (rowK k)).2.2 (wrS room calls V nF (rowK k)).2.1 nF nA).2, decC (wrS room calls V nF (rowK k)).2.2) := by
  unfold keepS; rw [if_neg h, if_neg (fun q => q h1)]
theorem wr_er {o : Nm} {b : List UInt8} (h : (appR room calls V o b).1 ≠ 0) : wrS room calls V o b = ((appR room calls V o b).1, (appR room calls V o b).2, decC calls) := if_pos h
theorem wr_ok {o : Nm} {b : List UInt8} (h : (appR room calls V o b).1 = 0) : wrS room calls V o b = ((syncR (decC calls) (appR room calls V o b).2 [o]).1, (syncR (decC calls) (appR room calls V o b).2 [o]).2, decC (decC calls)) := if_neg (fun q => q h)
theorem wr_calls {o : Nm} {b : List UInt8} (h : calls ≤ 9223372036854775807) : (wrS room calls V o b).2.2 ≤ 9223372036854775807 := by
  unfold wrS; split
  · exact decC_le h
  · exact decC_le (decC_le h)
theorem vok_syn {o : Nm} {c : Int} (ho : o.length ≤ 32) (hV : VOk V) : VOk (syncR c V [o]).2 := by
  unfold syncR
  split
  · exact hV
  · split
    · exact hV
    · rename_i hh
      simp only [List.foldl_cons, List.foldl_nil]
      unfold syncStep
      have hm : mhas V o = true := by simpa using hh
      have hu := get_set V o ((mgetD V o zF).1, ((mgetD V o zF).1.length : Int))
      have h5 := hV.us
      have e9 : (((mgetD V o zF).1, ((mgetD V o zF).1.length : Int)) : List UInt8 × Int).1 = (mgetD V o zF).1 := rfl
      rw [e9] at hu
      exact vok_set hV ho (.inl hm) ⟨by omega, Int.le_refl _⟩ (by omega)
theorem vok_wr {o : Nm} {b : List UInt8} (ho : o.length ≤ 32) (hV : VOk V) (hb : usedV V + b.length ≤ 1000000000000) : VOk (wrS room calls V o b).2.1 := by
  unfold wrS
  split
  · exact vok_app hV hb
  · exact vok_syn ho (vok_app hV hb)
theorem cut_zero {m : Nat} (h : m < (mgetD V nA zF).1.length) : (cutR (-1) V nA (m : Int)).1 = 0 := by
  have hh : mhas V nA = true := by
    cases c : mhas V nA with
    | true => rfl
    | false => rw [hasD c] at h; exact absurd h (Nat.not_lt_zero _)
  unfold cutR
  rw [if_neg (by decide), if_neg (by rw [hh]; decide), if_neg (by simp; omega)]
theorem rem_zero (h : mhas V nF = true) : (remR (-1) V [nF]).1 = 0 := by
  unfold remR
  rw [if_neg (by decide), if_neg (by simp [h, onceB])]
theorem vok_cut {m : Nat} (hV : VOk V) : VOk (cutR (-1) V nA (m : Int)).2 := by
  unfold cutR
  rw [if_neg (by decide)]
  split
  · exact hV
  · rename_i hh
    split
    · exact hV
    · rename_i hc
      simp only [Bool.or_eq_true, decide_eq_true_eq, not_or] at hc
      have hs := safe_get hV nA
      have hu := get_set V nA ((mgetD V nA zF).1.take m, mnI (mgetD V nA zF).2 m)
      have h5 := hV.us
      simp only [List.length_take] at hu
      refine vok_set hV (by decide) (.inl (by simpa using hh)) ?_ (by rw [Int.toNat_natCast]; omega)
      rw [Int.toNat_natCast, List.length_take]
      unfold mnI
      split <;> omega
theorem used_cut {m : Nat} : usedV (cutR (-1) V nA (m : Int)).2 ≤ usedV V := by
  unfold cutR
  rw [if_neg (by decide)]
  split
  · exact Nat.le_refl _
  · split
    · exact Nat.le_refl _
    · have hu := get_set V nA ((mgetD V nA zF).1.take m, mnI (mgetD V nA zF).2 m)
      simp only [List.length_take] at hu
      show usedV (mset V nA ((mgetD V nA zF).1.take (m : Int).toNat, mnI (mgetD V nA zF).2 (m : Int))) ≤ usedV V
      rw [Int.toNat_natCast]; omega
theorem opn_cr {m : Nat} (h : m < (mgetD V nA zF).1.length) (hf : mhas (cutR (-1) V nA (m : Int)).2 nF = true) : opnV V m = (remR (-1) (cutR (-1) V nA (m : Int)).2 [nF]).2 := by
  unfold opnV remV; rw [if_pos h, if_pos hf]
theorem opn_c {m : Nat} (h : m < (mgetD V nA zF).1.length) (hf : mhas (cutR (-1) V nA (m : Int)).2 nF = false) : opnV V m = (cutR (-1) V nA (m : Int)).2 := by
  unfold opnV remV; rw [if_pos h, if_neg (by rw [hf]; decide)]
theorem opn_r {m : Nat} (h : ¬ m < (mgetD V nA zF).1.length) (hf : mhas V nF = true) : opnV V m = (remR (-1) V [nF]).2 := by
  unfold opnV remV; rw [if_neg h, if_pos hf]
theorem opn_0 {m : Nat} (h : ¬ m < (mgetD V nA zF).1.length) (hf : mhas V nF = false) : opnV V m = V := by
  unfold opnV remV; rw [if_neg h, if_neg (by rw [hf]; decide)]
theorem may_ok {f : Fence1} {o : Order1} (h1 : 1 ≤ o.ID) (h2 : o.ID < 1099511627776) (h3 : 0 ≤ o.Epoch) (h4 : o.Epoch < 1099511627776) (h5 : 0 ≤ o.Cluster) (h6 : o.Cluster < 1099511627776) (h7 : 0 ≤ o.Version) (h8 : o.Version < 1099511627776) (h9 : f.ID < o.ID) (h10 : f.Epoch ≤ o.Epoch) : mayF f o = 0 := by
  unfold mayF rightB
  rw [if_neg, if_neg (by omega), if_neg]
  · simp only [Bool.or_eq_true, decide_eq_true_eq]; omega
  · simp only [List.all_cons, List.all_nil, Bool.and_true, Bool.or_eq_true, Bool.not_eq_true', decide_eq_true_eq, Bool.and_eq_false_iff, decide_eq_false_iff_not]; omega
/-! ### Hearing and working, with no stop ahead -/
variable {cl w work : Int} {dn : Bool} {o : Order1}
theorem hear_fine (h : AI V k) (hr : 1000 ≤ room) (hcl : o.Cluster = cl) (hm : mayF k.Fence o = 0) (ha : k.at_ = 0) : ∃ V', hearP room (-1) V cl k w false o = (0, V', -1, hearK k o, 0, false) ∧ AI V' (hearK k o) := by
  obtain ⟨⟨-, -, b3⟩, b4⟩ := keep_any (room := room) (calls := -1) h (hear_ok h.kk hm) hr (Int.le_refl _)
  obtain ⟨c1, c2⟩ := b3 rfl
  unfold hearP
  rw [if_neg (by decide), if_neg (fun q => q hcl), if_neg (fun q => q hm), if_neg (fun q => q ha), if_pos c2, c1]
  rcases b4 with ⟨e1, e2⟩ | ⟨e1, e2⟩
  · exact ⟨_, rfl, e2⟩
  · rw [c2] at e1; cases e1
theorem hear_may {e : Int} (hcl : o.Cluster = cl) (hm : mayF k.Fence o = e) (he : e ≠ 0) : hearP room calls V cl k w false o = (e, V, calls, k, w, false) := by
  unfold hearP
  rw [if_neg (by decide), if_neg (fun q => q hcl), if_pos (by rw [hm]; exact he), hm]
theorem hear_oth (hcl : o.Cluster ≠ cl) : hearP room calls V cl k w false o = (122, V, calls, k, w, false) := by
  unfold hearP
  rw [if_neg (by decide), if_pos hcl]
theorem tick_fine (h : AI V k) (hr : 1000 ≤ room) (ha : k.at_ ≠ 0) (hw : ¬ w + 1 < work) : ∃ V', tickP room (-1) V work k w false = (true, V', -1, tickK k, w + 1, false) ∧ AI V' (tickK k) := by
  obtain ⟨⟨-, -, b3⟩, b4⟩ := keep_any (room := room) (calls := -1) h (tick_ok h.kk) hr (Int.le_refl _)
  obtain ⟨c1, c2⟩ := b3 rfl
  unfold tickP
  rw [if_neg (by rintro (q | q); cases q; exact ha q), if_neg hw, if_pos c2, c1]
  rcases b4 with ⟨e1, e2⟩ | ⟨e1, e2⟩
  · exact ⟨_, rfl, e2⟩
  · rw [c2] at e1; cases e1
theorem tick_wait (ha : k.at_ ≠ 0) (hw : w + 1 < work) : tickP room calls V work k w false = (false, V, calls, k, w + 1, false) := by
  unfold tickP
  rw [if_neg (by rintro (q | q); cases q; exact ha q), if_pos hw]
theorem tick_idle (ha : k.at_ = 0) : tickP room calls V work k w dn = (false, V, calls, k, w, dn) := by
  unfold tickP
  rw [if_pos (.inr ha)]
end
theorem AI.fok {T : FT} {k : Kept1} (h : AI (vw T) k) : FOk T := Go.Dsk.fok.2 h.ok
theorem AI.usd {T : FT} {k : Kept1} (h : AI (vw T) k) : usedT T ≤ 574 := by rw [← used_vw]; exact h.used.1
theorem AI.crash {V : FV} {k k3 : Kept1} {keep : List Int} {m : Nat} (h : AI V k) (hs : Scan (mgetD (crR keep V).1 nA zF).1 zKept1 k3 m) : k3 = k ∧ AI (opnV (crR keep V).1 m) k := by
  obtain ⟨a1, a2⟩ := (h.rdy h.kk).cr keep k3 m hs
  have e : k3 = k := a1.elim (fun q => q) (fun q => q)
  rw [e] at a2
  exact ⟨e, a2⟩
theorem AI.scan {V : FV} {k k3 : Kept1} {m : Nat} (h : AI V k) (hs : Scan (mgetD V nA zF).1 zKept1 k3 m) : k3 = k ∧ opnV V m = V := by
  obtain ⟨L, h1, h2, h3⟩ := h.rows
  rw [h3] at hs
  obtain ⟨a1, a2⟩ := scan_rows takeK_nil h1 (by rw [List.append_nil]; exact hs)
  refine ⟨by rw [a1, h2], ?_⟩
  exact opn_0 (by rw [h3, a2]; omega) h.nof
end Go.Agn
