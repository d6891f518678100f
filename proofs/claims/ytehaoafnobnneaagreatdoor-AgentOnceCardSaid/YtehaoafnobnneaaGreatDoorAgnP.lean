/-
  Package agent, in plain words: rows, what bytes say, what an agent keeps, what outlives a crash. No program in sight.
-/
import Derived.Test.YtehaoafnobnneaaGreatDoorAgnT
import Derived.Test.YtehaoafnobnneaaGreatDoorHrdPP
set_option linter.unusedVariables false
set_option linter.unusedSimpArgs false
namespace Go.Agn
open Go Go.SL Go.Mou Go.Dsk Go.Sm Go.Hrd
def nA : Nm := [97, 103, 101, 110, 116]
def nF : Nm := [97, 103, 101, 110, 116, 45, 110, 101, 119]
def sh6 : Sh := .row [.n, .n, .n, .n, .n, .n]
def kL (k : Kept1) : List Int := [k.Fence.ID, k.Fence.Epoch, k.version, k.done, k.at_, k.to_]
def mkK (l : List Int) : Kept1 := ⟨⟨l.getD 0 default, l.getD 1 default⟩, l.getD 2 default, l.getD 3 default, l.getD 4 default, l.getD 5 default⟩
def pvK (k : Kept1) : PV := .mk 0 [] ((kL k).map fun n => .mk n.toNat [] [])
def bodyK (k : Kept1) : List UInt8 := form sh6 (pvK k)
def lenK (k : Kept1) : List UInt8 := wB (BitVec.ofNat 32 (bodyK k).length) ++ bodyK k
def rowK (k : Kept1) : List UInt8 := wB (sumB (lenK k)) ++ lenK k
def KOk (k : Kept1) : Prop := ∀ n ∈ kL k, 0 ≤ n ∧ n < 4611686018427387904
def numW (b : List UInt8) : Nat := (beW (b.getD 0 default) (b.getD 1 default) (b.getD 2 default) (b.getD 3 default)).toNat
def goodK (v : PV) : Bool := v.L.all fun x => decide (x.N < top62)
def bodyT (b : List UInt8) : Option Kept1 := match takeF sh6 b with
  | .ok (v, []) => if goodK v = true then some (mkK (v.L.map fun x => (x.N : Int))) else none
  | _ => none
/-- what bytes begin with, and of how many; 0: it is no row -/
def takeK (b : List UInt8) : Kept1 × Nat :=
  if b.length < 8 ∨ b.length - 8 < numW (b.drop 4) then (zKept1, 0)
  else if sumB ((b.take (8 + numW (b.drop 4))).drop 4) = beW (b.getD 0 default) (b.getD 1 default) (b.getD 2 default) (b.getD 3 default) then
    match bodyT ((b.take (8 + numW (b.drop 4))).drop 8) with
    | some k => (k, 8 + numW (b.drop 4))
    | none => (zKept1, 0)
  else (zKept1, 0)
section
variable {b : List UInt8}
theorem tk_short (h : b.length < 8 ∨ b.length - 8 < numW (b.drop 4)) : takeK b = (zKept1, 0) := if_pos h
theorem tk_sum (h : ¬ sumB ((b.take (8 + numW (b.drop 4))).drop 4) = beW (b.getD 0 default) (b.getD 1 default) (b.getD 2 default) (b.getD 3 default)) : takeK b = (zKept1, 0) := by
  by_cases h0 : b.length < 8 ∨ b.length - 8 < numW (b.drop 4)
  · exact tk_short h0
  · unfold takeK; rw [if_neg h0, if_neg h]
theorem tk_bad (h : bodyT ((b.take (8 + numW (b.drop 4))).drop 8) = none) : takeK b = (zKept1, 0) := by
  by_cases h0 : b.length < 8 ∨ b.length - 8 < numW (b.drop 4)
  · exact tk_short h0
  · unfold takeK; rw [if_neg h0, h]; split <;> rfl
theorem tk_good {k : Kept1} (h0 : ¬ (b.length < 8 ∨ b.length - 8 < numW (b.drop 4))) (h1 : sumB ((b.take (8 + numW (b.drop 4))).drop 4) = beW (b.getD 0 default) (b.getD 1 default) (b.getD 2 default) (b.getD 3 default)) (h : bodyT ((b.take (8 + numW (b.drop 4))).drop 8) = some k) : takeK b = (k, 8 + numW (b.drop 4)) := by
  unfold takeK; rw [if_neg h0, if_pos h1, h]
end
theorem takes_len : ∀ (l : List Sh) (L M : List PV) (bs r : List UInt8), takes l L bs = .ok (M, r) → M.length = L.length + l.length
  | [], L, M, bs, r, h => by simp only [takes] at h; cases h; rfl
  | s :: l, L, M, bs, r, h => by
    simp only [takes] at h
    split at h
    · cases h
    · have := takes_len l _ _ _ _ h
      simp only [List.length_append, List.length_cons, List.length_nil] at this ⊢; omega
theorem take6_len {b r : List UInt8} {v : PV} (h : takeF sh6 b = .ok (v, r)) : v.L.length = 6 := by
  unfold sh6 at h
  simp only [takeF] at h
  split at h
  · cases h
  · rename_i L r1 h1
    cases h
    exact takes_len _ _ _ _ _ h1
theorem bt_err {b : List UInt8} {v : PV} {e : Int} (h : RTake sh6 b v e) (he : e ≠ 0) : bodyT b = none := by
  unfold bodyT
  rcases h with ⟨h1, h2⟩ | ⟨p, r, h1, h2, h3⟩ | ⟨c, h1, h2, h3⟩
  · exact absurd h2 he
  · rw [h1]
    cases r with
    | nil => exact absurd rfl h2
    | cons x r => rfl
  · rw [h1]
theorem bt_ok {b : List UInt8} {v : PV} {e : Int} (h : RTake sh6 b v e) (he : e = 0) : (bodyT b = if goodK v = true then some (mkK (v.L.map fun x => (x.N : Int))) else none) ∧ v.L.length = 6 := by
  rcases h with ⟨h1, h2⟩ | ⟨p, r, h1, h2, h3⟩ | ⟨c, h1, h2, h3⟩
  · exact ⟨by unfold bodyT; rw [h1], take6_len h1⟩
  · subst he; cases h3
  · exact absurd (h2.symm.trans he) h3
def numsF (ns : List Nat) : List UInt8 := (ns.map numF).flatten
theorem takes_nums : ∀ (ns : List Nat) (L : List PV) (r : List UInt8), (∀ n ∈ ns, n < 18446744073709551616) → takes (ns.map fun _ => Sh.n) L (numsF ns ++ r) = .ok (L ++ ns.map (fun n => PV.mk n [] []), r)
  | [], L, r, _ => by simp [takes, numsF]
  | n :: ns, L, r, h => by
    have h1 := numT_numF (h n (by simp)) (numsF ns ++ r)
    have e : numsF (n :: ns) ++ r = numF n ++ (numsF ns ++ r) := by simp [numsF]
    rw [e]
    simp only [List.map_cons, takes, takeF, h1]
    rw [takes_nums ns _ r (fun m hm => h m (by simp [hm]))]
    simp
theorem body_nums (k : Kept1) : bodyK k = numsF ((kL k).map Int.toNat) := by
  simp [bodyK, sh6, pvK, kL, form, forms, numsF, PV.L, PV.N]
theorem body_take {k : Kept1} (h : KOk k) : takeF sh6 (bodyK k) = .ok (pvK k, []) := by
  have hn : ∀ n ∈ (kL k).map Int.toNat, n < 18446744073709551616 := by
    intro n hn
    obtain ⟨m, hm, rfl⟩ := List.mem_map.1 hn
    have := h m hm; omega
  have h1 := takes_nums ((kL k).map Int.toNat) [] [] hn
  rw [List.append_nil, ← body_nums, List.nil_append] at h1
  have e : ((kL k).map Int.toNat).map (fun _ => Sh.n) = [.n, .n, .n, .n, .n, .n] := rfl
  rw [e] at h1
  unfold sh6
  simp only [takeF]
  rw [h1]
  rfl
theorem mk_kL (k : Kept1) : mkK (kL k) = k := rfl
theorem body_round {k : Kept1} (h : KOk k) : bodyT (bodyK k) = some k := by
  unfold bodyT
  rw [body_take h]
  have hL : (pvK k).L = (kL k).map fun n => PV.mk n.toNat [] [] := rfl
  have hg : goodK (pvK k) = true := by
    unfold goodK
    rw [hL, List.all_map, List.all_eq_true]
    intro n hn
    have := h n hn
    exact decide_eq_true (show n.toNat < 4611686018427387904 by omega)
  have hm : ((pvK k).L.map fun x => (x.N : Int)) = kL k := by
    rw [hL, List.map_map]
    conv => rhs; rw [← List.map_id (kL k)]
    apply List.map_congr_left
    intro n hn
    have := h n hn
    exact Int.toNat_of_nonneg this.1
  simp only [hg, if_true, hm, mk_kL]
theorem bodyK_len {k : Kept1} (h : KOk k) : (bodyK k).length ≤ 54 := by
  have a := fun i (hi : i ∈ kL k) => numF_le (n := i.toNat) (by have := h i hi; omega)
  have a1 := a k.Fence.ID (by simp [kL])
  have a2 := a k.Fence.Epoch (by simp [kL])
  have a3 := a k.version (by simp [kL])
  have a4 := a k.done (by simp [kL])
  have a5 := a k.at_ (by simp [kL])
  have a6 := a k.to_ (by simp [kL])
  rw [body_nums]
  simp only [numsF, kL, List.map_cons, List.map_nil, List.flatten_cons, List.flatten_nil, List.length_append, List.length_nil]
  omega
theorem rowK_len (k : Kept1) : (rowK k).length = 8 + (bodyK k).length := by simp only [rowK, lenK, wB, List.length_append, List.length_cons, List.length_nil]; omega
theorem rowK_le {k : Kept1} (h : KOk k) : (rowK k).length ≤ 62 := by have := bodyK_len h; rw [rowK_len]; omega
theorem numW_wB (w : BitVec 32) (r : List UInt8) : numW (wB w ++ r) = w.toNat := congrArg BitVec.toNat (beW_wB w)
theorem takeK_row {k : Kept1} (h : KOk k) (r : List UInt8) : takeK (rowK k ++ r) = (k, (rowK k).length) := by
  have hb := bodyK_len h
  have hl := rowK_len k
  have e4 : (rowK k ++ r).drop 4 = lenK k ++ r := rfl
  have hn : numW ((rowK k ++ r).drop 4) = (bodyK k).length := by
    rw [e4]; unfold lenK
    rw [List.append_assoc, numW_wB, BitVec.toNat_ofNat]; omega
  have ht : (rowK k ++ r).take (8 + (bodyK k).length) = rowK k := by rw [← hl]; simp
  have e8 : (rowK k).drop 8 = bodyK k := rfl
  have e5 : (rowK k).drop 4 = lenK k := rfl
  have hg := tk_good (b := rowK k ++ r) (k := k) (by rw [hn, List.length_append]; omega) (by rw [hn, ht, e5]; exact (beW_wB _).symm) (by rw [hn, ht, e8]; exact body_round h)
  rw [hg, hn, hl]
theorem takeK_part {k : Kept1} (h : KOk k) {j : Nat} (hj : j < (rowK k).length) : (takeK ((rowK k).take j)).2 = 0 := by
  have hl := rowK_len k
  have hb := bodyK_len h
  rw [tk_short]
  by_cases h8 : j < 8
  · left; rw [List.length_take]; omega
  · right
    obtain ⟨i, rfl⟩ : ∃ i, j = i + 8 := ⟨j - 8, by omega⟩
    have e4 : ((rowK k).take (i + 8)).drop 4 = wB (BitVec.ofNat 32 (bodyK k).length) ++ (bodyK k).take i := rfl
    rw [e4, numW_wB, BitVec.toNat_ofNat, List.length_take]; omega
theorem takeK_nil : (takeK []).2 = 0 := by rw [tk_short (.inl (by decide))]
theorem takeK_le (b : List UInt8) : (takeK b).2 ≤ b.length := by
  unfold takeK
  split
  · exact Nat.zero_le _
  · split
    · split
      · simp only []; omega
      · exact Nat.zero_le _
    · exact Nat.zero_le _
/-! ### What a file says -/
inductive Scan : List UInt8 → Kept1 → Kept1 → Nat → Prop
  | stop {b : List UInt8} {k : Kept1} : (takeK b).2 = 0 → Scan b k k 0
  | step {b : List UInt8} {k k' : Kept1} {m : Nat} : (takeK b).2 ≠ 0 → Scan (b.drop (takeK b).2) (takeK b).1 k' m → Scan b k k' ((takeK b).2 + m)
def lastK : Kept1 → List Kept1 → Kept1
  | k, [] => k
  | _, r :: L => lastK r L
theorem lastK_app : ∀ (L : List Kept1) (k x : Kept1), lastK k (L ++ [x]) = x
  | [], _, _ => rfl
  | r :: L, k, x => lastK_app L r x
theorem lastK_ok {L : List Kept1} : ∀ {k : Kept1}, KOk k → (∀ r ∈ L, KOk r) → KOk (lastK k L) := by
  induction L with
  | nil => intro k h _; exact h
  | cons r L ih => intro k h hL; exact ih (hL r (by simp)) (fun x hx => hL x (by simp [hx]))
theorem scan_rows {p : List UInt8} (hp : (takeK p).2 = 0) : ∀ {L : List Kept1} {k0 k' : Kept1} {m : Nat}, (∀ r ∈ L, KOk r) → Scan (L.flatMap rowK ++ p) k0 k' m → k' = lastK k0 L ∧ m = (L.flatMap rowK).length
  | [], k0, k', m, _, h => by
    simp only [List.flatMap_nil, List.nil_append] at h
    cases h with
    | stop _ => exact ⟨rfl, rfl⟩
    | step h1 _ => exact absurd hp h1
  | r :: L, k0, k', m, hL, h => by
    have e : (r :: L).flatMap rowK ++ p = rowK r ++ (L.flatMap rowK ++ p) := by simp
    rw [e] at h
    have hr := takeK_row (hL r (by simp)) (L.flatMap rowK ++ p)
    have hl := rowK_len r
    generalize hq : rowK r ++ (L.flatMap rowK ++ p) = b at h hr
    cases h with
    | stop h1 => rw [hr] at h1; simp only at h1; omega
    | step h1 h2 =>
      rw [hr] at h2 ⊢
      simp only at h2 ⊢
      rw [← hq, List.drop_left] at h2
      obtain ⟨a1, a2⟩ := scan_rows hp (fun x hx => hL x (by simp [hx])) h2
      exact ⟨a1, by rw [a2]; simp⟩
/-! ### What is kept, and what outlives a crash -/
def remV (V : FV) : FV := if mhas V nF = true then (remR (-1) V [nF]).2 else V
def opnV (V : FV) (k : Nat) : FV := remV (if k < (mgetD V nA zF).1.length then (cutR (-1) V nA (k : Int)).2 else V)
def wrS (room calls : Int) (V : FV) (o : Nm) (b : List UInt8) : Int × FV × Int :=
  if (appR room calls V o b).1 ≠ 0 then ((appR room calls V o b).1, (appR room calls V o b).2, decC calls)
  else ((syncR (decC calls) (appR room calls V o b).2 [o]).1, (syncR (decC calls) (appR room calls V o b).2 [o]).2, decC (decC calls))
def keepS (room calls : Int) (V : FV) (k : Kept1) : Int × FV × Int :=
  if (mgetD V nA zF).1.length < 512 then wrS room calls V nA (rowK k)
  else if (wrS room calls V nF (rowK k)).1 ≠ 0 then wrS room calls V nF (rowK k)
  else ((renR (wrS room calls V nF (rowK k)).2.2 (wrS room calls V nF (rowK k)).2.1 nF nA).1, (renR (wrS room calls V nF (rowK k)).2.2 (wrS room calls V nF (rowK k)).2.1 nF nA).2, decC (wrS room calls V nF (rowK k)).2.2)
structure AI (V : FV) (k : Kept1) : Prop where
  ok : VOk V
  kn : ∀ n ∈ mkeys V, n = nA
  rows : ∃ L : List Kept1, (∀ r ∈ L, KOk r) ∧ k = lastK zKept1 L ∧ (mgetD V nA zF).1 = L.flatMap rowK
  sf : (mgetD V nA zF).2 = ((mgetD V nA zF).1.length : Int)
  ln : (mgetD V nA zF).1.length ≤ 574
structure Rdy (V : FV) (k k' : Kept1) : Prop where
  ok : VOk V
  us : usedV V ≤ 2000
  cr : ∀ keep k2 m, Scan (mgetD (crR keep V).1 nA zF).1 zKept1 k2 m → (k2 = k ∨ k2 = k') ∧ AI (opnV (crR keep V).1 m) k2
theorem kz_ok : KOk zKept1 := by intro n hn; simp [kL, zKept1, zFence1] at hn; omega
theorem AI.kk {V : FV} {k : Kept1} (h : AI V k) : KOk k := by
  obtain ⟨L, h1, rfl, -⟩ := h.rows; exact lastK_ok kz_ok h1
theorem nA_nF : nA ≠ nF := by decide
theorem used_two {V : FV} {a b : Nat} (hv : VOk V) (kn : ∀ n ∈ mkeys V, n = nA ∨ n = nF) (h1 : (mgetD V nA zF).1.length ≤ a) (h2 : (mgetD V nF zF).1.length ≤ b) : usedV V ≤ a + b ∧ V.length ≤ 2 := by
  have hp : ∀ p ∈ V, (p.1 = nA ∧ p.2.1.length ≤ a) ∨ (p.1 = nF ∧ p.2.1.length ≤ b) := fun p hp => by
    have e := getD_of (mget_of_mem hv.nd (show (p.1, p.2) ∈ _ from hp))
    rcases kn p.1 (List.mem_map.2 ⟨p, hp, rfl⟩) with q | q
    · left; rw [q] at e; rw [e] at h1; exact ⟨q, h1⟩
    · right; rw [q] at e; rw [e] at h2; exact ⟨q, h2⟩
  have hnd := hv.nd
  match V, hnd, hp with
  | [], _, _ => exact ⟨Nat.zero_le _, Nat.zero_le _⟩
  | [x], _, hp =>
    have := hp x (by simp)
    refine ⟨?_, by simp⟩
    simp [usedV]; omega
  | [x, y], hnd, hp =>
    have e1 := hp x (by simp)
    have e2 := hp y (by simp)
    have e3 : x.1 ≠ y.1 := by simpa [mkeys] using hnd
    refine ⟨?_, by simp⟩
    have hne := nA_nF
    simp only [usedV, List.map_cons, List.map_nil, List.sum_cons, List.sum_nil]
    rcases e1 with ⟨q1, q2⟩ | ⟨q1, q2⟩ <;> rcases e2 with ⟨q3, q4⟩ | ⟨q3, q4⟩
    · exact absurd (q1.trans q3.symm) e3
    · omega
    · omega
    · exact absurd (q1.trans q3.symm) e3
  | x :: y :: z :: t, hnd, hp =>
    exfalso
    simp only [mkeys, List.map_cons, List.nodup_cons, List.mem_cons, not_or] at hnd
    have e1 := hp x (by simp)
    have e2 := hp y (by simp)
    have e3 := hp z (by simp)
    obtain ⟨⟨n1, n2, -⟩, ⟨n3, -⟩, -⟩ := hnd
    rcases e1 with ⟨q1, -⟩ | ⟨q1, -⟩ <;> rcases e2 with ⟨q2, -⟩ | ⟨q2, -⟩ <;> rcases e3 with ⟨q3, -⟩ | ⟨q3, -⟩ <;> first | exact n1 (q1.trans q2.symm) | exact n2 (q1.trans q3.symm) | exact n3 (q2.trans q3.symm)
theorem AI.nof {V : FV} {k : Kept1} (h : AI V k) : mhas V nF = false := by
  cases c : mhas V nF with
  | false => rfl
  | true => exact absurd (h.kn _ (mhas_iff.1 c)).symm nA_nF
theorem AI.used {V : FV} {k : Kept1} (h : AI V k) : usedV V ≤ 574 ∧ V.length ≤ 2 := by
  have := used_two (b := 0) h.ok (fun n hn => .inl (h.kn n hn)) h.ln (by rw [hasD h.nof]; exact Nat.zero_le _)
  exact this
theorem ai_nil : AI [] zKept1 := ⟨vok_nil, fun n hn => by (cases hn), ⟨[], fun r hr => by (cases hr), rfl, rfl⟩, rfl, Nat.zero_le _⟩
/-- the fresh file goes -/
theorem ai_rem {W : FV} {L : List Kept1} (ok : VOk W) (kn : ∀ n ∈ mkeys W, n = nA ∨ n = nF) (hL : ∀ r ∈ L, KOk r) (h1 : (mgetD W nA zF).1 = L.flatMap rowK) (h2 : (mgetD W nA zF).2 = ((mgetD W nA zF).1.length : Int)) (h3 : (mgetD W nA zF).1.length ≤ 574) : AI (remV W) (lastK zKept1 L) := by
  unfold remV
  split
  · rename_i hm
    have e : (remR (-1) W [nF]).2 = mdel W nF := by
      unfold remR
      rw [if_neg (by decide), if_neg (by simp [hm, onceB])]; rfl
    have hd := delD ok.nd nF nA
    rw [if_neg (fun q => nA_nF q.symm)] at hd
    rw [e]
    refine ⟨vok_del ok nF, fun n hn => ?_, ⟨L, hL, rfl, by rw [hd]; exact h1⟩, by rw [hd]; exact h2, by rw [hd]; exact h3⟩
    obtain ⟨p, hp, rfl⟩ := List.mem_map.1 hn
    rcases kn p.1 (List.mem_map.2 ⟨p, mem_del hp, rfl⟩) with q | q
    · exact q
    · exfalso
      have h9 : mhas (mdel W nF) nF = true := by rw [q] at hn; exact mhas_iff.2 hn
      rw [del_has ok] at h9; cases h9
  · rename_i hm
    refine ⟨ok, fun n hn => ?_, ⟨L, hL, rfl, h1⟩, h2, h3⟩
    rcases kn n hn with q | q
    · exact q
    · rw [q] at hn; exact absurd (mhas_iff.2 hn) hm
theorem rdy_mk {V : FV} {L : List Kept1} {k' : Kept1} {p : List UInt8} (ok : VOk V) (kn : ∀ n ∈ mkeys V, n = nA ∨ n = nF) (hL : ∀ r ∈ L, KOk r) (hk' : KOk k') (h1 : (mgetD V nA zF).1 = L.flatMap rowK ++ p) (hp : p = [] ∨ p = rowK k')
    (h2 : ((L.flatMap rowK).length : Int) ≤ (mgetD V nA zF).2) (h3 : (mgetD V nA zF).1.length ≤ 574) (h4 : (mgetD V nF zF).1.length ≤ 62) : Rdy V (lastK zKept1 L) k' := by
  refine ⟨ok, by have := (used_two ok kn h3 h4).1; omega, fun keep k2 m hs => ?_⟩
  obtain ⟨c1, c2, c3⟩ := cr_at ok keep
  have okW := vok_cr ok keep
  obtain ⟨⟨j, d1, d2, d3⟩, -⟩ := c3 nA
  generalize (crR keep V).1 = W at *
  have knW : ∀ n ∈ mkeys W, n = nA ∨ n = nF := by rw [c1]; exact kn
  rw [h1] at d3 d2
  rw [List.length_append] at d2
  have hj : (L.flatMap rowK).length ≤ j := by omega
  have e1 : (L.flatMap rowK ++ p).take j = L.flatMap rowK ++ p.take (j - (L.flatMap rowK).length) := by rw [List.take_append, List.take_of_length_le hj]
  rw [e1] at d3
  have hW : (mgetD W nA zF).1 = L.flatMap rowK ++ p.take (j - (L.flatMap rowK).length) := by rw [d3]
  have hS : (mgetD W nA zF).2 = (j : Int) := by rw [d3]
  rw [hW] at hs
  have hlp : p.length ≤ 62 := by
    rcases hp with rfl | rfl
    · exact Nat.zero_le _
    · exact rowK_le hk'
  rw [h1, List.length_append] at h3
  by_cases hfull : p = rowK k' ∧ (L.flatMap rowK).length + p.length ≤ j
  · obtain ⟨rfl, hf⟩ := hfull
    have e2 : (rowK k').take (j - (L.flatMap rowK).length) = rowK k' := List.take_of_length_le (by omega)
    have e3 : L.flatMap rowK ++ rowK k' = (L ++ [k']).flatMap rowK := by simp
    rw [e2, e3] at hs hW
    have hL' : ∀ r ∈ L ++ [k'], KOk r := fun r hr => by
      rcases List.mem_append.1 hr with hr | hr
      · exact hL r hr
      · rw [List.mem_singleton.1 hr]; exact hk'
    obtain ⟨a1, a2⟩ := scan_rows takeK_nil hL' (by rw [List.append_nil]; exact hs)
    have hlen : ((L ++ [k']).flatMap rowK).length = (L.flatMap rowK).length + (rowK k').length := by rw [← e3, List.length_append]
    refine ⟨.inr (by rw [a1, lastK_app]), ?_⟩
    unfold opnV
    rw [if_neg (by rw [hW, a2]; omega), a1]
    exact ai_rem okW knW hL' hW (by rw [hS, hW, hlen]; omega) (by rw [hW, hlen]; omega)
  · have hz : (takeK (p.take (j - (L.flatMap rowK).length))).2 = 0 := by
      rcases hp with rfl | rfl
      · rw [List.take_nil]; exact takeK_nil
      · exact takeK_part hk' (by have : ¬ (L.flatMap rowK).length + (rowK k').length ≤ j := fun q => hfull ⟨rfl, q⟩; omega)
    obtain ⟨a1, a2⟩ := scan_rows hz hL hs
    refine ⟨.inl a1, ?_⟩
    rw [a1]
    unfold opnV
    by_cases hc : m < (mgetD W nA zF).1.length
    · rw [if_pos hc]
      have hh : mhas W nA = true := by
        cases c : mhas W nA with
        | true => rfl
        | false => rw [hasD c] at hc; exact absurd hc (Nat.not_lt_zero _)
      have hjm : (m : Int) ≤ (j : Int) := by omega
      have e : (cutR (-1) W nA (m : Int)).2 = mset W nA (L.flatMap rowK, (m : Int)) := by
        unfold cutR
        rw [if_neg (by decide), if_neg (by rw [hh]; decide), if_neg (by simp; omega)]
        show mset W nA ((mgetD W nA zF).1.take m, mnI (mgetD W nA zF).2 (m : Int)) = _
        rw [hW, a2, List.take_left, hS]
        congr 2
        unfold mnI
        split <;> omega
      rw [e]
      have hg : mgetD (mset W nA (L.flatMap rowK, (m : Int))) nA zF = (L.flatMap rowK, (m : Int)) := by rw [setD, if_pos rfl]
      refine ai_rem (vok_set okW (by decide) (.inl hh) ⟨by omega, by omega⟩ ?_) (fun n hn => ?_) hL (by rw [hg]) (by rw [hg]; simp only []; omega) (by rw [hg]; simp only []; omega)
      · have := get_set W nA (L.flatMap rowK, (m : Int))
        have h5 := okW.us
        rw [hW, List.length_append] at this
        simp only at this; omega
      · rw [mkeys_set, if_pos (mhas_iff.1 hh)] at hn
        exact knW n hn
    · rw [if_neg hc]
      rw [hW, List.length_append] at hc
      have hnil : p.take (j - (L.flatMap rowK).length) = [] := List.length_eq_zero_iff.1 (by omega)
      rw [hnil, List.append_nil] at hW
      rw [hnil] at hc
      refine ai_rem okW knW hL hW ?_ (by rw [hW]; omega)
      rw [hS, hW]
      have h9 := congrArg List.length hnil
      simp only [List.length_take, List.length_nil] at h9
      omega
theorem AI.rdy {V : FV} {k k' : Kept1} (h : AI V k) (hk' : KOk k') : Rdy V k k' := by
  obtain ⟨L, h1, h2, h3⟩ := h.rows
  rw [h2]
  exact rdy_mk (p := []) h.ok (fun n hn => .inl (h.kn n hn)) h1 hk' (by rw [h3, List.append_nil]) (.inl rfl) (by rw [h.sf, h3]; omega) h.ln (by rw [hasD h.nof]; exact Nat.zero_le _)
end Go.Agn
