/- part -/
import Derived.Test.YtijldgggjioccaaGreatDoorShfT
import Derived.Test.YtijldgggjioccaaGreatDoorHrdPP
import Derived.Test.YtijldgggjioccaaGreatDoorSlEd
set_option linter.unusedVariables false
set_option linter.unusedSimpArgs false
namespace Go.Shf
open Go Go.SL Go.Mou Go.Dsk Go.Sm Go.Hrd
structure PSnap where
  ix : Int
  tm : Int
  conf : List UInt8
  body : List UInt8
deriving DecidableEq
def zPS : PSnap := ⟨0, 0, [], []⟩
instance : Inhabited PSnap := ⟨zPS⟩
def pS (x : Snap1) : PSnap := ⟨x.Mark.Index, x.Mark.Term, x.Conf.xs, x.Body.xs⟩
def aside : Nm := [115, 110, 97, 112, 45, 110, 101, 119]
def pre5 : Nm := [115, 110, 97, 112, 45]
def digs : List UInt8 := [48, 49, 50, 51, 52, 53, 54, 55, 56, 57]
def sh4 : Sh := .row [.n, .n, .b, .b]
def rightM (i t : Int) : Bool := ((decide (1 ≤ i) && decide (1 ≤ t)) && decide (i < 10000000000)) && decide (t < 10000000000)
def pvX (x : PSnap) : PV := .mk 0 [] [.mk x.ix.toNat [] [], .mk x.tm.toNat [] [], .mk 0 x.conf [], .mk 0 x.body []]
def bodyX (x : PSnap) : List UInt8 := form sh4 (pvX x)
def snB (x : PSnap) : List UInt8 := wB (sumB (bodyX x)) ++ bodyX x
def valX (v : PV) : PSnap := ⟨((v.L.getD 0 default).N : Int), ((v.L.getD 1 default).N : Int), (v.L.getD 2 default).B, (v.L.getD 3 default).B⟩
def bigX (v : PV) : Bool := decide (10000000000 ≤ (v.L.getD 0 default).N) || decide (10000000000 ≤ (v.L.getD 1 default).N)
def parseX (b : List UInt8) : Int × PSnap :=
  if b.length < 4 then (11, zPS)
  else if sumB (b.drop 4) = beW (b.getD 0 default) (b.getD 1 default) (b.getD 2 default) (b.getD 3 default) then
    match takeF sh4 (b.drop 4) with
    | .error e => (e, zPS)
    | .ok (v, []) => if bigX v = true then (13, zPS) else if rightM (valX v).ix (valX v).tm = true then (0, valX v) else (13, zPS)
    | .ok (_, _ :: _) => (12, zPS)
  else (51, zPS)
def namedX (s : Nm) : Option Int :=
  if Lib.hasPrefix s pre5 = true ∧ (Lib.trimPrefix s pre5).length = 10 ∧ Lib.trimS (Lib.trimPrefix s pre5) digs = [] then Lib.atoi (Lib.trimPrefix s pre5) else none
def nameX (i : Nat) : Nm := pre5 ++ (Lib.repeatL [48] (10 - (Lib.decDigits i).length) ++ Lib.decDigits i)
section
variable {b : List UInt8}
theorem px_short (h : b.length < 4) : parseX b = (11, zPS) := if_pos h
theorem px_sum (h0 : ¬ b.length < 4) (h : ¬ sumB (b.drop 4) = beW (b.getD 0 default) (b.getD 1 default) (b.getD 2 default) (b.getD 3 default)) : parseX b = (51, zPS) := by
  unfold parseX; rw [if_neg h0, if_neg h]
theorem px_err {v : PV} {e : Int} (h0 : ¬ b.length < 4) (h : sumB (b.drop 4) = beW (b.getD 0 default) (b.getD 1 default) (b.getD 2 default) (b.getD 3 default)) (hT : RTake sh4 (b.drop 4) v e) (he : e ≠ 0) : parseX b = (e, zPS) := by
  unfold parseX; rw [if_neg h0, if_pos h]
  rcases hT with ⟨h1, h2⟩ | ⟨p, r, h1, h2, h3⟩ | ⟨c, h1, h2, h3⟩
  · exact absurd h2 he
  · rw [h1, h3]
    cases r with
    | nil => exact absurd rfl h2
    | cons x r => rfl
  · rw [h1, h2]
theorem px_big {v : PV} {e : Int} (h0 : ¬ b.length < 4) (h : sumB (b.drop 4) = beW (b.getD 0 default) (b.getD 1 default) (b.getD 2 default) (b.getD 3 default)) (hT : RTake sh4 (b.drop 4) v e) (he : e = 0) (hb : bigX v = true ∨ rightM (valX v).ix (valX v).tm = false) : parseX b = (13, zPS) := by
  unfold parseX; rw [if_neg h0, if_pos h]
  rcases hT with ⟨h1, h2⟩ | ⟨p, r, h1, h2, h3⟩ | ⟨c, h1, h2, h3⟩
  · rw [h1]; simp only
    by_cases hg : bigX v = true
    · rw [if_pos hg]
    · rw [if_neg hg, if_neg (by rcases hb with hb | hb; exact absurd hb hg; rw [hb]; decide)]
  · subst he; cases h3
  · exact absurd (h2.symm.trans he) h3
theorem px_ok {v : PV} {e : Int} (h0 : ¬ b.length < 4) (h : sumB (b.drop 4) = beW (b.getD 0 default) (b.getD 1 default) (b.getD 2 default) (b.getD 3 default)) (hT : RTake sh4 (b.drop 4) v e) (he : e = 0) (hb : bigX v = false) (hr : rightM (valX v).ix (valX v).tm = true) : parseX b = (0, valX v) := by
  unfold parseX; rw [if_neg h0, if_pos h]
  rcases hT with ⟨h1, h2⟩ | ⟨p, r, h1, h2, h3⟩ | ⟨c, h1, h2, h3⟩
  · rw [h1]; simp only; rw [if_neg (by rw [hb]; decide), if_pos hr]
  · subst he; cases h3
  · exact absurd (h2.symm.trans he) h3
end
theorem takes_len4 : ∀ (l : List Sh) (L M : List PV) (bs r : List UInt8), takes l L bs = .ok (M, r) → M.length = L.length + l.length
  | [], L, M, bs, r, h => by simp only [takes] at h; cases h; rfl
  | s :: l, L, M, bs, r, h => by
    simp only [takes] at h
    split at h
    · cases h
    · have := takes_len4 l _ _ _ _ h; simp only [List.length_append, List.length_cons, List.length_nil] at this ⊢; omega
theorem take4_len {b r : List UInt8} {v : PV} (h : takeF sh4 b = .ok (v, r)) : v.L.length = 4 := by
  unfold sh4 at h; simp only [takeF] at h
  split at h
  · cases h
  · rename_i L r1 h1
    cases h
    exact takes_len4 _ _ _ _ _ h1
theorem rt_len {b : List UInt8} {v : PV} {e : Int} (h : RTake sh4 b v e) (he : e = 0) : v.L.length = 4 := by
  rcases h with ⟨h1, h2⟩ | ⟨p, r, h1, h2, h3⟩ | ⟨c, h1, h2, h3⟩
  · exact take4_len h1
  · subst he; cases h3
  · exact absurd (h2.symm.trans he) h3
theorem bodyX_eq (x : PSnap) : bodyX x = numF x.ix.toNat ++ (numF x.tm.toNat ++ ((numF x.conf.length ++ x.conf) ++ (numF x.body.length ++ x.body))) := by
  simp [bodyX, sh4, pvX, form, forms, PV.L, PV.N, PV.B]
theorem dec_len2 {i : Nat} (h : i < 100) : (Lib.decDigits i).length ≤ 2 := by
  by_cases h10 : i < 10
  · rw [Lib.decDigits, dif_pos h10]; exact Nat.le_succ 1
  · rw [Lib.decDigits, dif_neg h10, Lib.decDigits, dif_pos (by omega)]; exact Nat.le_refl 2
theorem digs_all {s : List UInt8} (h : Lib.trimS s digs = []) : ∀ c ∈ s, 48 ≤ c.toNat ∧ c.toNat ≤ 57 := by
  intro c hc; have h1 := (trim_nil s digs).1 h c hc; simp only [digs, List.contains_cons, List.contains_nil, Bool.or_false, Bool.or_eq_true, beq_iff_eq] at h1
  rcases h1 with h1 | h1 | h1 | h1 | h1 | h1 | h1 | h1 | h1 | h1 <;> subst h1 <;> decide
theorem dec_all : ∀ {s : List UInt8} (acc : Nat), (∀ c ∈ s, 48 ≤ c.toNat ∧ c.toNat ≤ 57) → ∃ n, Lib.decFrom acc s = some n
  | [], acc, _ => ⟨acc, rfl⟩
  | c :: s, acc, h => by
    have hc := h c (by simp); obtain ⟨n, hn⟩ := dec_all (s := s) (acc * 10 + (c.toNat - 48)) (fun d hd => h d (by simp [hd])); refine ⟨n, ?_⟩; have hd : Lib.digitVal c = some (c.toNat - 48) := if_pos hc; simp only [Lib.decFrom, hd]; exact hn
theorem atoi_all {s : List UInt8} (hl : s.length = 10) (h : Lib.trimS s digs = []) : ∃ n : Nat, Lib.atoi s = some (n : Int) := by
  cases s with
  | nil => cases hl
  | cons c r =>
    have ha := digs_all h; have hc := ha c (by simp); obtain ⟨n, hn⟩ := dec_all 0 ha; refine ⟨n, ?_⟩; have h1 : (c == 45) = false := by rw [beq_eq_false_iff_ne]; rintro rfl; exact absurd hc (by decide)
    have h2 : (c == 43) = false := by rw [beq_eq_false_iff_ne]; rintro rfl; exact absurd hc (by decide)
    unfold Lib.atoi; simp only [h1, h2, Bool.false_eq_true, if_false, Lib.decNat, List.isEmpty_cons, hn, Option.map_some]
end Go.Shf
