/- part -/
import Derived.Test.YtijldgggjioccaaGreatDoorShfX
set_option linter.unusedVariables false
set_option linter.unusedSimpArgs false
namespace Go.Shf
open Go Go.SL Go.Mou Go.Dsk Go.Sm Go.Hrd
def x5 : PSnap := ⟨5, 1, [], [97, 98, 99]⟩
def x9 : PSnap := ⟨9, 1, [], [122]⟩
theorem x5_ok : XOk x5 := ⟨by decide, by decide, by decide, by decide, by decide, by decide⟩
theorem x9_ok : XOk x9 := ⟨by decide, by decide, by decide, by decide, by decide, by decide⟩
def aV1 : FV := (putX 1000 (-1) [] false zPS x5).2.1
def aV3 : FV := (putX 1000 2 aV1 true x5 x9).2.1
def aC3 : Int := (putX 1000 2 aV1 true x5 x9).2.2
theorem aw1a : (putX 1000 (-1) [] false zPS x5).1 = 0 := by decide +kernel
theorem aw3a : (putX 1000 2 aV1 true x5 x9).1 = 32 := by decide +kernel
theorem awu : (usedV aV1 : Int) + ((snB x9).length : Int) ≤ 1000 := by decide +kernel
theorem aw_any1 : MO (putX 1000 (-1) [] false zPS x5) (-1) ∧ ((putX 1000 (-1) [] false zPS x5).1 = 0 ∧ SI (putX 1000 (-1) [] false zPS x5).2.1 ([] ++ [x5]) ∨ (putX 1000 (-1) [] false zPS x5).1 = 32 ∧ SI (putX 1000 (-1) [] false zPS x5).2.1 []) :=
  put_any (room := 1000) (calls := -1) (has := false) (top := zPS) si_nil (x := x5) (by decide +kernel) x5_ok (fun y hy => by cases hy) (by decide) (by decide) (by decide)
theorem aw_si1 : SI aV1 [x5] := by
  rcases aw_any1.2 with h | h
  · exact h.2
  · have := h.1; rw [aw1a] at this; cases this
theorem aw_put1 : putX 1000 (-1) [] false zPS x5 = (0, aV1, -1) := by
  have h2 := (aw_any1.1.2.2 rfl).1; refine Prod.ext aw1a (Prod.ext rfl h2)
theorem aw_put2 (c : Int) : putX 1000 c aV1 true x5 ⟨5, 2, [], []⟩ = (2, aV1, c) := pu_bad (by decide)
theorem aw_put3 : putX 1000 2 aV1 true x5 x9 = (32, aV3, aC3) := Prod.ext aw3a (Prod.ext rfl rfl)
theorem aw_si3 : SI aV3 [x5] := by
  rcases (put_any (room := 1000) (calls := 2) (has := true) (top := x5) aw_si1 (x := x9) awu x9_ok (fun y hy => by rw [List.mem_singleton.1 hy]; decide) (by decide) (by decide) (by decide)).2 with h | h
  · have := h.1; rw [aw3a] at this; cases this
  · exact h.2
theorem aw_new {V : FV} (keep : List Int) (h : V = (crR keep aV3).1) : newX V = (x5, true) := by
  rw [h]; exact new_last (K := []) (by rw [List.nil_append]; exact si_crash aw_si3 keep)
theorem SI.fok {T : FT} {K : List PSnap} (h : SI (vw T) K) : FOk T := Go.Dsk.fok.2 h.ok
structure LI (V : FV) (had : Bool) (l : PSnap) (i : Nat) : Prop where
  si : ∃ K, SI V (K ++ if had = true then [l] else []) ∧ K.length ≤ i ∧ (had = false → K = [])
  z : had = false → l = zPS
  lt : l.ix ≤ 2 * (i : Int)
  ln : l.conf.length ≤ 1 ∧ l.body.length ≤ 1000
structure Cc (calls : Int) : Prop where
  lo : -1 ≤ calls
  hi : calls ≤ 9223372036854775807
theorem MO.cc {q : Int × FV × Int} {calls : Int} (h : MO q calls) (hc : Cc calls) : Cc q.2.2 := ⟨h.1, h.2.1 hc.hi⟩
section
variable {V : FV} {had : Bool} {l x : PSnap} {i : Nat}
theorem LI.ok (h : LI V had l i) : VOk V := h.si.elim fun _ q => q.1.ok
theorem LI.fok {T : FT} (h : LI (vw T) had l i) : FOk T := Go.Dsk.fok.2 h.ok
theorem LI.next (h : LI V had l i) : LI V had l (i + 1) := by
  obtain ⟨⟨K, h1, h2, h3⟩, hz, hl, hn⟩ := h; exact ⟨⟨K, h1, by omega, h3⟩, hz, by omega, hn⟩
theorem LI.usd (h : LI V had l i) (hi : i ≤ 30) : (usedV V : Int) ≤ 40000 := by
  obtain ⟨K, h1, h2, h3⟩ := h.si; have h4 := h1.used
  have h5 : (K ++ if had = true then [l] else []).length ≤ i + 1 := by
    rw [List.length_append]
    cases had with
    | true => simp; omega
    | false => simp; omega
  have h6 : 1100 * ((K ++ if had = true then [l] else []).length + 1) ≤ 1100 * (i + 1 + 1) := Nat.mul_le_mul_left _ (by omega); omega
theorem LI.put {calls : Int} (h : LI V had l i) (hi : i < 30) (hc : Cc calls) (hx : XOk x) (hxi : x.ix = 2 * (i : Int) + 2) :
    Cc (putX 100000 calls V had l x).2.2 ∧ ((putX 100000 calls V had l x).1 = 0 ∧ LI (putX 100000 calls V had l x).2.1 true x (i + 1) ∨ (putX 100000 calls V had l x).1 = 32 ∧ LI (putX 100000 calls V had l x).2.1 had l (i + 1)) := by
  have hu := h.usd (by omega); have hsn := snB_len hx; have hN := h.next; obtain ⟨⟨K, h1, h2, h3⟩, hz, hl, hn⟩ := h; have hb : badX had l x = false := bad_no hx.right (by rw [decide_eq_false (by omega), Bool.and_false])
  have hlen : (K ++ if had = true then [l] else []).length ≤ i + 1 := by
    rw [List.length_append]
    cases had with
    | true => simp; omega
    | false => simp; omega
  have hlt : ∀ y ∈ K ++ (if had = true then [l] else []), y.ix < x.ix := by
    cases had with
    | false => rw [h3 rfl]; intro y hy; simp at hy
    | true =>
      simp only [if_true] at h1 ⊢; intro y hy
      rcases List.mem_append.1 hy with hy | hy
      · have := h1.lt_last y hy; omega
      · rw [List.mem_singleton.1 hy]; omega
  obtain ⟨m, h4⟩ := put_any (room := 100000) (calls := calls) (has := had) (top := l) h1 (by omega) hx hlt hb (by omega) hc.lo; refine ⟨m.cc hc, ?_⟩
  rcases h4 with ⟨a1, a2⟩ | ⟨a1, a2⟩
  · exact .inl ⟨a1, ⟨⟨_, by simpa using a2, hlen, fun q => by cases q⟩, (fun q => by cases q), (by push_cast; omega), hx.cf, hx.bd⟩⟩
  · exact .inr ⟨a1, ⟨⟨K, a2, by omega, h3⟩, hz, (by push_cast; omega), hn⟩⟩
theorem LI.new (h : LI V had l i) : newX V = (l, had) := by
  obtain ⟨⟨K, h1, h2, h3⟩, hz, hl, hn⟩ := h
  cases had with
  | true => simp only [if_true] at h1; exact new_last h1
  | false => rw [h3 rfl] at h1; rw [hz rfl]; exact new_none (by simpa using h1)
end
end Go.Shf
