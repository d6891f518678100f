/-
  Walked.
-/
import Derived.Test.YtijldgggjioccaaGreatDoorShfF
import Derived.Test.YtijldgggjioccaaGreatDoorProg
set_option maxRecDepth 100000
set_option maxHeartbeats 4000000
set_option linter.unusedSimpArgs false
set_option linter.unusedVariables false
namespace Go.Shf
open Go Go.SL Go.Proofs Go.Mou Go.Dsk Go.Hrd
attribute [local irreducible] Go.SL.Ent


theorem put2_spec (b mb : Nat) (calls : Int) (T : FT) (s : Nat) (tp : Snap1) (has : Bool) (l : PSnap) (i : Nat) (x : Snap1) (ρ : Hp) (hI : LI (vw T) has l i) (htp : pS tp = l) (hi : i < 30) (hc : Cc calls) (hx : XOk (pS x)) (hxi : (pS x).ix = 2 * (i : Int) + 2) (hxc : x.Conf.ro encB 1 ρ) (hxb : x.Body.ro encB 1 ρ) :
    Spec0 Tryz.prog 22 #[.pointer (some ⟨s, 0, none⟩), .agg (encSnap1 x).toArray] ρ [.pts s (encShelf1 (⟨(some b), tp, has⟩ : Shelf1)) 145, .row 5 1 tp.Conf.a tp.Conf.xs.length tp.Conf.cap (tp.Conf.xs.flatMap encB), .row 5 1 tp.Body.a tp.Body.xs.length tp.Body.cap (tp.Body.xs.flatMap encB), .pts b (encDisk1 (⟨100000, (some mb), calls⟩ : Disk1)) 143, MP strB ptV mb (fm T), FB 154 5 T] (fun v Γ' =>
      (∃ T' c' y, v = .int .i64 0 ∧ Γ' = [.pts s (encShelf1 (⟨(some b), y, true⟩ : Shelf1)) 145, .row 5 1 y.Conf.a y.Conf.xs.length y.Conf.cap (y.Conf.xs.flatMap encB), .row 5 1 y.Body.a y.Body.xs.length y.Body.cap (y.Body.xs.flatMap encB), .pts b (encDisk1 (⟨100000, (some mb), c'⟩ : Disk1)) 143, MP strB ptV mb (fm T'), FB 154 5 T'] ∧ pS y = pS x ∧ Cc c' ∧ LI (vw T') true (pS x) (i + 1)) ∨
      (∃ T' c', v = .int .i64 32 ∧ Γ' = [.pts s (encShelf1 (⟨(some b), tp, has⟩ : Shelf1)) 145, .row 5 1 tp.Conf.a tp.Conf.xs.length tp.Conf.cap (tp.Conf.xs.flatMap encB), .row 5 1 tp.Body.a tp.Body.xs.length tp.Body.cap (tp.Body.xs.flatMap encB), .pts b (encDisk1 (⟨100000, (some mb), c'⟩ : Disk1)) 143, MP strB ptV mb (fm T'), FB 154 5 T'] ∧ Cc c' ∧ LI (vw T') has l (i + 1))) := by
  have hu := hI.usd (by omega)
  rw [used_vw] at hu
  have h5 : x.Conf.xs.length ≤ 1 := hx.cf
  have h6 : x.Body.xs.length ≤ 1000 := hx.bd
  have h7 : x.Mark.Index ≤ 99 := hx.i2
  refine spec0_mo (put_spec b 100000 mb calls T s tp has x ρ hI.fok (by omega) (by decide) hc.hi (by omega) hxc hxb (by omega) (by omega) (by omega)) ?_
  rintro v Γ' ⟨T', y, rfl, hv, hy, hn, rfl⟩
  obtain ⟨hcc, h8⟩ := hI.put hi hc hx hxi
  rw [htp] at hv hy hn ⊢
  rcases h8 with ⟨h1, h2⟩ | ⟨h1, h2⟩
  · exact .inl ⟨T', _, y, by rw [h1], by rw [if_pos h1], hy h1, hcc, by rw [hv]; exact h2⟩
  · have hne : ¬ (putX 100000 calls (vw T) has l (pS x)).1 = 0 := by rw [h1]; decide
    obtain rfl : tp = y := (hn hne).symm
    exact .inr ⟨T', _, by rw [h1], by rw [if_neg hne], hcc, by rw [hv]; exact h2⟩

theorem clean2_spec (b mb : Nat) (calls : Int) (T : FT) (s : Nat) (tp : Snap1) (l : PSnap) (i : Nat) (ρ : Hp) (hI : LI (vw T) true l i) (htp : pS tp = l) (hc : Cc calls) :
    Spec0 Tryz.prog 23 #[.pointer (some ⟨s, 0, none⟩)] ρ [.pts s (encShelf1 (⟨(some b), tp, true⟩ : Shelf1)) 145, .pts b (encDisk1 (⟨100000, (some mb), calls⟩ : Disk1)) 143, MP strB ptV mb (fm T), FB 154 5 T] (fun v Γ' =>
      (∃ T' c', v = .int .i64 0 ∧ Γ' = [.pts s (encShelf1 (⟨(some b), tp, true⟩ : Shelf1)) 145, .pts b (encDisk1 (⟨100000, (some mb), c'⟩ : Disk1)) 143, MP strB ptV mb (fm T'), FB 154 5 T'] ∧ Cc c' ∧ LI (vw T') true l i) ∨
      (∃ T' c', v = .int .i64 32 ∧ Γ' = [.pts s (encShelf1 (⟨(some b), tp, true⟩ : Shelf1)) 145, .pts b (encDisk1 (⟨100000, (some mb), c'⟩ : Disk1)) 143, MP strB ptV mb (fm T'), FB 154 5 T'] ∧ Cc c' ∧ LI (vw T') true l i)) := by
  refine spec0_mo (clean_spec b 100000 mb calls T s tp true ρ hI.fok hc.hi) ?_
  rintro v Γ' ⟨T', rfl, hv, rfl⟩
  obtain ⟨hcc, h8, h9⟩ := hI.clean hc
  rw [htp] at hv ⊢
  rcases h8 with h1 | h1
  · exact .inl ⟨T', _, by rw [h1], rfl, hcc, by rw [hv]; exact h9⟩
  · exact .inr ⟨T', _, by rw [h1], rfl, hcc, by rw [hv]; exact h9⟩
end Go.Shf
