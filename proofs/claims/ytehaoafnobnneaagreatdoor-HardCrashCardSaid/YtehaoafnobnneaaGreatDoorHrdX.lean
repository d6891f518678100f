/-
  What stays true of a disk under savings that are stopped and crashed. No program in sight.
-/
import Derived.Test.YtehaoafnobnneaaGreatDoorHrdPP
set_option linter.unusedVariables false
set_option linter.unusedSimpArgs false
namespace Go.Hrd
open Go Go.SL Go.Mou Go.Dsk Go.Sm
theorem spec0_mono {P : Program} {f : FuncId} {vs : Array Value} {ρ : Hp} {L : List Asn} {R R' : Value → List Asn → Prop} (h : Spec0 P f vs ρ L R) (hm : ∀ v Γ', R v Γ' → R' v Γ') : Spec0 P f vs ρ L R' := fun E Δ w s => by
  refine (h E Δ w s).mono ?_
  rintro e w' ⟨ρ', v, Γ', l, ⟨h1, h2⟩, h3, s'⟩
  exact ⟨ρ', v, Γ', l, ⟨h1, hm _ _ h2⟩, h3, s'⟩
theorem save_le {room calls : Int} {V : FV} {h s : State1} (hc : calls ≤ 9223372036854775807) : (saveP room calls V h s).2.2.1 ≤ 9223372036854775807 := by
  unfold saveP
  split
  · exact hc
  · split
    · exact hc
    · unfold saveO
      split
      · exact remS_calls V _ hc
      · unfold putS
        split
        · exact decC_le (remS_calls V _ hc)
        · split
          · exact decC_le (decC_le (remS_calls V _ hc))
          · exact decC_le (decC_le (remS_calls V _ hc))
structure CI (V : FV) (st : State1) (L : List State1) (i : Nat) (calls : Int) : Prop where
  cl : -1 ≤ calls
  cb : calls ≤ 9223372036854775807
  gd : ∃ c o, c ≤ i ∧ Gd V st c o
  ne : 0 < L.length
  la : L.getD (L.length - 1) default = st
  fo : ∀ y ∈ L, folB st y = true
  s0 : 0 ≤ st.Term
  s1 : -1 ≤ st.Vote
  ll : L.length ≤ i + 1
def CS (V : FV) (st s : State1) (L : List State1) (i : Nat) : Prop := ∀ keep, ∃ on, (on = st ∨ on = s) ∧ folL on L = true ∧ CI (crR keep V).1 on (L ++ [on]) i (-1)
theorem last_app (L : List State1) (s : State1) : (L ++ [s]).getD ((L ++ [s]).length - 1) default = s := by simp [List.getD]
theorem ci_nil : CI [] ⟨0, -1⟩ [⟨0, -1⟩] 0 (-1) := ⟨by decide, by decide, ⟨0, n0, Nat.le_refl _, gd_nil⟩, by decide, rfl, by intro y hy; rw [List.mem_singleton.1 hy]; decide, by decide, by decide, by decide⟩
section
variable {V : FV} {st s : State1} {L : List State1} {i : Nat} {calls : Int}
theorem CI.app (h : CI V st L i calls) {V' : FV} {c' : Int} (h1 : -1 ≤ c') (h2 : c' ≤ 9223372036854775807) (hg : ∃ c o, c ≤ i + 1 ∧ Gd V' s c o) (hf : folB s st = true) (h3 : 0 ≤ s.Term) (h4 : -1 ≤ s.Vote) : CI V' s (L ++ [s]) (i + 1) c' where
  cl := h1
  cb := h2
  gd := hg
  ne := by simp
  la := last_app L s
  fo := fun y hy => by
    rcases List.mem_append.1 hy with hy | hy
    · exact fol_trans hf (h.fo y hy)
    · rw [List.mem_singleton.1 hy]; exact fol_rfl s
  s0 := h3
  s1 := h4
  ll := by have := h.ll; simp only [List.length_append, List.length_cons, List.length_nil]; omega
theorem CI.fol (h : CI V st L i calls) (hf : folB s st = true) (h3 : 0 ≤ s.Term) (h4 : -1 ≤ s.Vote) : folL s L = true := by
  unfold folL
  rw [decide_eq_false (show ¬ s.Term < 0 by omega), decide_eq_false (show ¬ s.Vote < -1 by omega)]
  simp only [Bool.or_false, Bool.not_false, Bool.true_and, List.all_eq_true]
  exact fun y hy => fol_trans hf (h.fo y hy)
theorem ci_save {T T' : FT} (h : CI (vw T) st L i calls) (hi : i < 60) (hv : vw T' = (saveP 10000 calls (vw T) st s).2.1) :
    ((saveP 10000 calls (vw T) st s).1 = 0 ∧ (saveP 10000 calls (vw T) st s).2.2.2 = s ∧ CI (vw T') s (L ++ [s]) (i + 1) (saveP 10000 calls (vw T) st s).2.2.1) ∨
    ((saveP 10000 calls (vw T) st s).1 = 2 ∧ (saveP 10000 calls (vw T) st s).2.2.2 = st ∧ CI (vw T') st L (i + 1) (saveP 10000 calls (vw T) st s).2.2.1) ∨
    ((saveP 10000 calls (vw T) st s).1 = 32 ∧ (saveP 10000 calls (vw T) st s).2.2.2 = st ∧ FOk T' ∧ CS (vw T') st s L (i + 1)) := by
  obtain ⟨c, o, hc, hg⟩ := h.gd
  have hle := save_le (room := 10000) (V := vw T) (h := st) (s := s) h.cb
  cases hb : badS st s with
  | true =>
    rw [save_bad hb] at hv ⊢
    refine .inr (.inl ⟨rfl, rfl, h.cl, h.cb, ⟨c, o, by omega, by rw [hv]; exact hg⟩, h.ne, h.la, h.fo, h.s0, h.s1, by have := h.ll; omega⟩)
  | false =>
    obtain ⟨p1, p2, p3, p4⟩ := fol_pos hb
    by_cases he : s = st
    · rw [save_same hb he] at hv ⊢
      refine .inl ⟨rfl, he.symm, ?_⟩
      exact h.app h.cl h.cb ⟨c, o, by omega, by rw [hv, he]; exact hg⟩ (bad_fol hb) p1 p2
    · obtain ⟨⟨a1, -, -⟩, a2⟩ := save_any hg (by omega) hb he (room := 10000) (by decide) h.cl
      rcases a2 with ⟨b1, b2, b3⟩ | ⟨b1, b2, b3⟩
      · exact .inl ⟨b1, b3, h.app a1 hle ⟨c + 1, opp o, by omega, by rw [hv]; exact b2⟩ (bad_fol hb) p1 p2⟩
      · refine .inr (.inr ⟨b1, b2, fok_of hv b3.ok, fun keep => ?_⟩)
        rw [hv]
        rcases b3.cr keep with g | g
        · exact ⟨st, .inl rfl, h.fol (fol_rfl _) h.s0 h.s1, h.app (by decide) (by decide) ⟨c, o, by omega, g⟩ (fol_rfl _) h.s0 h.s1⟩
        · exact ⟨s, .inr rfl, h.fol (bad_fol hb) p1 p2, h.app (by decide) (by decide) ⟨c + 1, opp o, by omega, g⟩ (bad_fol hb) p1 p2⟩
theorem CI.on {T : FT} (h : CI (vw T) st L i calls) : (newF (vw T)).2.2 = st := by obtain ⟨c, o, -, hg⟩ := h.gd; exact hg.on
theorem CI.fok {T : FT} (h : CI (vw T) st L i calls) : FOk T := by obtain ⟨c, o, -, hg⟩ := h.gd; exact hg.fok
theorem CI.usd {T : FT} (h : CI (vw T) st L i calls) : usedT T ≤ 62 := by obtain ⟨c, o, -, hg⟩ := h.gd; exact hg.usd
theorem CI.set {c' : Int} (h : CI V st L i calls) (h1 : -1 ≤ c') (h2 : c' ≤ 9223372036854775807) : CI V st L i c' := ⟨h1, h2, h.gd, h.ne, h.la, h.fo, h.s0, h.s1, h.ll⟩
theorem CI.crash {T T' : FT} (h : CI (vw T) st L i calls) {keep : List Int} (hv : vw T' = (crR keep (vw T)).1) : CI (vw T') st L i (-1) := by
  obtain ⟨c, o, hc, hg⟩ := h.gd
  exact ⟨by decide, by decide, ⟨c, o, hc, hg.crash hv⟩, h.ne, h.la, h.fo, h.s0, h.s1, h.ll⟩
end
end Go.Hrd
