/-
  Walked.
-/
import Derived.Test.YtehaoafnobnneaaGreatDoorAgnE
import Derived.Test.YtehaoafnobnneaaGreatDoorAgnX
import Derived.Test.YtehaoafnobnneaaGreatDoorProg
set_option maxRecDepth 100000
set_option maxHeartbeats 4000000
set_option linter.unusedSimpArgs false
set_option linter.unusedVariables false
namespace Go.Agn
open Go Go.SL Go.Proofs Go.Mou Go.Dsk Go.Hrd
attribute [local irreducible] Go.SL.Ent


theorem hear4_spec (b ag mb : Nat) (calls : Int) (T : FT) (k : Kept1) (wk w : Int) (dn : Bool) (t : Order1) (B : List Int) (id ep : Int) (p : Option Addr) (pc : Nat) (o : Order1) (ρ : Hp) (hro : Ro ρ 4 p 1 pc ([o].flatMap encOrder1)) (h : HI (vw T) calls k dn t) (hf : OF k B id ep) (hcl : o.Cluster = 7) :
    Spec0 Tryz.prog 29 #[.pointer (some ⟨ag, 0, none⟩), .slice p 1 pc] ρ [.pts ag (encAgent1 (⟨k, (some b), 7, wk, w, dn⟩ : Agent1)) 81, .pts b (encDisk1 (⟨100000, (some mb), calls⟩ : Disk1)) 105, MP strB ptV mb (fm T), FB 109 5 T] (fun v Γ' =>
      (∃ T' c', v = .int .i64 0 ∧ Γ' = [.pts ag (encAgent1 (⟨(hearK k o), (some b), 7, wk, 0, false⟩ : Agent1)) 81, .pts b (encDisk1 (⟨100000, (some mb), c'⟩ : Disk1)) 105, MP strB ptV mb (fm T'), FB 109 5 T'] ∧ dn = false ∧ k.at_ = 0 ∧ o.ID ∉ B ∧ HI (vw T') c' (hearK k o) false t ∧ OF (hearK k o) (B ++ [o.ID]) id ep) ∨
      (∃ e T', v = .int .i64 e ∧ Γ' = [.pts ag (encAgent1 (⟨k, (some b), 7, wk, w, dn⟩ : Agent1)) 81, .pts b (encDisk1 (⟨100000, (some mb), calls⟩ : Disk1)) 105, MP strB ptV mb (fm T'), FB 109 5 T'] ∧ e ≠ 0 ∧ (e = 92 → t.ID ≠ 0) ∧ vw T' = vw T) ∨
      (∃ T' c', v = .int .i64 92 ∧ Γ' = [.pts ag (encAgent1 (⟨k, (some b), 7, wk, w, true⟩ : Agent1)) 81, .pts b (encDisk1 (⟨100000, (some mb), c'⟩ : Disk1)) 105, MP strB ptV mb (fm T'), FB 109 5 T'] ∧ t.ID = 0 ∧ HI (vw T') c' k true o)) := by
  obtain ⟨hv, hu, hk⟩ := h.ok
  have hF : FOk T := Go.Dsk.fok.2 hv
  rw [used_vw] at hu
  have hcb := h.1
  refine spec0_mn (Hear_spec b 100000 mb calls T ag k 7 wk w dn p pc o ρ hro hF (by omega) (by decide) hcb.hi (by omega) hk) ?_
  rintro v Γ' ⟨T', rfl, hvT, rfl⟩
  rcases hear4 (room := 100000) (w := w) h hf (by decide) hcl with ⟨V', c', e1, e2, e3, e4, e5, e6⟩ | ⟨e, e1, e2, e3⟩ | ⟨V', c', e1, e2, e3⟩
  · rw [e1] at hvT
    exact .inl ⟨T', c', by rw [e1], by rw [e1], e2, e3, e4, by rw [hvT]; exact e5, e6⟩
  · rw [e1] at hvT
    exact .inr (.inl ⟨e, T', by rw [e1], by rw [e1], e2, e3, hvT⟩)
  · rw [e1] at hvT
    exact .inr (.inr ⟨T', c', by rw [e1], by rw [e1], e2, by rw [hvT]; exact e3⟩)

theorem tick3_spec (b ag mb : Nat) (calls : Int) (T : FT) (k : Kept1) (wk w : Int) (B : List Int) (id ep : Int) (ρ : Hp) (hcb : Cb calls) (h : AI (vw T) k) (hf : OF k B id ep) (hw : 0 ≤ w) (hw2 : w ≤ 1000000) :
    Spec0 Tryz.prog 30 #[.pointer (some ⟨ag, 0, none⟩)] ρ [.pts ag (encAgent1 (⟨k, (some b), 7, wk, w, false⟩ : Agent1)) 81, .pts b (encDisk1 (⟨100000, (some mb), calls⟩ : Disk1)) 105, MP strB ptV mb (fm T), FB 109 5 T] (fun v Γ' =>
      (∃ T' c', v = .bool true ∧ Γ' = [.pts ag (encAgent1 (⟨(tickK k), (some b), 7, wk, (w + 1), false⟩ : Agent1)) 81, .pts b (encDisk1 (⟨100000, (some mb), c'⟩ : Disk1)) 105, MP strB ptV mb (fm T'), FB 109 5 T'] ∧ k.at_ ≠ 0 ∧ Cb c' ∧ AI (vw T') (tickK k) ∧ OF (tickK k) B id ep) ∨
      (∃ T' w', v = .bool false ∧ Γ' = [.pts ag (encAgent1 (⟨k, (some b), 7, wk, w', false⟩ : Agent1)) 81, .pts b (encDisk1 (⟨100000, (some mb), calls⟩ : Disk1)) 105, MP strB ptV mb (fm T'), FB 109 5 T'] ∧ (w' = w ∨ w' = w + 1) ∧ vw T' = vw T) ∨
      (∃ T' c', v = .bool false ∧ Γ' = [.pts ag (encAgent1 (⟨k, (some b), 7, wk, (w + 1), true⟩ : Agent1)) 81, .pts b (encDisk1 (⟨100000, (some mb), c'⟩ : Disk1)) 105, MP strB ptV mb (fm T'), FB 109 5 T'] ∧ k.at_ ≠ 0 ∧ Cb c' ∧ Rdy (vw T') k (tickK k))) := by
  have hF : FOk T := h.fok
  have hu := h.usd
  refine spec0_mn (tick_spec b 100000 mb calls T ag k 7 wk w false ρ hF (by omega) (by decide) hcb.hi (by omega) h.kk hw hw2) ?_
  rintro v Γ' ⟨T', rfl, hvT, rfl⟩
  rcases tick3 (room := 100000) (w := w) (work := wk) hcb h hf (by decide) with ⟨V', c', e1, e2, e3, e4, e5⟩ | ⟨w', e1, e2⟩ | ⟨V', c', e1, e2, e3, e4⟩
  · rw [e1] at hvT
    exact .inl ⟨T', c', by rw [e1], by rw [e1], e2, e3, by rw [hvT]; exact e4, e5⟩
  · rw [e1] at hvT
    exact .inr (.inl ⟨T', w', by rw [e1], by rw [e1], e2, hvT⟩)
  · rw [e1] at hvT
    exact .inr (.inr ⟨T', c', by rw [e1], by rw [e1], e2, e3, by rw [hvT]; exact e4⟩)

theorem open3_spec (b mb : Nat) (T2 : FT) (wk : Int) (keep : List Int) (V : FV) (k k2 : Kept1) (dn : Bool) (t : Order1) (B : List Int) (id ep : Int) (ρ : Hp) (hv : vw T2 = (crR keep V).1) (h : EI V k k2 dn t) (hf : OF k B id ep) (hwk : 1 ≤ wk) :
    Spec0 Tryz.prog 28 #[.pointer (some ⟨b, 0, none⟩), .int .i64 7, .int .i64 wk] ρ [.pts b (encDisk1 (⟨100000, (some mb), (-1)⟩ : Disk1)) 105, MP strB ptV mb (fm T2), FB 109 5 T2] (fun v Γ' =>
      (∃ ag T', v = .tuple #[.pointer (some ⟨ag, 0, none⟩), .int .i64 0] ∧ Γ' = [.pts ag (encAgent1 (⟨k, (some b), 7, wk, 0, false⟩ : Agent1)) 81, .pts b (encDisk1 (⟨100000, (some mb), (-1)⟩ : Disk1)) 105, MP strB ptV mb (fm T'), FB 109 5 T'] ∧ AI (vw T') k) ∨
      (∃ ag T', v = .tuple #[.pointer (some ⟨ag, 0, none⟩), .int .i64 0] ∧ Γ' = [.pts ag (encAgent1 (⟨(hearK k t), (some b), 7, wk, 0, false⟩ : Agent1)) 81, .pts b (encDisk1 (⟨100000, (some mb), (-1)⟩ : Disk1)) 105, MP strB ptV mb (fm T'), FB 109 5 T'] ∧ AI (vw T') (hearK k t) ∧ k.at_ = 0 ∧ t.ID ≠ 0 ∧ t.ID ∉ B ∧ OF (hearK k t) (B ++ [t.ID]) id ep) ∨
      (∃ ag T', v = .tuple #[.pointer (some ⟨ag, 0, none⟩), .int .i64 0] ∧ Γ' = [.pts ag (encAgent1 (⟨(tickK k), (some b), 7, wk, 0, false⟩ : Agent1)) 81, .pts b (encDisk1 (⟨100000, (some mb), (-1)⟩ : Disk1)) 105, MP strB ptV mb (fm T'), FB 109 5 T'] ∧ AI (vw T') (tickK k) ∧ k.at_ ≠ 0 ∧ OF (tickK k) B id ep)) := by
  refine spec0_mn (open__spec b 100000 mb (-1) T2 7 wk ρ rfl (fok_of hv (vok_cr h.vok.1 keep)) (by decide) (by decide) hwk) ?_
  rintro v Γ' ⟨ag, k3, m, T', rfl, hsc, hvT, rfl⟩
  rw [hv] at hsc hvT
  obtain ⟨hA, h3⟩ := h.cr hf hsc
  rw [← hvT] at hA
  rcases h3 with e | ⟨e, e1, e2, e3, e4⟩ | ⟨e, e1, e2⟩
  · subst e; exact .inl ⟨ag, T', rfl, rfl, hA⟩
  · rw [e] at hA ⊢; exact .inr (.inl ⟨ag, T', rfl, rfl, hA, e1, e2, e3, e4⟩)
  · rw [e] at hA ⊢; exact .inr (.inr ⟨ag, T', rfl, rfl, hA, e1, e2⟩)
end Go.Agn
