/- part -/
import Derived.Test.YtijldgggjioccaaGreatDoorShfRq
import Derived.Test.YtijldgggjioccaaGreatDoorShfN
set_option linter.unusedVariables false
set_option linter.unusedSimpArgs false
namespace Go.Shf
open Go Go.SL Go.Mou Go.Dsk Go.Sm Go.Hrd
def MB (tb : TypeId) (own : Bool) (x : Snap1) : Asn := Bun (if own = true then [.row tb 1 x.Conf.a x.Conf.xs.length x.Conf.cap (x.Conf.xs.flatMap encB), .row tb 1 x.Body.a x.Body.xs.length x.Body.cap (x.Body.xs.flatMap encB)] else [])
theorem mb_no (tb : TypeId) (x : Snap1) (Γ : List Asn) : Ent Γ (MB tb false x :: Γ) := bun_in [] Γ
theorem mb_own {tb : TypeId} {x : Snap1} {Γ Γ1 Γ2 : List Asn} (p : Pick (.row tb 1 x.Conf.a x.Conf.xs.length x.Conf.cap (x.Conf.xs.flatMap encB)) [] Γ Γ1) (q : Pick (.row tb 1 x.Body.a x.Body.xs.length x.Body.cap (x.Body.xs.flatMap encB)) [] Γ1 Γ2) : Ent Γ (MB tb true x :: Γ2) :=
  Ent.trans (Ent.pick p (Ent.pick q (Ent.refl _))) (bun_in [_, _] Γ2)
def RoS (x : Snap1) (ρ : Hp) : Prop := x.Conf.ro encB 1 ρ ∧ x.Body.ro encB 1 ρ
theorem RoS.mono {x : Snap1} {ρ ρ' : Hp} (l : ρ.le ρ') (h : RoS x ρ) : RoS x ρ' := ⟨Ro.mono l h.1, Ro.mono l h.2⟩
theorem lent_mb {ρ ρ' : Hp} {Δ Δ' : List Asn} {tb : TypeId} {own : Bool} {x : Snap1} (l : Lent ρ ρ' Δ) (p : Pick (MB tb own x) [] Δ Δ') (h : own = false → RoS x ρ) : RoS x ρ' := by
  cases own with
  | false => exact (h rfl).mono l.1
  | true =>
    unfold MB at p; rw [if_pos rfl] at p; exact ⟨l.bun (T := tb) p (List.mem_cons_self ..), l.bun (T := tb) p (List.mem_cons_of_mem _ (List.mem_cons_self ..))⟩
theorem ros_z (ρ : Hp) : RoS zSnap1 ρ := ⟨SL.ro_nil encB 1 ρ, SL.ro_nil encB 1 ρ⟩
structure SAl (room calls : Int) (e : Bool) (c : Int) (T : FT) (R : RT) (tp : Snap1) (has : Bool) (top : Snap1) (n : Nat) : Prop where
  al : Go.Hrd.Alike room calls e c (vw T) (rvw R) n
  tp : pS tp = pS top
  ok : TopOk (pS top) has n
theorem sal_nil {room : Int} {tp : Snap1} (hr : 0 ≤ room) (h : pS tp = zPS) : SAl room (-1) false 0 [] [] tp false zSnap1 0 :=
  ⟨⟨sim_nil_, rfl, (fun h => by cases h), by decide, ⟨vok_nil, (show (0 : Nat) ≤ 0 by decide), (by decide)⟩, hr⟩, h, top_z 0⟩
section
variable {room calls c : Int} {e has : Bool} {T : FT} {R : RT} {tp top : Snap1} {n : Nat}
theorem SAl.fok (h : SAl room calls e c T R tp has top n) : FOk T := Go.Dsk.fok.2 h.al.lim.ok
theorem SAl.vok (h : SAl room calls e c T R tp has top n) : VOk (rvw R) := h.al.sim.vok h.al.lim.ok
theorem SAl.used (h : SAl room calls e c T R tp has top n) : (usedT T : Int) ≤ room := by rw [← used_vw]; exact h.al.us
theorem SAl.usedR (h : SAl room calls e c T R tp has top n) : (usedR R : Int) ≤ room := by rw [← usedR_vw, ← h.al.sim.used]; exact h.al.us
theorem SAl.us (h : SAl room calls e c T R tp has top n) : usedT T ≤ n := by rw [← used_vw]; exact h.al.lim.us
theorem SAl.usR (h : SAl room calls e c T R tp has top n) : Go.Dsk.usedR R ≤ n := by rw [← usedR_vw, ← h.al.sim.used]; exact h.al.lim.us
theorem SAl.le (h : SAl room calls e c T R tp has top n) {m : Nat} (hm : n ≤ m) (h2 : m ≤ 1000000000000) : SAl room calls e c T R tp has top m := ⟨al_more h.al hm h2, h.tp, h.ok.le hm⟩
theorem SAl.tl (h : SAl room calls e c T R tp has top n) : tp.Conf.xs.length ≤ n ∧ tp.Body.xs.length ≤ n := by
  have h1 := h.ok.ln; rw [← h.tp] at h1; exact h1
theorem SAl.ix (h : SAl room calls e c T R tp has top n) : 0 ≤ top.Mark.Index ∧ top.Mark.Index < 10000000000 ∧ tp.Mark.Index = top.Mark.Index := ⟨h.ok.ix.1, h.ok.ix.2, congrArg PSnap.ix h.tp⟩
theorem SAl.put {calls' c' : Int} {T' : FT} {R' : RT} {y x : Snap1} {m : Nat} (h : Go.Hrd.Alike room calls' e c' (vw T') (rvw R') m) (hy : pS y = pS x) (hx : rightM x.Mark.Index x.Mark.Term = true) (hl : x.Conf.xs.length ≤ m ∧ x.Body.xs.length ≤ m) : SAl room calls' e c' T' R' y true x m := by
  obtain ⟨h1, h2, h3, h4⟩ := right_yes hx; exact ⟨h, hy, ⟨by show 0 ≤ x.Mark.Index; omega, h3⟩, hl, fun q => by cases q⟩
theorem SAl.new {s y : Snap1} {b d : Bool} {m : Nat} (h : Go.Hrd.Alike room calls e c (vw T) (rvw R) m) (h1 : (pS s, b) = newX (vw T)) (h2 : (pS y, d) = newR (rvw R)) : b = d ∧ SAl room calls e c T R s d y m := by
  obtain ⟨q1, q2⟩ := Prod.mk.inj (h1.trans ((sim_newest h.sim).trans h2.symm)); refine ⟨q2, h, q1, ?_⟩; have h3 := top_new h.lim.us; rw [sim_newest h.sim, ← h2] at h3; exact h3
end
theorem al_putm {room calls c : Int} {e has : Bool} {V L : FV} {top x : PSnap} {n m : Nat} (ha : Go.Hrd.Alike room calls e c V L n) (hm : n ≤ m) (h2 : m ≤ 1000000000000) (hb : rightM x.ix x.tm = true → n + (snB x).length ≤ m) : (putX room calls V has top x).1 = (putE room e c L has top x).1 ∧ Go.Hrd.Alike room (putX room calls V has top x).2.2 e (putE room e c L has top x).2.2 (putX room calls V has top x).2.1 (putE room e c L has top x).2.1 m := by
  cases hbd : badX has top x with
  | true => rw [pu_bad hbd, pe_bad hbd]; exact ⟨rfl, al_more ha hm h2⟩
  | false =>
    have hr : rightM x.ix x.tm = true := by
      unfold badX at hbd
      cases hr : rightM x.ix x.tm with
      | true => rfl
      | false => rw [hr] at hbd; cases hbd
    have h3 := hb hr; obtain ⟨a1, a2⟩ := al_put (has := has) (top := top) (x := x) ha (by omega); exact ⟨a1, al_more a2 h3 h2⟩
theorem decR_f (c : Int) : decR false c = c := by unfold decR; rw [if_neg (by simp)]
theorem told_nm {T : FT} {R : RT} (h : Sim (vw T) (rvw R)) {k : Nat} (hk : k < R.length) : (sortS (T.map (·.name))).getD k default = (R.getD k default).Name := by
  have h1 := h.keys; rw [vw_keys, rvw_keys] at h1; rw [h1, rname_get hk]
theorem told_get {T : FT} {R : RT} (h : Sim (vw T) (rvw R)) {k : Nat} (hk : k < R.length) : mget (vw T) (R.getD k default).Name = some ((R.getD k default).B.xs, (R.getD k default).Safe) := by
  rw [h.eq]; exact rget (by rw [← rvw_keys]; exact h.nl) hk
theorem told_len {T : FT} {R : RT} (h : Sim (vw T) (rvw R)) : T.length = R.length := by have := h.len; rwa [vw_len, rvw_len] at this
end Go.Shf
