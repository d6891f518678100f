/-
  What ties the dispatcher to its reference, through the acts. No program in sight.
-/
import Derived.Test.YteajafkmnhikoaaDspG
set_option linter.unusedVariables false
set_option linter.unusedSimpArgs false
namespace Go.Dsp
open Go Go.SL
structure AD where
  now : Int
  bo : Nat
  bt : Nat
  out : OM
  told : TM
  q : RA
structure ActI (N : Nat) (d : AD) : Prop where
  ok : OutK d.out
  oo : OutOk d.now d.out
  to : ToldOk d.now d.told
  nd : (mkeys d.told).Nodup
  n0 : 0 ≤ d.now
  n1 : d.now ≤ N
  ol : d.out.length ≤ 30
  tl : d.told.length ≤ 30 * N
  q1 : d.q.n1 = d.out.length
  q2 : d.q.n2 = d.told.length
theorem act_zero {bo bt : Nat} : ActI 0 ⟨0, bo, bt, [], [], ⟨none, 0, 0, none, 0, 0⟩⟩ :=
  ⟨⟨List.nodup_nil, fun p hp => by cases hp⟩, out_nil 0, told_nil 0, List.nodup_nil, Int.le_refl _, Int.le_refl _, Nat.zero_le _, Nat.zero_le _, rfl, rfl⟩
theorem ActI.mono {N : Nat} {d : AD} (h : ActI N d) : ActI (N + 1) d := ⟨h.ok, h.oo, h.to, h.nd, h.n0, by have := h.n1; omega, h.ol, by have := h.tl; omega, h.q1, h.q2⟩
theorem relL_nil (now : Int) : relL now [] = [] := by
  have h : (relL now []).length = 0 := by unfold relL; rw [List.length_map, sorted_len]; rfl
  exact List.eq_nil_of_length_eq_zero h
theorem relL_len (now : Int) (out : OM) : (relL now out).length = out.length := by unfold relL; rw [List.length_map, sorted_len]
theorem relT_len (now : Int) (told : TM) : (relT now told).length = told.length := by simp [relT]
theorem getD_at_ {α : Type} [Inhabited α] {l : List α} {k : Nat} (h : k < l.length) : l.getD k default = l[k] := by simp [List.getD, h]
theorem getD_past_ {α : Type} [Inhabited α] {l : List α} {k : Nat} (h : l.length ≤ k) : l.getD k default = default := by
  unfold List.getD
  rw [List.getElem?_eq_none h]
  rfl
theorem relL_since {now : Int} {out : OM} (h : OutOk now out) (h0 : 0 ≤ now) (hb : now ≤ 1000000) (k : Nat) : ((relL now out).getD k default).Since ≤ 1000000000 := by
  by_cases hk : k < (relL now out).length
  · rw [getD_at_ hk]
    obtain ⟨c, -, e⟩ := List.mem_map.1 (show (relL now out)[k] ∈ relL now out from List.getElem_mem hk)
    rw [← e]
    have := h.at_ h0 c
    show sinceF now (mgetD out c zSent) ≤ 1000000000
    unfold sinceF
    split <;> omega
  · rw [getD_past_ (by omega)]; decide
theorem relT_since {now : Int} {told : TM} (h : ToldOk now told) (h0 : 0 ≤ now) (hb : now ≤ 1000000) (k : Nat) : ((relT now told).getD k default).Since ≤ 1000000000 := by
  by_cases hk : k < (relT now told).length
  · rw [getD_at_ hk]
    obtain ⟨p, hp, e⟩ := List.mem_map.1 (show (relT now told)[k] ∈ relT now told from List.getElem_mem hk)
    rw [← e]
    have := (h.1 p hp).2
    show (rtF now p.1 p.2).Since ≤ 1000000000
    unfold rtF
    show (if p.2.any = true then now - p.2.at_ else -1) ≤ 1000000000
    split <;> omega
  · rw [getD_past_ (by omega)]; decide
theorem mset_lenle {V : Type} : ∀ (m : List (Int × V)) (k : Int) (v : V), (mset m k v).length ≤ m.length + 1
  | [], k, v => by simp [mset]
  | (a, u) :: m, k, v => by
    have := mset_lenle m k v
    simp only [mset]
    split <;> simp <;> omega
theorem set_len (old : OM) (os : List Ord) : (setF old os).length ≤ os.length := by
  have key : ∀ (l : List Ord) (a : OM), (l.foldl (setStep old) a).length ≤ a.length + l.length := by
    intro l
    induction l with
    | nil => intro a; simp
    | cons o l ih =>
      intro a
      have := ih (setStep old a o)
      have := mset_lenle a o.Cluster (keepF old o)
      simp only [List.foldl_cons, List.length_cons]
      unfold setStep at *
      omega
  have := key os []
  simp only [List.length_nil, Nat.zero_add] at this
  exact this
theorem rset_bound {now : Int} {old : OM} (h : OutK old) (os : List Ord) (ho : os.length ≤ 1000) (k : Nat) : ((os.take k).foldl (fun l o => rputF l (rkeep (relL now old) o)) []).length ≤ 1000000 := by
  have h1 := (rel_set (now := now) h (os.take k)).1
  have h2 := set_len old (os.take k)
  rw [List.length_take] at h2
  show (rsetF (relL now old) (os.take k)).length ≤ 1000000
  rw [h1, relL_len]
  omega
theorem act_set {N : Nat} {d : AD} (h : ActI N d) {os : List Ord} (hw : ∀ o ∈ os, I64 o.Cluster) (ho : os.length ≤ 30) {bo : Nat} {a : Option Addr} {c : Nat} :
    ActI (N + 1) ⟨d.now, bo, d.bt, setF d.out os, d.told, ⟨a, (relL d.now (setF d.out os)).length, c, d.q.a2, d.q.n2, d.q.c2⟩⟩ := by
  have hl := set_len d.out os
  exact ⟨(rel_set (now := d.now) h.ok os).2, set_inv h.oo h.n0 os hw (by omega), h.to, h.nd, h.n0, by have := h.n1; show d.now ≤ ((N + 1 : Nat) : Int); omega, by show (setF d.out os).length ≤ 30; omega, by have := h.tl; show d.told.length ≤ 30 * (N + 1); omega, relL_len _ _, h.q2⟩
theorem OutOk.up1 {now : Int} {m : OM} (h : OutOk now m) : OutOk (now + 1) m := ⟨fun p hp => ⟨(h.1 p hp).1, (h.1 p hp).2.1, by have := (h.1 p hp).2.2; omega⟩, h.2⟩
theorem ToldOk.up1 {now : Int} {m : TM} (h : ToldOk now m) : ToldOk (now + 1) m := ⟨fun p hp => ⟨(h.1 p hp).1, (h.1 p hp).2.1, by have := (h.1 p hp).2.2; omega⟩, h.2⟩
theorem act_tick {N : Nat} {d : AD} (h : ActI N d) {span : Int} :
    ActI (N + 1) ⟨d.now + 1, d.bo, d.bt, (tickF (d.now + 1) span d.out).1, d.told, d.q⟩ := by
  obtain ⟨r1, r2, r3⟩ := rel_tick (span := span) h.ok h.oo h.n0
  have h0 : 0 ≤ d.now + 1 := by have := h.n0; omega
  have hk := tick_inv (span := span) h.oo.up1 h0 (sortI (mkeys d.out)) (fun c hc => sortI_mem.1 hc)
  have hlen : (tickF (d.now + 1) span d.out).1.length = d.out.length := by
    have := congrArg List.length hk.1
    unfold mkeys at this
    rw [List.length_map, List.length_map] at this
    exact this
  exact ⟨r3, tick_ok h.oo.up1 h0, h.to.up1, h.nd, h0, by have := h.n1; show d.now + 1 ≤ ((N + 1 : Nat) : Int); omega, by have := h.ol; show (tickF (d.now + 1) span d.out).1.length ≤ 30; omega, by have := h.tl; show d.told.length ≤ 30 * (N + 1); omega, by show d.q.n1 = (tickF (d.now + 1) span d.out).1.length; rw [hlen]; exact h.q1, h.q2⟩
def hK (now span : Int) (out : OM) (told : TM) (rs : List Rep_) (k : Nat) : TM × List Op1 := (rs.take k).foldl (hearStep now span out) (told, [])
section
variable {now span : Int} {out : OM} {told : TM} {rs : List Rep_} {k : Nat}
theorem hK_zero : hK now span out told rs 0 = (told, []) := rfl
theorem hK_succ (hk : k < rs.length) : hK now span out told rs (k + 1) = hearStep now span out (hK now span out told rs k) (rs.getD k default) := foldl_take _ _ _ _ hk
theorem hK_all : hK now span out told rs rs.length = hearF now span out told rs := by unfold hK hearF; rw [List.take_length]
theorem hK_inv (h : ToldOk now told) (h0 : 0 ≤ now) (hw : ∀ r ∈ rs, I64 r.Cluster) : (∀ p ∈ (hK now span out told rs k).1, I64 p.1 ∧ 0 ≤ p.2.at_ ∧ p.2.at_ ≤ now) ∧ (hK now span out told rs k).1.length ≤ told.length + (rs.take k).length ∧ (hK now span out told rs k).2.length ≤ 2 * (rs.take k).length :=
  hear_inv h h0 (rs.take k) (fun r hr => hw r (List.mem_of_mem_take hr))
theorem hK_ok (h : ToldOk now told) (h0 : 0 ≤ now) (hw : ∀ r ∈ rs, I64 r.Cluster) (hb : told.length + rs.length ≤ 1000000) : ToldOk now (hK now span out told rs k).1 := by
  have := hK_inv (span := span) (out := out) (k := k) h h0 hw
  refine ⟨this.1, ?_⟩
  have h2 := this.2.1
  rw [List.length_take] at h2
  omega
theorem hK_nd (h : (mkeys told).Nodup) : (mkeys (hK now span out told rs k).1).Nodup := by
  unfold hK
  have key : ∀ (l : List Rep_) (a : TM × List Op1), (mkeys a.1).Nodup → (mkeys (l.foldl (hearStep now span out) a).1).Nodup := by
    intro l
    induction l with
    | nil => intro a ha; exact ha
    | cons r l ih => intro a ha; exact ih _ (mset_nodup ha _ _)
  exact key _ _ h
theorem act_hear {N : Nat} {d : AD} (h : ActI N d) (hw : ∀ r ∈ rs, I64 r.Cluster) (ho : rs.length ≤ 30) (hN : N ≤ 100) {a : Option Addr} {n c : Nat} (hn : n = (hearF d.now span d.out d.told rs).1.length) :
    ActI (N + 1) ⟨d.now, d.bo, d.bt, d.out, (hearF d.now span d.out d.told rs).1, ⟨d.q.a1, d.q.n1, d.q.c1, a, n, c⟩⟩ := by
  have h1 := hear_inv (span := span) (out := d.out) h.to h.n0 rs hw
  have h2 := h1.2.1
  have h3 := h.to.2
  have h4 := h.tl
  refine ⟨h.ok, h.oo, ⟨h1.1, ?_⟩, ?_, h.n0, by have := h.n1; show d.now ≤ ((N + 1 : Nat) : Int); omega, h.ol, ?_, h.q1, hn⟩
  · show (hearF d.now span d.out d.told rs).1.length ≤ 1000000
    omega
  · have := hK_nd (now := d.now) (span := span) (out := d.out) (rs := rs) (k := rs.length) h.nd
    rw [hK_all] at this
    exact this
  · show (hearF d.now span d.out d.told rs).1.length ≤ 30 * (N + 1)
    omega
def sameB (a b : Op1) : Bool := decide (a.Kind = b.Kind) && decide (a.Cluster = b.Cluster) && decide (a.Number = b.Number) && decide (a.Good = b.Good) && decide ((a.Plan.Waves.xs.length : Int) = 0) && decide (a.Plan.Budget = 0) && decide (a.Plan.Bad = 0)
theorem hear_same (hh : now = now) : ∀ o ∈ (hearF now span out told rs).2, sameB o o = true := by
  unfold hearF
  have key : ∀ (l : List Rep_) (a : TM × List Op1), (∀ o ∈ a.2, sameB o o = true) → ∀ o ∈ (l.foldl (hearStep now span out) a).2, sameB o o = true := by
    intro l
    induction l with
    | nil => intro a ha; exact ha
    | cons r l ih =>
      intro a ha
      refine ih _ fun o ho => ?_
      unfold hearStep at ho
      simp only [List.mem_append] at ho
      rcases ho with (ho | ho) | ho
      · exact ha o ho
      · split at ho
        · rw [List.mem_singleton.1 ho]; simp [sameB, opD, zPln]
        · cases ho
      · split at ho
        · rw [List.mem_singleton.1 ho]; simp [sameB, opH, zPln]
        · cases ho
  exact key rs (told, []) (fun o ho => by cases ho)
end
def ActM (a : Act1) (h : Hp) : Prop := Ro h 4 a.Os.a a.Os.xs.length a.Os.cap (a.Os.xs.flatMap encOrd) ∧ Ro h 6 a.Rs.a a.Rs.xs.length a.Rs.cap (a.Rs.xs.flatMap encRep_) ∧ (∀ o ∈ a.Os.xs, I64 o.Cluster) ∧ ∀ r ∈ a.Rs.xs, I64 r.Cluster
theorem getD_mem_ {α : Type} [Inhabited α] {l : List α} {k : Nat} (h : k < l.length) : l.getD k default ∈ l := by rw [getD_at_ h]; exact List.getElem_mem h
theorem outF_len (out : OM) : (outF out).length = out.length := by unfold outF; rw [List.length_map, sorted_len]
def ordsB (a b : List Ord) : Bool := decide (a.map ordL = b.map ordL)
theorem ordsB_self (a : List Ord) : ordsB a a = true := by simp [ordsB]
theorem ordsB_of {a b : List Ord} (h : a = b) : ordsB a b = true := by rw [h]; exact ordsB_self b
theorem ordsB_ne {a b : List Ord} (h : ¬ a = b) : ordsB a b = false := by
  unfold ordsB
  refine decide_eq_false fun e => h ?_
  have : ∀ (a b : List Ord), a.map ordL = b.map ordL → a = b := by
    intro a
    induction a with
    | nil => intro b e; cases b with
      | nil => rfl
      | cons _ _ => cases e
    | cons x a ih => intro b e; cases b with
      | nil => cases e
      | cons y b =>
        rw [List.map_cons, List.map_cons] at e
        injection e with e1 e2
        rw [ordL_eq.1 e1, ih b e2]
  exact this a b e
theorem take_next {α : Type} [Inhabited α] {a b : List α} {k : Nat} (h1 : k < a.length) (h2 : k < b.length) (h : a.take k = b.take k) (e : a.getD k default = b.getD k default) : a.take (k + 1) = b.take (k + 1) := by
  rw [take_succ_getD _ _ h1, take_succ_getD _ _ h2, h, e]
theorem out_get {now : Int} {out : OM} {k : Nat} (hk : k < out.length) : (outF out).getD k default = ((relL now out).getD k default).O := by
  have h1 : k < (sortI (mkeys out)).length := by rw [sorted_len]; exact hk
  unfold outF relL
  rw [getD_at_ (by rw [List.length_map]; exact h1), getD_at_ (by rw [List.length_map]; exact h1), List.getElem_map, List.getElem_map]
  rfl
end Go.Dsp
