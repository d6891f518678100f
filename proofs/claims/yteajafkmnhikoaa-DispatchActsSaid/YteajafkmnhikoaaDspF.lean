/-
  The reference's dispatcher, as plain lists, and that it goes as the dispatcher does. No program in sight.
-/
import Derived.Test.YteajafkmnhikoaaDspQ
set_option linter.unusedVariables false
set_option linter.unusedSimpArgs false
namespace Go.Dsp
open Go Go.SL

/-! ### What the reference does -/
def rkeep (L : List RSent) (o : Ord) : RSent := L.foldl (fun s e => if decide (ordL e.O = ordL o) = true then e else s) ⟨o, -1⟩
def rputP (s : RSent) (a : List RSent × Bool) (e : RSent) : Bool := !a.2 && decide (s.O.Cluster ≤ e.O.Cluster)
def rputStep (s : RSent) (a : List RSent × Bool) (e : RSent) : List RSent × Bool :=
  ((if rputP s a e = true then a.1 ++ [s] else a.1) ++ (if e.O.Cluster ≠ s.O.Cluster then [e] else []), a.2 || rputP s a e)
def rputF (l : List RSent) (s : RSent) : List RSent := if (l.foldl (rputStep s) ([], false)).2 = true then (l.foldl (rputStep s) ([], false)).1 else (l.foldl (rputStep s) ([], false)).1 ++ [s]
def rsetF (L : List RSent) (os : List Ord) : List RSent := os.foldl (fun l o => rputF l (rkeep L o)) []
def up (x : Int) : Int := if 0 ≤ x then x + 1 else x
def rtickT1 (t : RTold) : RTold := { t with Since := up t.Since }
def rdue (span x : Int) : Bool := decide (x < 0) || decide (span ≤ x)
def rtick1 (span : Int) (s : RSent) : RSent := if rdue span (up s.Since) = true then { s with Since := 0 } else { s with Since := up s.Since }
def rtickO (span : Int) (L : List RSent) : List Ord := (L.filter fun s => rdue span (up s.Since)).map (·.O)
def rAtK (T : List RTold) (c : Int) : Nat → Int
  | 0 => -1
  | k + 1 => if (T.getD k default).Cluster = c then (k : Int) else rAtK T c k
def rhB (span : Int) (r : Rep_) (t : RTold) (e : RSent) : Bool := decide (e.O.Cluster = r.Cluster) && decide (e.O.ID = r.Done) && (decide (t.Since < 0) || decide (t.Done ≠ r.Done) || decide (span ≤ t.Since))
def rhStep (span : Int) (r : Rep_) (a : RTold × List Op1) (e : RSent) : RTold × List Op1 := if rhB span r a.1 e = true then ({ a.1 with Done := r.Done, Since := 0 }, a.2 ++ [opD r]) else a
def rT1 (T : List RTold) (c : Int) : List RTold := if rAtK T c T.length < 0 then T ++ [⟨c, 0, 0, -1⟩] else T
def rA1 (T : List RTold) (c : Int) : Nat := if rAtK T c T.length < 0 then T.length else (rAtK T c T.length).toNat
def rh1 (span : Int) (L : List RSent) (T : List RTold) (r : Rep_) : RTold × List Op1 := L.foldl (rhStep span r) ((rT1 T r.Cluster).getD (rA1 T r.Cluster) default, [])
def rhNew (t : RTold) (r : Rep_) : Bool := decide (t.Number < r.Number)
def rhearF (span : Int) (L : List RSent) (T : List RTold) (r : Rep_) : List RTold × List Op1 :=
  ((rT1 T r.Cluster).set (rA1 T r.Cluster) (if rhNew (rh1 span L T r).1 r = true then { (rh1 span L T r).1 with Number := r.Number } else (rh1 span L T r).1),
   (rh1 span L T r).2 ++ (if rhNew (rh1 span L T r).1 r = true then [opH r] else []))

/-! ### The relation -/
def sinceF (now : Int) (s : Sent) : Int := if s.at_ < 0 then -1 else now - s.at_
def rsF (now : Int) (s : Sent) : RSent := ⟨s.Order, sinceF now s⟩
def relL (now : Int) (out : OM) : List RSent := (sortI (mkeys out)).map fun c => rsF now (mgetD out c zSent)
def rtF (now : Int) (c : Int) (t : Told) : RTold := ⟨c, t.number, t.done, if t.any = true then now - t.at_ else -1⟩
def relT (now : Int) (told : TM) : List RTold := told.map fun p => rtF now p.1 p.2
structure OutK (out : OM) : Prop where
  nd : (mkeys out).Nodup
  key : ∀ p ∈ out, p.2.Order.Cluster = p.1
theorem OutK.at_ {out : OM} (h : OutK out) {k : Int} (hk : k ∈ mkeys out) : (mgetD out k zSent).Order.Cluster = k := by
  cases hg : mget out k with
  | none => exact absurd hk (mget_none.1 hg)
  | some v => unfold mgetD; rw [hg]; exact h.key _ (mget_some hg)
theorem getD_set {V : Type} (m : List (Int × V)) (k : Int) (v : V) (k' : Int) (z : V) : mgetD (mset m k v) k' z = if k = k' then v else mgetD m k' z := by
  unfold mgetD
  rw [mget_set]
  split <;> rfl
theorem keep_cl (old : OM) (o : Ord) : (keepF old o).Order.Cluster = o.Cluster := by
  unfold keepF
  split
  · rename_i h
    unfold keepB at h
    simp only [Bool.and_eq_true, decide_eq_true_eq] at h
    have := ordL_eq.1 h.2
    rw [this]
  · rfl
theorem outK_step {old acc : OM} (h : OutK acc) (o : Ord) : OutK (setStep old acc o) :=
  ⟨mset_nodup h.nd _ _, set_ok (Q := fun p : Int × Sent => p.2.Order.Cluster = p.1) h.key (keep_cl old o)⟩
theorem outK_nil : OutK [] := ⟨List.nodup_nil, fun p hp => by cases hp⟩
/-! sorted keys -/
theorem sortI_nodup {l : List Int} (h : l.Nodup) : (sortI l).Nodup := (sortI_perm l).nodup_iff.2 h
theorem sortI_lt {l : List Int} (h : l.Nodup) : (sortI l).Pairwise (· < ·) :=
  ((sortI_le l).and (sortI_nodup h)).imp fun ⟨h1, h2⟩ => by omega
theorem sortI_insert {l l' : List Int} (c : Int) (h : l.Nodup) (h' : l'.Nodup) (hm : ∀ k, k ∈ l' ↔ k = c ∨ k ∈ l) : sortI l' = (sortI l).filter (fun k => decide (k < c)) ++ (c :: (sortI l).filter (fun k => decide (c < k))) := by
  have hs := sortI_lt h
  have hp : ((sortI l).filter (fun k => decide (k < c)) ++ (c :: (sortI l).filter (fun k => decide (c < k)))).Pairwise (· < ·) := by
    rw [List.pairwise_append]
    refine ⟨hs.filter _, List.pairwise_cons.2 ⟨fun k hk => by simpa using (List.mem_filter.1 hk).2, hs.filter _⟩, fun a ha b hb => ?_⟩
    have h1 : a < c := by simpa using (List.mem_filter.1 ha).2
    rcases List.mem_cons.1 hb with rfl | hb
    · exact h1
    · have h2 : c < b := by simpa using (List.mem_filter.1 hb).2
      omega
  refine sortI_eq ((List.perm_ext_iff_of_nodup h' (hp.imp fun h => by omega)).2 fun k => ?_) (hp.imp fun h => by omega)
  rw [hm]
  simp only [List.mem_append, List.mem_cons, List.mem_filter, decide_eq_true_eq, sortI_mem]
  constructor
  · rintro (rfl | hk)
    · exact .inr (.inl rfl)
    · rcases Int.lt_trichotomy k c with q | q | q
      · exact .inl ⟨hk, q⟩
      · exact .inr (.inl q)
      · exact .inr (.inr ⟨hk, q⟩)
  · rintro (⟨hk, _⟩ | rfl | ⟨hk, _⟩)
    · exact .inr hk
    · exact .inl rfl
    · exact .inr hk
/-! Set -/
theorem rput_true (s : RSent) : ∀ (l acc : List RSent), l.foldl (rputStep s) (acc, true) = (acc ++ l.filter (fun e => decide (e.O.Cluster ≠ s.O.Cluster)), true)
  | [], acc => by simp
  | e :: l, acc => by
    have h1 : rputStep s (acc, true) e = (acc ++ (if e.O.Cluster ≠ s.O.Cluster then [e] else []), true) := by simp [rputStep, rputP]
    rw [List.foldl_cons, h1, rput_true s l]
    by_cases h : e.O.Cluster = s.O.Cluster <;> simp [h]
theorem rput_spec (s : RSent) : ∀ (l acc : List RSent), l.Pairwise (fun a b => a.O.Cluster < b.O.Cluster) →
    (if (l.foldl (rputStep s) (acc, false)).2 = true then (l.foldl (rputStep s) (acc, false)).1 else (l.foldl (rputStep s) (acc, false)).1 ++ [s]) = acc ++ (l.filter (fun e => decide (e.O.Cluster < s.O.Cluster)) ++ (s :: l.filter (fun e => decide (s.O.Cluster < e.O.Cluster))))
  | [], acc, _ => by simp
  | e :: l, acc, h => by
    obtain ⟨h1, h2⟩ := List.pairwise_cons.1 h
    rw [List.foldl_cons]
    by_cases hc : s.O.Cluster ≤ e.O.Cluster
    · have hst : rputStep s (acc, false) e = (acc ++ [s] ++ (if e.O.Cluster ≠ s.O.Cluster then [e] else []), true) := by simp [rputStep, rputP, hc]
      rw [hst, rput_true]
      have hf1 : l.filter (fun e => decide (e.O.Cluster ≠ s.O.Cluster)) = l := List.filter_eq_self.2 fun x hx => by have := h1 x hx; simp; omega
      have hf2 : l.filter (fun e => decide (s.O.Cluster < e.O.Cluster)) = l := List.filter_eq_self.2 fun x hx => by have := h1 x hx; simp; omega
      have hf3 : l.filter (fun e => decide (e.O.Cluster < s.O.Cluster)) = [] := List.filter_eq_nil_iff.2 fun x hx => by have := h1 x hx; simp; omega
      rw [if_pos rfl, hf1]
      by_cases he : e.O.Cluster = s.O.Cluster
      · simp [he, hf2, hf3]
      · have : s.O.Cluster < e.O.Cluster := by omega
        have h3 : ¬ e.O.Cluster < s.O.Cluster := by omega
        simp [he, hf2, hf3, this, h3]
    · have hst : rputStep s (acc, false) e = (acc ++ [e], false) := by
        have : e.O.Cluster ≠ s.O.Cluster := by omega
        simp [rputStep, rputP, hc, this]
      rw [hst, rput_spec s l (acc ++ [e]) h2]
      have h3 : e.O.Cluster < s.O.Cluster := by omega
      have h4 : ¬ s.O.Cluster < e.O.Cluster := by omega
      simp [h3, h4]
theorem relL_sorted {now : Int} {out : OM} (h : OutK out) : (relL now out).Pairwise (fun a b => a.O.Cluster < b.O.Cluster) := by
  unfold relL
  rw [List.pairwise_map]
  refine (sortI_lt h.nd).imp_of_mem fun {a b} ha hb hab => ?_
  show (mgetD out a zSent).Order.Cluster < (mgetD out b zSent).Order.Cluster
  rw [h.at_ (sortI_mem.1 ha), h.at_ (sortI_mem.1 hb)]; exact hab
theorem rel_put {now : Int} {acc : OM} (h : OutK acc) {c : Int} {v : Sent} (hv : v.Order.Cluster = c) : rputF (relL now acc) (rsF now v) = relL now (mset acc c v) := by
  unfold rputF
  rw [rput_spec _ _ _ (relL_sorted h), List.nil_append]
  have hk : sortI (mkeys (mset acc c v)) = _ := sortI_insert (l := mkeys acc) c h.nd (mset_nodup h.nd c v) fun k => by
    rw [mkeys_set]
    split
    · rename_i hc
      constructor
      · exact .inr
      · rintro (rfl | hk)
        · exact hc
        · exact hk
    · simp [or_comm]
  have hL : relL now (mset acc c v) = (sortI (mkeys (mset acc c v))).map fun k => rsF now (mgetD (mset acc c v) k zSent) := rfl
  rw [hL, hk, List.map_append, List.map_cons]
  have e1 : ∀ (p : Int → Bool) (hp : ∀ k, p k = true → k ≠ c), (relL now acc).filter (fun e => p e.O.Cluster) = ((sortI (mkeys acc)).filter p).map fun k => rsF now (mgetD (mset acc c v) k zSent) := fun p hp => by
    unfold relL
    rw [List.filter_map]
    have : (sortI (mkeys acc)).filter ((fun e : RSent => p e.O.Cluster) ∘ fun k => rsF now (mgetD acc k zSent)) = (sortI (mkeys acc)).filter p := List.filter_congr fun k hk => by
      show p (mgetD acc k zSent).Order.Cluster = p k
      rw [h.at_ (sortI_mem.1 hk)]
    rw [this]
    refine List.map_congr_left fun k hk => ?_
    rw [getD_set, if_neg (Ne.symm (hp k (List.mem_filter.1 hk).2))]
  have hcl : (rsF now v).O.Cluster = c := hv
  rw [hcl, e1 (fun k => decide (k < c)) (fun k hk => by simp at hk; omega), e1 (fun k => decide (c < k)) (fun k hk => by simp at hk; omega), getD_set, if_pos rfl]
theorem fold_keep {α : Type} (p : α → Bool) (e0 : α) : ∀ (l : List α) (d : α), (∀ e ∈ l, p e = true → e = e0) → l.foldl (fun s e => if p e = true then e else s) d = if l.any p = true then e0 else d
  | [], d, _ => by simp
  | e :: l, d, h => by
    rw [List.foldl_cons, fold_keep p e0 l _ fun x hx => h x (List.mem_cons_of_mem _ hx)]
    by_cases hp : p e = true
    · rw [if_pos hp, show (e :: l).any p = true by simp [hp], if_pos rfl]
      split
      · rfl
      · exact h e List.mem_cons_self hp
    · simp [hp]
theorem rel_keep {now : Int} {old : OM} (h : OutK old) (o : Ord) : rkeep (relL now old) o = rsF now (keepF old o) := by
  unfold rkeep
  rw [fold_keep (fun e : RSent => decide (ordL e.O = ordL o)) (rsF now (mgetD old o.Cluster zSent)) (relL now old) ⟨o, -1⟩ (fun e he hp => by
    obtain ⟨k, hk, rfl⟩ := List.mem_map.1 he
    simp only [decide_eq_true_eq] at hp
    have ho : (mgetD old k zSent).Order = o := ordL_eq.1 hp
    have hc := h.at_ (sortI_mem.1 hk)
    rw [ho] at hc
    rw [hc])]
  have hany : (relL now old).any (fun e : RSent => decide (ordL e.O = ordL o)) = keepB old o := by
    rw [Bool.eq_iff_iff, List.any_eq_true]
    unfold keepB
    simp only [Bool.and_eq_true, decide_eq_true_eq]
    constructor
    · rintro ⟨e, he, hp⟩
      obtain ⟨k, hk, rfl⟩ := List.mem_map.1 he
      have ho : (mgetD old k zSent).Order = o := ordL_eq.1 hp
      have hc := h.at_ (sortI_mem.1 hk)
      rw [ho] at hc
      subst hc
      exact ⟨mhas_iff.2 (sortI_mem.1 hk), hp⟩
    · rintro ⟨h1, h2⟩
      exact ⟨_, List.mem_map.2 ⟨o.Cluster, sortI_mem.2 (mhas_iff.1 h1), rfl⟩, h2⟩
  rw [hany]
  unfold keepF
  split
  · rfl
  · simp [rsF, sinceF]
theorem rel_set {now : Int} {old : OM} (h : OutK old) (os : List Ord) : rsetF (relL now old) os = relL now (setF old os) ∧ OutK (setF old os) := by
  have key : ∀ (l : List Ord) (acc : OM), OutK acc → l.foldl (fun l o => rputF l (rkeep (relL now old) o)) (relL now acc) = relL now (l.foldl (setStep old) acc) ∧ OutK (l.foldl (setStep old) acc) := by
    intro l
    induction l with
    | nil => intro acc ha; exact ⟨rfl, ha⟩
    | cons o l ih =>
      intro acc ha
      simp only [List.foldl_cons]
      rw [rel_keep h, rel_put ha (keep_cl old o)]
      exact ih _ (outK_step ha o)
  have h0 : relL now [] = [] := by unfold relL; rw [show mkeys ([] : OM) = [] from rfl, sortI_nil]; rfl
  have := key os [] outK_nil
  rw [h0] at this
  exact this
/-! Tick -/
theorem tick_fold (now span : Int) : ∀ (l : List Int), l.Nodup → ∀ (m : OM) (acc : List Ord), (l.foldl (tickStep now span) (m, acc)).2 = acc ++ (l.filter fun c => dueB now span (mgetD m c zSent)).map (fun c => (mgetD m c zSent).Order) ∧
    ∀ k, mgetD (l.foldl (tickStep now span) (m, acc)).1 k zSent = if k ∈ l ∧ dueB now span (mgetD m k zSent) = true then { mgetD m k zSent with at_ := now } else mgetD m k zSent
  | [], _, m, acc => ⟨by simp, fun k => by simp⟩
  | c :: l, hn, m, acc => by
    obtain ⟨h1, h2⟩ := List.nodup_cons.1 hn
    rw [List.foldl_cons]
    by_cases hd : dueB now span (mgetD m c zSent) = true
    · have hst : tickStep now span (m, acc) c = (mset m c { mgetD m c zSent with at_ := now }, acc ++ [(mgetD m c zSent).Order]) := if_pos hd
      rw [hst]
      obtain ⟨r1, r2⟩ := tick_fold now span l h2 (mset m c { mgetD m c zSent with at_ := now }) (acc ++ [(mgetD m c zSent).Order])
      have hg : ∀ k ∈ l, mgetD (mset m c { mgetD m c zSent with at_ := now }) k zSent = mgetD m k zSent := fun k hk => by
        rw [getD_set, if_neg (fun e : c = k => h1 (by rw [e]; exact hk))]
      refine ⟨?_, fun k => ?_⟩
      · rw [r1, List.filter_cons, if_pos (by exact hd), List.map_cons, List.append_assoc, List.singleton_append]
        congr 2
        rw [List.filter_congr fun k hk => by rw [hg k hk]]
        exact List.map_congr_left fun k hk => by rw [hg k (List.mem_filter.1 hk).1]
      · rw [r2 k]
        by_cases hkc : c = k
        · subst hkc
          rw [if_neg (fun h => h1 h.1), getD_set, if_pos rfl, if_pos ⟨List.mem_cons_self, hd⟩]
        · rw [getD_set, if_neg hkc]
          have : (k ∈ c :: l) ↔ k ∈ l := by simp [Ne.symm hkc]
          simp only [this]
    · have hst : tickStep now span (m, acc) c = (m, acc) := if_neg hd
      rw [hst]
      obtain ⟨r1, r2⟩ := tick_fold now span l h2 m acc
      refine ⟨by rw [r1, List.filter_cons, if_neg (by exact hd)], fun k => ?_⟩
      rw [r2 k]
      by_cases hkc : k = c
      · subst hkc; simp [h1, hd]
      · simp [hkc]
theorem due_rel {now span : Int} {s : Sent} (h1 : -1 ≤ s.at_) (h2 : s.at_ ≤ now) : rdue span (up (sinceF now s)) = dueB (now + 1) span s := by
  unfold rdue dueB sinceF up
  by_cases h : s.at_ < 0
  · simp [h]
  · have h3 : 0 ≤ now - s.at_ := by omega
    have h4 : ¬ now - s.at_ + 1 < 0 := by omega
    simp only [h, if_false, h3, if_true, h4, decide_false, Bool.false_or]
    rw [decide_eq_decide]; omega
theorem rel_tick {now span : Int} {out : OM} (h : OutK out) (hok : OutOk now out) (h0 : 0 ≤ now) :
    (tickF (now + 1) span out).2 = rtickO span (relL now out) ∧ relL (now + 1) (tickF (now + 1) span out).1 = (relL now out).map (rtick1 span) ∧ OutK (tickF (now + 1) span out).1 := by
  have hn := sortI_nodup h.nd
  obtain ⟨r1, r2⟩ := tick_fold (now + 1) span (sortI (mkeys out)) hn out []
  have hkeys : mkeys (tickF (now + 1) span out).1 = mkeys out := (tick_inv (span := span) hok.up (by omega) (sortI (mkeys out)) (fun c hc => sortI_mem.1 hc)).1
  have hat : ∀ k, -1 ≤ (mgetD out k zSent).at_ ∧ (mgetD out k zSent).at_ ≤ now := fun k => hok.at_ h0 k
  refine ⟨?_, ?_, ?_⟩
  · unfold tickF
    rw [r1, List.nil_append]
    unfold rtickO relL
    rw [List.filter_map, List.map_map]
    rw [List.filter_congr fun k hk => show dueB (now + 1) span (mgetD out k zSent) = ((fun s : RSent => rdue span (up s.Since)) ∘ fun c => rsF now (mgetD out c zSent)) k from (due_rel (hat k).1 (hat k).2).symm]
    rfl
  · have e : relL (now + 1) (tickF (now + 1) span out).1 = (sortI (mkeys (tickF (now + 1) span out).1)).map fun c => rsF (now + 1) (mgetD (tickF (now + 1) span out).1 c zSent) := rfl
    rw [e, hkeys]
    unfold relL
    rw [List.map_map]
    refine List.map_congr_left fun k hk => ?_
    have hg : mgetD (tickF (now + 1) span out).1 k zSent = _ := r2 k
    rw [hg]
    obtain ⟨a1, a2⟩ := hat k
    have hd := due_rel (span := span) a1 a2
    show _ = rtick1 span (rsF now (mgetD out k zSent))
    unfold rtick1
    rw [show (rsF now (mgetD out k zSent)).Since = sinceF now (mgetD out k zSent) from rfl, hd]
    by_cases hdue : dueB (now + 1) span (mgetD out k zSent) = true
    · rw [if_pos ⟨hk, hdue⟩, if_pos hdue]
      unfold rsF sinceF
      have : ¬ now + 1 < 0 := by omega
      simp [this]
    · rw [if_neg (fun q => hdue q.2), if_neg hdue]
      have hge : ¬ (mgetD out k zSent).at_ < 0 := fun q => hdue (by simp [dueB, q])
      unfold rsF sinceF up
      have h3 : 0 ≤ now - (mgetD out k zSent).at_ := by omega
      simp only [hge, if_false, h3, if_true]
      congr 1
      omega
  · refine ⟨by rw [hkeys]; exact h.nd, fun p hp => ?_⟩
    have hk : p.1 ∈ mkeys out := by rw [← hkeys]; exact List.mem_map.2 ⟨p, hp, rfl⟩
    have hnd : (mkeys (tickF (now + 1) span out).1).Nodup := by rw [hkeys]; exact h.nd
    have hg : mgetD (tickF (now + 1) span out).1 p.1 zSent = p.2 := by unfold mgetD; rw [mget_of_mem hnd hp]; rfl
    have hg2 : mgetD (tickF (now + 1) span out).1 p.1 zSent = _ := r2 p.1
    rw [hg] at hg2
    rw [hg2]
    split
    · exact h.at_ hk
    · exact h.at_ hk
theorem rel_tickT {now : Int} {told : TM} (h : ToldOk now told) : (relT now told).map rtickT1 = relT (now + 1) told := by
  unfold relT
  rw [List.map_map]
  refine List.map_congr_left fun p hp => ?_
  have := (h.1 p hp).2
  show rtickT1 (rtF now p.1 p.2) = rtF (now + 1) p.1 p.2
  unfold rtickT1 rtF up
  cases p.2.any with
  | true =>
    have h3 : 0 ≤ now - p.2.at_ := by omega
    simp only [if_true, h3]
    congr 1
    omega
  | false => simp
/-! Hear -/
theorem rAt_spec (now : Int) : ∀ (told : TM) (c : Int) (k : Nat), k ≤ told.length → (mkeys told).Nodup → ((rAtK (relT now told) c k = -1 ∧ ∀ j, j < k → (told.getD j default).1 ≠ c) ∨ ∃ j, j < k ∧ rAtK (relT now told) c k = (j : Int) ∧ (told.getD j default).1 = c)
  | told, c, 0, _, _ => .inl ⟨rfl, fun j hj => by omega⟩
  | told, c, k + 1, hk, hn => by
    have hg : ((relT now told).getD k default).Cluster = (told.getD k default).1 := by
      unfold relT
      have : k < told.length := by omega
      simp [List.getD, this, rtF]
    unfold rAtK
    by_cases h : (told.getD k default).1 = c
    · rw [hg, if_pos h]; exact .inr ⟨k, by omega, rfl, h⟩
    · rw [hg, if_neg h]
      rcases rAt_spec now told c k (by omega) hn with ⟨h1, h2⟩ | ⟨j, h1, h2, h3⟩
      · refine .inl ⟨h1, fun j hj => ?_⟩
        by_cases e : j = k
        · subst e; exact h
        · exact h2 j (by omega)
      · exact .inr ⟨j, by omega, h2, h3⟩
theorem rh_skip (span : Int) (r : Rep_) : ∀ (l : List RSent) (a : RTold × List Op1), (∀ e ∈ l, e.O.Cluster ≠ r.Cluster) → l.foldl (rhStep span r) a = a
  | [], _, _ => rfl
  | e :: l, a, h => by
    rw [List.foldl_cons]
    have : rhStep span r a e = a := if_neg (by unfold rhB; simp [h e List.mem_cons_self])
    rw [this]
    exact rh_skip span r l a fun x hx => h x (List.mem_cons_of_mem _ hx)
theorem rh_sorted (span : Int) (r : Rep_) : ∀ (l : List RSent) (a : RTold × List Op1), l.Pairwise (fun a b => a.O.Cluster < b.O.Cluster) → l.foldl (rhStep span r) a = match l.find? (fun e => decide (e.O.Cluster = r.Cluster)) with | some e => rhStep span r a e | none => a
  | [], _, _ => rfl
  | e :: l, a, h => by
    obtain ⟨h1, h2⟩ := List.pairwise_cons.1 h
    rw [List.foldl_cons]
    by_cases hc : e.O.Cluster = r.Cluster
    · rw [rh_skip span r l _ fun x hx => by have := h1 x hx; omega]
      simp [List.find?, hc]
    · have : rhStep span r a e = a := if_neg (by unfold rhB; simp [hc])
      rw [this, rh_sorted span r l a h2]
      simp [List.find?, hc]
theorem find_rel {now : Int} {out : OM} (h : OutK out) (c : Int) : (relL now out).find? (fun e => decide (e.O.Cluster = c)) = if mhas out c = true then some (rsF now (mgetD out c zSent)) else none := by
  unfold relL
  rw [List.find?_map]
  by_cases hc : c ∈ mkeys out
  · rw [if_pos (mhas_iff.2 hc)]
    have : (sortI (mkeys out)).find? ((fun e : RSent => decide (e.O.Cluster = c)) ∘ fun k => rsF now (mgetD out k zSent)) = some c := by
      have hf : ∀ l : List Int, (∀ k ∈ l, k ∈ mkeys out) → c ∈ l → l.find? ((fun e : RSent => decide (e.O.Cluster = c)) ∘ fun k => rsF now (mgetD out k zSent)) = some c := by
        intro l
        induction l with
        | nil => intro _ h; cases h
        | cons k l ih =>
          intro hl hm
          have hk : (rsF now (mgetD out k zSent)).O.Cluster = k := h.at_ (hl k List.mem_cons_self)
          by_cases e : k = c
          · subst e; rw [List.find?_cons_of_pos (by simpa using hk)]
          · rw [List.find?_cons_of_neg (by simp only [Function.comp_apply]; rw [hk]; simpa using e)]
            exact ih (fun x hx => hl x (List.mem_cons_of_mem _ hx)) ((List.mem_cons.1 hm).resolve_left (fun q => e q.symm))
      exact hf _ (fun k hk => sortI_mem.1 hk) (sortI_mem.2 hc)
    rw [this]; rfl
  · rw [if_neg (fun q => hc (mhas_iff.1 q))]
    have : (sortI (mkeys out)).find? ((fun e : RSent => decide (e.O.Cluster = c)) ∘ fun k => rsF now (mgetD out k zSent)) = none := List.find?_eq_none.2 fun k hk => by
      have hkk : (rsF now (mgetD out k zSent)).O.Cluster = k := h.at_ (sortI_mem.1 hk)
      simp only [Function.comp_apply, hkk]
      simp only [decide_eq_true_eq]
      exact fun e => hc (e ▸ sortI_mem.1 hk)
    rw [this]; rfl
theorem rh_rel {now span : Int} {out : OM} (h : OutK out) (hok : OutOk now out) (h0 : 0 ≤ now) (c : Int) (t : Told) (r : Rep_) (hc : r.Cluster = c) (ht : 0 ≤ t.at_ ∧ t.at_ ≤ now) :
    (relL now out).foldl (rhStep span r) (rtF now c t, []) = (rtF now c (told1 now (doneB now span out t r) t r), if doneB now span out t r = true then [opD r] else []) := by
  rw [rh_sorted span r _ _ (relL_sorted h), find_rel h]
  subst hc
  by_cases hh : mhas out r.Cluster = true
  · rw [if_pos hh]
    have hcl : (mgetD out r.Cluster zSent).Order.Cluster = r.Cluster := h.at_ (mhas_iff.1 hh)
    have hb : rhB span r (rtF now r.Cluster t) (rsF now (mgetD out r.Cluster zSent)) = doneB now span out t r := by
      unfold rhB doneB
      rw [hh, show (rsF now (mgetD out r.Cluster zSent)).O.Cluster = r.Cluster from hcl]
      simp only [decide_true, Bool.true_and]
      congr 1
      show (decide ((if t.any = true then now - t.at_ else -1) < 0) || decide (t.done ≠ r.Done) || decide (span ≤ (if t.any = true then now - t.at_ else -1))) = _
      cases t.any with
      | true =>
        have : ¬ now - t.at_ < 0 := by omega
        simp [this]
      | false => simp
    show rhStep span r (rtF now r.Cluster t, []) (rsF now (mgetD out r.Cluster zSent)) = _
    unfold rhStep
    simp only [hb]
    cases doneB now span out t r with
    | true => simp [told1, rtF]
    | false => simp [told1]
  · rw [if_neg hh]
    have hb : doneB now span out t r = false := by unfold doneB; simp [hh]
    rw [hb]; simp [told1]
theorem rel_hear {now span : Int} {out : OM} {told : TM} (h : OutK out) (hok : OutOk now out) (htk : ToldOk now told) (hnd : (mkeys told).Nodup) (h0 : 0 ≤ now) (ops : List Op1) (r : Rep_) :
    (rhearF span (relL now out) (relT now told) r).1 = relT now (hearStep now span out (told, ops) r).1 ∧ ops ++ (rhearF span (relL now out) (relT now told) r).2 = (hearStep now span out (told, ops) r).2 ∧ (mkeys (hearStep now span out (told, ops) r).1).Nodup ∧ (rA1 (relT now told) r.Cluster < (rT1 (relT now told) r.Cluster).length) := by
  have hlen : (relT now told).length = told.length := by simp [relT]
  have hat := htk.at_ h0 r.Cluster
  have hnew : ∀ t : Told, rhNew (rtF now r.Cluster (told1 now (doneB now span out t r) t r)) r = newB t r := fun t => by
    unfold rhNew newB told1
    split <;> rfl
  have fin : ∀ t : Told, 0 ≤ t.at_ ∧ t.at_ ≤ now → mgetD told r.Cluster zTold = t → (rT1 (relT now told) r.Cluster).getD (rA1 (relT now told) r.Cluster) default = rtF now r.Cluster t →
      rh1 span (relL now out) (relT now told) r = (rtF now r.Cluster (told1 now (doneB now span out t r) t r), if doneB now span out t r = true then [opD r] else []) := fun t h1 h2 h3 => by
    unfold rh1
    rw [h3]
    exact rh_rel h hok h0 r.Cluster t r rfl h1
  have val : ∀ t : Told, (if newB t r = true then { rtF now r.Cluster (told1 now (doneB now span out t r) t r) with Number := r.Number } else rtF now r.Cluster (told1 now (doneB now span out t r) t r)) = rtF now r.Cluster (told2 (newB t r) (told1 now (doneB now span out t r) t r) r) := fun t => by
    unfold told2
    cases newB t r <;> rfl
  have hT : rhearF span (relL now out) (relT now told) r = ((rT1 (relT now told) r.Cluster).set (rA1 (relT now told) r.Cluster) (if rhNew (rh1 span (relL now out) (relT now told) r).1 r = true then { (rh1 span (relL now out) (relT now told) r).1 with Number := r.Number } else (rh1 span (relL now out) (relT now told) r).1), (rh1 span (relL now out) (relT now told) r).2 ++ (if rhNew (rh1 span (relL now out) (relT now told) r).1 r = true then [opH r] else [])) := rfl
  have hS : hearStep now span out (told, ops) r = (mset told r.Cluster (told2 (newB (mgetD told r.Cluster zTold) r) (told1 now (doneB now span out (mgetD told r.Cluster zTold) r) (mgetD told r.Cluster zTold) r) r), ops ++ (if doneB now span out (mgetD told r.Cluster zTold) r = true then [opD r] else []) ++ (if newB (mgetD told r.Cluster zTold) r = true then [opH r] else [])) := rfl
  rcases rAt_spec now told r.Cluster told.length (Nat.le_refl _) hnd with ⟨h1, h2⟩ | ⟨j, h1, h2, h3⟩
  · -- a cluster that was not told of yet
    have hnk : r.Cluster ∉ mkeys told := fun hm => by
      obtain ⟨p, hp, e⟩ := List.mem_map.1 hm
      obtain ⟨i, hi, rfl⟩ := List.getElem_of_mem hp
      exact h2 i hi (by simpa [List.getD, hi] using e)
    have hz : mgetD told r.Cluster zTold = zTold := by unfold mgetD; rw [mget_none.2 hnk]; rfl
    have hneg : rAtK (relT now told) r.Cluster (relT now told).length < 0 := by rw [hlen, h1]; decide
    have hT1 : rT1 (relT now told) r.Cluster = relT now told ++ [rtF now r.Cluster zTold] := if_pos hneg
    have hA1 : rA1 (relT now told) r.Cluster = (relT now told).length := if_pos hneg
    have hg : (rT1 (relT now told) r.Cluster).getD (rA1 (relT now told) r.Cluster) default = rtF now r.Cluster zTold := by rw [hT1, hA1]; simp [List.getD]
    have hr := fin zTold ⟨by decide, h0⟩ hz hg
    rw [hT, hS, hz]
    refine ⟨?_, ?_, mset_nodup hnd _ _, by rw [hT1, hA1]; simp⟩
    · show List.set _ _ _ = _
      rw [hr]
      simp only []
      rw [hnew, val, hT1, hA1, mset_new told _ _ hnk]
      unfold relT
      rw [List.map_append, List.set_append_right _ _ (Nat.le_refl _), Nat.sub_self]
      rfl
    · show ops ++ (_ ++ _) = _
      rw [hr]
      simp only []
      rw [hnew, List.append_assoc]
  · have hj : told[j]? = some (r.Cluster, (told.getD j default).2) := by
      rw [← h3]; simp [List.getD, h1]
    have hz : mgetD told r.Cluster zTold = (told.getD j default).2 := by unfold mgetD; rw [mget_of_mem hnd (List.mem_of_getElem? hj)]; rfl
    have hneg : ¬ rAtK (relT now told) r.Cluster (relT now told).length < 0 := by rw [hlen, h2]; omega
    have hT1 : rT1 (relT now told) r.Cluster = relT now told := if_neg hneg
    have hA1 : rA1 (relT now told) r.Cluster = j := by unfold rA1; rw [if_neg hneg, hlen, h2]; rfl
    have hg : (rT1 (relT now told) r.Cluster).getD (rA1 (relT now told) r.Cluster) default = rtF now r.Cluster (told.getD j default).2 := by
      rw [hT1, hA1]
      unfold relT
      rw [← h3]
      simp [List.getD, h1]
    have hr := fin _ (by rw [← hz]; exact hat) hz hg
    rw [hT, hS, hz]
    refine ⟨?_, ?_, mset_nodup hnd _ _, by rw [hT1, hA1, hlen]; exact h1⟩
    · show List.set _ _ _ = _
      rw [hr]
      simp only []
      rw [hnew, val, hT1, hA1, mset_at told j _ _ _ hnd hj]
      unfold relT
      rw [List.map_set]
    · show ops ++ (_ ++ _) = _
      rw [hr]
      simp only []
      rw [hnew, List.append_assoc]
end Go.Dsp
