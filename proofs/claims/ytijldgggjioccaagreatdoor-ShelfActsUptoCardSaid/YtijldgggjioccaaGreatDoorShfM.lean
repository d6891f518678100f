/- part -/
import Derived.Test.YtijldgggjioccaaGreatDoorShfK
set_option linter.unusedVariables false
set_option linter.unusedSimpArgs false
namespace Go.Shf
open Go Go.SL Go.Mou Go.Dsk Go.Sm Go.Hrd
structure SI (V : FV) (K : List PSnap) : Prop where
  ok : VOk V
  kn : ∀ f ∈ mkeys V, f = aside ∨ ∃ x ∈ K, f = nameX x.ix.toNat
  at_ : ∀ x ∈ K, mget V (nameX x.ix.toNat) = some (snB x, ((snB x).length : Int))
  gd : ∀ x ∈ K, XOk x
  so : K.Pairwise (fun a b => a.ix < b.ix)
  as_ : (mgetD V aside zF).1.length ≤ 1100
theorem XOk.idx {x : PSnap} (h : XOk x) : x.ix.toNat < 100 ∧ ((x.ix.toNat : Nat) : Int) = x.ix := by
  have h1 := h.i1; have h2 := h.i2; omega
theorem si_nil : SI [] [] := ⟨vok_nil, fun f hf => by (cases hf), fun x hx => by (cases hx), fun x hx => by (cases hx), List.Pairwise.nil, Nat.zero_le _⟩
theorem nodup_len : ∀ {l m : List Nm}, l.Nodup → (∀ x ∈ l, x ∈ m) → l.length ≤ m.length
  | [], m, _, _ => Nat.zero_le _
  | a :: l, m, hn, hs => by
    have ha := hs a (by simp)
    have h1 := nodup_len (l := l) (m := m.erase a) (List.nodup_cons.1 hn).2 (fun x hx => by
      have hne : x ≠ a := fun e => (List.nodup_cons.1 hn).1 (e ▸ hx); exact (List.mem_erase_of_ne hne).2 (hs x (by simp [hx])))
    have h2 := List.length_erase_of_mem ha; have h3 : 0 < m.length := List.length_pos_of_mem ha; simp only [List.length_cons]; omega
theorem used_le : ∀ (V : FV), (∀ p ∈ V, p.2.1.length ≤ 1100) → usedV V ≤ 1100 * V.length
  | [], _ => Nat.zero_le _
  | p :: V, h => by
    have h1 := h p (by simp); have h2 := used_le V (fun q hq => h q (by simp [hq])); simp only [usedV, List.map_cons, List.sum_cons, List.length_cons] at h2 ⊢; omega
section
variable {V : FV} {K : List PSnap} {x : PSnap}
theorem SI.each (h : SI V K) : ∀ p ∈ V, p.2.1.length ≤ 1100 := fun p hp => by
  have e := getD_of (mget_of_mem h.ok.nd (show (p.1, p.2) ∈ V from hp))
  rcases h.kn p.1 (List.mem_map.2 ⟨p, hp, rfl⟩) with q | ⟨y, hy, q⟩
  · have := h.as_; rw [q] at e; rw [e] at this; exact this
  · rw [q, getD_of (h.at_ y hy)] at e; rw [← e]; exact snB_len (h.gd y hy)
theorem SI.len (h : SI V K) : V.length ≤ K.length + 1 := by
  have h1 := nodup_len (m := aside :: K.map fun x => nameX x.ix.toNat) h.ok.nd (fun f hf => by
    rcases h.kn f hf with q | ⟨y, hy, q⟩
    · rw [q]; exact List.mem_cons_self
    · rw [q]; exact List.mem_cons_of_mem _ (List.mem_map.2 ⟨y, hy, rfl⟩))
  simpa [mkeys] using h1
theorem SI.used (h : SI V K) : usedV V ≤ 1100 * (K.length + 1) := Nat.le_trans (used_le V h.each) (Nat.mul_le_mul_left _ h.len)
theorem SI.klen (h : SI V K) : ∀ y ∈ K, y.ix.toNat < 100 ∧ ((y.ix.toNat : Nat) : Int) = y.ix := fun y hy => (h.gd y hy).idx
theorem si_del (h : SI V K) : SI (mdel V aside) K where
  ok := vok_del h.ok aside
  kn := fun f hf => by
    obtain ⟨p, hp, rfl⟩ := List.mem_map.1 hf; exact h.kn p.1 (List.mem_map.2 ⟨p, mem_del hp, rfl⟩)
  at_ := fun y hy => by
    rw [mget_del h.ok.nd, if_neg (fun e => name_aside (h.klen y hy).1 e.symm)]; exact h.at_ y hy
  gd := h.gd
  so := h.so
  as_ := by rw [delD h.ok.nd, if_pos rfl]; exact Nat.zero_le _
theorem si_set (h : SI V K) {b : List UInt8} {s : Int} (hb : b.length ≤ 1100) (hs : 0 ≤ s ∧ s ≤ (b.length : Int)) (hK : K.length ≤ 60) : SI (mset V aside (b, s)) K where
  ok := by
    have h1 := h.used; have h2 := h.len; have h3 := get_set V aside (b, s); have e : ((b, s) : List UInt8 × Int).1 = b := rfl; rw [e] at h3; exact vok_set h.ok (by decide) (.inr (by omega)) hs (by omega)
  kn := fun f hf => by
    rw [mkeys_set] at hf
    split at hf
    · exact h.kn f hf
    · rcases List.mem_append.1 hf with hf | hf
      · exact h.kn f hf
      · exact .inl (List.mem_singleton.1 hf)
  at_ := fun y hy => by
    rw [mget_set, if_neg (fun e => name_aside (h.klen y hy).1 e.symm)]; exact h.at_ y hy
  gd := h.gd
  so := h.so
  as_ := by rw [setD, if_pos rfl]; exact hb
theorem si_crash (h : SI V K) (keep : List Int) : SI (crR keep V).1 K := by
  obtain ⟨h1, h2, h3⟩ := cr_at h.ok keep; refine ⟨vok_cr h.ok keep, by rw [h1]; exact h.kn, fun y hy => ?_, h.gd, h.so, ?_⟩
  · obtain ⟨⟨m, b1, b2, b3⟩, -⟩ := h3 (nameX y.ix.toNat); rw [getD_of (h.at_ y hy)] at b1 b2 b3; simp only at b1 b2 b3; have hm : m = (snB y).length := by omega
    rw [hm, List.take_length] at b3; have hk : nameX y.ix.toNat ∈ mkeys (crR keep V).1 := by rw [h1]; exact List.mem_map.2 ⟨_, mget_some (h.at_ y hy), rfl⟩
    obtain ⟨p, hp, hq⟩ := List.mem_map.1 hk; have e := mget_of_mem (vok_cr h.ok keep).nd (show (p.1, p.2) ∈ (crR keep V).1 from hp); rw [hq] at e; rw [e, ← getD_of e, b3]
  · obtain ⟨⟨m, b1, b2, b3⟩, -⟩ := h3 aside; rw [b3]; have := h.as_; simp only [List.length_take]; omega
def MO (q : Int × FV × Int) (calls : Int) : Prop := -1 ≤ q.2.2 ∧ (calls ≤ 9223372036854775807 → q.2.2 ≤ 9223372036854775807) ∧ (calls = -1 → q.2.2 = -1 ∧ q.1 = 0)
theorem decC_lo {c : Int} (h : -1 ≤ c) : -1 ≤ decC c := by unfold decC; split <;> omega
theorem rem_aside {calls : Int} (h : SI V K) (hc : -1 ≤ calls) : MO (remS calls V aside) calls ∧ ((remS calls V aside).1 = 0 ∧ SI (remS calls V aside).2.1 K ∧ mhas (remS calls V aside).2.1 aside = false ∨ (remS calls V aside).1 = 32 ∧ SI (remS calls V aside).2.1 K) := by
  cases hm : mhas V aside with
  | false => rw [remS_no hm]; exact ⟨⟨hc, fun q => q, fun q => ⟨q, rfl⟩⟩, .inl ⟨rfl, h, hm⟩⟩
  | true =>
    rw [remS_has hm]
    by_cases c0 : calls = 0
    · subst c0; rw [show remR 0 V [aside] = (32, V) from if_pos rfl]; exact ⟨⟨by show -1 ≤ decC 0; decide, fun _ => by show decC 0 ≤ _; decide, fun q => by cases q⟩, .inr ⟨rfl, h⟩⟩
    · have e : remR calls V [aside] = (0, mdel V aside) := by
        unfold remR; rw [if_neg c0, if_neg (by simp [hm, onceB])]; rfl
      rw [e]; exact ⟨⟨decC_lo hc, fun q => decC_le q, fun q => by rw [q]; exact ⟨rfl, rfl⟩⟩, .inl ⟨rfl, si_del h, del_has h.ok aside⟩⟩
theorem wr_any {room calls : Int} (h : SI V K) (hrm : (usedV V : Int) + ((snB x).length : Int) ≤ room) (hno : mhas V aside = false) (hx : XOk x) (hlt : ∀ y ∈ K, y.ix < x.ix) (hK : K.length ≤ 40) (hc : -1 ≤ calls) :
    MO (wrX room calls V x) calls ∧ ((wrX room calls V x).1 = 0 ∧ SI (wrX room calls V x).2.1 (K ++ [x]) ∨ (wrX room calls V x).1 = 32 ∧ SI (wrX room calls V x).2.1 K) := by
  have hl := snB_len hx; have hu := h.used; have hn := h.len; have hz : mgetD V aside zF = zF := hasD hno
  by_cases c0 : calls = 0
  · subst c0; have ha : appR room 0 V aside (snB x) = (32, V) := if_pos rfl; unfold wrX; rw [ha, if_pos (by show (32 : Int) ≠ 0; decide)]; exact ⟨⟨by show -1 ≤ decC 0; decide, fun _ => by show decC 0 ≤ _; decide, fun q => by cases q⟩, .inr ⟨rfl, h⟩⟩
  · have ha : appR room calls V aside (snB x) = (0, mset V aside (snB x, 0)) := by
      unfold appR; rw [if_neg c0, if_neg (by rw [aside_nameB]; decide), if_neg (by rw [decide_eq_false (show ¬ (((snB x).length : Int) > room - (usedV V : Int)) by omega), decide_eq_false (show ¬ (V.length : Int) ≥ 4096 by omega), Bool.and_false]; decide), hz]; rfl
    have h0 := si_set (s := 0) h hl ⟨Int.le_refl _, by omega⟩ (by omega); unfold wrX; rw [ha, if_neg (fun q => q rfl)]; have hhas : ∀ z : List UInt8 × Int, mhas (mset V aside z) aside = true := fun z => by unfold mhas; rw [mget_set, if_pos rfl]; rfl
    by_cases c1 : calls = 1
    · subst c1; have hy : syncR (decC 1) (mset V aside (snB x, 0)) [aside] = (32, mset V aside (snB x, 0)) := rfl; rw [hy, if_pos (by show (32 : Int) ≠ 0; decide)]; exact ⟨⟨by show -1 ≤ decC (decC 1); decide, fun _ => by show decC (decC 1) ≤ _; decide, fun q => by cases q⟩, .inr ⟨rfl, h0⟩⟩
    · have hy : syncR (decC calls) (mset V aside (snB x, 0)) [aside] = (0, mset V aside (snB x, ((snB x).length : Int))) := by
        unfold syncR; rw [if_neg (by unfold decC; split <;> omega), if_neg (by simp [hhas])]; simp only [List.foldl_cons, List.foldl_nil]; unfold syncStep; rw [setD, if_pos rfl, mset_two]
      rw [hy, if_neg (fun q => q rfl)]; have h1 := si_set (s := ((snB x).length : Int)) h hl ⟨by omega, Int.le_refl _⟩ (by omega); have d1 := decC_lo (decC_lo hc); have d2 := decC_lo d1; have d3 : calls ≤ 9223372036854775807 → decC (decC (decC calls)) ≤ 9223372036854775807 := fun q => decC_le (decC_le (decC_le q)); show MO ((renR (decC (decC calls)) (mset V aside (snB x, ((snB x).length : Int))) aside (nameX x.ix.toNat)).1, (renR (decC (decC calls)) (mset V aside (snB x, ((snB x).length : Int))) aside (nameX x.ix.toNat)).2, decC (decC (decC calls))) calls ∧ _
      by_cases c2 : decC (decC calls) = 0
      · rw [c2] at d2 d3 ⊢; rw [show renR 0 (mset V aside (snB x, ((snB x).length : Int))) aside (nameX x.ix.toNat) = (32, mset V aside (snB x, ((snB x).length : Int))) from if_pos rfl]; exact ⟨⟨d2, d3, fun q => by rw [q] at c2; cases c2⟩, .inr ⟨rfl, h1⟩⟩
      · obtain ⟨i1, i2⟩ := hx.idx
        have e : renR (decC (decC calls)) (mset V aside (snB x, ((snB x).length : Int))) aside (nameX x.ix.toNat) = (0, mset (mdel (mset V aside (snB x, ((snB x).length : Int))) aside) (nameX x.ix.toNat) (snB x, ((snB x).length : Int))) := by
          unfold renR; rw [if_neg c2, if_neg (by rw [hhas, name_nameB i1]; decide), setD, if_pos rfl]
        rw [e]; have h2 := si_del h1
        generalize mdel (mset V aside (snB x, ((snB x).length : Int))) aside = W at h2
        have hne : ∀ y ∈ K, nameX x.ix.toNat ≠ nameX y.ix.toNat := fun y hy q => by
          have h8 := hlt y hy; have h9 := name_inj i1 (h2.klen y hy).1 q; have := (h2.klen y hy).2; omega
        refine ⟨⟨d2, d3, fun q => ⟨by rw [q]; rfl, rfl⟩⟩, .inl ⟨rfl, ?_, fun f hf => ?_, fun y hy => ?_, fun y hy => ?_, ?_, ?_⟩⟩
        · have g1 := h2.used; have g2 := h2.len; have g3 := get_set W (nameX x.ix.toNat) (snB x, ((snB x).length : Int)); have e9 : ((snB x, ((snB x).length : Int)) : List UInt8 × Int).1 = snB x := rfl; rw [e9] at g3; exact vok_set h2.ok (nameB_has h2.ok (name_nameB i1)) (.inr (by omega)) ⟨by omega, Int.le_refl _⟩ (by omega)
        · rw [mkeys_set] at hf
          split at hf
          · rcases h2.kn f hf with q | ⟨y, hy, q⟩
            · exact .inl q
            · exact .inr ⟨y, List.mem_append.2 (.inl hy), q⟩
          · rcases List.mem_append.1 hf with hf | hf
            · rcases h2.kn f hf with q | ⟨y, hy, q⟩
              · exact .inl q
              · exact .inr ⟨y, List.mem_append.2 (.inl hy), q⟩
            · exact .inr ⟨x, by simp, List.mem_singleton.1 hf⟩
        · rw [mget_set]
          rcases List.mem_append.1 hy with hy | hy
          · rw [if_neg (hne y hy)]; exact h2.at_ y hy
          · rw [List.mem_singleton.1 hy, if_pos rfl]
        · rcases List.mem_append.1 hy with hy | hy
          · exact h2.gd y hy
          · rw [List.mem_singleton.1 hy]; exact hx
        · rw [List.pairwise_append]; exact ⟨h2.so, List.pairwise_singleton _ _, fun a ha b hb => by rw [List.mem_singleton.1 hb]; exact hlt a ha⟩
        · rw [setD, if_neg (name_aside i1)]; exact h2.as_
theorem put_any {room calls : Int} {has : Bool} {top : PSnap} (h : SI V K) (hrm : (usedV V : Int) + ((snB x).length : Int) ≤ room) (hx : XOk x) (hlt : ∀ y ∈ K, y.ix < x.ix) (hb : badX has top x = false) (hK : K.length ≤ 40) (hc : -1 ≤ calls) :
    MO (putX room calls V has top x) calls ∧ ((putX room calls V has top x).1 = 0 ∧ SI (putX room calls V has top x).2.1 (K ++ [x]) ∨ (putX room calls V has top x).1 = 32 ∧ SI (putX room calls V has top x).2.1 K) := by
  unfold putX; rw [if_neg (by rw [hb]; decide)]; obtain ⟨⟨m1, m2, m3⟩, h1⟩ := rem_aside h hc
  rcases h1 with ⟨e1, e2, e3⟩ | ⟨e1, e2⟩
  · rw [if_neg (fun q => q e1)]; obtain ⟨⟨n1, n2, n3⟩, h2⟩ := wr_any e2 (show ((usedV (remS calls V aside).2.1 : Nat) : Int) + ((snB x).length : Int) ≤ room from by have h9 := remS_used calls V aside; omega) e3 hx hlt hK m1; exact ⟨⟨n1, fun q => n2 (m2 q), fun q => n3 (m3 q).1⟩, h2⟩
  · rw [if_pos (by rw [e1]; decide)]; exact ⟨⟨m1, m2, m3⟩, .inr ⟨e1, e2⟩⟩
end
end Go.Shf
