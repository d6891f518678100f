/-
  What a keeping comes to. No program in sight.
-/
import Derived.Test.YtehaoafnobnneaaGreatDoorAgnP
set_option linter.unusedVariables false
set_option linter.unusedSimpArgs false
namespace Go.Agn
open Go Go.SL Go.Mou Go.Dsk Go.Sm Go.Hrd
theorem app_good {V : FV} {o : Nm} {b : List UInt8} {room calls : Int} (hn : nameB o = true) (hu : usedV V ≤ 600) (hl : V.length ≤ 2) (hb : b.length ≤ 62) (hr : 1000 ≤ room) (hc : calls ≠ 0) : appR room calls V o b = (0, mset V o ((mgetD V o zF).1 ++ b, (mgetD V o zF).2)) := by
  unfold appR
  rw [if_neg hc, if_neg (by rw [hn]; decide), if_neg (by rw [decide_eq_false (show ¬ ((b.length : Int) > room - (usedV V : Int)) by omega), decide_eq_false (show ¬ (V.length : Int) ≥ 4096 by omega), Bool.and_false]; decide)]
theorem set_has (V : FV) (o : Nm) (x : List UInt8 × Int) : mhas (mset V o x) o = true := by unfold mhas; rw [mget_set, if_pos rfl]; rfl
theorem wr_zero {V : FV} {o : Nm} {b : List UInt8} {room : Int} : wrS room 0 V o b = (32, V, 0) := by
  unfold wrS
  rw [show appR room 0 V o b = (32, V) from if_pos rfl, if_pos (by show (32 : Int) ≠ 0; decide)]; rfl
theorem wr_one {V : FV} {o : Nm} {b : List UInt8} {room : Int} (hn : nameB o = true) (hu : usedV V ≤ 600) (hl : V.length ≤ 2) (hb : b.length ≤ 62) (hr : 1000 ≤ room) : wrS room 1 V o b = (32, mset V o ((mgetD V o zF).1 ++ b, (mgetD V o zF).2), 0) := by
  unfold wrS
  rw [app_good hn hu hl hb hr (by decide), if_neg (fun h => h rfl)]; rfl
theorem wr_more {V : FV} {o : Nm} {b : List UInt8} {room calls : Int} (hn : nameB o = true) (hu : usedV V ≤ 600) (hl : V.length ≤ 2) (hb : b.length ≤ 62) (hr : 1000 ≤ room) (h0 : calls ≠ 0) (h1 : calls ≠ 1) :
    wrS room calls V o b = (0, mset V o ((mgetD V o zF).1 ++ b, (((mgetD V o zF).1 ++ b).length : Int)), decC (decC calls)) := by
  unfold wrS
  rw [app_good hn hu hl hb hr h0, if_neg (fun h => h rfl)]
  have hy : syncR (decC calls) (mset V o ((mgetD V o zF).1 ++ b, (mgetD V o zF).2)) [o] = (0, mset V o ((mgetD V o zF).1 ++ b, (((mgetD V o zF).1 ++ b).length : Int))) := by
    unfold syncR
    rw [if_neg (by unfold decC; split <;> omega), if_neg (by simp [set_has])]
    simp only [List.foldl_cons, List.foldl_nil]
    unfold syncStep
    rw [setD, if_pos rfl, mset_two]
  rw [hy]
def KOut (k k' : Kept1) (calls : Int) (q : Int × FV × Int) : Prop :=
  (-1 ≤ q.2.2 ∧ (calls ≤ 9223372036854775807 → q.2.2 ≤ 9223372036854775807) ∧ (calls = -1 → q.2.2 = -1 ∧ q.1 = 0)) ∧ ((q.1 = 0 ∧ AI q.2.1 k') ∨ (q.1 = 32 ∧ Rdy q.2.1 k k'))
theorem name_A : nameB nA = true := by decide
theorem name_F : nameB nF = true := by decide
theorem decC_ge {c : Int} (h : -1 ≤ c) : -1 ≤ decC c := by unfold decC; split <;> omega
theorem keep_any {V : FV} {k k' : Kept1} {room calls : Int} (h : AI V k) (hk' : KOk k') (hr : 1000 ≤ room) (hc : -1 ≤ calls) : KOut k k' calls (keepS room calls V k') := by
  have hu := h.used
  have hb := rowK_le hk'
  have hR := h.rdy hk'
  obtain ⟨L, h1, h2, h3⟩ := h.rows
  have hX := h.ln
  have hok := h.ok
  have hzF : mgetD V nF zF = zF := hasD h.nof
  have hdd := decC_ge (decC_ge hc)
  have hdl : calls ≤ 9223372036854775807 → decC (decC calls) ≤ 9223372036854775807 := fun q => decC_le (decC_le q)
  have hd1 : calls = -1 → decC (decC calls) = -1 := fun q => by rw [q]; rfl
  unfold keepS
  by_cases hl : (mgetD V nA zF).1.length < 512
  · rw [if_pos hl]
    have knS : ∀ x, ∀ n ∈ mkeys (mset V nA x), n = nA := fun x n hn => by
      rw [mkeys_set] at hn
      split at hn
      · exact h.kn n hn
      · rcases List.mem_append.1 hn with hn | hn
        · exact h.kn n hn
        · exact List.mem_singleton.1 hn
    have okS : ∀ s : Int, 0 ≤ s ∧ s ≤ ((mgetD V nA zF).1 ++ rowK k').length → VOk (mset V nA ((mgetD V nA zF).1 ++ rowK k', s)) := fun s hs => by
      refine vok_set hok (by decide) (.inr (by omega)) hs ?_
      have := get_set V nA ((mgetD V nA zF).1 ++ rowK k', s)
      simp only [List.length_append] at this; omega
    by_cases c0 : calls = 0
    · subst c0
      rw [wr_zero]
      exact ⟨⟨by show (-1 : Int) ≤ 0; decide, fun _ => by show (0 : Int) ≤ _; decide, fun q => by cases q⟩, .inr ⟨rfl, hR⟩⟩
    · by_cases c1 : calls = 1
      · subst c1
        rw [wr_one name_A (by omega) hu.2 hb hr]
        refine ⟨⟨by show (-1 : Int) ≤ 0; decide, fun _ => by show (0 : Int) ≤ _; decide, fun q => by cases q⟩, .inr ⟨rfl, ?_⟩⟩
        rw [h2]
        have hg : mgetD (mset V nA ((mgetD V nA zF).1 ++ rowK k', (mgetD V nA zF).2)) nA zF = ((mgetD V nA zF).1 ++ rowK k', (mgetD V nA zF).2) := by rw [setD, if_pos rfl]
        refine rdy_mk (p := rowK k') (okS _ ⟨by rw [h.sf]; omega, by rw [h.sf, List.length_append]; omega⟩) (fun n hn => .inl (knS _ n hn)) h1 hk' (by rw [hg, h3]) (.inr rfl) (by rw [hg, h.sf, h3]; exact Int.le_refl _) (by rw [hg]; simp only [List.length_append]; omega) ?_
        rw [setD, if_neg nA_nF, hzF]; exact Nat.zero_le _
      · rw [wr_more name_A (by omega) hu.2 hb hr c0 c1]
        have hg : mgetD (mset V nA ((mgetD V nA zF).1 ++ rowK k', (((mgetD V nA zF).1 ++ rowK k').length : Int))) nA zF = ((mgetD V nA zF).1 ++ rowK k', (((mgetD V nA zF).1 ++ rowK k').length : Int)) := by rw [setD, if_pos rfl]
        refine ⟨⟨hdd, hdl, fun q => ⟨hd1 q, rfl⟩⟩, .inl ⟨rfl, okS _ ⟨by omega, Int.le_refl _⟩, knS _, ⟨L ++ [k'], fun r hr => ?_, by rw [lastK_app], by rw [hg, h3]; simp⟩, by rw [hg], by rw [hg]; simp only [List.length_append]; omega⟩⟩
        rcases List.mem_append.1 hr with hr | hr
        · exact h1 r hr
        · rw [List.mem_singleton.1 hr]; exact hk'
  · rw [if_neg hl]
    have knF : ∀ x, ∀ n ∈ mkeys (mset V nF x), n = nA ∨ n = nF := fun x n hn => by
      rw [mkeys_set] at hn
      split at hn
      · exact .inl (h.kn n hn)
      · rcases List.mem_append.1 hn with hn | hn
        · exact .inl (h.kn n hn)
        · exact .inr (List.mem_singleton.1 hn)
    have okF : ∀ s : Int, 0 ≤ s ∧ s ≤ (rowK k').length → VOk (mset V nF (rowK k', s)) := fun s hs => by
      refine vok_set hok (by decide) (.inr (by omega)) hs ?_
      have := get_set V nF (rowK k', s)
      have e9 : ((rowK k', s) : List UInt8 × Int).1 = rowK k' := rfl
      rw [e9] at this; omega
    have rdF : ∀ s : Int, 0 ≤ s ∧ s ≤ (rowK k').length → Rdy (mset V nF (rowK k', s)) k k' := fun s hs => by
      have hg : mgetD (mset V nF (rowK k', s)) nA zF = mgetD V nA zF := by rw [setD, if_neg (fun q => nA_nF q.symm)]
      rw [h2]
      refine rdy_mk (p := []) (okF s hs) (knF _) h1 hk' (by rw [hg, h3, List.append_nil]) (.inl rfl) (by rw [hg, h.sf, h3]; exact Int.le_refl _) (by rw [hg]; exact hX) ?_
      rw [setD, if_pos rfl]; exact hb
    by_cases c0 : calls = 0
    · subst c0
      rw [wr_zero, if_pos (by show (32 : Int) ≠ 0; decide)]
      exact ⟨⟨by show (-1 : Int) ≤ 0; decide, fun _ => by show (0 : Int) ≤ _; decide, fun q => by cases q⟩, .inr ⟨rfl, hR⟩⟩
    · by_cases c1 : calls = 1
      · subst c1
        rw [wr_one name_F (by omega) hu.2 hb hr, if_pos (by show (32 : Int) ≠ 0; decide), hzF]
        exact ⟨⟨by show (-1 : Int) ≤ 0; decide, fun _ => by show (0 : Int) ≤ _; decide, fun q => by cases q⟩, .inr ⟨rfl, rdF 0 ⟨Int.le_refl _, by omega⟩⟩⟩
      · rw [wr_more name_F (by omega) hu.2 hb hr c0 c1, if_neg (fun q => q rfl), hzF]
        show KOut k k' calls ((renR (decC (decC calls)) (mset V nF (rowK k', ((rowK k').length : Int))) nF nA).1, (renR (decC (decC calls)) (mset V nF (rowK k', ((rowK k').length : Int))) nF nA).2, decC (decC (decC calls)))
        have h9 := decC_ge hdd
        have h8 : calls ≤ 9223372036854775807 → decC (decC (decC calls)) ≤ 9223372036854775807 := fun q => decC_le (hdl q)
        by_cases c2 : decC (decC calls) = 0
        · rw [c2] at h9 h8 ⊢
          rw [show renR 0 (mset V nF (rowK k', ((rowK k').length : Int))) nF nA = (32, mset V nF (rowK k', ((rowK k').length : Int))) from if_pos rfl]
          exact ⟨⟨h9, h8, fun q => by rw [q] at c2; cases c2⟩, .inr ⟨rfl, rdF _ ⟨by omega, Int.le_refl _⟩⟩⟩
        · have hW := okF _ ⟨by omega, Int.le_refl _⟩
          have e : renR (decC (decC calls)) (mset V nF (rowK k', ((rowK k').length : Int))) nF nA = (0, mset (mdel (mset V nF (rowK k', ((rowK k').length : Int))) nF) nA (rowK k', ((rowK k').length : Int))) := by
            unfold renR
            rw [if_neg c2, if_neg (by rw [set_has, name_A]; decide), setD, if_pos rfl]
          rw [e]
          have hdn : ∀ n ∈ mkeys (mdel (mset V nF (rowK k', ((rowK k').length : Int))) nF), n = nA := fun n hn => by
            obtain ⟨p, hp, rfl⟩ := List.mem_map.1 hn
            rcases knF _ p.1 (List.mem_map.2 ⟨p, mem_del hp, rfl⟩) with q | q
            · exact q
            · exfalso
              have h7 : mhas (mdel (mset V nF (rowK k', ((rowK k').length : Int))) nF) nF = true := by rw [q] at hn; exact mhas_iff.2 hn
              rw [del_has hW] at h7; cases h7
          have okD := vok_del hW nF
          have hlD := len_del (mset V nF (rowK k', ((rowK k').length : Int))) nF
          have hlS := mset_len V nF (rowK k', ((rowK k').length : Int))
          have huD := get_del (mset V nF (rowK k', ((rowK k').length : Int))) nF
          have huS := get_set V nF (rowK k', ((rowK k').length : Int))
          have huA := get_set (mdel (mset V nF (rowK k', ((rowK k').length : Int))) nF) nA (rowK k', ((rowK k').length : Int))
          have e9 : ((rowK k', ((rowK k').length : Int)) : List UInt8 × Int).1 = rowK k' := rfl
          rw [e9] at huS huA
          have hg : mgetD (mset (mdel (mset V nF (rowK k', ((rowK k').length : Int))) nF) nA (rowK k', ((rowK k').length : Int))) nA zF = (rowK k', ((rowK k').length : Int)) := by rw [setD, if_pos rfl]
          refine ⟨⟨h9, h8, fun q => ⟨by rw [q]; rfl, rfl⟩⟩, .inl ⟨rfl, vok_set okD (by decide) (.inr (by omega)) ⟨by omega, Int.le_refl _⟩ (by omega), fun n hn => ?_, ⟨[k'], fun r hr => by rw [List.mem_singleton.1 hr]; exact hk', rfl, by rw [hg]; simp⟩, by rw [hg], by rw [hg]; simp only []; omega⟩⟩
          rw [mkeys_set] at hn
          split at hn
          · exact hdn n hn
          · rcases List.mem_append.1 hn with hn | hn
            · exact hdn n hn
            · exact List.mem_singleton.1 hn
end Go.Agn
