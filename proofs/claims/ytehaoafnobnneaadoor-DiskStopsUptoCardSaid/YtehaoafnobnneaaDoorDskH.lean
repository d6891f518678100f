/-
  The reference's disk, in plain words: a list of files, their names rising. No program in sight.
-/
import Derived.Test.YtehaoafnobnneaaDoorDskO
import Derived.Test.YtehaoafnobnneaaDoorDskN
set_option linter.unusedVariables false
set_option linter.unusedSimpArgs false
namespace Go.Dsk
open Go Go.SL
abbrev RT := List RFile
def rp (e : RFile) : Nm × (List UInt8 × Int) := (e.Name, (e.B.xs, e.Safe))
def rvw (T : RT) : FV := T.map rp
def R1 (tb : TypeId) (e : RFile) : Asn := .row tb 1 e.B.a e.B.xs.length e.B.cap (e.B.xs.flatMap encB)
def RB (tb : TypeId) (T : RT) : Asn := Bun (T.map (R1 tb))
theorem rvw_keys (T : RT) : mkeys (rvw T) = T.map (·.Name) := by simp [mkeys, rvw, rp]
theorem rvw_len (T : RT) : (rvw T).length = T.length := by simp [rvw]
theorem rb_open {tb : TypeId} {T : RT} {Γ : List Asn} {i : Nat} (hi : i < T.length) : Ent (RB tb T :: Γ) (R1 tb (T.getD i default) :: Bun ((T.map (R1 tb)).eraseIdx i) :: Γ) := by
  have h := bun_get (T.map (R1 tb)) Γ i (by simpa using hi)
  rwa [List.getElem_map, show T[i] = T.getD i default from by simp [List.getD, hi]] at h
theorem rb_set {tb : TypeId} {T : RT} {Γ : List Asn} {i : Nat} (hi : i < T.length) (e : RFile) : Ent (R1 tb e :: Bun ((T.map (R1 tb)).eraseIdx i) :: Γ) (RB tb (T.set i e) :: Γ) := by
  have h := bun_set (T.map (R1 tb)) Γ i (R1 tb e) (by simpa using hi)
  rwa [← List.map_set] at h
theorem rb_erase (tb : TypeId) (T : RT) (i : Nat) : Bun ((T.map (R1 tb)).eraseIdx i) = RB tb (T.eraseIdx i) := by
  unfold RB; rw [eraseIdx_map_]
theorem ent_ins {A : Asn} : ∀ (L M : List Asn), Ent (A :: (L ++ M)) (L ++ A :: M)
  | [], M => Ent.refl _
  | B :: L, M => Ent.pick (A := B) (Pick.there Pick.here) (ent_ins L M)
theorem rb_ins {tb : TypeId} {T : RT} {Γ : List Asn} (k : Nat) (e : RFile) : Ent (R1 tb e :: RB tb T :: Γ) (RB tb (T.take k ++ e :: T.drop k) :: Γ) := by
  refine Ent.trans (Ent.pick (A := RB tb T) (Pick.there Pick.here) (Ent.refl _)) ?_
  refine Ent.trans (bun_out _ _) ?_
  refine Ent.trans (Ent.comm (T.map (R1 tb)) (R1 tb e :: Γ)) ?_
  show Ent (R1 tb e :: (Γ ++ T.map (R1 tb))) _
  refine Ent.trans (Ent.pick (A := R1 tb e) Pick.here (Ent.comm Γ (T.map (R1 tb)))) ?_
  refine Ent.trans (B := (R1 tb e :: T.map (R1 tb)) ++ Γ) (Ent.refl _) ?_
  refine Ent.trans (Ent.both (A' := (T.take k).map (R1 tb) ++ R1 tb e :: (T.drop k).map (R1 tb)) ?_ (Ent.refl Γ)) ?_
  · have h := ent_ins (A := R1 tb e) ((T.take k).map (R1 tb)) ((T.drop k).map (R1 tb))
    rwa [← List.map_append, List.take_append_drop] at h
  · unfold RB
    rw [show (T.take k ++ e :: T.drop k).map (R1 tb) = (T.take k).map (R1 tb) ++ R1 tb e :: (T.drop k).map (R1 tb) from by simp]
    exact bun_in _ Γ
/-! ### Calls counted -/
def cI (e : Bool) (c : Int) : Int := if e = true then c else -1
def decR (e : Bool) (c : Int) : Int := if e = true ∧ c ≠ 0 then c - 1 else c
theorem decR_ok {e : Bool} {c : Int} (h : e = true → 0 ≤ c) : cI e (decR e c) = decC (cI e c) ∧ (e = true → 0 ≤ decR e c) := by
  unfold cI decR decC
  cases e with
  | false => simp
  | true =>
    have := h rfl
    by_cases h0 : c = 0
    · subst h0; simp
    · have e1 : (if true = true ∧ c ≠ 0 then c - 1 else c) = c - 1 := if_pos ⟨rfl, h0⟩
      rw [e1, if_pos rfl, if_pos rfl, if_pos (show c > 0 by omega)]
      exact ⟨rfl, fun _ => by omega⟩
/-! ### A file's place -/
def rfi (T : RT) (s : Nm) : Int := idxP (fun n => decide (n = s)) (T.map (·.Name))
theorem rname_get {T : RT} {k : Nat} (hk : k < T.length) : (T.map (·.Name)).getD k default = (T.getD k default).Name := by simp [List.getD, hk]
theorem rfi_hit {T : RT} {s : Nm} {k : Nat} (hk : k < T.length) (h : ((T.map (·.Name)).take k).any (fun n => decide (n = s)) = false) (e : (T.getD k default).Name = s) : rfi T s = (k : Int) := idxP_at (by rw [List.length_map]; exact hk) h (by rw [rname_get hk, e]; simp)
theorem rfi_miss {T : RT} {s : Nm} (h : ((T.map (·.Name)).take T.length).any (fun n => decide (n = s)) = false) : rfi T s = -1 := idxP_none (by rwa [List.take_of_length_le (by rw [List.length_map]; exact Nat.le_refl _)] at h)
theorem rfi_next {T : RT} {s : Nm} {k : Nat} (hk : k < T.length) (h : ((T.map (·.Name)).take k).any (fun n => decide (n = s)) = false) (e : ¬ (T.getD k default).Name = s) : ((T.map (·.Name)).take (k + 1)).any (fun n => decide (n = s)) = false := any_succ (by rw [List.length_map]; exact hk) h (by rw [rname_get hk]; exact decide_eq_false e)
theorem rfi_neg (T : RT) (s : Nm) : decide (rfi T s < 0) = !mhas (rvw T) s := by
  have h := idxP_any (fun n => decide (n = s)) (T.map (·.Name))
  have h2 : ((T.map (·.Name)).any fun n => decide (n = s)) = mhas (rvw T) s := by
    rw [Bool.eq_iff_iff, mhas_iff, rvw_keys]
    simp
  rw [← h2, ← h]
  unfold rfi
  rw [Bool.eq_iff_iff]
  simp
theorem rfi_at {T : RT} {s : Nm} (h : mhas (rvw T) s = true) : ∃ i : Nat, i < T.length ∧ rfi T s = (i : Int) ∧ (T.getD i default).Name = s := by
  unfold rfi idxP
  cases e : (T.map (·.Name)).findIdx? (fun n => decide (n = s)) with
  | none =>
    have h1 : ((T.map (·.Name)).findIdx? (fun n => decide (n = s))).isSome = false := by rw [e]; rfl
    rw [List.findIdx?_isSome] at h1
    rw [mhas_iff, rvw_keys] at h
    rw [List.any_eq_false] at h1
    exact absurd (h1 s h) (by simp)
  | some i =>
    obtain ⟨hi, h2, _⟩ := List.findIdx?_eq_some_iff_getElem.1 e
    rw [List.length_map] at hi
    exact ⟨i, hi, rfl, by simpa [List.getD, hi] using h2⟩
theorem rget {T : RT} (hn : (T.map (·.Name)).Nodup) {i : Nat} (hi : i < T.length) : mget (rvw T) (T.getD i default).Name = some ((T.getD i default).B.xs, (T.getD i default).Safe) := by
  refine mget_of_mem (by rw [rvw_keys]; exact hn) ?_
  refine List.mem_map.2 ⟨T.getD i default, ?_, rfl⟩
  simp [List.getD, hi]
theorem rset {T : RT} (hn : (T.map (·.Name)).Nodup) {i : Nat} (hi : i < T.length) (e : RFile) (he : e.Name = (T.getD i default).Name) : rvw (T.set i e) = mset (rvw T) (T.getD i default).Name (e.B.xs, e.Safe) := by
  have hv : (rvw T)[i]? = some ((T.getD i default).Name, ((T.getD i default).B.xs, (T.getD i default).Safe)) := by
    unfold rvw
    rw [List.getElem?_map, List.getElem?_eq_getElem hi, show T[i] = T.getD i default from by simp [List.getD, hi]]; rfl
  rw [mset_at (rvw T) i _ _ _ (by rw [rvw_keys]; exact hn) hv, ← he]
  unfold rvw
  rw [List.map_set]; rfl
theorem rdel {T : RT} (hn : (T.map (·.Name)).Nodup) {i : Nat} (hi : i < T.length) : rvw (T.eraseIdx i) = mdel (rvw T) (T.getD i default).Name := by
  have hv : (rvw T)[i]? = some ((T.getD i default).Name, ((T.getD i default).B.xs, (T.getD i default).Safe)) := by
    unfold rvw
    rw [List.getElem?_map, List.getElem?_eq_getElem hi, show T[i] = T.getD i default from by simp [List.getD, hi]]; rfl
  rw [mdel_at (rvw T) i _ _ (by rw [rvw_keys]; exact hn) hv]
  exact (eraseIdx_map_ rp T i).symm
def usedR (T : RT) : Nat := (T.map fun e => e.B.xs.length).sum
@[simp] theorem usedR_nil : usedR [] = 0 := rfl
theorem usedR_vw (T : RT) : usedV (rvw T) = usedR T := by simp [usedV, usedR, rvw, rp, Function.comp_def]
theorem usedR_take {T : RT} {k : Nat} (hk : k < T.length) : usedR (T.take (k + 1)) = usedR (T.take k) + (T.getD k default).B.xs.length := by
  rw [take_succ_getD T k hk]; simp [usedR]
theorem usedR_le (T : RT) (k : Nat) : usedR (T.take k) ≤ usedR T := by
  have h : usedR T = usedR (T.take k) + usedR (T.drop k) := by
    unfold usedR
    rw [← List.sum_append_nat, ← List.map_append, List.take_append_drop]
  omega
/-! ### What the reference does, on what is there -/
/-- a new file's place -/
def InsAt (L : FV) (f : Nm × (List UInt8 × Int)) (L' : FV) : Prop := ∃ k ≤ L.length, (∀ p ∈ L.take k, p.1 < f.1) ∧ (∀ p, L[k]? = some p → ¬ p.1 < f.1) ∧ L' = L.take k ++ f :: L.drop k
end Go.Dsk
