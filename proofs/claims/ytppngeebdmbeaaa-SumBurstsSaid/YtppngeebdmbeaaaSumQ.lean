/-
  Check sums: what the laws' walks need besides.
-/
import Derived.Test.YtppngeebdmbeaaaSumW
import Derived.Test.YtppngeebdmbeaaaSlH
namespace Go.Sum
open Go Go.SL
theorem pick_app {A : Asn} {B Γ Γ' : List Asn} (Δ : List Asn) (p : Pick A B Γ Γ') : Pick A B (Γ ++ Δ) (Γ' ++ Δ) := by
  induction p with
  | here => rw [List.cons_append, List.append_assoc]; exact Pick.here
  | there _ ih => exact Pick.there ih
theorem rdb_row {ρ : Hp} {Γ : List Asn} {T : TypeId} {t : SB} (p : Pick (.row T 1 t.a t.bs.length t.cap (t.bs.flatMap encB)) [.row T 1 t.a t.bs.length t.cap (t.bs.flatMap encB)] Γ Γ) : RdB ρ Γ t := fun Δ => rd_row (pick_app Δ p)
theorem rdb_ro {ρ : Hp} {Γ : List Asn} {t : SB} (h : Ro ρ 1 t.a t.bs.length t.cap (t.bs.flatMap encB)) : RdB ρ Γ t := fun _ => rd_ro h
theorem rdbb_row {ρ : Hp} {Γ : List Asn} {T : TypeId} {a : Option Addr} {cap : Nat} {L : List SB} (p : Pick (.row T 1 a L.length cap (L.flatMap encS)) [.row T 1 a L.length cap (L.flatMap encS)] Γ Γ) (h : ∀ t ∈ L, RdB ρ Γ t) : RdBB ρ Γ a cap L :=
  ⟨fun Δ => rd_row (pick_app Δ p), h⟩
theorem sum_nine : ((sumB [49, 50, 51, 52, 53, 54, 55, 56, 57]).toNat : Int) = 3808858755 := by decide +kernel
theorem sum_none : ((sumB []).toNat : Int) = 0 := by decide +kernel
theorem sum_join : ((joinB (sumB [49, 50, 51, 52]) (sumB [53, 54, 55, 56, 57]) 5).toNat : Int) = 3808858755 := by decide +kernel
theorem sum_zero : Value.int .u32 0 = Value.int .u32 ((sumB (List.flatMap SB.bs (List.take 0 []))).toNat : Int) := by rw [show List.flatMap SB.bs (List.take 0 []) = [] from rfl, sum_none]
theorem flat_le {l : List SB} {m : Nat} (h : ∀ t ∈ l, t.bs.length ≤ m) : (l.flatMap SB.bs).length ≤ l.length * m := by
  induction l with
  | nil => simp
  | cons t l ih =>
    have h1 := h t List.mem_cons_self
    have h2 := ih (fun u hu => h u (List.mem_cons_of_mem _ hu))
    rw [List.flatMap_cons, List.length_append, List.length_cons, Nat.add_mul]
    omega
theorem take_le {L : List SB} {k : Nat} (hk : k < L.length) (h : ∀ t ∈ L.take k, t.bs.length ≤ 500) (h2 : (L.getD k default).bs.length ≤ 500) : ∀ t ∈ L.take (k + 1), t.bs.length ≤ 500 := fun t ht => by
  rw [take_succ_getD L k hk] at ht
  rcases List.mem_append.1 ht with h3 | h3
  · exact h t h3
  · rw [List.mem_singleton.1 h3]; exact h2
theorem xor_one_ne (x : BitVec 32) : ¬ (x.toNat : Int) = ((x ^^^ 1#32).toNat : Int) := fun h => by
  have h2 : x = x ^^^ 1#32 := BitVec.eq_of_toNat_eq (by omega)
  have h3 : x ^^^ x = x ^^^ (x ^^^ 1#32) := by rw [← h2]
  rw [xcc, BitVec.xor_self] at h3
  exact absurd h3 (by decide)
end Go.Sum
