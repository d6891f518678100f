/-
  Check sums: what the laws' walks need besides.
-/
import Derived.Test.YtppngeebdmbeaaaSumW
import Derived.Test.YtppngeebdmbeaaaSlH
namespace Go.Sum
open Go Go.SL
theorem pick_app {A : Asn} {B Γ Γ' : List Asn} (Δ : List Asn) (p : Pick A B Γ Γ') : Pick A B (Γ ++ Δ) (Γ' ++ Δ) := by
  induction p with
  | here => rw [List.cons_append, List.append_assoc]; exact Pick.here
  | there _ ih => exact Pick.there ih
theorem rdb_row {ρ : Hp} {Γ : List Asn} {T : TypeId} {t : SB} (p : Pick (.row T 1 t.a t.bs.length t.cap (t.bs.flatMap encB)) [.row T 1 t.a t.bs.length t.cap (t.bs.flatMap encB)] Γ Γ) : RdB ρ Γ t := fun Δ => rd_row (pick_app Δ p)
theorem rdb_ro {ρ : Hp} {Γ : List Asn} {t : SB} (h : Ro ρ 1 t.a t.bs.length t.cap (t.bs.flatMap encB)) : RdB ρ Γ t := fun _ => rd_ro h
theorem rdbb_row {ρ : Hp} {Γ : List Asn} {T : TypeId} {a : Option Addr} {cap : Nat} {L : List SB} (p : Pick (.row T 1 a L.length cap (L.flatMap encS)) [.row T 1 a L.length cap (L.flatMap encS)] Γ Γ) (h : ∀ t ∈ L, RdB ρ Γ t) : RdBB ρ Γ a cap L :=
  ⟨fun Δ => rd_row (pick_app Δ p), h⟩
theorem sum_nine : ((sumB [49, 50, 51, 52, 53, 54, 55, 56, 57]).toNat : Int) = 3808858755 := by decide +kernel
theorem sum_none : ((sumB []).toNat : Int) = 0 := by decide +kernel
theorem sum_join : ((joinB (sumB [49, 50, 51, 52]) (sumB [53, 54, 55, 56, 57]) 5).toNat : Int) = 3808858755 := by decide +kernel
theorem xor_one_ne (x : BitVec 32) : ¬ (x.toNat : Int) = ((x ^^^ 1#32).toNat : Int) := fun h => by
  have h2 : x = x ^^^ 1#32 := BitVec.eq_of_toNat_eq (by omega)
  have h3 : x ^^^ x = x ^^^ (x ^^^ 1#32) := by rw [← h2]
  rw [xcc, BitVec.xor_self] at h3
  exact absurd h3 (by decide)
end Go.Sum
