/-
  The engine, part N: copy; wrappers between the elder contracts and the lending ones.
-/
import Derived.Test.YtehaoafnobnneaaGreatDoorSlM
namespace Go.SL
open Go
section
variable {P : Program} {E : World} {ρ : Hp} {n : Fz} {σ : Slots} {Γ Γ' : List Asn} {ty : TypeId} {x y : Operand} {T T' : TypeId}
theorem s_copy {a sa : Option Addr} {m cap sn sc k sz : Nat} {Te : TypeId} {cs news cs' : List Value} (hT : P.underlying T = some (.slice Te)) (hs : sizeIs P Te = some sz) (hz : 0 < sz) (hx : evo σ x = some (.slice (sh a cap k sz) (m - k) (cap - k))) (hy : evo σ y = some (.slice sa sn sc))
    (rd : Rd ρ Γ sz sa sn sc news) (h1 : ∀ u ∈ news, u.oneCell' = true) (hk : k + sn ≤ m) (hc : cs.take (k * sz) ++ news ++ cs.drop (k * sz + news.length) = cs') (p : Pick (.row Te sz a m cap cs) [.row Te sz a m cap cs'] Γ Γ') :
    OpS P E ρ n σ Γ (.call { callee := .builtin .copy, args := #[x, y], argTypes := #[T, T'] }) ty (fun v Γ2 => v = .int .i64 (sn : Int) ∧ Γ2 = Γ') := fun ac w e s => by
  obtain ⟨hn, hn2, _, hrd⟩ := rd E w s
  obtain ⟨h0, hr0, d, l1, lr, hA, K⟩ := s.pick p
  obtain ⟨hlen, hrow⟩ := hA
  have hsz := run_sizeOf hs w
  have hmin : Nat.min sn (m - k) = sn := Nat.min_eq_left (by omega)
  rcases Nat.eq_zero_or_pos sn with h00 | hpos
  · subst h00
    have hnn : news = [] := List.eq_nil_of_length_eq_zero (by simpa using hn)
    subst hnn
    have hcs : cs' = cs := by rw [← hc]; simp
    subst hcs
    refine ⟨.value (.int .i64 0), w, _, Γ', .inl rfl, ⟨rfl, rfl⟩, ?_, K w h0 ⟨rfl, rfl, rfl⟩ ⟨h0, Hp.none_, (Hp.none_disj _).disj_symm, Hp.le_refl _, Hp.none_le _, ⟨hlen, hrow⟩, trivial⟩ d l1 lr⟩
    have hf : (Builtin.firstCells sz 0 (.slice sa 0 sc)).run P w = .ok #[] w := by
      cases sa <;> simp [Builtin.firstCells, loadCells, loadCellsFrom]
    cases hsh : sh a cap k sz <;> simp [exo, execOp, resolve, invoke, builtin, Builtin.copy_, e.eval hx, e.eval hy, hsh, run_underlying hT, Builtin.lenOf, hsz, hf, storeCells, goInt]
  · rcases hrow with ⟨rfl, rfl, rfl⟩ | ⟨g, cur, fz, rfl, hg, hsf, hnc, hcm, hcz, htk⟩
    · omega
    · have hne : ¬ cap = k := by omega
      have hsa : ∃ ad, sa = some ad ∧ ∀ j c, news[j]? = some c → w.cell? (ad.add j) = some c := by
        have hp : 0 < news.length := by rw [hn]; exact Nat.mul_pos hpos hz
        obtain ⟨ad, e1, _⟩ := hrd 0 news[0] (by simp [hp])
        exact ⟨ad, e1, fun j c hj => by obtain ⟨ad', e2, e3⟩ := hrd j c hj; rw [e1] at e2; cases e2; exact e3⟩
      obtain ⟨ad, rfl, hrd'⟩ := hsa
      have e0 : hp w g = some (.cells cur Te fz) := l1.at_ _ _ hg
      have hks : k * sz + news.length ≤ m * sz := by rw [hn, ← Nat.add_mul]; exact Nat.mul_le_mul_right _ hk
      have hcur : m * sz ≤ cur.size := by rw [hcz]; exact Nat.mul_le_mul_right _ hnc
      have hst := run_storeCells (P := P) news 0 w g (k * sz) cur Te fz e0 hsf (by omega) h1
      simp only [Nat.add_zero] at hst
      have hf := run_firstCells_some (P := P) w sz sn ad sn sc news hn hrd'
      have hsh : sh (some ⟨g, 0, none⟩) cap k sz = some ⟨g, k * sz, none⟩ := by
        unfold sh; rw [if_neg hne]; simp [addr_add]
      refine ⟨.value (.int .i64 sn), setBlk w g (.cells (wr cur (k * sz) news) Te fz), _, Γ', .inl rfl, ⟨rfl, rfl⟩, ?_, ?_⟩
      · have hx' := e.eval hx
        rw [hsh] at hx'
        simp [exo, execOp, resolve, invoke, builtin, Builtin.copy_, hx', e.eval hy, run_underlying hT, Builtin.lenOf, hsz, goInt, hmin, hf, hst]
      · refine K _ (Hp.one g (.cells (wr cur (k * sz) news) Te fz)) ⟨rfl, rfl, rfl⟩ ⟨_, Hp.none_, (Hp.none_disj _).disj_symm, Hp.le_refl _, Hp.none_le _, ?_, trivial⟩ (Hp.one_disj (d.out hg)) (Hp.one_le (hp_setBlk e0)) ⟨fun q o hq => ?_⟩
        · refine ⟨by rw [← hc]; simp; omega, .inr ⟨g, _, fz, rfl, Hp.one_at _ _, by rwa [wr_size], hnc, hcm, by rw [wr_size]; exact hcz, ?_⟩⟩
          rw [← hc, ← htk]
          apply List.ext_getElem?
          intro i
          rw [List.getElem?_take]
          have hlc : (cur.toList.take (m * sz)).length = m * sz := by simp; omega
          by_cases h : k * sz ≤ i ∧ i < k * sz + news.length
          · rw [if_pos (by omega), Array.getElem?_toList, wr_get _ _ _ _ (by omega), if_pos (by omega), List.append_assoc, List.getElem?_append_right (by simp; omega), List.getElem?_append_left (by simp; omega)]
            congr 1
            simp; omega
          · by_cases h2 : i < k * sz
            · rw [if_pos (by omega), Array.getElem?_toList, wr_get _ _ _ _ (by omega), if_neg (by omega), List.append_assoc, List.getElem?_append_left (by simp; omega), List.getElem?_take_of_lt h2, List.getElem?_take_of_lt (by omega), Array.getElem?_toList]
            · rw [List.getElem?_append_right (by simp; omega), List.getElem?_drop]
              by_cases h3 : i < m * sz
              · rw [if_pos h3, Array.getElem?_toList, wr_get _ _ _ _ (by omega), if_neg (by omega), List.getElem?_take_of_lt (by simp; omega), Array.getElem?_toList]
                congr 1
                simp; omega
              · rw [if_neg h3, List.getElem?_eq_none (by simp; omega)]
        · have hne : q ≠ g := fun e' => by subst e'; rw [d.out hg] at hq; cases hq
          rw [hp_setBlk_ne hne]
          exact lr.at_ _ _ hq
theorem s_copye {α : Type} {enc : α → List Value} {a sa : Option Addr} {m cap sc sz : Nat} {Te : TypeId} {xs ys : List α} (k : Nat) (hT : P.underlying T = some (.slice Te)) (hs : sizeIs P Te = some sz) (hz : 0 < sz) (he : ∀ x, (enc x).length = sz) (hx : evo σ x = some (.slice (sh a cap k sz) (m - k) (cap - k))) (hy : evo σ y = some (.slice sa ys.length sc))
    (rd : Rd ρ Γ sz sa ys.length sc (ys.flatMap enc)) (h1 : ∀ u ∈ ys.flatMap enc, u.oneCell' = true) (hk : k + ys.length ≤ m) (p : Pick (.row Te sz a m cap (xs.flatMap enc)) [.row Te sz a m cap ((xs.take k ++ ys ++ xs.drop (k + ys.length)).flatMap enc)] Γ Γ') :
    OpS P E ρ n σ Γ (.call { callee := .builtin .copy, args := #[x, y], argTypes := #[T, T'] }) ty (fun v Γ2 => v = .int .i64 (ys.length : Int) ∧ Γ2 = Γ') := by
  refine s_copy hT hs hz hx hy rd h1 hk ?_ p
  rw [flat_take he, flat_len he, ← Nat.add_mul, flat_drop he]
  simp
end
section
variable {P : Program} {E : World} {ρ : Hp} {n : Fz} {σ : Slots} {Γ Γ' : List Asn} {ty : TypeId} {x y : Operand} {T T' : TypeId}
theorem s_appendn {α : Type} {enc : α → List Value} {a sa : Option Addr} {cap sc sz m k bytes : Nat} {e : TypeId} {xs ys : List α} {Γ' : Option Addr → Nat → List Asn} (ht : P.underlying T = some (.slice e)) (hok : elemOk P e sz bytes = true) (hs0 : 0 < sz) (hx : evo σ x = some (.slice a m cap)) (hy : evo σ y = some (.slice sa k sc))
    (rd : Rd ρ Γ sz sa k sc (ys.flatMap enc)) (h1 : ∀ u ∈ ys.flatMap enc, u.oneCell' = true) (hb : (m + k) * bytes ≤ 140737488355328) (hm : m + k ≤ 9223372036854775807)
    (p : ∀ a' cap', Pick (.row e sz a m cap (xs.flatMap enc)) [.row e sz a' (m + k) cap' ((xs ++ ys).flatMap enc)] Γ (Γ' a' cap')) :
    OpS P E ρ n σ Γ (.call { callee := .builtin .append, args := #[x, y], argTypes := #[T, T] }) ty (fun v Γ2 => ∃ a' cap', v = .slice a' (m + k) cap' ∧ Γ2 = Γ' a' cap') :=
  s_append ht hok hs0 hx hy rd h1 hb hm (fun a' cap' => by
    have := p a' cap'
    rw [List.flatMap_append] at this
    exact this)
end
theorem lenz {α : Type} {enc : α → List Value} {xs : List α} {n sz : Nat} (h : (xs.flatMap enc).length = n * sz) (he : ∀ x, (enc x).length = sz) (hz : 0 < sz) : xs.length = n := by
  rw [flat_len he] at h
  exact Nat.eq_of_mul_eq_mul_right hz h
theorem t_cutq {P : Program} {E : World} {ρ : Hp} {n : Fz} {σ : Slots} {Γ : List Asn} {Q : Exit → Act → World → Prop} {x : Code} {ι : Type} (J : ι → Prop) (σI : ι → Slots) (ΓI : ι → List Asn) (h : Tr E ρ n σ Γ (x.wp P (Exit.then (Next_ E ρ n J σI ΓI) Q))) (k : ∀ j, J j → Tr E ρ n (σI j) (ΓI j) (Q .normal)) :
    Tr E ρ n σ Γ (x.wp P Q) := fun a w e s => Code.wp_mono (fun ex a' w' hq => by
      cases ex with
      | normal => obtain ⟨j, h1, h2, h3⟩ := hq; exact k j h1 a' w' h2 h3
      | exit _ => exact hq
      | goto _ => exact hq
      | ret => exact hq
      | panic _ => exact hq
      | outgrown => exact hq) (h a w e s)
theorem spec0_flip {P : Program} {f : FuncId} {vs : Array Value} {ρ : Hp} {v0 : Value} (h : Spec0 P f vs ρ [] fun v Γ' => v = v0 ∧ [] = Γ') : Spec0 P f vs ρ [] fun v Γ' => v = v0 ∧ Γ' = [] :=
  fun E Δ w s => (h E Δ w s).mono fun _ _ ⟨ρ', v, Γ', l, ⟨e1, e2, e3⟩, e, s'⟩ => ⟨ρ', v, Γ', l, ⟨e1, e2, e3.symm⟩, e, s'⟩
end Go.SL
