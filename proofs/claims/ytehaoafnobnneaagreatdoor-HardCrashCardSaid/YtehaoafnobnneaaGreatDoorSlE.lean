/-
  The engine, part E: slices whose elements are records; append, copy, make, literals.
-/
import Derived.Test.YtehaoafnobnneaaGreatDoorSlD
namespace Go.SL
open Go

/-- the address of cell off of element j -/
def pe (a : Option Addr) (j sz off : Nat) : Value := ea a (j * sz + off)
theorem flat_len {α : Type} {enc : α → List Value} {sz : Nat} (h : ∀ x, (enc x).length = sz) : ∀ xs : List α, (xs.flatMap enc).length = xs.length * sz
  | [] => by simp
  | x :: xs => by
    rw [List.flatMap_cons, List.length_append, h, flat_len h xs, List.length_cons, Nat.add_mul]
    omega
theorem flat_get {α : Type} {enc : α → List Value} {sz : Nat} (h : ∀ x, (enc x).length = sz) : ∀ (xs : List α) (j off : Nat) (hj : j < xs.length), off < sz → (xs.flatMap enc)[j * sz + off]? = (enc xs[j])[off]?
  | x :: xs, 0, off, hj, ho => by
    rw [List.flatMap_cons, List.getElem?_append_left (by rw [h]; omega)]
    simp
  | x :: xs, j + 1, off, hj, ho => by
    rw [List.flatMap_cons, List.getElem?_append_right (by rw [h, Nat.add_mul]; omega), h, show (j + 1) * sz + off - sz = j * sz + off from by rw [Nat.add_mul]; omega,
      flat_get h xs j off (by simpa using hj) ho]
    simp
theorem flat_drop {α : Type} {enc : α → List Value} {sz : Nat} (h : ∀ x, (enc x).length = sz) : ∀ (xs : List α) (j : Nat), (xs.flatMap enc).drop (j * sz) = (xs.drop j).flatMap enc
  | [], j => by simp
  | x :: xs, 0 => by simp
  | x :: xs, j + 1 => by
    rw [List.flatMap_cons, List.drop_append, h, show (j + 1) * sz - sz = j * sz from by rw [Nat.add_mul]; omega, flat_drop h xs j, List.drop_eq_nil_of_le (by rw [h, Nat.add_mul]; omega)]
    simp
theorem flat_take {α : Type} {enc : α → List Value} {sz : Nat} (h : ∀ x, (enc x).length = sz) : ∀ (xs : List α) (j : Nat), (xs.flatMap enc).take (j * sz) = (xs.take j).flatMap enc
  | [], j => by simp
  | x :: xs, 0 => by simp
  | x :: xs, j + 1 => by
    rw [List.flatMap_cons, List.take_append, h, show (j + 1) * sz - sz = j * sz from by rw [Nat.add_mul]; omega, flat_take h xs j, List.take_of_length_le (by rw [h, Nat.add_mul]; omega)]
    simp
theorem flat_set {α : Type} {enc : α → List Value} {sz : Nat} (h : ∀ x, (enc x).length = sz) (xs : List α) (j : Nat) (hj : j < xs.length) (y : α) :
    (xs.set j y).flatMap enc = (xs.flatMap enc).take (j * sz) ++ enc y ++ (xs.flatMap enc).drop ((j + 1) * sz) := by
  rw [flat_take h, flat_drop h, List.set_eq_take_append_cons_drop, if_pos hj]
  simp
/-- a struct in a row: its field's cell turned -/
theorem flat_set_off {α : Type} {enc : α → List Value} {sz : Nat} (h : ∀ x, (enc x).length = sz) (xs : List α) (j : Nat) (hj : j < xs.length) (y : α) (off : Nat) (ws : List Value) (hw : off + ws.length ≤ sz)
    (he : (enc xs[j]).take off ++ ws ++ (enc xs[j]).drop (off + ws.length) = enc y) :
    (xs.flatMap enc).take (j * sz + off) ++ ws ++ (xs.flatMap enc).drop (j * sz + off + ws.length) = (xs.set j y).flatMap enc := by
  rw [flat_set h xs j hj y, ← he]
  have hl := flat_len h xs
  have h1 : j * sz + sz ≤ xs.length * sz := by rw [← Nat.succ_mul]; exact Nat.mul_le_mul_right _ hj
  have hx : ∀ o, o < sz → (xs.flatMap enc)[j * sz + o]? = (enc xs[j])[o]? := fun o ho => flat_get h xs j o hj ho
  have hy := h xs[j]
  have hj2 : (j + 1) * sz = j * sz + sz := Nat.succ_mul j sz
  generalize xs.flatMap enc = F at hl hx ⊢
  generalize enc xs[j] = G at hx hy ⊢
  generalize hM : j * sz = M at *
  rw [hj2]
  apply List.ext_getElem?
  intro i
  simp only [List.append_assoc]
  by_cases c1 : i < M
  · rw [List.getElem?_append_left (by simp; omega), List.getElem?_append_left (by simp; omega), List.getElem?_take_of_lt (by omega), List.getElem?_take_of_lt (by omega)]
  · obtain ⟨o, rfl⟩ : ∃ o, i = M + o := ⟨i - M, by omega⟩
    rw [show ∀ (A B : List Value), (List.take M F ++ (A ++ B))[M + o]? = (A ++ B)[o]? from fun A B => by
      rw [List.getElem?_append_right (by simp; omega)]; congr 1; simp; omega]
    by_cases c2 : o < off
    · rw [List.getElem?_append_left (by simp; omega), List.getElem?_take_of_lt (by omega), hx o (by omega), List.getElem?_append_left (by simp; omega), List.getElem?_take_of_lt (by omega)]
    · by_cases c3 : o < off + ws.length
      · rw [List.getElem?_append_right (by simp; omega), List.getElem?_append_left (by simp; omega), List.getElem?_append_right (by simp; omega), List.getElem?_append_left (by simp; omega)]
        congr 1; simp; omega
      · by_cases c4 : o < sz
        · rw [List.getElem?_append_right (by simp; omega), List.getElem?_append_right (by simp; omega), List.getElem?_drop, List.getElem?_append_right (by simp; omega), List.getElem?_append_right (by simp; omega),
            List.getElem?_append_left (by simp; omega), List.getElem?_drop]
          rw [show M + off + ws.length + (M + o - (List.take (M + off) F).length - ws.length) = M + o from by simp; omega, hx o c4]
          congr 1; simp; omega
        · rw [List.getElem?_append_right (by simp; omega), List.getElem?_append_right (by simp; omega), List.getElem?_drop, List.getElem?_append_right (by simp; omega), List.getElem?_append_right (by simp; omega),
            List.getElem?_append_right (by simp; omega), List.getElem?_drop]
          congr 1; simp; omega

section
variable {P : Program} {E : World} {ρ : Hp} {n : Fz} {σ : Slots} {Γ Γ' : List Asn} {ty : TypeId} {x y z : Operand} {v u : Value} {T T' : TypeId} {α : Type} [Inhabited α] {enc : α → List Value} {sz : Nat} {a : Option Addr} {cap : Nat}

theorem q_indexe {m : Nat} {cs : List Value} {el : TypeId} {k : IntKind} {i : Int} (j : Nat) (hT : P.underlying T = some (.slice el)) (hs : sizeIs P el = some sz) (hx : evo σ x = some (.slice a m cap)) (hy : evo σ y = some (.int k i))
    (rd : Rd ρ Γ sz a m cap cs) (hz : 0 < sz) (hi : i = (j : Int)) (h1 : j < m) : OpQ P E ρ n σ Γ (.indexAddr T x y) ty (pe a j sz 0) := by
  have := q_index (P := P) (E := E) (n := n) (ty := ty) (ρ := ρ) (Γ := Γ) hT hs hz hx hy rd (by omega) (by omega)
  rw [hi] at this
  exact this
theorem q_fielde {j off o i : Nat} {Tf : TypeId} (hx : evo σ x = some (pe a j sz off)) (hf : fieldOff P T i = some (o, Tf)) : OpQ P E ρ n σ Γ (.fieldAddr T x i) ty (pe a j sz (off + o)) := by
  have := q_fieldr (P := P) (E := E) (n := n) (ty := ty) (ρ := ρ) (Γ := Γ) (k := j * sz + off) hx hf
  rw [Nat.add_assoc] at this
  exact this
theorem q_loade {m j off : Nat} {xs : List α} (hT : isScalar P T = true) (hx : evo σ x = some (pe a j sz off)) (rd : Rd ρ Γ sz a m cap (xs.flatMap enc)) (he : ∀ x, (enc x).length = sz) (hj : j < xs.length) (ho : off < sz)
    (hv : (enc (xs.getD j default))[off]? = some v) : OpQ P E ρ n σ Γ (.load T x) ty v := by
  refine q_loadr (k := j * sz + off) hT hx rd ?_
  rw [flat_get he xs j off hj ho]
  simpa [List.getD, List.getElem?_eq_getElem hj] using hv
theorem q_loadea {m j off : Nat} {xs : List α} {vs : List Value} (hT : aggSize P T = some vs.length) (hx : evo σ x = some (pe a j sz off)) (rd : Rd ρ Γ sz a m cap (xs.flatMap enc)) (he : ∀ x, (enc x).length = sz) (hj : j < xs.length) (hp : 0 < vs.length) (ho : off + vs.length ≤ sz)
    (hv : ((enc (xs.getD j default)).drop off).take vs.length = vs) : OpQ P E ρ n σ Γ (.load T x) ty (.agg vs.toArray) := by
  refine q_loadra (k := j * sz + off) hT hp hx rd ?_
  apply List.ext_getElem?
  intro i
  have hv' : ((enc xs[j]).drop off).take vs.length = vs := by simpa [List.getD, List.getElem?_eq_getElem hj] using hv
  by_cases c : i < vs.length
  · rw [List.getElem?_take_of_lt c, List.getElem?_drop, show j * sz + off + i = j * sz + (off + i) from by omega, flat_get he xs j (off + i) hj (by omega)]
    conv => rhs; rw [← hv']
    rw [List.getElem?_take_of_lt c, List.getElem?_drop]
  · rw [List.getElem?_eq_none (by simp; omega), List.getElem?_eq_none (by omega)]
/-- a store into an element -/
theorem s_storee {m j off : Nat} {xs : List α} {Te : TypeId} {ws : List Value} {Γ' : List Asn} (w : α) (hx : evo σ x = some (pe a j sz off)) (hy : evo σ y = some v) (hv : v.cells = ws.toArray) (hs : sizeIs P T = some ws.length) (hpos : 0 < ws.length) (h1 : ∀ u ∈ ws, u.oneCell' = true)
    (p : Pick (.row Te sz a m cap (xs.flatMap enc)) [.row Te sz a m cap ((xs.set j w).flatMap enc)] Γ Γ') (he : ∀ x, (enc x).length = sz) (hj : j < xs.length) (ho : off + ws.length ≤ sz)
    (hw : (enc (xs.getD j default)).take off ++ ws ++ (enc (xs.getD j default)).drop (off + ws.length) = enc w) : OpS P E ρ n σ Γ (.store T x y) ty (fun v Γ2 => v = undef ∧ Γ2 = Γ') := by
  have hw' : (enc xs[j]).take off ++ ws ++ (enc xs[j]).drop (off + ws.length) = enc w := by simpa [List.getD, List.getElem?_eq_getElem hj] using hw
  have hl := flat_len he xs
  have h2 : j * sz + sz ≤ xs.length * sz := by rw [← Nat.succ_mul]; exact Nat.mul_le_mul_right _ hj
  exact s_storer (k := j * sz + off) hx hy hv hs hpos h1 (by omega) (flat_set_off he xs j hj w off ws ho hw') p

/-! ### append -/
theorem run_append {w : World} {ty e : TypeId} {i : TypeInfo} {zv : Value} {h : Hp} {m : Nat} {cs : List Value} {sa : Option Addr} {sm sc : Nat} {news : List Value} (ht : P.underlying T = some (.slice e)) (hi : P.info? e = some i) (hz : i.zero = some zv) (hsz : i.size = sz) (hzs : zv.cells.size = sz) (hs0 : 0 < sz)
    (hr : rowIn h e sz a m cap cs) (hl : h.le (hp w)) (hn : news.length = sm * sz) (hrd : ∀ j c, news[j]? = some c → ∃ ad, sa = some ad ∧ w.cell? (ad.add j) = some c) (h1 : ∀ u ∈ news, u.oneCell' = true) (hb : (m + sm) * i.bytes ≤ 140737488355328) (hm : m + sm ≤ 9223372036854775807) :
    ∃ a' cap' w' h', (Builtin.append_ #[T, T] ty #[.slice a m cap, .slice sa sm sc]).run P w = .ok (.slice a' (m + sm) cap') w' ∧ rowIn h' e sz a' (m + sm) cap' (cs ++ news) ∧ h'.le (hp w') ∧ (w'.os = w.os ∧ w'.tape = w.tape ∧ w'.output = w.output) ∧
      (∀ k : Hp, h.disj k → k.le (hp w) → h'.disj k ∧ k.le (hp w')) := by
  have hlen : (cs ++ news).length = (m + sm) * sz := by rw [List.length_append, hr.1, hn, Nat.add_mul]
  have fresh : ∀ (k : Hp) (o : Obj), k.le (hp w) → (Hp.one w.heap.size o).disj k ∧ k.le (hp (w.drew.alloc o)) := fun k o lk => by
    refine ⟨Hp.one_disj ?_, ⟨fun b o' e' => ?_⟩⟩
    · cases e' : k w.heap.size with
      | none => rfl
      | some o' =>
        have h1 : w.heap[w.heap.size]? = some o' := lk.at_ _ _ e'
        simp at h1
    · have h1 : w.heap[b]? = some o' := lk.at_ _ _ e'
      have hlt : b < w.heap.size := (Array.getElem?_eq_some_iff.1 h1).1
      show (w.heap.push o)[b]? = some o'
      rw [Array.getElem?_push, if_neg (by omega)]
      exact h1
  have made : ∀ (cap' : Nat) (rest : Array Value), m + sm ≤ cap' → cap' ≤ maxLen → rest.size = (cap' - (m + sm)) * sz →
      rowIn (Hp.one w.heap.size (.cells ((cs ++ news).toArray ++ rest) e (0, 0))) e sz (some ⟨w.heap.size, 0, none⟩) (m + sm) cap' (cs ++ news) := fun cap' rest hc hc' hrs => by
    refine ⟨hlen, .inr ⟨_, _, _, rfl, Hp.one_at _ _, .inl rfl, hc, hc', ?_, ?_⟩⟩
    · rw [Array.size_append, hrs, List.size_toArray, hlen, ← Nat.add_mul]; congr 1; omega
    · rw [Array.toList_append, ← hlen]; exact List.take_left
  by_cases hm0 : sm = 0
  · -- nothing is appended
    subst hm0
    have hnn : news = [] := List.eq_nil_of_length_eq_zero (by simpa using hn)
    subst hnn
    have hcap := hr.reads.2.1
    refine ⟨a, cap, w, h, ?_, by simpa using hr, hl, ⟨rfl, rfl, rfl⟩, fun k d lk => ⟨d, lk⟩⟩
    have hfc : (Builtin.firstCells sz 0 (.slice sa 0 sc)).run P w = .ok #[] w := by
      cases sa <;> simp [Builtin.firstCells, loadCells, loadCellsFrom]
    have hfc' : (Builtin.firstCells i.size 0 (.slice sa 0 sc)).run P w = .ok #[] w := by rw [hsz]; exact hfc
    cases a <;> simp [Builtin.append_, run_underlying ht, sizeOf, typeInfo, hi, Builtin.lenOf, hcap, hfc', storeCells]
  have hsa : ∃ ad, sa = some ad := by
    have : 0 < news.length := by rw [hn]; exact Nat.mul_pos (by omega) hs0
    obtain ⟨ad, e1, _⟩ := hrd 0 news[0] (by simp [this])
    exact ⟨ad, e1⟩
  obtain ⟨ad, rfl⟩ := hsa
  have hrd' : ∀ j c, news[j]? = some c → w.cell? (ad.add j) = some c := fun j c e' => by
    obtain ⟨ad', e1, e2⟩ := hrd j c e'
    cases e1; exact e2
  have hn' : news.length = sm * i.size := by rw [hsz]; exact hn
  rcases hr.2 with ⟨rfl, rfl, rfl⟩ | ⟨g, cur, fz, rfl, hg, hsf, hnc, hcm, hcs, htk⟩
  · have hcs0 : cs = [] := List.eq_nil_of_length_eq_zero (by simpa using hr.1)
    subst hcs0
    have hrun := run_append_nil (P := P) w T ty e i zv ht hi hz ad sm sc news hn' hrd' (by omega) (by omega) (by have := hb; rw [Nat.zero_add] at this; omega)
    simp only [Nat.zero_add] at *
    refine ⟨_, _, _, _, hrun, made _ _ (grownCap_ge w sm 0 e) (grownCap_le_maxLen w sm 0 e (by simp only [maxLen]; omega)) (by rw [size_zeroCells, hzs]), ?_, ⟨rfl, rfl, rfl⟩, fun k _ lk => fresh k _ lk⟩
    refine Hp.one_le ?_
    show (w.heap.push _)[w.heap.size]? = _
    simp
  · by_cases hroom : m + sm ≤ cap
    · have e0 : hp w g = some (.cells cur e fz) := hl.at_ _ _ hg
      have hfit : m * sz + 0 + news.length ≤ cur.size := by rw [hn, hcs, Nat.add_zero, ← Nat.add_mul]; exact Nat.mul_le_mul_right _ hroom
      have hst := run_storeCells (P := P) news 0 w g (m * sz) cur e fz e0 hsf hfit h1
      have hf := run_firstCells_some (P := P) w i.size sm ad sm sc news hn' hrd'
      refine ⟨some ⟨g, 0, none⟩, cap, setBlk w g (.cells (wr cur (m * sz + 0) news) e fz), Hp.one g (.cells (wr cur (m * sz + 0) news) e fz), ?_, ?_, Hp.one_le (hp_setBlk e0), ⟨rfl, rfl, rfl⟩, fun k d lk => ⟨Hp.one_disj (d.out hg), ⟨fun q o hq => ?_⟩⟩⟩
      · have ead : (⟨g, 0, none⟩ : Addr).add (m * i.size) = ⟨g, m * sz, none⟩ := by rw [addr_add, hsz]; simp
        simp [Builtin.append_, run_underlying ht, sizeOf, typeInfo, hi, Builtin.lenOf, hroom, hf, ead]
        simp only [Nat.add_zero] at hst
        simp [hst]
      · refine ⟨hlen, .inr ⟨g, _, fz, rfl, Hp.one_at _ _, by rwa [wr_size], hroom, hcm, by rw [wr_size]; exact hcs, ?_⟩⟩
        apply List.ext_getElem?
        intro i'
        have hc1 : cs.length = m * sz := hr.1
        rw [List.getElem?_take]
        by_cases c : i' < (m + sm) * sz
        · rw [if_pos c, Array.getElem?_toList, wr_get _ _ _ _ hfit]
          rw [Nat.add_mul] at c
          by_cases c2 : i' < m * sz
          · rw [if_neg (by omega), List.getElem?_append_left (by omega), ← htk, List.getElem?_take_of_lt c2, Array.getElem?_toList]
          · rw [if_pos (by omega), List.getElem?_append_right (by omega), hc1]; simp
        · rw [if_neg c, List.getElem?_eq_none (by omega)]
      · have hne : q ≠ g := fun e' => by subst e'; rw [d.out hg] at hq; cases hq
        rw [hp_setBlk_ne hne]
        exact lk.at_ _ _ hq
    · have holds : ∀ j c, cs[j]? = some c → w.cell? ((⟨g, 0, none⟩ : Addr).add j) = some c := fun j c e' => by
        obtain ⟨ad', e1, e2⟩ := hr.reads.2.2.2 j c e'
        cases e1; exact cell_of_le hl e2
      have hrun := run_append_grow (P := P) w T ty e i zv ht hi hz ⟨g, 0, none⟩ m cap cs (by rw [hsz]; exact hr.1) holds ad sm sc news hn' hrd' (by omega) (by omega) (growslice_fits (by omega) hb)
      refine ⟨_, _, _, _, hrun, ?_, ?_, ⟨rfl, rfl, rfl⟩, fun k _ lk => fresh k _ lk⟩
      · have := made (grownCap w (m + sm) cap e) (Builtin.zeroCells zv.cells (grownCap w (m + sm) cap e - (m + sm))) (grownCap_ge w _ _ e) (grownCap_le_maxLen w _ _ e (by simp only [maxLen]; omega)) (by rw [size_zeroCells, hzs])
        simpa using this
      · refine Hp.one_le ?_
        show (w.heap.push _)[w.heap.size]? = _
        simp
/-- what 'append' must know of an element type: its size in cells and in bytes -/
def elemOk (P : Program) (e : TypeId) (sz bytes : Nat) : Bool := match P.info? e with
  | some i => (match i.zero with | some z => z.cells.size == sz | none => false) && i.size == sz && i.bytes == bytes
  | none => false
theorem elemOk_spec {e : TypeId} {bytes : Nat} (h : elemOk P e sz bytes = true) : ∃ i zv, P.info? e = some i ∧ i.zero = some zv ∧ zv.cells.size = sz ∧ i.size = sz ∧ i.bytes = bytes := by
  unfold elemOk at h
  cases hi : P.info? e with
  | none => rw [hi] at h; cases h
  | some i =>
    rw [hi] at h
    dsimp only at h
    cases hz : i.zero with
    | none => rw [hz] at h; simp at h
    | some zv =>
      rw [hz] at h
      simp at h
      exact ⟨i, zv, rfl, hz, h.1.1, h.1.2, h.2⟩
theorem s_append {e : TypeId} {bytes m sm sc : Nat} {cs news : List Value} {sa : Option Addr} {Γ' : Option Addr → Nat → List Asn} (ht : P.underlying T = some (.slice e)) (hok : elemOk P e sz bytes = true) (hs0 : 0 < sz) (hx : evo σ x = some (.slice a m cap)) (hy : evo σ y = some (.slice sa sm sc))
    (rd : Rd ρ Γ sz sa sm sc news) (h1 : ∀ u ∈ news, u.oneCell' = true) (hb : (m + sm) * bytes ≤ 140737488355328) (hm : m + sm ≤ 9223372036854775807) (p : ∀ a' cap', Pick (.row e sz a m cap cs) [.row e sz a' (m + sm) cap' (cs ++ news)] Γ (Γ' a' cap')) :
    OpS P E ρ n σ Γ (.call { callee := .builtin .append, args := #[x, y], argTypes := #[T, T] }) ty (fun v Γ2 => ∃ a' cap', v = .slice a' (m + sm) cap' ∧ Γ2 = Γ' a' cap') := fun ac w ev s => by
  obtain ⟨i, zv, hi, hz, k1, k2, k3⟩ := elemOk_spec hok
  obtain ⟨hn, _, _, hrd⟩ := rd E w s
  obtain ⟨h0, hr0, d, l1, lr, hA, -⟩ := s.pick (p none 0)
  obtain ⟨a', cap', w', h', hrun, hrow, hle, hext, hfr⟩ := run_append (P := P) (w := w) (ty := ty) (sc := sc) ht hi hz k2 k1 hs0 hA l1 hn hrd h1 (by rw [k3]; exact hb) hm
  refine ⟨.value (.slice a' (m + sm) cap'), w', _, Γ' a' cap', .inl rfl, ⟨a', cap', rfl, rfl⟩, ?_, ?_⟩
  · simp [exo, execOp, resolve, invoke, builtin, ev.eval hx, ev.eval hy, hrun]
  · obtain ⟨h0', hr0', d', l1', lr', hA', K'⟩ := s.pick (p a' cap')
    obtain ⟨a2, cap2, w2, h2, hrun2, hrow2, hle2, hext2, hfr2⟩ := run_append (P := P) (w := w) (ty := ty) (sc := sc) ht hi hz k2 k1 hs0 hA' l1' hn hrd h1 (by rw [k3]; exact hb) hm
    rw [hrun] at hrun2
    simp only [Result.ok.injEq, Value.slice.injEq, true_and] at hrun2
    obtain ⟨⟨rfl, rfl⟩, rfl⟩ := hrun2
    obtain ⟨dd, ll⟩ := hfr2 hr0' d' lr'
    exact K' _ h2 hext2 ⟨h2, Hp.none_, (Hp.none_disj _).disj_symm, Hp.le_refl _, Hp.none_le _, hrow2, trivial⟩ dd hle2 ll

/-! ### make, literals -/
theorem s_makeSlice {e : TypeId} {bytes : Nat} {zc : List Value} {k k' : IntKind} {l c : Int} (ht : P.underlying T = some (.slice e)) (hok : elemOk P e sz bytes = true) (hz : zeroCs P e = some zc) (hx : evo σ x = some (.int k l)) (hy : evo σ y = some (.int k' c))
    (h0 : 0 ≤ l) (hlc : l = c) (hb : (bytes : Int) * c ≤ 140737488355328) (hm : c ≤ 9223372036854775807) :
    OpS P E ρ n σ Γ (.makeSlice T x y) ty (fun v Γ2 => ∃ b, v = .slice (some ⟨b, 0, none⟩) l.toNat l.toNat ∧ Γ2 = .row e sz (some ⟨b, 0, none⟩) l.toNat l.toNat ((List.replicate l.toNat zc).flatten) :: Γ) := fun ac w ev s => by
  subst hlc
  obtain ⟨i, zv, hi, hzz, k1, k2, k3⟩ := elemOk_spec hok
  unfold zeroCs at hz
  rw [hi] at hz
  simp [hzz] at hz
  have hrun := run_make (P := P) w T e i zv ht hi hzz k k' l l h0 (Int.le_refl _) (by rw [k3]; omega) hm
  have hzl : zc.length = sz := by rw [← hz]; simpa using k1
  have hfl : ((List.replicate l.toNat zc).flatten).length = l.toNat * sz := by simp [hzl]
  have hcells : madeCells zv.cells (l.toNat * i.size) = ((List.replicate l.toNat zc).flatten).toArray := by
    apply Array.ext_getElem?
    intro j
    have hsz0 : (madeCells zv.cells (l.toNat * i.size)).size = l.toNat * sz := by rw [size_madeCells, k2]
    by_cases hj : j < l.toNat * sz
    · have hsz : 0 < sz := by
        rcases Nat.eq_zero_or_pos sz with h | h
        · subst h; simp at hj
        · exact h
      have hR : ((List.replicate l.toNat zc).flatten).toArray[j]? = ((List.replicate l.toNat zc).flatten)[j]? := by simp
      rw [hR]
      have e1 : (List.replicate l.toNat zc).flatten[j]? = zc[j % sz]? := by
        have hdm := Nat.div_add_mod j sz
        have hlt : j % sz < sz := Nat.mod_lt _ hsz
        have hq : j / sz < l.toNat := Nat.div_lt_of_lt_mul (by rw [Nat.mul_comm]; exact hj)
        have := flat_get (enc := fun (x : List Value) => zc) (sz := sz) (fun _ => hzl) (List.replicate l.toNat ([] : List Value)) (j / sz) (j % sz) (by simpa using hq) hlt
        rw [Nat.mul_comm, hdm] at this
        rw [← this]
        congr 1
        simp [List.flatMap_def]
      rw [e1, ← hz]
      simp only [madeCells]
      have hlt : j % sz < zv.cells.size := by rw [k1]; exact Nat.mod_lt _ hsz
      rw [Array.getElem?_map, Array.getElem?_range]
      rw [if_pos (by rw [k2]; exact hj)]
      rw [k1, Option.map_some, getElem!_pos zv.cells (j % sz) hlt, Array.getElem?_toList, Array.getElem?_eq_getElem hlt]
    · rw [Array.getElem?_eq_none (by omega), Array.getElem?_eq_none (by simp only [List.size_toArray]; omega)]
  refine ⟨.value _, _, _, _, .inl rfl, ⟨w.heap.size, rfl, rfl⟩, ?_, s.alloc (.row e sz (some ⟨w.heap.size, 0, none⟩) l.toNat l.toNat ((List.replicate l.toNat zc).flatten)) (.cells ((List.replicate l.toNat zc).flatten).toArray e (0, 0)) ?_⟩
  · simp [exo, execOp, ev.eval hx, ev.eval hy, hrun, hcells]
  · refine ⟨hfl, .inr ⟨_, _, _, rfl, Hp.one_at _ _, .inl rfl, Nat.le_refl _, by simp only [maxLen]; omega, ?_, ?_⟩⟩
    · rw [List.size_toArray, hfl]
    · exact List.take_of_length_le (by simp only []; omega)
def evp (σ : Slots) : List (Nat × Operand) → Option (List (Nat × Value))
  | [] => some []
  | (i, x) :: xs => match evo σ x, evp σ xs with
    | some v, some vs => some ((i, v) :: vs)
    | _, _ => none
theorem Env.evalp {ac : Act} (h : Env n σ ac) : ∀ {xs : List (Nat × Operand)} {vs : List (Nat × Value)}, evp σ xs = some vs → xs.map (fun (q : Nat × Operand) => (q.1, ac.eval q.2)) = vs
  | [], vs, e => by simp [evp] at e; simp [← e]
  | (i, x) :: xs, vs, e => by
    simp only [evp] at e
    split at e
    · rename_i v vs' h1 h2
      cases e
      simp [h.eval h1, Env.evalp h h2]
    · cases e
/-- the cells of a literal's parts, one behind the other -/
def litCells : List (Nat × Value) → List Value
  | [] => []
  | (_, v) :: ps => v.cells.toList ++ litCells ps
def litOk (sz : Nat) : List (Nat × Value) → Nat → Bool
  | [], _ => true
  | (i, v) :: ps, k => Nat.beq i k && Nat.beq v.cells.size sz && litOk sz ps (k + 1)
theorem foldl_set_size (vs : List (Value × Nat)) (off : Nat) : ∀ cs : Array Value, (vs.foldl (fun cs (p : Value × Nat) => cs.setIfInBounds (off + p.2) p.1) cs).size = cs.size := by
  induction vs with
  | nil => intro cs; rfl
  | cons p vs ih => intro cs; rw [List.foldl_cons, ih]; simp
theorem zip_fold (off : Nat) : ∀ (vs : List Value) (k : Nat) (cs : Array Value), (vs.zipIdx k).foldl (fun cs (p : Value × Nat) => cs.setIfInBounds (off + p.2) p.1) cs = wr cs (off + k) vs
  | [], k, cs => rfl
  | v :: vs, k, cs => by
    rw [List.zipIdx_cons, List.foldl_cons, zip_fold off vs (k + 1), wr]
    rfl
theorem fill_lit (sz : Nat) : ∀ (ps : List (Nat × Value)) (k : Nat) (cs : Array Value), litOk sz ps k = true → (k + ps.length) * sz ≤ cs.size → Instr.fill (fun i => some (i * sz, sz)) cs ps = some (wr cs (k * sz) (litCells ps))
  | [], k, cs, _, _ => rfl
  | (i, v) :: ps, k, cs, h, hl => by
    simp only [litOk, Bool.and_eq_true] at h
    obtain ⟨⟨h1, h2⟩, h3⟩ := h
    have e1 : i = k := Nat.eq_of_beq_eq_true h1
    have e2 : v.cells.size = sz := Nat.eq_of_beq_eq_true h2
    subst e1
    simp only [List.length_cons] at hl
    have hb : i * sz + sz ≤ cs.size := by
      refine Nat.le_trans ?_ hl
      rw [← Nat.succ_mul]
      exact Nat.mul_le_mul_right _ (by omega)
    simp only [Instr.fill]
    rw [if_neg (by simp [e2]; omega)]
    have hz : (v.cells.zipIdx.foldl (fun cs (p : Value × Nat) => cs.setIfInBounds (i * sz + p.2) p.1) cs) = wr cs (i * sz) v.cells.toList := by
      rw [← Array.foldl_toList, Array.toList_zipIdx, zip_fold]
      rfl
    have hz' : (Array.foldl (fun cs x => match x with | (c, j) => cs.setIfInBounds (i * sz + j) c) cs v.cells.zipIdx) = wr cs (i * sz) v.cells.toList := hz
    rw [hz', fill_lit sz ps (i + 1) _ h3 (by rw [wr_size]; have h9 : i + 1 + ps.length = i + (ps.length + 1) := (by omega); rw [h9]; exact hl)]
    rw [litCells]
    congr 1
    have : ∀ (xs ys : List Value) (c : Array Value) (o : Nat), wr c o (xs ++ ys) = wr (wr c o xs) (o + xs.length) ys := by
      intro xs
      induction xs with
      | nil => intro ys c o; rfl
      | cons x xs ih => intro ys c o; simp only [List.cons_append, wr, ih, List.length_cons]; rw [show o + 1 + xs.length = o + (xs.length + 1) from by omega]
    rw [this, Array.length_toList, e2, Nat.succ_mul]
theorem litCells_len (sz : Nat) : ∀ (ps : List (Nat × Value)) (k : Nat), litOk sz ps k = true → (litCells ps).length = ps.length * sz
  | [], _, _ => by simp [litCells]
  | (i, v) :: ps, k, h => by
    simp only [litOk, Bool.and_eq_true] at h
    obtain ⟨⟨h1, h2⟩, h3⟩ := h
    have e2 : v.cells.size = sz := Nat.eq_of_beq_eq_true h2
    rw [litCells, List.length_append, litCells_len sz ps (k + 1) h3, Array.length_toList, e2, List.length_cons, Nat.succ_mul]
    omega
theorem s_buildSlice {e : TypeId} {bytes len : Nat} {ps : List (Nat × Operand)} {vs : List (Nat × Value)} {cs : List Value} (ht : P.underlying T = some (.slice e)) (hok : elemOk P e sz bytes = true) (hx : evp σ ps = some vs) (hl : litOk sz vs 0 = true) (hn : vs.length = len) (hc : litCells vs = cs) (hm : len * sz ≤ 16777216) (hm2 : len ≤ 16777216) :
    OpS P E ρ n σ Γ (.buildSlice T len ps.toArray) ty (fun v Γ2 => ∃ b, v = .slice (some ⟨b, 0, none⟩) len len ∧ Γ2 = .row e sz (some ⟨b, 0, none⟩) len len cs :: Γ) := fun ac w ev s => by
  obtain ⟨i, zv, hi, hzz, k1, k2, k3⟩ := elemOk_spec hok
  have hcl : cs.length = len * sz := by rw [← hc, litCells_len sz vs 0 hl, hn]
  have hev : List.map (fun (q : Nat × Operand) => (q.1, ac.eval q.2)) ps = vs := Env.evalp ev hx
  have hfill : ∀ c0 : Array Value, c0.size = len * sz → Instr.fill (fun i => some (i * sz, sz)) c0 vs = some cs.toArray := fun c0 h0 => by
    rw [fill_lit sz vs 0 c0 hl (by rw [Nat.zero_add, hn]; omega), hc]
    congr 1
    apply Array.ext_getElem?
    intro j
    rw [wr_get _ _ _ _ (by omega)]
    by_cases hj : j < len * sz
    · rw [if_pos (by omega)]; simp
    · rw [if_neg (by omega), Array.getElem?_eq_none (by omega), Array.getElem?_eq_none (by simp only [List.size_toArray]; omega)]
  have hno : ¬ (16777216 < len * sz) := by omega
  have hfill2 : Instr.fill (fun j => some (j * i.size, i.size)) ((Array.range (len * i.size)).map (fun j => zv.cells[j % zv.cells.size]!)) vs = some cs.toArray := by rw [k2]; exact hfill _ (by simp)
  refine ⟨.value _, _, _, _, .inl rfl, ⟨w.heap.size, rfl, rfl⟩, ?_, s.alloc (.row e sz (some ⟨w.heap.size, 0, none⟩) len len cs) (.cells cs.toArray e (0, 0)) ?_⟩
  · by_cases h0 : len * i.size = 0
    · have hfill3 : Instr.fill (fun j => some (j * i.size, i.size)) ((Array.range (len * i.size)).map (fun j => (#[] : Array Value)[j % (#[] : Array Value).size]!)) vs = some cs.toArray := by rw [k2]; exact hfill _ (by simp)
      have h0' := h0
      rw [k2] at h0'
      simp only [exo, execOp, Instr.buildSlice, Sem.run_bind, run_underlying ht, Result.andThen_ok, sizeOf, typeInfo, run_program, hi, Sem.run_pure]
      rw [if_neg (by rw [k2]; exact hno)]
      simp only [h0, if_true, List.map_toArray, hev, Sem.run_pure, Result.andThen_ok, Sem.run_bind]
      rw [h0] at hfill3
      rw [hfill3]
      rfl
    · simp only [exo, execOp, Instr.buildSlice, Sem.run_bind, run_underlying ht, Result.andThen_ok, sizeOf, typeInfo, run_program, hi, Sem.run_pure]
      rw [if_neg (by rw [k2]; exact hno)]
      simp only [h0, if_false, List.map_toArray, hev, Sem.run_pure, Result.andThen_ok, Sem.run_bind, zeroValue, typeInfo, run_program, hi, hzz]
      rw [hfill2]
      rfl
  · refine ⟨hcl, .inr ⟨_, _, _, rfl, Hp.one_at _ _, .inl rfl, Nat.le_refl _, by simp only [maxLen]; omega, by rw [List.size_toArray, hcl], ?_⟩⟩
    rw [← hcl]; simp
end
end Go.SL
