/-
  An agent that hears and works, in plain words; what AgentOnce holds on to. No program in sight.
-/
import Derived.Test.YtehaoafnobnneaaGreatDoorAgnK
set_option linter.unusedVariables false
set_option linter.unusedSimpArgs false
namespace Go.Agn
open Go Go.SL Go.Mou Go.Dsk Go.Sm Go.Hrd
def rightB (l : List Int) : Bool := l.all fun n => decide (0 ≤ n) && decide (n < 1099511627776)
def mayF (f : Fence1) (o : Order1) : Int := if (decide (o.ID < 1) || !rightB [o.ID, o.Epoch, o.Cluster, o.Version]) = true then 2 else if o.ID = f.ID then 131 else if (decide (o.ID < f.ID) || decide (o.Epoch < f.Epoch)) = true then 70 else 0
def hearK (k : Kept1) (o : Order1) : Kept1 := ⟨⟨o.ID, o.Epoch⟩, k.version, k.done, o.ID, o.Version⟩
def tickK (k : Kept1) : Kept1 := ⟨k.Fence, k.to_, k.at_, 0, 0⟩
def hearP (room calls : Int) (V : FV) (cl : Int) (k : Kept1) (w : Int) (dn : Bool) (o : Order1) : Int × FV × Int × Kept1 × Int × Bool :=
  if dn = true then (92, V, calls, k, w, dn) else if o.Cluster ≠ cl then (122, V, calls, k, w, dn)
  else if mayF k.Fence o ≠ 0 then (mayF k.Fence o, V, calls, k, w, dn) else if k.at_ ≠ 0 then (91, V, calls, k, w, dn)
  else if (keepS room calls V (hearK k o)).1 = 0 then (0, (keepS room calls V (hearK k o)).2.1, (keepS room calls V (hearK k o)).2.2, hearK k o, 0, dn)
  else (92, (keepS room calls V (hearK k o)).2.1, (keepS room calls V (hearK k o)).2.2, k, w, true)
def tickP (room calls : Int) (V : FV) (work : Int) (k : Kept1) (w : Int) (dn : Bool) : Bool × FV × Int × Kept1 × Int × Bool :=
  if dn = true ∨ k.at_ = 0 then (false, V, calls, k, w, dn) else if w + 1 < work then (false, V, calls, k, w + 1, dn)
  else if (keepS room calls V (tickK k)).1 = 0 then (true, (keepS room calls V (tickK k)).2.1, (keepS room calls V (tickK k)).2.2, tickK k, w + 1, dn)
  else (false, (keepS room calls V (tickK k)).2.1, (keepS room calls V (tickK k)).2.2, k, w + 1, true)
theorem may_zero {f : Fence1} {o : Order1} (h : mayF f o = 0) : 1 ≤ o.ID ∧ o.ID < 1099511627776 ∧ 0 ≤ o.Epoch ∧ o.Epoch < 1099511627776 ∧ 0 ≤ o.Version ∧ o.Version < 1099511627776 ∧ f.ID < o.ID ∧ f.Epoch ≤ o.Epoch := by
  unfold mayF at h
  split at h
  · cases h
  · rename_i h1
    split at h
    · cases h
    · rename_i h2
      split at h
      · cases h
      · rename_i h3
        simp only [rightB, List.all_cons, List.all_nil, Bool.and_true, Bool.or_eq_true, Bool.not_eq_true', decide_eq_true_eq, not_or, Bool.not_eq_false, Bool.and_eq_true] at h1 h3
        omega
theorem may_vals (f : Fence1) (o : Order1) : mayF f o = 0 ∨ mayF f o = 2 ∨ mayF f o = 131 ∨ mayF f o = 70 := by
  unfold mayF
  split
  · exact .inr (.inl rfl)
  · split
    · exact .inr (.inr (.inl rfl))
    · split
      · exact .inr (.inr (.inr rfl))
      · exact .inl rfl
theorem kok_at {k : Kept1} (h : KOk k) : (0 ≤ k.Fence.ID ∧ k.Fence.ID < 4611686018427387904) ∧ (0 ≤ k.Fence.Epoch ∧ k.Fence.Epoch < 4611686018427387904) ∧ (0 ≤ k.version ∧ k.version < 4611686018427387904) ∧ (0 ≤ k.done ∧ k.done < 4611686018427387904) ∧ (0 ≤ k.at_ ∧ k.at_ < 4611686018427387904) ∧ (0 ≤ k.to_ ∧ k.to_ < 4611686018427387904) :=
  ⟨h _ (by simp [kL]), h _ (by simp [kL]), h _ (by simp [kL]), h _ (by simp [kL]), h _ (by simp [kL]), h _ (by simp [kL])⟩
theorem hear_ok {k : Kept1} {o : Order1} (h : KOk k) (hm : mayF k.Fence o = 0) : KOk (hearK k o) := by
  obtain ⟨a1, a2, a3, a4, a5, a6, -, -⟩ := may_zero hm
  obtain ⟨-, -, b3, b4, -, -⟩ := kok_at h
  intro n hn
  simp only [kL, hearK, List.mem_cons, List.not_mem_nil, or_false] at hn
  rcases hn with rfl | rfl | rfl | rfl | rfl | rfl <;> omega
theorem tick_ok {k : Kept1} (h : KOk k) : KOk (tickK k) := by
  obtain ⟨b1, b2, b3, b4, b5, b6⟩ := kok_at h
  intro n hn
  simp only [kL, tickK, List.mem_cons, List.not_mem_nil, or_false] at hn
  rcases hn with rfl | rfl | rfl | rfl | rfl | rfl <;> omega
structure OF (k : Kept1) (B : List Int) (id ep : Int) : Prop where
  id : id ≤ k.Fence.ID
  ep : ep ≤ k.Fence.Epoch
  bg : ∀ n ∈ B, n ≤ k.Fence.ID
  dn : k.done ≠ 0 → k.done ∈ B
  bz : k.at_ ≠ 0 → k.at_ ∈ B
structure Cb (calls : Int) : Prop where
  lo : -1 ≤ calls
  hi : calls ≤ 9223372036854775807
def HI (V : FV) (calls : Int) (k : Kept1) (dn : Bool) (t : Order1) : Prop :=
  Cb calls ∧ ((dn = false ∧ t.ID = 0 ∧ AI V k) ∨ (dn = true ∧ t.ID ≠ 0 ∧ Rdy V k (hearK k t) ∧ mayF k.Fence t = 0 ∧ k.at_ = 0 ∧ KOk k))
theorem of_hear {k : Kept1} {o : Order1} {B : List Int} {id ep : Int} (h : OF k B id ep) (hm : mayF k.Fence o = 0) : OF (hearK k o) (B ++ [o.ID]) id ep := by
  obtain ⟨a1, -, -, -, -, -, a7, a8⟩ := may_zero hm
  refine ⟨?_, ?_, fun n hn => ?_, fun q => List.mem_append.2 (.inl (h.dn q)), fun _ => by simp [hearK]⟩
  · have := h.id; show id ≤ o.ID; omega
  · have := h.ep; show ep ≤ o.Epoch; omega
  · show n ≤ o.ID
    rcases List.mem_append.1 hn with hn | hn
    · have := h.bg n hn; omega
    · rw [List.mem_singleton.1 hn]; exact Int.le_refl _
theorem of_tick {k : Kept1} {B : List Int} {id ep : Int} (h : OF k B id ep) : OF (tickK k) B id ep := ⟨h.id, h.ep, h.bg, h.bz, fun q => absurd rfl q⟩
theorem of_up {k : Kept1} {B : List Int} {id ep : Int} (h : OF k B id ep) : OF k B k.Fence.ID k.Fence.Epoch := ⟨Int.le_refl _, Int.le_refl _, h.bg, h.dn, h.bz⟩
theorem not_begun {k : Kept1} {o : Order1} {B : List Int} {id ep : Int} (h : OF k B id ep) (hm : mayF k.Fence o = 0) : o.ID ∉ B := fun hb => by
  have := h.bg _ hb
  have := (may_zero hm).2.2.2.2.2.2.1
  omega
section
variable {room calls w : Int} {V : FV} {k : Kept1} {dn : Bool} {t o : Order1} {B : List Int} {id ep : Int}
theorem hear4 (h : HI V calls k dn t) (hf : OF k B id ep) (hr : 1000 ≤ room) {cl : Int} (hcl : o.Cluster = cl) :
    (∃ V' c', hearP room calls V cl k w dn o = (0, V', c', hearK k o, 0, false) ∧ dn = false ∧ k.at_ = 0 ∧ o.ID ∉ B ∧ HI V' c' (hearK k o) false t ∧ OF (hearK k o) (B ++ [o.ID]) id ep) ∨
    (∃ e, hearP room calls V cl k w dn o = (e, V, calls, k, w, dn) ∧ e ≠ 0 ∧ (e = 92 → t.ID ≠ 0)) ∨
    (∃ V' c', hearP room calls V cl k w dn o = (92, V', c', k, w, true) ∧ t.ID = 0 ∧ HI V' c' k true o) := by
  obtain ⟨hc, h | h⟩ := h
  · obtain ⟨h1, h2, h3⟩ := h
    subst h1
    unfold hearP
    rw [if_neg (by decide), if_neg (fun q => q hcl)]
    by_cases hm : mayF k.Fence o = 0
    · rw [if_neg (fun q => q hm)]
      by_cases ha : k.at_ = 0
      · rw [if_neg (fun q => q ha)]
        have hk := hear_ok h3.kk hm
        obtain ⟨⟨b1, b2, b3⟩, b4⟩ := keep_any (room := room) (calls := calls) h3 hk hr hc.lo
        rcases b4 with ⟨e1, e2⟩ | ⟨e1, e2⟩
        · rw [if_pos e1]
          exact .inl ⟨_, _, rfl, rfl, ha, not_begun hf hm, ⟨⟨b1, b2 hc.hi⟩, .inl ⟨rfl, h2, e2⟩⟩, of_hear hf hm⟩
        · rw [if_neg (by rw [e1]; decide)]
          exact .inr (.inr ⟨_, _, rfl, h2, ⟨⟨b1, b2 hc.hi⟩, .inr ⟨rfl, by have := (may_zero hm).1; omega, e2, hm, ha, h3.kk⟩⟩⟩)
      · rw [if_pos ha]
        exact .inr (.inl ⟨_, rfl, by decide, fun q => by cases q⟩)
    · rw [if_pos hm]
      refine .inr (.inl ⟨_, rfl, hm, fun q => ?_⟩)
      rcases may_vals k.Fence o with e | e | e | e <;> rw [e] at q <;> cases q
  · obtain ⟨h1, h2, -⟩ := h
    subst h1
    unfold hearP
    rw [if_pos rfl]
    exact .inr (.inl ⟨_, rfl, by decide, fun _ => h2⟩)
theorem tick3 (hc : Cb calls) (h : AI V k) (hf : OF k B id ep) (hr : 1000 ≤ room) {work : Int} :
    (∃ V' c', tickP room calls V work k w false = (true, V', c', tickK k, w + 1, false) ∧ k.at_ ≠ 0 ∧ Cb c' ∧ AI V' (tickK k) ∧ OF (tickK k) B id ep) ∨
    (∃ w', tickP room calls V work k w false = (false, V, calls, k, w', false) ∧ (w' = w ∨ w' = w + 1)) ∨
    (∃ V' c', tickP room calls V work k w false = (false, V', c', k, w + 1, true) ∧ k.at_ ≠ 0 ∧ Cb c' ∧ Rdy V' k (tickK k)) := by
  unfold tickP
  by_cases ha : k.at_ = 0
  · rw [if_pos (.inr ha)]
    exact .inr (.inl ⟨_, rfl, .inl rfl⟩)
  · rw [if_neg (by rintro (q | q); cases q; exact ha q)]
    by_cases hw : w + 1 < work
    · rw [if_pos hw]; exact .inr (.inl ⟨_, rfl, .inr rfl⟩)
    · rw [if_neg hw]
      obtain ⟨⟨b1, b2, b3⟩, b4⟩ := keep_any (room := room) (calls := calls) h (tick_ok h.kk) hr hc.lo
      rcases b4 with ⟨e1, e2⟩ | ⟨e1, e2⟩
      · rw [if_pos e1]; exact .inl ⟨_, _, rfl, ha, ⟨b1, b2 hc.hi⟩, e2, of_tick hf⟩
      · rw [if_neg (by rw [e1]; decide)]; exact .inr (.inr ⟨_, _, rfl, ha, ⟨b1, b2 hc.hi⟩, e2⟩)
/-- at an act's end -/
def EI (V : FV) (k k2 : Kept1) (dn : Bool) (t : Order1) : Prop :=
  (dn = false ∧ AI V k ∧ k2 = k) ∨ (dn = true ∧ Rdy V k k2 ∧ ((k.at_ = 0 ∧ k2 = hearK k t ∧ t.ID ≠ 0 ∧ mayF k.Fence t = 0) ∨ (k.at_ ≠ 0 ∧ k2 = tickK k)))
theorem HI.ei (h : HI V calls k dn t) : EI V k (if dn = true then hearK k t else k) dn t := by
  obtain ⟨-, ⟨h1, h2, h3⟩ | ⟨h1, h2, h3, h4, h5, h6⟩⟩ := h
  · subst h1; exact .inl ⟨rfl, h3, if_neg (by decide)⟩
  · subst h1; rw [if_pos rfl]; exact .inr ⟨rfl, h3, .inl ⟨h5, rfl, h2, h4⟩⟩
theorem EI.vok {k2 : Kept1} (h : EI V k k2 dn t) : VOk V ∧ usedV V ≤ 2000 := by
  rcases h with ⟨-, h, -⟩ | ⟨-, h, -⟩
  · exact ⟨h.ok, by have := h.used.1; omega⟩
  · exact ⟨h.ok, h.us⟩
/-- behind a crash and an opening: what was kept, or what was being written -/
theorem EI.cr {k2 : Kept1} (h : EI V k k2 dn t) (hf : OF k B id ep) {keep : List Int} {k3 : Kept1} {m : Nat} (hs : Scan (mgetD (crR keep V).1 nA zF).1 zKept1 k3 m) :
    AI (opnV (crR keep V).1 m) k3 ∧ ((k3 = k) ∨ (k3 = hearK k t ∧ k.at_ = 0 ∧ t.ID ≠ 0 ∧ t.ID ∉ B ∧ OF (hearK k t) (B ++ [t.ID]) id ep) ∨ (k3 = tickK k ∧ k.at_ ≠ 0 ∧ OF (tickK k) B id ep)) := by
  rcases h with ⟨-, h, h2⟩ | ⟨-, h, h2⟩
  · obtain ⟨a1, a2⟩ := (h.rdy h.kk).cr keep k3 m hs
    exact ⟨a2, .inl (a1.elim (fun q => q) (fun q => q))⟩
  · obtain ⟨a1, a2⟩ := h.cr keep k3 m hs
    refine ⟨a2, ?_⟩
    rcases a1 with e | e
    · exact .inl e
    · rcases h2 with ⟨c1, c2, c3, c4⟩ | ⟨c1, c2⟩
      · exact .inr (.inl ⟨e.trans c2, c1, c3, not_begun hf c4, of_hear hf c4⟩)
      · exact .inr (.inr ⟨e.trans c2, c1, of_tick hf⟩)
end
end Go.Agn
