/-
  The client, as data: its cells, its memory, what each of its acts makes of it. No program in sight.
-/
import Derived.Test.YtppngeebdmbeaaaSlI
set_option linter.unusedSimpArgs false
namespace Go.Cli
open Go Go.SL

structure WvV where
  after : SL Int
  clu : SL Int
  bake : Int
instance : Inhabited WvV := ⟨⟨default, default, 0⟩⟩
def encW (w : WvV) : List Value := [w.after.v, w.clu.v, .int .i64 w.bake]
def WvD (w : WvV) : List Int × List Int × Int := (w.after.xs, w.clu.xs, w.bake)
theorem oneW (xs : List WvV) : ∀ u ∈ xs.flatMap encW, u.oneCell' = true := fun u hu => by
  obtain ⟨b, _, hb⟩ := List.mem_flatMap.1 hu
  simp [encW] at hb
  rcases hb with rfl | rfl | rfl <;> rfl
structure AskV where
  kind : Int
  client : Int
  seq : Int
  okind : Int
  ocl : Int
  onum : Int
  good : Bool
  bud : Int
  bad : Int
  waves : SL WvV
  cdo : Int
  cid : Int
def encAsk (a : AskV) : List Value := [.int .i64 a.kind, .int .i64 a.client, .int .i64 a.seq, .int .i64 a.okind, .int .i64 a.ocl, .int .i64 a.onum, .bool a.good, .int .i64 a.bud, .int .i64 a.bad, a.waves.v, .int .i64 a.cdo, .int .i64 a.cid]
theorem oneAsk (a : AskV) : ∀ u ∈ encAsk a, u.oneCell' = true := fun u hu => by
  simp [encAsk] at hu
  rcases hu with rfl | rfl | rfl | rfl | rfl | rfl | rfl | rfl | rfl | rfl | rfl | rfl <;> rfl
def askZ : AskV := ⟨0, 0, 0, 0, 0, 0, false, 0, 0, ⟨none, [], 0⟩, 0, 0⟩
/-- the waves' memory -/
def AskMem (w : SL WvV) (h : Hp) : Prop := w.ro encW 3 h ∧ ∀ v ∈ w.xs, v.after.ro encI 1 h ∧ v.clu.ro encI 1 h
def AskRd (ρ : Hp) (Γ : List Asn) (w : SL WvV) : Prop := Rd ρ Γ 3 w.a w.xs.length w.cap (w.xs.flatMap encW) ∧
  ∀ v ∈ w.xs, Rd ρ Γ 1 v.after.a v.after.xs.length v.after.cap (v.after.xs.flatMap encI) ∧ Rd ρ Γ 1 v.clu.a v.clu.xs.length v.clu.cap (v.clu.xs.flatMap encI)
def Small (w : SL WvV) : Prop := w.xs.length ≤ 100000 ∧ ∀ v ∈ w.xs, v.after.xs.length ≤ 100000 ∧ v.clu.xs.length ≤ 100000
theorem askMem_nil (h : Hp) : AskMem ⟨none, [], 0⟩ h := ⟨Ro.nil _ _, fun _ h => by cases h⟩
theorem small_nil : Small ⟨none, [], 0⟩ := ⟨by simp, fun _ h => by cases h⟩
theorem rd_up {ρ : Hp} {Γ Γ' : List Asn} {sz n cap : Nat} {a : Option Addr} {cs : List Value} (rd : Rd ρ Γ sz a n cap cs) (e : Ent Γ' Γ) : Rd ρ Γ' sz a n cap cs := fun E w s => rd E w (s.ent e)
theorem Ent.app (Γ Δ : List Asn) : Ent (Γ ++ Δ) Γ := fun h s => by
  obtain ⟨k1, _, _, l1, _, s1, _⟩ := star_split s
  exact star_up l1 s1
theorem askRd_up {ρ : Hp} {Γ Γ' : List Asn} {w : SL WvV} (h : AskRd ρ Γ w) (e : Ent Γ' Γ) : AskRd ρ Γ' w := ⟨rd_up h.1 e, fun v hv => ⟨rd_up (h.2 v hv).1 e, rd_up (h.2 v hv).2 e⟩⟩
theorem askRd_ro {ρ : Hp} {Γ : List Asn} {w : SL WvV} (h : AskMem w ρ) : AskRd ρ Γ w := ⟨rd_ro h.1, fun v hv => ⟨rd_ro (h.2 v hv).1, rd_ro (h.2 v hv).2⟩⟩
theorem askRd_raw {ρ : Hp} {Γ : List Asn} {w : SL WvV} (p : Pick (.raw (AskMem w)) [.raw (AskMem w)] Γ Γ) : AskRd ρ Γ w :=
  ⟨rd_raw p fun _ h => h.1, fun v hv => ⟨rd_raw p fun _ h => (h.2 v hv).1, rd_raw p fun _ h => (h.2 v hv).2⟩⟩

/-! ### own: the waves, cloned one by one -/
structure OW where
  k : Nat
  ws : List WvV
def OwMem (x : OW) (h : Hp) : Prop := ∀ i, i < x.k → (x.ws.getD i default).after.ro encI 1 h ∧ (x.ws.getD i default).clu.ro encI 1 h
def OwJ (xs : List WvV) (x : OW) : Prop := x.k ≤ xs.length ∧ x.ws.length = xs.length ∧ x.ws.map WvD = xs.map WvD ∧ ∀ i, x.k ≤ i → i < xs.length → x.ws.getD i default = xs.getD i default
theorem getD_set_self {α : Type} [Inhabited α] (l : List α) (k : Nat) (h : k < l.length) (v : α) : (l.set k v).getD k default = v := by simp [List.getD, h]
theorem getD_set_ne {α : Type} [Inhabited α] (l : List α) (k i : Nat) (h : k ≠ i) (v : α) : (l.set k v).getD i default = l.getD i default := by simp [List.getD, List.getElem?_set_ne h]
theorem map_set_same {α β : Type} [Inhabited α] (f : α → β) (l : List α) (k : Nat) (v : α) (hk : k < l.length) (h : f v = f (l.getD k default)) : (l.set k v).map f = l.map f := by
  apply List.ext_getElem?
  intro i
  rw [List.getElem?_map, List.getElem?_map, List.getElem?_set]
  by_cases e : k = i
  · subst e
    simp only [if_true, if_pos hk, Option.map_some]
    rw [h]
    simp [List.getD, hk]
  · rw [if_neg e]
theorem owJ_next {xs : List WvV} {x : OW} (h : OwJ xs x) (hk : x.k < xs.length) {w : WvV} (hw : WvD w = WvD (xs.getD x.k default)) : OwJ xs ⟨x.k + 1, x.ws.set x.k w⟩ := by
  obtain ⟨h1, h2, h3, h4⟩ := h
  refine ⟨hk, by simp [h2], ?_, fun i hi hi2 => ?_⟩
  · rw [map_set_same WvD x.ws x.k w (by omega) (by rw [hw, h4 x.k (Nat.le_refl _) hk]), h3]
  · show (x.ws.set x.k w).getD i default = _
    have hi' : x.k + 1 ≤ i := hi
    rw [getD_set_ne _ _ _ (by omega)]
    exact h4 i (by omega) hi2
theorem own_pack {x : OW} {s t : SL Int} {n1 n2 : Nat} {T1 T2 : TypeId} {z : Int} {Γ : List Asn} (hk : x.k < x.ws.length) (h1 : s.xs.length = n1) (h2 : t.xs.length = n2) :
    Ent ([.row T2 1 t.a n2 t.cap (t.xs.flatMap encI), .row T1 1 s.a n1 s.cap (s.xs.flatMap encI), .raw (OwMem x)] ++ Γ) (.raw (OwMem ⟨x.k + 1, x.ws.set x.k ⟨s, t, z⟩⟩) :: Γ) := by
  refine Ent.pack fun h st => ?_
  obtain ⟨a1, a2, l1, l2, b1, st⟩ := star_cons st
  obtain ⟨a3, a4, l3, l4, b2, st⟩ := star_cons st
  obtain ⟨a5, a6, l5, l6, b3, st⟩ := star_cons st
  intro i hi
  have hi' : i < x.k + 1 := hi
  show ((x.ws.set x.k ⟨s, t, z⟩).getD i default).after.ro encI 1 h ∧ ((x.ws.set x.k ⟨s, t, z⟩).getD i default).clu.ro encI 1 h
  by_cases e : x.k = i
  · subst e
    rw [getD_set_self _ _ hk]
    exact ⟨SL.ro_mono (l3.le_trans l2) (SL.ro_row h1 b2), SL.ro_mono l1 (SL.ro_row h2 b1)⟩
  · rw [getD_set_ne _ _ _ e]
    have l := l5.le_trans (l4.le_trans l2)
    obtain ⟨q1, q2⟩ := b3 i (by omega)
    exact ⟨SL.ro_mono l q1, SL.ro_mono l q2⟩
theorem own_done {xs : List WvV} {x : OW} {a : Option Addr} {cap n : Nat} {T : TypeId} {Γ : List Asn} (h : OwJ xs x) (hk : x.k = xs.length) (hn : x.ws.length = n) :
    Ent ([.row T 3 a n cap (x.ws.flatMap encW), .raw (OwMem x)] ++ Γ) (.raw (AskMem ⟨a, x.ws, cap⟩) :: Γ) := by
  refine Ent.pack fun m st => ?_
  obtain ⟨a1, a2, l1, l2, b1, st⟩ := star_cons st
  obtain ⟨a3, a4, l3, l4, b2, st⟩ := star_cons st
  refine ⟨SL.ro_mono l1 (SL.ro_row (s := ⟨a, x.ws, cap⟩) hn b1), fun v hv => ?_⟩
  obtain ⟨i, hi, rfl⟩ := List.getElem_of_mem hv
  have hi0 : i < x.ws.length := hi
  have hi' : i < x.k := by rw [hk, ← h.2.1]; exact hi0
  obtain ⟨q1, q2⟩ := b2 i hi'
  have e : x.ws.getD i default = x.ws[i] := by simp [List.getD, hi0]
  rw [e] at q1 q2
  have l := l3.le_trans l2
  exact ⟨SL.ro_mono l q1, SL.ro_mono l q2⟩

theorem own_next {x : OW} {s t : SL Int} {n1 n2 : Nat} {T1 T2 : TypeId} {z : Int} {Γ : List Asn} {R B : Asn} (hk : x.k < x.ws.length) (h1 : s.xs.length = n1) (h2 : t.xs.length = n2) :
    Ent (.row T2 1 t.a n2 t.cap (t.xs.flatMap encI) :: .row T1 1 s.a n1 s.cap (s.xs.flatMap encI) :: B :: R :: .raw (OwMem x) :: Γ) (R :: .raw (OwMem ⟨x.k + 1, x.ws.set x.k ⟨s, t, z⟩⟩) :: Γ) :=
  Ent.trans (Ent.pick Pick.here (Ent.pick Pick.here (Ent.pick (Pick.there (Pick.there Pick.here)) (Ent.pick (Pick.there Pick.here) (Ent.skip (Ent.refl _))))))
    (Ent.trans (own_pack (Γ := R :: Γ) hk h1 h2) (Ent.pick (Pick.there Pick.here) (Ent.refl _)))
theorem oneW1 (w : WvV) : ∀ u ∈ encW w, u.oneCell' = true := fun u hu => by
  simp [encW] at hu
  rcases hu with rfl | rfl | rfl <;> rfl
theorem sel_app (Γ Δ : List Asn) : Sel Γ (Γ ++ Δ) Δ := by
  induction Γ with
  | nil => exact Sel.nil
  | cons A Γ ih => exact Sel.cons Pick.here ih

/-! ### The client -/
structure PlV where
  c : Int
  wave : Int
  st : Int
  ord : Int
  ver : Int
instance : Inhabited PlV := ⟨⟨0, 0, 0, 0, 0⟩⟩
def encPl (p : PlV) : List Value := [.int .i64 p.c, .int .i64 p.wave, .int .i64 p.st, .int .i64 p.ord, .int .i64 p.ver]
structure RepV where
  client : Int
  seq : Int
  err : Int
  leads : Int
  index : Int
  now : Int
  epoch : Int
  mode : Int
  rollout : Int
  left : Int
  places : SL PlV
  over : SL Bool
  sicks : SL Int
instance : Inhabited RepV := ⟨⟨0, 0, 0, 0, 0, 0, 0, 0, 0, 0, default, default, default⟩⟩
def encRep (r : RepV) : List Value := [.int .i64 r.client, .int .i64 r.seq, .int .i64 r.err, .int .i64 r.leads, .int .i64 r.index, .int .i64 r.now, .int .i64 r.epoch, .int .i64 r.mode, .int .i64 r.rollout, .int .i64 r.left, r.places.v, r.over.v, r.sicks.v]
theorem oneRep (a : RepV) : ∀ u ∈ encRep a, u.oneCell' = true := fun u hu => by
  simp [encRep] at hu
  rcases hu with rfl | rfl | rfl | rfl | rfl | rfl | rfl | rfl | rfl | rfl | rfl | rfl | rfl <;> rfl
def repZ : RepV := ⟨0, 0, 0, 0, 0, 0, 0, 0, 0, 0, ⟨none, [], 0⟩, ⟨none, [], 0⟩, ⟨none, [], 0⟩⟩
structure Cl where
  id : Int
  span : Int
  row : SL Int
  at_ : Nat
  seq : Int
  ask : AskV
  on : Bool
  st : Int
  since : Int
  last : RepV
  over : Bool
def encCli (c : Cl) : List Value := [.int .i64 c.id, .int .i64 c.span, c.row.v, .int .i64 c.at_, .int .i64 c.seq,
  .int .i64 c.ask.kind, .int .i64 c.ask.client, .int .i64 c.ask.seq, .int .i64 c.ask.okind, .int .i64 c.ask.ocl, .int .i64 c.ask.onum, .bool c.ask.good, .int .i64 c.ask.bud, .int .i64 c.ask.bad, c.ask.waves.v, .int .i64 c.ask.cdo, .int .i64 c.ask.cid,
  .bool c.on, .int .i64 c.st, .int .i64 c.since,
  .int .i64 c.last.client, .int .i64 c.last.seq, .int .i64 c.last.err, .int .i64 c.last.leads, .int .i64 c.last.index, .int .i64 c.last.now, .int .i64 c.last.epoch, .int .i64 c.last.mode, .int .i64 c.last.rollout, .int .i64 c.last.left, c.last.places.v, c.last.over.v, c.last.sicks.v, .bool c.over]
def Cl.new (id span : Int) (row : SL Int) : Cl := ⟨id, span, row, 0, 0, askZ, false, 0, 0, repZ, false⟩
/-- a client's memory -/
def CliM (T3 T : TypeId) (b : Nat) (c : Cl) : List Asn := [.pts b (encCli c) T, .row T3 1 c.row.a c.row.xs.length c.row.cap (c.row.xs.flatMap encI), .raw (AskMem c.ask.waves)]
def nextF (c : Cl) : Cl := { c with at_ := (c.at_ + 1) % c.row.xs.length }
def sendsF (c : Cl) : Prop := c.on = true ∧ ¬ (c.st = 1 ∧ c.since + 1 < c.span)
def tick1 (c : Cl) : Cl := { c with since := c.since + 1 }
def tick2 (c : Cl) : Cl := { (if c.st = 1 then nextF (tick1 c) else tick1 c) with st := 1, since := 0 }
def begun (c : Cl) (a : AskV) (w : SL WvV) : Cl := { c with seq := c.seq + 1, ask := { a with waves := w, client := c.id, seq := c.seq + 1 }, on := true, st := 0 }
def idxF (xs : List Int) (z : Int) : Int := if z ∈ xs then (xs.idxOf z : Int) else -1
def mineB (c : Cl) (r : RepV) : Prop := c.on = true ∧ r.client = c.id ∧ r.seq = c.seq
def putOff (c : Cl) (r : RepV) : Prop := r.err = 90 ∨ r.err = 92 ∨ (r.err = 91 ∧ c.ask.kind ≠ 1)
def leadTo (c : Cl) (r : RepV) : Cl := if 0 ≤ idxF c.row.xs r.leads ∧ idxF c.row.xs r.leads ≠ (c.at_ : Int) then { c with at_ := (idxF c.row.xs r.leads).toNat } else nextF c
open Classical in
noncomputable def hearF (c : Cl) (r : RepV) : Cl × Bool :=
  if ¬ mineB c r then (c, false) else if putOff c r then ({ leadTo c r with st := 2 }, false) else ({ c with on := false, over := true, last := r }, true)
def newOk (id span : Int) (row : List Int) : Prop := (0 ≤ id ∧ id < 1099511627776 ∧ 1 ≤ span ∧ span ≤ 1048576 ∧ row ≠ []) ∧ (∀ z ∈ row, 0 ≤ z) ∧ row.Nodup
instance (id span : Int) (row : List Int) : Decidable (newOk id span row) := by unfold newOk; infer_instance
theorem idxOf_take {xs : List Int} {z : Int} {k : Nat} (hk : k < xs.length) (h : z ∉ xs.take k) (e : z = xs.getD k default) : idxF xs z = (k : Int) := by
  have hm : z ∈ xs := by rw [e]; exact getD_mem xs k hk
  unfold idxF
  rw [if_pos hm]
  have e1 : xs = xs.take k ++ xs.drop k := (List.take_append_drop k xs).symm
  have e2 : xs.drop k = z :: xs.drop (k + 1) := by
    rw [List.drop_eq_getElem_cons hk, e]; simp [List.getD, hk]
  have : xs.idxOf z = k := by
    rw [e1, List.idxOf_append, if_neg h, e2, List.idxOf_cons_self, List.length_take]
    omega
  rw [this]
theorem idx_none {xs : List Int} {z : Int} (h : z ∉ xs) : idxF xs z = -1 := by unfold idxF; rw [if_neg h]
theorem not_take_succ {xs : List Int} {z : Int} {k : Nat} (hk : k < xs.length) (h : z ∉ xs.take k) (e : ¬ z = xs.getD k default) : z ∉ xs.take (k + 1) := fun hm => by
  rw [take_succ_getD xs k hk] at hm
  rcases List.mem_append.1 hm with h1 | h1
  · exact h h1
  · exact e (List.mem_singleton.1 h1)
theorem idx_ge (xs : List Int) (z : Int) : (0 ≤ idxF xs z) ↔ z ∈ xs := by
  unfold idxF
  by_cases h : z ∈ xs
  · simp [h]
  · simp [h]
theorem idx_lt {xs : List Int} {z : Int} (h : 0 ≤ idxF xs z) : (idxF xs z).toNat < xs.length := by
  have hm := (idx_ge xs z).1 h
  unfold idxF
  rw [if_pos hm]
  simpa using List.idxOf_lt_length_of_mem hm
theorem rd_takee {α : Type} {en : α → List Value} {ρ : Hp} {Γ : List Asn} {sz m cap : Nat} {a : Option Addr} {xs : List α} (he : ∀ x, (en x).length = sz) (rd : Rd ρ Γ sz a m cap (xs.flatMap en)) (k : Nat) (hk : k ≤ m) : Rd ρ Γ sz a k cap ((xs.take k).flatMap en) := by
  rw [← flat_take he]; exact Rd.take rd k hk
theorem mem_take_of {xs : List Int} {j k : Nat} (h : j < k) (hj : j < xs.length) : xs.getD j default ∈ xs.take k := by
  have e : xs.getD j default = xs[j] := by simp [List.getD, hj]
  rw [e, List.mem_take_iff_getElem]
  exact ⟨j, by omega, rfl⟩
structure CliOk (c : Cl) : Prop where
  at_lt : c.at_ < c.row.xs.length
  row_le : c.row.xs.length ≤ 1000000000
  small : Small c.ask.waves
theorem next_ok {c : Cl} (h : CliOk c) : CliOk (nextF c) := ⟨Nat.mod_lt _ (Nat.lt_of_le_of_lt (Nat.zero_le _) h.at_lt), h.row_le, h.small⟩
theorem tick1_ok {c : Cl} (h : CliOk c) : CliOk (tick1 c) := ⟨h.at_lt, h.row_le, h.small⟩
theorem tick2_ok {c : Cl} (h : CliOk c) : CliOk (tick2 c) := by
  unfold tick2
  split
  · exact ⟨(next_ok h).at_lt, h.row_le, h.small⟩
  · exact ⟨h.at_lt, h.row_le, h.small⟩
theorem tick2_yes {c : Cl} (h : c.st = 1) : tick2 c = { nextF (tick1 c) with st := 1, since := 0 } := by unfold tick2; rw [if_pos h]
theorem tick2_no {c : Cl} (h : ¬ c.st = 1) : tick2 c = { tick1 c with st := 1, since := 0 } := by unfold tick2; rw [if_neg h]
theorem lead_ok {c : Cl} (r : RepV) (h : CliOk c) : CliOk (leadTo c r) := by
  unfold leadTo
  split
  · rename_i hc; exact ⟨idx_lt hc.1, h.row_le, h.small⟩
  · exact next_ok h
theorem lead_yes {c : Cl} {r : RepV} (h1 : 0 ≤ idxF c.row.xs r.leads) (h2 : idxF c.row.xs r.leads ≠ (c.at_ : Int)) : leadTo c r = { c with at_ := (idxF c.row.xs r.leads).toNat } := by unfold leadTo; rw [if_pos ⟨h1, h2⟩]
theorem lead_no {c : Cl} {r : RepV} (h : ¬ (0 ≤ idxF c.row.xs r.leads ∧ idxF c.row.xs r.leads ≠ (c.at_ : Int))) : leadTo c r = nextF c := by unfold leadTo; rw [if_neg h]
theorem hear_no {c : Cl} {r : RepV} (h : ¬ mineB c r) : hearF c r = (c, false) := by unfold hearF; rw [if_pos h]
theorem hear_off {c : Cl} {r : RepV} (h : mineB c r) (h2 : putOff c r) : hearF c r = ({ leadTo c r with st := 2 }, false) := by unfold hearF; rw [if_neg (fun h' => h' h), if_pos h2]
theorem hear_over {c : Cl} {r : RepV} (h : mineB c r) (h2 : ¬ putOff c r) : hearF c r = ({ c with on := false, over := true, last := r }, true) := by unfold hearF; rw [if_neg (fun h' => h' h), if_neg h2]
theorem hear_ok {c : Cl} (r : RepV) (h : CliOk c) : CliOk (hearF c r).1 := by
  by_cases h1 : mineB c r
  · by_cases h2 : putOff c r
    · rw [hear_off h1 h2]
      have := lead_ok r h
      exact ⟨this.at_lt, this.row_le, this.small⟩
    · rw [hear_over h1 h2]; exact ⟨h.at_lt, h.row_le, h.small⟩
  · rw [hear_no h1]; exact h
noncomputable def hearN (c : Cl) (l : List RepV) : Cl × Nat := l.foldl (fun p r => ((hearF p.1 r).1, p.2 + if (hearF p.1 r).2 = true then 1 else 0)) (c, 0)
theorem hearN_succ (c : Cl) (l : List RepV) (k : Nat) (hk : k < l.length) : hearN c (l.take (k + 1)) = ((hearF (hearN c (l.take k)).1 (l.getD k default)).1, (hearN c (l.take k)).2 + if (hearF (hearN c (l.take k)).1 (l.getD k default)).2 = true then 1 else 0) := by
  rw [take_succ_getD l k hk]
  unfold hearN
  rw [List.foldl_append]; rfl
theorem hearN_ok {c : Cl} (h : CliOk c) (l : List RepV) : ∀ k, k ≤ l.length → CliOk (hearN c (l.take k)).1 ∧ (hearN c (l.take k)).2 ≤ k
  | 0, _ => ⟨h, Nat.le_refl _⟩
  | k + 1, hk => by
    obtain ⟨h1, h2⟩ := hearN_ok h l k (by omega)
    rw [hearN_succ c l k (by omega)]
    refine ⟨hear_ok _ h1, ?_⟩
    show _ + _ ≤ _
    split <;> omega
theorem nodup_take_succ {xs : List Int} {k : Nat} (hk : k < xs.length) (h : (xs.take k).Nodup) (hn : ¬ xs.getD k default ∈ xs.take k) : (xs.take (k + 1)).Nodup := by
  rw [take_succ_getD xs k hk]
  refine List.nodup_append.2 ⟨h, by simp, fun a ha b hb => ?_⟩
  rw [List.mem_singleton.1 hb]
  exact fun e => hn (e ▸ ha)
theorem not_nodup {xs : List Int} {k : Nat} (hk : k < xs.length) (h : xs.getD k default ∈ xs.take k) : ¬ xs.Nodup := fun hn => by
  have e : xs.take k ++ xs.drop k = xs := List.take_append_drop k xs
  rw [← e] at hn
  have hm : xs.getD k default ∈ xs.drop k := by
    have e2 : xs.getD k default = xs[k] := by simp [List.getD, hk]
    rw [e2, List.drop_eq_getElem_cons hk]
    exact List.mem_cons_self
  exact (List.nodup_append.1 hn).2.2 _ h _ hm rfl
theorem nonneg_take_succ {xs : List Int} {k : Nat} (hk : k < xs.length) (h : ∀ z ∈ xs.take k, 0 ≤ z) (hn : ¬ xs.getD k default < 0) : ∀ z ∈ xs.take (k + 1), 0 ≤ z := fun z hz => by
  rw [take_succ_getD xs k hk] at hz
  rcases List.mem_append.1 hz with h1 | h1
  · exact h z h1
  · rw [List.mem_singleton.1 h1]; omega
end Go.Cli
