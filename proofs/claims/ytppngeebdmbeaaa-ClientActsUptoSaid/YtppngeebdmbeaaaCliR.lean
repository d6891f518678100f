/-
  The reference's bytes of a plan; the reference's client, as data. No program in sight.
-/
import Derived.Test.YtppngeebdmbeaaaCliQ
import Derived.Test.YtppngeebdmbeaaaSlJ
set_option linter.unusedSimpArgs false
set_option linter.unusedVariables false
namespace Go.Cli
open Go Go.SL
/-- a number's bytes, the low ones first -/
def lowB (n : Nat) : List UInt8 := if h : n = 0 then [] else UInt8.ofNat (n % 256) :: lowB (n / 256)
termination_by n
decreasing_by exact Nat.div_lt_self (Nat.pos_of_ne_zero h) (by decide)
theorem lowB_zero : lowB 0 = [] := by rw [lowB]; simp
theorem lowB_pos {n : Nat} (h : 0 < n) : lowB n = UInt8.ofNat (n % 256) :: lowB (n / 256) := by rw [lowB, dif_neg (by omega)]
def numB (n : Nat) : List UInt8 := UInt8.ofNat (lowB n).length :: (lowB n).reverse
def u64 (z : Int) : Nat := (IntKind.wrap .u64 z).toNat
theorem u64_eq (z : Int) : IntKind.wrap .u64 z = (u64 z : Int) ∧ u64 z < 18446744073709551616 := by
  obtain ⟨m, h1, h2⟩ := wrap_nat z
  unfold u64
  rw [h1]
  exact ⟨by simp, by simpa using h2⟩
def listB (l : List Int) : List UInt8 := numB l.length ++ l.flatMap fun z => numB (u64 z)
def planB (bud bad : Int) (ws : List (List Int × List Int × Int)) : List UInt8 :=
  numB (u64 bud) ++ numB (u64 bad) ++ numB ws.length ++ ws.flatMap fun w => listB w.1 ++ listB w.2.1 ++ numB (u64 w.2.2)
structure LoS where
  n : Nat
  low : List UInt8
def LoJ (n0 : Nat) (x : LoS) : Prop := x.low ++ lowB x.n = lowB n0 ∧ x.low.length ≤ 8 ∧ x.n < 256 ^ (8 - x.low.length)
theorem loJ_next {n0 : Nat} {x : LoS} (h : LoJ n0 x) (hp : 0 < x.n) : LoJ n0 ⟨x.n / 256, x.low ++ [UInt8.ofNat (x.n % 256)]⟩ ∧ x.low.length < 8 := by
  obtain ⟨h1, h2, h3⟩ := h
  have h4 : x.low.length < 8 := by
    rcases Nat.lt_or_ge x.low.length 8 with h | h
    · exact h
    · have : 8 - x.low.length = 0 := by omega
      rw [this] at h3
      simp at h3; omega
  refine ⟨⟨?_, by simp; omega, ?_⟩, h4⟩
  · rw [← h1, lowB_pos hp]; simp
  · show x.n / 256 < 256 ^ (8 - (x.low ++ [_]).length)
    have e : 256 ^ (8 - x.low.length) = 256 ^ (8 - (x.low ++ [UInt8.ofNat (x.n % 256)]).length) * 256 := by
      rw [← Nat.pow_succ]
      congr 1
      simp; omega
    rw [e] at h3
    exact Nat.div_lt_of_lt_mul (by rw [Nat.mul_comm]; exact h3)
theorem lowB_len {n : Nat} (h : n < 18446744073709551616) : (lowB n).length ≤ 8 := by
  have key : ∀ k n, n < 256 ^ k → (lowB n).length ≤ k := by
    intro k
    induction k with
    | zero => intro n h; simp at h; subst h; rw [lowB_zero]; simp
    | succ k ih =>
      intro n h
      rcases Nat.eq_zero_or_pos n with h0 | h0
      · subst h0; rw [lowB_zero]; simp
      · rw [lowB_pos h0, List.length_cons]
        have := ih (n / 256) (Nat.div_lt_of_lt_mul (by rw [Nat.pow_succ, Nat.mul_comm] at h; exact h))
        omega
  exact key 8 n (by simpa using h)
theorem numB_len {n : Nat} (h : n < 18446744073709551616) : (numB n).length ≤ 9 := by
  have := lowB_len h
  simp [numB]; omega
theorem flat_numB (l : List Int) : (l.flatMap fun z => numB (u64 z)).length ≤ 9 * l.length := by
  induction l with
  | nil => simp
  | cons z l ih =>
    rw [List.flatMap_cons, List.length_append, List.length_cons]
    have := numB_len (u64_eq z).2
    omega
theorem listB_len {l : List Int} (h : l.length ≤ 1000000) : (listB l).length ≤ 9 + 9 * l.length := by
  unfold listB
  rw [List.length_append]
  have := numB_len (n := l.length) (by omega)
  have := flat_numB l
  omega
theorem rev_getD {l : List UInt8} {j : Nat} (h : j < l.length) : l.getD (l.length - 1 - j) default = l.reverse.getD j default := by
  simp [List.getD, List.getElem?_reverse h]
theorem out_len {n j : Nat} {l : List Int} (hn : n ≤ 1000000) (hj : j ≤ 1000000) : (numB n ++ (l.take j).flatMap fun z => numB (u64 z)).length ≤ 10000000 := by
  rw [List.length_append]
  have := numB_len (n := n) (by omega)
  have h2 := flat_numB (l.take j)
  rw [List.length_take] at h2
  omega
def waveB (v : WvV) : List UInt8 := listB v.after.xs ++ listB v.clu.xs ++ numB (u64 v.bake)
theorem planB_eq (bud bad : Int) (xs : List WvV) : planB bud bad (xs.map WvD) = numB (u64 bud) ++ numB (u64 bad) ++ numB xs.length ++ xs.flatMap waveB := by
  unfold planB
  rw [List.length_map, List.flatMap_map]; rfl
theorem waveB_len {v : WvV} (h1 : v.after.xs.length ≤ 100000) (h2 : v.clu.xs.length ≤ 100000) : (waveB v).length ≤ 2000000 := by
  unfold waveB
  rw [List.length_append, List.length_append]
  have a := listB_len (l := v.after.xs) (by omega)
  have b := listB_len (l := v.clu.xs) (by omega)
  have c := numB_len (u64_eq v.bake).2
  omega
theorem flat_waveB {xs : List WvV} (h : ∀ v ∈ xs, v.after.xs.length ≤ 100000 ∧ v.clu.xs.length ≤ 100000) : (xs.flatMap waveB).length ≤ 2000000 * xs.length := by
  induction xs with
  | nil => simp
  | cons v xs ih =>
    rw [List.flatMap_cons, List.length_append, List.length_cons]
    have h1 := h v List.mem_cons_self
    have := waveB_len h1.1 h1.2
    have := ih (fun u hu => h u (List.mem_cons_of_mem _ hu))
    omega
theorem plan_len {n j : Nat} {bud bad : Int} {w : SL WvV} (hs : Small w) (hn : n ≤ 1000000) : (numB (u64 bud) ++ numB (u64 bad) ++ numB n ++ (w.xs.take j).flatMap waveB).length ≤ 1000000000000 := by
  simp only [List.length_append]
  have a := numB_len (u64_eq bud).2
  have b := numB_len (u64_eq bad).2
  have c := numB_len (n := n) (by omega)
  have d := flat_waveB (xs := w.xs.take j) (fun v hv => hs.2 v (List.mem_of_mem_take hv))
  have e := hs.1
  rw [List.length_take] at d
  omega
theorem byte_of (n : Nat) : (n : Int) % 256 = ((UInt8.ofNat (n % 256)).toNat : Int) := by
  have : (UInt8.ofNat (n % 256)).toNat = n % 256 := by simp
  rw [this]; omega
theorem byte_le {n : Nat} (h : n ≤ 8) : (n : Int) = ((UInt8.ofNat n).toNat : Int) := by
  have : (UInt8.ofNat n).toNat = n := by simp; omega
  rw [this]
theorem num_next {L : List UInt8} {h : UInt8} {j : Nat} (hj : j < L.length) : (h :: L.reverse.take j) ++ [L.getD (L.length - 1 - j) default] = h :: L.reverse.take (j + 1) := by
  rw [rev_getD hj, List.cons_append, ← take_succ_getD L.reverse j (by simpa using hj)]
theorem lo_lt {n0 : Nat} {x : LoS} (h : LoJ n0 x) : x.n < 18446744073709551616 := by
  have h1 := h.2.2
  have : 256 ^ (8 - x.low.length) ≤ 256 ^ 8 := Nat.pow_le_pow_right (by decide) (by omega)
  have e : 256 ^ 8 = 18446744073709551616 := by decide
  omega
theorem onePl (xs : List PlV) : ∀ u ∈ xs.flatMap encPl, u.oneCell' = true := fun u hu => by
  obtain ⟨b, _, hb⟩ := List.mem_flatMap.1 hu
  simp [encPl] at hb
  rcases hb with rfl | rfl | rfl | rfl | rfl <;> rfl
structure NuS where
  s : LoS
  a : Option Addr
  cap : Nat
structure Nu2 where
  j : Nat
  a : Option Addr
  cap : Nat
/-! ### The reference's client -/
structure Rc where
  id : Int
  span : Int
  at_ : Nat
  seq : Int
  since : Int
  row : SL Int
  on : Bool
  over : Bool
  ask : AskV
  last : RepV
def encRc (c : Rc) : List Value := [.int .i64 c.id, .int .i64 c.span, .int .i64 c.at_, .int .i64 c.seq, .int .i64 c.since, c.row.v, .bool c.on, .bool c.over,
  .int .i64 c.ask.kind, .int .i64 c.ask.client, .int .i64 c.ask.seq, .int .i64 c.ask.okind, .int .i64 c.ask.ocl, .int .i64 c.ask.onum, .bool c.ask.good, .int .i64 c.ask.bud, .int .i64 c.ask.bad, c.ask.waves.v, .int .i64 c.ask.cdo, .int .i64 c.ask.cid,
  .int .i64 c.last.client, .int .i64 c.last.seq, .int .i64 c.last.err, .int .i64 c.last.leads, .int .i64 c.last.index, .int .i64 c.last.now, .int .i64 c.last.epoch, .int .i64 c.last.mode, .int .i64 c.last.rollout, .int .i64 c.last.left, c.last.places.v, c.last.over.v, c.last.sicks.v]
def rnext (c : Rc) : Rc := if c.at_ + 1 = c.row.xs.length then { c with at_ := 0 } else { c with at_ := c.at_ + 1 }
theorem rnext_yes {c : Rc} (h : c.at_ + 1 = c.row.xs.length) : rnext c = { c with at_ := 0 } := by unfold rnext; rw [if_pos h]
theorem rnext_no {c : Rc} (h : ¬ c.at_ + 1 = c.row.xs.length) : rnext c = { c with at_ := c.at_ + 1 } := by unfold rnext; rw [if_neg h]
def rbegun (c : Rc) (a : AskV) : Rc := { c with seq := c.seq + 1, ask := { a with client := c.id, seq := c.seq + 1 }, on := true, since := -1 }
/-- a tick of the reference's: (what becomes of her, to whom she sends) -/
def rtick (c : Rc) : Rc × Int :=
  if c.on = false then (c, -1)
  else if 0 ≤ c.since then
    if c.since + 1 < c.span then ({ c with since := c.since + 1 }, -1)
    else ({ rnext { c with since := c.since + 1 } with since := 0 }, c.row.xs.getD (rnext { c with since := c.since + 1 }).at_ default)
  else ({ c with since := 0 }, c.row.xs.getD c.at_ default)
theorem rtick_off {c : Rc} (h : c.on = false) : rtick c = (c, -1) := by unfold rtick; rw [if_pos h]
theorem rtick_wait {c : Rc} (h : c.on = true) (h2 : 0 ≤ c.since) (h3 : c.since + 1 < c.span) : rtick c = ({ c with since := c.since + 1 }, -1) := by unfold rtick; rw [if_neg (by rw [h]; decide), if_pos h2, if_pos h3]
theorem rtick_next {c : Rc} (h : c.on = true) (h2 : 0 ≤ c.since) (h3 : ¬ c.since + 1 < c.span) : rtick c = ({ rnext { c with since := c.since + 1 } with since := 0 }, c.row.xs.getD (rnext { c with since := c.since + 1 }).at_ default) := by unfold rtick; rw [if_neg (by rw [h]; decide), if_pos h2, if_neg h3]
theorem rtick_now {c : Rc} (h : c.on = true) (h2 : ¬ 0 ≤ c.since) : rtick c = ({ c with since := 0 }, c.row.xs.getD c.at_ default) := by unfold rtick; rw [if_neg (by rw [h]; decide), if_neg h2]
theorem rnext_lt {c : Rc} (h : c.at_ < c.row.xs.length) : (rnext c).at_ < c.row.xs.length := by
  unfold rnext
  split
  · show 0 < _; omega
  · show c.at_ + 1 < _; omega
theorem rnext_row (c : Rc) : (rnext c).row = c.row := by unfold rnext; split <;> rfl
def rmine (c : Rc) (r : RepV) : Prop := c.on = true ∧ r.client = c.id ∧ r.seq = c.seq
def roff (c : Rc) (r : RepV) : Prop := r.err = 90 ∨ r.err = 92 ∨ (r.err = 91 ∧ c.ask.kind ≠ 1)
def rlead (c : Rc) (r : RepV) : Rc := if 0 ≤ idxF c.row.xs r.leads ∧ idxF c.row.xs r.leads ≠ (c.at_ : Int) then { c with at_ := (idxF c.row.xs r.leads).toNat } else rnext c
open Classical in
noncomputable def rhear (c : Rc) (r : RepV) : Rc × Bool :=
  if ¬ rmine c r then (c, false) else if roff c r then ({ rlead c r with since := -1 }, false) else ({ c with on := false, over := true, last := r }, true)
theorem rhear_no {c : Rc} {r : RepV} (h : ¬ rmine c r) : rhear c r = (c, false) := by unfold rhear; rw [if_pos h]
theorem rhear_off {c : Rc} {r : RepV} (h : rmine c r) (h2 : roff c r) : rhear c r = ({ rlead c r with since := -1 }, false) := by unfold rhear; rw [if_neg (fun h' => h' h), if_pos h2]
theorem rhear_over {c : Rc} {r : RepV} (h : rmine c r) (h2 : ¬ roff c r) : rhear c r = ({ c with on := false, over := true, last := r }, true) := by unfold rhear; rw [if_neg (fun h' => h' h), if_neg h2]
theorem rlead_yes {c : Rc} {r : RepV} (h : 0 ≤ idxF c.row.xs r.leads ∧ idxF c.row.xs r.leads ≠ (c.at_ : Int)) : rlead c r = { c with at_ := (idxF c.row.xs r.leads).toNat } := by unfold rlead; rw [if_pos h]
theorem rlead_no {c : Rc} {r : RepV} (h : ¬ (0 ≤ idxF c.row.xs r.leads ∧ idxF c.row.xs r.leads ≠ (c.at_ : Int))) : rlead c r = rnext c := by unfold rlead; rw [if_neg h]
/-- the reference's search for the leader's place, k places on -/
def toF (xs : List Int) (z : Int) (at_ k : Nat) : Int := if 0 ≤ idxF xs z ∧ idxF xs z ≠ (at_ : Int) ∧ idxF xs z < (k : Int) then idxF xs z else -1
theorem idxF_at {xs : List Int} {z : Int} (h : 0 ≤ idxF xs z) : xs.getD (idxF xs z).toNat default = z := by
  have hm := (idx_ge xs z).1 h
  unfold idxF
  rw [if_pos hm]
  have hl := List.idxOf_lt_length_of_mem hm
  simp [List.getD, hl]
theorem idxF_nodup {xs : List Int} {k : Nat} (hn : xs.Nodup) (hk : k < xs.length) : idxF xs (xs.getD k default) = (k : Int) := by
  apply idxOf_take hk _ rfl
  intro hm
  exact not_nodup hk hm hn
theorem toF_yes {xs : List Int} {z : Int} {at_ k : Nat} (hn : xs.Nodup) (hk : k < xs.length) (e : xs.getD k default = z) (ha : (k : Int) ≠ at_) : toF xs z at_ (k + 1) = k := by
  have := idxF_nodup hn hk
  rw [e] at this
  unfold toF
  rw [this, if_pos ⟨by omega, ha, by omega⟩]
theorem toF_no {xs : List Int} {z : Int} {at_ k : Nat} (h : ¬ (xs.getD k default = z ∧ (k : Int) ≠ at_)) : toF xs z at_ (k + 1) = toF xs z at_ k := by
  unfold toF
  by_cases q : 0 ≤ idxF xs z ∧ idxF xs z ≠ (at_ : Int) ∧ idxF xs z < ((k + 1 : Nat) : Int)
  · rw [if_pos q]
    by_cases q2 : idxF xs z < (k : Int)
    · rw [if_pos ⟨q.1, q.2.1, q2⟩]
    · exfalso
      have e : idxF xs z = (k : Int) := by omega
      have := idxF_at q.1
      rw [e] at this
      simp only [Int.toNat_natCast] at this
      exact h ⟨this, by rw [← e]; exact q.2.1⟩
  · rw [if_neg q, if_neg (fun q2 => q ⟨q2.1, q2.2.1, by omega⟩)]
theorem toF_all {xs : List Int} {z : Int} {at_ : Nat} : toF xs z at_ xs.length = if 0 ≤ idxF xs z ∧ idxF xs z ≠ (at_ : Int) then idxF xs z else -1 := by
  unfold toF
  by_cases q : 0 ≤ idxF xs z ∧ idxF xs z ≠ (at_ : Int)
  · have := idx_lt q.1
    rw [if_pos ⟨q.1, q.2, by omega⟩, if_pos q]
  · rw [if_neg q, if_neg (fun z => q ⟨z.1, z.2.1⟩)]
def sizeF (l : List WvV) : Nat := (l.map fun v => 1 + v.after.xs.length + v.clu.xs.length).sum
theorem sizeF_succ (l : List WvV) (k : Nat) (hk : k < l.length) : sizeF (l.take (k + 1)) = sizeF (l.take k) + (1 + (l.getD k default).after.xs.length + (l.getD k default).clu.xs.length) := by
  unfold sizeF
  rw [take_succ_getD l k hk, List.map_append, List.sum_append]
  simp
def Big (w : SL WvV) : Prop := w.xs.length ≤ 2000000 ∧ ∀ v ∈ w.xs, v.after.xs.length ≤ 2000000 ∧ v.clu.xs.length ≤ 2000000
theorem sizeF_le {l : List WvV} (h : ∀ v ∈ l, v.after.xs.length ≤ 2000000 ∧ v.clu.xs.length ≤ 2000000) : sizeF l ≤ 4000001 * l.length := by
  induction l with
  | nil => simp [sizeF]
  | cons v l ih =>
    have h1 := h v List.mem_cons_self
    have h2 := ih (fun u hu => h u (List.mem_cons_of_mem _ hu))
    unfold sizeF at h2 ⊢
    rw [List.map_cons, List.sum_cons, List.length_cons]
    omega
theorem sizeF_small {w : SL WvV} (h : sizeF w.xs ≤ 200) : Small w := by
  have key : ∀ l : List WvV, l.length ≤ sizeF l ∧ ∀ v ∈ l, v.after.xs.length ≤ sizeF l ∧ v.clu.xs.length ≤ sizeF l := by
    intro l
    induction l with
    | nil => exact ⟨Nat.zero_le _, fun v hv => by cases hv⟩
    | cons u l ih =>
      obtain ⟨h1, h2⟩ := ih
      have e : sizeF (u :: l) = 1 + u.after.xs.length + u.clu.xs.length + sizeF l := by unfold sizeF; rw [List.map_cons, List.sum_cons]
      rw [e]
      refine ⟨by rw [List.length_cons]; omega, fun v hv => ?_⟩
      rcases List.mem_cons.1 hv with rfl | hv
      · omega
      · have := h2 v hv; omega
  obtain ⟨h1, h2⟩ := key w.xs
  exact ⟨by omega, fun v hv => by have := h2 v hv; omega⟩
structure La6 where
  a1 : Option Addr
  d1 : Nat
  a2 : Option Addr
  d2 : Nat
  a3 : Option Addr
  d3 : Nat
end Go.Cli
