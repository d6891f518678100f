/- part -/
import Derived.Test.YtijldgggjioccaaGreatDoorSlEc
import Derived.Lib.BitFns
set_option linter.unusedVariables false
namespace Go.Mou
open Go Go.SL
structure Kind1 where
  what : UInt8
  of_ : SH
def zKind1 : Kind1 := ⟨0, ⟨none, 0, 0⟩⟩
instance : Inhabited Kind1 := ⟨zKind1⟩
def encKind1 (x : Kind1) : List Value := [.int .u8 (x.what.toNat : Int), x.of_.v]
structure Reader1 where
  s : (List UInt8)
  bad : Bool
def zReader1 : Reader1 := ⟨[], false⟩
instance : Inhabited Reader1 := ⟨zReader1⟩
def encReader1 (x : Reader1) : List Value := [(strB x.s), .bool x.bad]
structure Taker1 where
  b : (SL UInt8)
  e : Int
def zTaker1 : Taker1 := ⟨⟨none, [], 0⟩, 0⟩
instance : Inhabited Taker1 := ⟨zTaker1⟩
def encTaker1 (x : Taker1) : List Value := [x.b.v, .int .i64 x.e]
structure Val1 where
  N : Nat
  B : (SL UInt8)
  L : SH
def zVal1 : Val1 := ⟨0, ⟨none, [], 0⟩, ⟨none, 0, 0⟩⟩
instance : Inhabited Val1 := ⟨zVal1⟩
def encVal1 (x : Val1) : List Value := [.int .u64 (x.N : Int), x.B.v, x.L.v]
theorem oneVal1 (x : Val1) : ∀ u ∈ encVal1 x, u.oneCell' = true := fun u hu => by
  simp only [encVal1, List.mem_cons, List.not_mem_nil, or_false] at hu
  rcases hu with rfl | rfl | rfl <;> rfl
theorem oneVal1s (xs : List Val1) : ∀ u ∈ xs.flatMap encVal1, u.oneCell' = true := fun u hu => by
  obtain ⟨b, _, hb⟩ := List.mem_flatMap.1 hu; exact oneVal1 b u hb
end Go.Mou
set_option linter.unusedSimpArgs false
namespace Go.Mou
open Go Go.SL
inductive Sh where
  | n
  | b
  | star (s : Sh)
  | row (l : List Sh)
inductive PV where
  | mk (N : Nat) (B : List UInt8) (L : List PV)
def PV.N : PV → Nat | .mk n _ _ => n
def PV.B : PV → List UInt8 | .mk _ b _ => b
def PV.L : PV → List PV | .mk _ _ l => l
instance : Inhabited PV := ⟨⟨0, [], []⟩⟩
instance : Inhabited Sh := ⟨.n⟩
mutual
def Sh.str : Sh → List UInt8
  | .n => [110]
  | .b => [98]
  | .star s => 42 :: s.str
  | .row l => 91 :: (strs l ++ [93])
def strs : List Sh → List UInt8
  | [] => []
  | s :: l => s.str ++ strs l
end
mutual
def Sh.dep : Sh → Nat
  | .n => 0
  | .b => 0
  | .star s => s.dep + 1
  | .row l => deps l
def deps : List Sh → Nat
  | [] => 0
  | s :: l => max (s.dep + 1) (deps l)
end
mutual
def someS : Sh → Bool
  | .row l => somes l
  | _ => true
def somes : List Sh → Bool
  | [] => false
  | s :: l => someS s || somes l
end
mutual
def Sh.wt : Sh → Nat
  | .n => 1
  | .b => 1
  | .star s => s.wt + 1
  | .row l => wts l + 1
def wts : List Sh → Nat
  | [] => 0
  | s :: l => s.wt + wts l + 1
end
def lowD (n : Nat) : List UInt8 := if h : n = 0 then [] else UInt8.ofNat (n % 256) :: lowD (n / 256)
termination_by n
decreasing_by omega
def numF (n : Nat) : List UInt8 := UInt8.ofNat (lowD n).length :: (lowD n).reverse
def beN (l : List UInt8) : Nat := l.foldl (fun n c => 256 * n + c.toNat) 0
def numT : List UInt8 → Except Int (Nat × List UInt8)
  | [] => .error 11
  | c :: r => if 8 < c.toNat then .error 13 else if 0 < c.toNat ∧ r.head? = some 0 then .error 13 else if r.length < c.toNat then .error 11 else .ok (beN (r.take c.toNat), r.drop c.toNat)
def cntT (some_ : Bool) (bs : List UInt8) : Except Int (Nat × List UInt8) :=
  match numT bs with
  | .error e => .error e
  | .ok (n, r) => if some_ = true ∧ r.length < n then .error 11 else if some_ = false ∧ 1048576 < n then .error 13 else .ok (n, r)
mutual
def form : Sh → PV → List UInt8
  | .n, v => numF v.N
  | .b, v => numF v.B.length ++ v.B
  | .star s, v => numF v.L.length ++ (v.L.map (form s)).flatten
  | .row l, v => forms l v.L
def forms : List Sh → List PV → List UInt8
  | [], _ => []
  | s :: l, L => form s (L.headD default) ++ forms l L.tail
end
def rep (f : List UInt8 → Except Int (PV × List UInt8)) : Nat → List UInt8 → Except Int (List PV × List UInt8)
  | 0, bs => .ok ([], bs)
  | n + 1, bs => match rep f n bs with
    | .error e => .error e
    | .ok (l, r) => match f r with
      | .error e => .error e
      | .ok (x, r') => .ok (l ++ [x], r')
mutual
def takeF : Sh → List UInt8 → Except Int (PV × List UInt8)
  | .n, bs => match numT bs with
    | .error e => .error e
    | .ok (n, r) => .ok (.mk n [] [], r)
  | .b, bs => match cntT true bs with
    | .error e => .error e
    | .ok (n, r) => .ok (.mk 0 (r.take n) [], r.drop n)
  | .star s, bs => match cntT (someS s) bs with
    | .error e => .error e
    | .ok (n, r) => match rep (takeF s) n r with
      | .error e => .error e
      | .ok (l, r') => .ok (.mk 0 [] l, r')
  | .row l, bs => match takes l [] bs with
    | .error e => .error e
    | .ok (L, r) => .ok (.mk 0 [] L, r)
def takes : List Sh → List PV → List UInt8 → Except Int (List PV × List UInt8)
  | [], L, bs => .ok (L, bs)
  | s :: l, L, bs => match takeF s bs with
    | .error e => .error e
    | .ok (x, r) => takes l (L ++ [x]) r
end
end Go.Mou
namespace Go.Mou
open Go Go.SL
def wh : Sh → UInt8
  | .n => 110
  | .b => 98
  | .star _ => 42
  | .row _ => 91
def subs : Sh → List Sh
  | .n => []
  | .b => []
  | .star s => [s]
  | .row l => l
inductive KT where
  | mk (blk : Nat) (a : Option Addr) (cap : Nat) (s : Sh) (of : List KT)
def KT.blk : KT → Nat | .mk b _ _ _ _ => b
def KT.a : KT → Option Addr | .mk _ a _ _ _ => a
def KT.cap : KT → Nat | .mk _ _ c _ _ => c
def KT.s : KT → Sh | .mk _ _ _ s _ => s
def KT.kids : KT → List KT | .mk _ _ _ _ l => l
def KT.pt (k : KT) : Option Nat := some k.blk
instance : Inhabited KT := ⟨.mk 0 none 0 .n []⟩
inductive KOk : KT → Prop
  | mk {b : Nat} {a : Option Addr} {c : Nat} {s : Sh} {of : List KT} : of.map KT.s = subs s → (∀ x ∈ of, KOk x) → KOk (.mk b a c s of)
theorem KOk.subs {k : KT} (h : KOk k) : k.kids.map KT.s = subs k.s := by cases h; assumption
theorem KOk.kid {k : KT} (h : KOk k) : ∀ x ∈ k.kids, KOk x := by cases h; assumption
theorem KOk.len {k : KT} (h : KOk k) : k.kids.length = (Go.Mou.subs k.s).length := by rw [← h.subs, List.length_map]
theorem getD_map {α β : Type} [Inhabited α] [Inhabited β] (f : α → β) {l : List α} {k : Nat} (h : k < l.length) : (l.map f).getD k default = f (l.getD k default) := by simp [List.getD, h]
theorem KOk.at_ {k : KT} (h : KOk k) {i : Nat} (hi : i < k.kids.length) : KOk (k.kids.getD i default) ∧ (k.kids.getD i default).s = (Go.Mou.subs k.s).getD i default :=
  ⟨h.kid _ (getD_in hi), by rw [← h.subs, getD_map KT.s hi]⟩
mutual
def KA (tk tp : TypeId) : KT → Asn
  | .mk blk a cap s of => Bun (.pts blk (encKind1 ⟨wh s, ⟨a, of.length, cap⟩⟩) tk :: .row tp 1 a of.length cap ((of.map KT.pt).flatMap encPt) :: Bun (KAs tk tp of) :: [])
def KAs (tk tp : TypeId) : List KT → List Asn
  | [] => []
  | k :: l => KA tk tp k :: KAs tk tp l
end
theorem KAs_map (tk tp : TypeId) : ∀ l, KAs tk tp l = l.map (KA tk tp)
  | [] => rfl
  | k :: l => by simp only [KAs, List.map_cons, KAs_map tk tp l]
theorem k_open {tk tp : TypeId} {k : KT} {Γ Γ1 : List Asn} (p : Pick (KA tk tp k) [] Γ Γ1) :
    Ent Γ (.pts k.blk (encKind1 (⟨wh k.s, ⟨k.a, k.kids.length, k.cap⟩⟩ : Kind1)) tk :: .row tp 1 k.a k.kids.length k.cap ((k.kids.map KT.pt).flatMap encPt) :: Bun (k.kids.map (KA tk tp)) :: Γ1) := by
  refine Ent.trans (Ent.pick p (Ent.refl _)) ?_; obtain ⟨b, a, c, s, of⟩ := k; rw [← KAs_map]; exact bun_out _ _
theorem k_shut {tk tp : TypeId} {b : Nat} {a : Option Addr} {c : Nat} {s : Sh} {of : List KT} {Γ : List Asn} :
    Ent (.pts b (encKind1 (⟨wh s, ⟨a, of.length, c⟩⟩ : Kind1)) tk :: .row tp 1 a of.length c ((of.map KT.pt).flatMap encPt) :: Bun (of.map (KA tk tp)) :: Γ) (KA tk tp (.mk b a c s of) :: Γ) := by
  rw [← KAs_map]; exact bun_in [_, _, _] Γ
theorem k_same {tk tp : TypeId} {k : KT} {Γ : List Asn} :
    Ent (.pts k.blk (encKind1 (⟨wh k.s, ⟨k.a, k.kids.length, k.cap⟩⟩ : Kind1)) tk :: .row tp 1 k.a k.kids.length k.cap ((k.kids.map KT.pt).flatMap encPt) :: Bun (k.kids.map (KA tk tp)) :: Γ) (KA tk tp k :: Γ) := by
  obtain ⟨b, a, c, s, of⟩ := k; exact k_shut
theorem kid_out {tk tp : TypeId} {l : List KT} {Γ Γ1 : List Asn} {i : Nat} (hi : i < l.length) (p : Pick (Bun (l.map (KA tk tp))) [] Γ Γ1) :
    Ent Γ (KA tk tp (l.getD i default) :: Bun ((l.map (KA tk tp)).eraseIdx i) :: Γ1) := by
  refine Ent.trans (Ent.pick p (Ent.refl _)) ?_; have h := bun_get (l.map (KA tk tp)) Γ1 i (by simpa using hi)
  rwa [show (l.map (KA tk tp))[i]'(by simpa using hi) = KA tk tp (l.getD i default) from by simp [List.getD, hi]] at h
theorem kid_in {tk tp : TypeId} {l : List KT} {Γ : List Asn} {i : Nat} (hi : i < l.length) : Ent (KA tk tp (l.getD i default) :: Bun ((l.map (KA tk tp)).eraseIdx i) :: Γ) (Bun (l.map (KA tk tp)) :: Γ) := by
  have h := bun_set (l.map (KA tk tp)) Γ i (KA tk tp (l.getD i default)) (by simpa using hi)
  have e : (l.map (KA tk tp)).set i (KA tk tp (l.getD i default)) = l.map (KA tk tp) := by
    apply List.ext_getElem (by simp); intro j h1 h2; rw [List.getElem_set]
    split
    · rename_i e; subst e; simp [List.getD, hi]
    · rfl
  rwa [e] at h
theorem kid_pt {l : List KT} {i : Nat} (hi : i < l.length) : (l.map KT.pt).getD i default = some (l.getD i default).blk := getD_map KT.pt hi
inductive VT where
  | mk (N : Nat) (B : SL UInt8) (a : Option Addr) (cap : Nat) (L : List VT)
def VT.N : VT → Nat | .mk n _ _ _ _ => n
def VT.B : VT → SL UInt8 | .mk _ b _ _ _ => b
def VT.a : VT → Option Addr | .mk _ _ a _ _ => a
def VT.cap : VT → Nat | .mk _ _ _ c _ => c
def VT.L : VT → List VT | .mk _ _ _ _ l => l
def VT.val (v : VT) : Val1 := ⟨v.N, v.B, ⟨v.a, v.L.length, v.cap⟩⟩
instance : Inhabited VT := ⟨.mk 0 ⟨none, [], 0⟩ none 0 []⟩
mutual
def VT.pv : VT → PV
  | .mk n b _ _ l => .mk n b.xs (pvs l)
def pvs : List VT → List PV
  | [] => []
  | v :: l => v.pv :: pvs l
end
theorem pvs_map : ∀ l, pvs l = l.map VT.pv
  | [] => rfl
  | v :: l => by simp only [pvs, List.map_cons, pvs_map l]
theorem pv_N (v : VT) : v.pv.N = v.N := by cases v; rfl
theorem pv_B (v : VT) : v.pv.B = v.B.xs := by cases v; rfl
theorem pv_L (v : VT) : v.pv.L = v.L.map VT.pv := by cases v; exact pvs_map _
mutual
def VT.ro (ρ : Hp) : VT → Prop
  | .mk n b a c l => b.ro encB 1 ρ ∧ Ro ρ 3 a l.length c ((l.map VT.val).flatMap encVal1) ∧ ros ρ l
def ros (ρ : Hp) : List VT → Prop
  | [] => True
  | v :: l => v.ro ρ ∧ ros ρ l
end
theorem ros_all (ρ : Hp) : ∀ {l : List VT}, ros ρ l ↔ ∀ x ∈ l, x.ro ρ
  | [] => by simp [ros]
  | v :: l => by simp only [ros, List.mem_cons, forall_eq_or_imp, ros_all ρ (l := l)]
theorem VT.ro_B {ρ : Hp} {v : VT} (h : v.ro ρ) : v.B.ro encB 1 ρ := by cases v; exact h.1
theorem VT.ro_L {ρ : Hp} {v : VT} (h : v.ro ρ) : Ro ρ 3 v.a v.L.length v.cap ((v.L.map VT.val).flatMap encVal1) := by cases v; exact h.2.1
theorem VT.ro_kid {ρ : Hp} {v : VT} (h : v.ro ρ) : ∀ x ∈ v.L, x.ro ρ := by cases v; exact (ros_all ρ).1 h.2.2
mutual
theorem VT.ro_mono {ρ ρ' : Hp} (l : ρ.le ρ') : ∀ (v : VT), v.ro ρ → v.ro ρ'
  | .mk n b a c L => fun h => ⟨Ro.mono l h.1, Ro.mono l h.2.1, ros_mono l L h.2.2⟩
theorem ros_mono {ρ ρ' : Hp} (l : ρ.le ρ') : ∀ (L : List VT), ros ρ L → ros ρ' L
  | [] => fun _ => trivial
  | v :: L => fun h => ⟨VT.ro_mono l v h.1, ros_mono l L h.2⟩
end
mutual
def VA (tu tv : TypeId) : VT → Asn
  | .mk n b a c l => Bun (.row tu 1 b.a b.xs.length b.cap (b.xs.flatMap encB) :: .row tv 3 a l.length c ((l.map VT.val).flatMap encVal1) :: Bun (VAs tu tv l) :: [])
def VAs (tu tv : TypeId) : List VT → List Asn
  | [] => []
  | v :: l => VA tu tv v :: VAs tu tv l
end
theorem VAs_map (tu tv : TypeId) : ∀ l, VAs tu tv l = l.map (VA tu tv)
  | [] => rfl
  | v :: l => by simp only [VAs, List.map_cons, VAs_map tu tv l]
theorem v_open {tu tv : TypeId} {v : VT} {Γ Γ1 : List Asn} (p : Pick (VA tu tv v) [] Γ Γ1) :
    Ent Γ (.row tu 1 v.B.a v.B.xs.length v.B.cap (v.B.xs.flatMap encB) :: .row tv 3 v.a v.L.length v.cap ((v.L.map VT.val).flatMap encVal1) :: Bun (v.L.map (VA tu tv)) :: Γ1) := by
  refine Ent.trans (Ent.pick p (Ent.refl _)) ?_; obtain ⟨n, b, a, c, l⟩ := v; rw [← VAs_map]; exact bun_out _ _
theorem v_shut {tu tv : TypeId} {n : Nat} {b : SL UInt8} {a : Option Addr} {c : Nat} {l : List VT} {Γ : List Asn} :
    Ent (.row tu 1 b.a b.xs.length b.cap (b.xs.flatMap encB) :: .row tv 3 a l.length c ((l.map VT.val).flatMap encVal1) :: Bun (l.map (VA tu tv)) :: Γ) (VA tu tv (.mk n b a c l) :: Γ) := by
  rw [← VAs_map]; exact bun_in [_, _, _] Γ
mutual
def fits : Sh → PV → Prop
  | .n, v => v.N < 18446744073709551616
  | .b, v => True
  | .star s, v => ∀ x ∈ v.L, fits s x
  | .row l, v => fitsL l v.L
def fitsL : List Sh → List PV → Prop
  | [], L => L = []
  | s :: l, L => ∃ x M, L = x :: M ∧ fits s x ∧ fitsL l M
end
theorem fitsL_len : ∀ {l : List Sh} {L : List PV}, fitsL l L → L.length = l.length
  | [], L, h => by rw [h]; rfl
  | s :: l, L, h => by obtain ⟨x, M, rfl, _, h2⟩ := h; simp [fitsL_len h2]
theorem fitsL_at : ∀ {l : List Sh} {L : List PV} {i : Nat}, fitsL l L → i < l.length → fits (l.getD i default) (L.getD i default)
  | [], _, _, _, hi => by simp at hi
  | s :: l, L, 0, h, _ => by obtain ⟨x, M, rfl, h1, _⟩ := h; exact h1
  | s :: l, L, i + 1, h, hi => by
    obtain ⟨x, M, rfl, _, h2⟩ := h; have := fitsL_at h2 (show i < l.length by simpa using hi); simpa using this
theorem wt_subs : ∀ {s t : Sh}, t ∈ subs s → t.wt < s.wt
  | .n, _, h => by cases h
  | .b, _, h => by cases h
  | .star s, t, h => by simp only [subs, List.mem_singleton] at h; subst h; simp [Sh.wt]
  | .row l, t, h => by
    have : ∀ {l : List Sh}, t ∈ l → t.wt < wts l + 1 := by
      intro l
      induction l with
      | nil => intro h; cases h
      | cons s l ih =>
        intro h
        rcases List.mem_cons.1 h with rfl | h
        · simp only [wts]; omega
        · have := ih h; simp only [wts]; omega
    exact this h
theorem wt_kid {k x : KT} (h : KOk k) (hx : x ∈ k.kids) : x.s.wt < k.s.wt := wt_subs (by rw [← h.subs]; exact List.mem_map.2 ⟨x, hx, rfl⟩)
theorem strs_cons (t : Sh) (l : List Sh) (r : List UInt8) : strs (t :: l) ++ r = t.str ++ (strs l ++ r) := by simp [strs]
theorem str_head : ∀ (s : Sh), ∃ r, s.str = wh s :: r
  | .n => ⟨_, rfl⟩
  | .b => ⟨_, rfl⟩
  | .star _ => ⟨_, rfl⟩
  | .row _ => ⟨_, rfl⟩
theorem strs_end {l : List Sh} {r : List UInt8} : ((strs l ++ 93 :: r).getD 0 default).toNat = 93 ↔ l = [] := by
  cases l with
  | nil => simp [strs]
  | cons s l =>
    obtain ⟨q, hq⟩ := str_head s; simp only [strs, hq, List.append_assoc, List.cons_append, reduceCtorEq, iff_false]
    cases s <;> simp [wh]
end Go.Mou
namespace Go.Mou
open Go Go.SL
theorem lowD_zero : lowD 0 = [] := by rw [lowD]; simp
theorem lowD_pos {n : Nat} (h : n ≠ 0) : lowD n = UInt8.ofNat (n % 256) :: lowD (n / 256) := by rw [lowD]; simp [h]
theorem bitLen_zero : Lib.bitLen 0 = 0 := by decide
theorem lowD_len : ∀ (n : Nat), n < 18446744073709551616 → (lowD n).length = (Lib.bitLen n + 7) / 8 := by
  intro n
  induction n using Nat.strongRecOn with
  | _ n ih =>
    intro h
    by_cases h0 : n = 0
    · subst h0; rw [lowD_zero, bitLen_zero]; rfl
    · rw [lowD_pos h0, List.length_cons, ih (n / 256) (by omega) (by omega)]
      by_cases h1 : n < 256
      · have h2 : n / 256 = 0 := by omega
        rw [h2, bitLen_zero]; have h3 := Lib.bitLen_le8 ⟨n, h1⟩; have h4 := Lib.bitLen_half n h0 (by omega); simp only at h3; omega
      · rw [Lib.bitLen_shift8 n (by omega) h]; omega
theorem lowD_le8 {n : Nat} (h : n < 18446744073709551616) : (lowD n).length ≤ 8 := by
  rw [lowD_len n h]; have := Lib.bitLen_le n 64 (by decide) h; omega
theorem lowD_get : ∀ (n i : Nat), i < (lowD n).length → (lowD n).getD i default = UInt8.ofNat (n / 256 ^ i) := by
  intro n
  induction n using Nat.strongRecOn with
  | _ n ih =>
    intro i hi
    by_cases h0 : n = 0
    · subst h0; rw [lowD_zero] at hi; simp at hi
    · rw [lowD_pos h0] at hi ⊢
      cases i with
      | zero => simp only [List.getD_cons_zero, Nat.pow_zero, Nat.div_one]; apply UInt8.toNat_inj.1; simp
      | succ i =>
        rw [List.getD_cons_succ, ih (n / 256) (by omega) i (by simpa using hi), Nat.div_div_eq_div_mul, Nat.pow_succ, Nat.mul_comm 256]
def numB (n k : Nat) : List UInt8 := UInt8.ofNat (lowD n).length :: (lowD n).reverse.take k
theorem numB_zero (n : Nat) : numB n 0 = [UInt8.ofNat (lowD n).length] := by simp [numB]
theorem numB_all (n : Nat) : numB n (lowD n).length = numF n := by
  unfold numB numF; rw [List.take_of_length_le (by simp)]
theorem numB_next {n k : Nat} (hk : k < (lowD n).length) : numB n (k + 1) = numB n k ++ [UInt8.ofNat (n / 256 ^ ((lowD n).length - 1 - k))] := by
  unfold numB; rw [take_succ_getD _ k (by simpa using hk), ← lowD_get n _ (by omega)]; simp [List.getD, List.getElem?_reverse hk]
theorem numB_len (n k : Nat) (hk : k ≤ (lowD n).length) : (numB n k).length = k + 1 := by simp [numB]; omega
theorem numF_len (n : Nat) : (numF n).length = (lowD n).length + 1 := by simp [numF]
theorem shr_pow {n i : Nat} (hi : i ≤ 8) : (n : Int).fdiv (2 ^ (min (8 * (i : Int)).toNat 64)) = ((n / 256 ^ i : Nat) : Int) := by
  have h1 : min (8 * (i : Int)).toNat 64 = 8 * i := by omega
  rw [h1, Int.fdiv_eq_ediv_of_nonneg _ (Int.le_of_lt (Int.pow_pos (by decide)))]
  have h2 : (2 : Int) ^ (8 * i) = ((256 ^ i : Nat) : Int) := by
    rw [show (256 : Nat) = 2 ^ 8 from rfl, ← Nat.pow_mul]; simp
  rw [h2]; exact (Int.natCast_ediv _ _).symm
theorem wrap8 (m : Nat) : IntKind.wrap .u8 (m : Int) = ((UInt8.ofNat m).toNat : Int) := by
  simp [IntKind.wrap, IntKind.bits, IntKind.signed]
theorem beN_snoc (l : List UInt8) (c : UInt8) : beN (l ++ [c]) = 256 * beN l + c.toNat := by simp [beN]
theorem beN_low : ∀ (n : Nat), beN (lowD n).reverse = n := by
  intro n
  induction n using Nat.strongRecOn with
  | _ n ih =>
    by_cases h0 : n = 0
    · subst h0; rw [lowD_zero]; rfl
    · rw [lowD_pos h0, List.reverse_cons, beN_snoc, ih (n / 256) (by omega), UInt8.toNat_ofNat']; omega
theorem lowD_top : ∀ (n : Nat), n ≠ 0 → ∃ l c, lowD n = l ++ [c] ∧ c ≠ 0 := by
  intro n
  induction n using Nat.strongRecOn with
  | _ n ih =>
    intro h0; rw [lowD_pos h0]
    by_cases h1 : n / 256 = 0
    · rw [h1, lowD_zero]; refine ⟨[], _, rfl, fun e => ?_⟩; have := congrArg UInt8.toNat e; rw [UInt8.toNat_ofNat'] at this; simp at this; omega
    · obtain ⟨l, c, h2, h3⟩ := ih (n / 256) (by omega) h1; exact ⟨_ :: l, c, by rw [h2]; rfl, h3⟩
theorem numT_numF {n : Nat} (h : n < 18446744073709551616) (r : List UInt8) : numT (numF n ++ r) = .ok (n, r) := by
  have h8 := lowD_le8 h; have hl : (UInt8.ofNat (lowD n).length).toNat = (lowD n).length := by rw [UInt8.toNat_ofNat']; omega
  unfold numF; simp only [List.cons_append, numT, hl]; rw [if_neg (by omega), if_neg, if_neg (by simp), List.take_append_of_le_length (by simp), List.take_of_length_le (by simp), beN_low, List.drop_append_of_le_length (by simp), List.drop_of_length_le (by simp), List.nil_append]; rintro ⟨h1, h2⟩
  by_cases h0 : n = 0
  · subst h0; rw [lowD_zero] at h1; simp at h1
  · obtain ⟨l, c, h3, h4⟩ := lowD_top n h0; rw [h3] at h2; simp at h2; exact h4 h2
theorem beN_lt_ : ∀ (l : List UInt8) (a : Nat), l.foldl (fun n c => 256 * n + c.toNat) a < (a + 1) * 256 ^ l.length
  | [], a => by simp
  | c :: l, a => by
    have h := beN_lt_ l (256 * a + c.toNat); have hc := c.toNat_lt; rw [List.foldl_cons, List.length_cons, Nat.pow_succ]; refine Nat.lt_of_lt_of_le h ?_; rw [Nat.mul_comm (256 ^ l.length) 256, ← Nat.mul_assoc]; exact Nat.mul_le_mul_right _ (by omega)
theorem beN_lt (l : List UInt8) : beN l < 256 ^ l.length := by have h := beN_lt_ l 0; simpa [beN] using h
theorem beN_u64 {l : List UInt8} (h : l.length ≤ 8) : beN l < 18446744073709551616 := by
  have h1 := beN_lt l; have h2 : 256 ^ l.length ≤ 256 ^ 8 := Nat.pow_le_pow_right (by decide) h; have h3 : (256 : Nat) ^ 8 = 18446744073709551616 := by decide
  omega
end Go.Mou
namespace Go.Mou
open Go Go.SL
def idxB (bs : List Bool) : Int := match bs.findIdx? id with | some k => (k : Int) | none => -1
theorem idxB_any (bs : List Bool) : decide (0 ≤ idxB bs) = bs.any id := by
  unfold idxB
  cases h : bs.findIdx? id with
  | some k =>
    have h1 : (bs.findIdx? id).isSome = true := by rw [h]; rfl
    rw [List.findIdx?_isSome] at h1; rw [h1]; simp
  | none =>
    have h1 : (bs.findIdx? id).isSome = false := by rw [h]; rfl
    rw [List.findIdx?_isSome] at h1; rw [h1]; rfl
theorem idxB_at {s : List Bool} {k : Nat} (hk : k < s.length) (h : (s.take k).any id = false) (e : s.getD k false = true) : idxB s = (k : Int) := by
  have e1 : s.findIdx? id = some k := by
    rw [List.findIdx?_eq_some_iff_getElem]; refine ⟨hk, by simpa [List.getD, hk] using e, fun j hj => ?_⟩; rw [List.any_eq_false] at h
    have hm : s[j] ∈ s.take k := by
      rw [List.mem_take_iff_getElem]; exact ⟨j, by omega, rfl⟩
    simpa using h _ hm
  unfold idxB; rw [e1]
theorem idxB_none {s : List Bool} (h : s.any id = false) : idxB s = -1 := by
  unfold idxB; have h1 : (s.findIdx? id).isSome = false := by rw [List.findIdx?_isSome]; exact h
  cases h2 : s.findIdx? id with
  | some k => rw [h2] at h1; cases h1
  | none => rfl
theorem any_succB {s : List Bool} {k : Nat} (hk : k < s.length) (h : (s.take k).any id = false) (e : s.getD k false = false) : (s.take (k + 1)).any id = false := by
  have h2 : s.take (k + 1) = s.take k ++ [s.getD k false] := by rw [List.take_add_one, List.getElem?_eq_getElem hk]; simp [List.getD, hk]
  rw [h2, List.any_append, h, e]; rfl
theorem any_rep (n : Nat) : (List.replicate n false).any id = false := by
  rw [List.any_eq_false]; intro x hx; rw [List.eq_of_mem_replicate hx]; simp
theorem getD_rep (n i : Nat) : (List.replicate n false).getD i false = false := by
  rw [List.getD_eq_getElem?_getD, List.getElem?_replicate]; split <;> rfl
theorem wh_n {s : Sh} (h : (wh s).toNat = 110) : s = .n := by cases s <;> simp [wh] at h ⊢
theorem wh_b {s : Sh} (h : (wh s).toNat = 98) : s = .b := by cases s <;> simp [wh] at h ⊢
theorem wh_star {s : Sh} (h : (wh s).toNat = 42) : ∃ t, s = .star t := by cases s <;> simp [wh] at h ⊢
theorem wh_row {s : Sh} (h : (wh s).toNat = 91) : ∃ l, s = .row l := by cases s <;> simp [wh] at h ⊢
theorem wh_else {s : Sh} (h1 : ¬ (wh s).toNat = 110) (h2 : ¬ (wh s).toNat = 98) (h3 : ¬ (wh s).toNat = 42) : ∃ l, s = .row l := by cases s <;> simp [wh] at h1 h2 h3 ⊢
theorem fits_kids {v : VT} {s : Sh} (h : fits (.star s) v.pv) {i : Nat} (hi : i < v.L.length) : fits s (v.L.getD i default).pv := h _ (by rw [pv_L]; exact List.mem_map.2 ⟨_, getD_in hi, rfl⟩)
theorem fits_row {v : VT} {l : List Sh} (h : fits (.row l) v.pv) : v.L.length = l.length ∧ ∀ i, i < l.length → fits (l.getD i default) (v.L.getD i default).pv := by
  have h1 : fitsL l v.pv.L := h; have h2 := fitsL_len h1; rw [pv_L, List.length_map] at h2; refine ⟨h2, fun i hi => ?_⟩; have h3 := fitsL_at h1 hi
  rwa [pv_L, getD_map VT.pv (by omega)] at h3
theorem forms_snoc : ∀ (l : List Sh) (s : Sh) (L : List PV), forms (l ++ [s]) L = forms l L ++ form s (L.getD l.length default)
  | [], s, L => by cases L <;> simp [forms]
  | t :: l, s, L => by
    simp only [List.cons_append, forms]; rw [forms_snoc l s L.tail, List.append_assoc]
    congr 3
    cases L with
    | nil => simp
    | cons x L => simp
theorem forms_next {l : List Sh} {L : List PV} {k : Nat} (hk : k < l.length) : forms (l.take (k + 1)) L = forms (l.take k) L ++ form (l.getD k default) (L.getD k default) := by
  rw [take_succ_getD l k hk, forms_snoc, List.length_take, Nat.min_eq_left (by omega)]
def starB (s : Sh) (L : List VT) : List UInt8 := (L.map fun v => form s v.pv).flatten
theorem starB_next {s : Sh} {L : List VT} {k : Nat} (hk : k < L.length) : starB s (L.take (k + 1)) = starB s (L.take k) ++ form s (L.getD k default).pv := by
  unfold starB; rw [take_succ_getD L k hk]; simp
theorem form_star (s : Sh) (v : VT) : form (.star s) v.pv = numF v.L.length ++ starB s v.L := by
  show numF v.pv.L.length ++ (v.pv.L.map (form s)).flatten = _; rw [pv_L, List.length_map, List.map_map]; rfl
theorem form_row (l : List Sh) (v : VT) : form (.row l) v.pv = forms l (v.L.map VT.pv) := by
  show forms l v.pv.L = _; rw [pv_L]
def accP (f : Nat → List UInt8) (b : List UInt8) : Nat → List UInt8
  | 0 => b
  | k + 1 => accP f b k ++ f k
theorem accP_le (f : Nat → List UInt8) (b : List UInt8) : ∀ (d k : Nat), (accP f b k).length ≤ (accP f b (k + d)).length
  | 0, k => Nat.le_refl _
  | d + 1, k => by
    have h := accP_le f b d k; show _ ≤ (accP f b (k + d) ++ f (k + d)).length; rw [List.length_append]; omega
theorem accP_at (f : Nat → List UInt8) (b : List UInt8) {k n : Nat} (h : k < n) : (accP f b k).length + (f k).length ≤ (accP f b n).length := by
  have h1 := accP_le f b (n - (k + 1)) (k + 1); rw [show k + 1 + (n - (k + 1)) = n from by omega] at h1; have h2 : (accP f b (k + 1)).length = (accP f b k).length + (f k).length := List.length_append; omega
theorem accP_star_ (s : Sh) (L : List VT) (b : List UInt8) : ∀ k, k ≤ L.length → accP (fun i => form s (L.getD i default).pv) b k = b ++ starB s (L.take k)
  | 0, _ => by simp [accP, starB]
  | k + 1, h => by
    show accP _ b k ++ _ = _; rw [accP_star_ s L b k (by omega), starB_next (by omega), List.append_assoc]
theorem accP_star (s : Sh) (L : List VT) (b : List UInt8) : accP (fun i => form s (L.getD i default).pv) b L.length = b ++ starB s L := by
  rw [accP_star_ s L b _ (Nat.le_refl _), List.take_length]
theorem accP_row_ (l : List Sh) (L : List VT) (b : List UInt8) (hl : L.length = l.length) : ∀ k, k ≤ l.length → accP (fun i => form (l.getD i default) (L.getD i default).pv) b k = b ++ forms (l.take k) (L.map VT.pv)
  | 0, _ => by simp [accP, forms]
  | k + 1, h => by
    show accP _ b k ++ _ = _; rw [accP_row_ l L b hl k (by omega), forms_next (by omega), getD_map VT.pv (by omega), List.append_assoc]
theorem accP_row (l : List Sh) (L : List VT) (b : List UInt8) (hl : L.length = l.length) : accP (fun i => form (l.getD i default) (L.getD i default).pv) b l.length = b ++ forms l (L.map VT.pv) := by
  rw [accP_row_ l L b hl _ (Nat.le_refl _), List.take_length]
end Go.Mou
namespace Go.Mou
open Go Go.SL
def dropS (B : SL UInt8) (m : Nat) : SL UInt8 := ⟨sh B.a B.cap m 1, B.xs.drop m, B.cap - m⟩
def Suf (B B' : SL UInt8) : Prop := (∀ ρ : Hp, B.ro encB 1 ρ → B'.ro encB 1 ρ) ∧ B'.xs.length ≤ B.xs.length
theorem Suf.refl (B : SL UInt8) : Suf B B := ⟨fun _ h => h, Nat.le_refl _⟩
theorem Suf.trans {A B C : SL UInt8} (h : Suf A B) (k : Suf B C) : Suf A C := ⟨fun ρ x => k.1 ρ (h.1 ρ x), Nat.le_trans k.2 h.2⟩
theorem Suf.drop (B : SL UInt8) {m : Nat} (hm : m ≤ B.xs.length) : Suf B (dropS B m) := by
  refine ⟨fun ρ h => ?_, by simp only [dropS, List.length_drop]; omega⟩; have h1 := Ro.cut2e h (fun _ => rfl) m B.xs.length hm (Nat.le_refl _); rw [List.take_length] at h1; show Ro ρ 1 _ (B.xs.drop m).length _ _; rw [List.length_drop]; exact h1
def badN (xs : List UInt8) : Bool := decide (8 < ((xs.getD 0 default).toNat : Int)) || (decide (0 < ((xs.getD 0 default).toNat : Int)) && (decide (1 < (xs.length : Int)) && decide (((xs.getD 1 default).toNat : Int) = 0)))
theorem u8_zero {c : UInt8} (h : (c.toNat : Int) = 0) : c = 0 := UInt8.toNat_inj.1 (by simpa using h)
theorem numT_bad {xs : List UInt8} (h0 : xs ≠ []) (h : badN xs = true) : numT xs = .error 13 := by
  cases xs with
  | nil => exact absurd rfl h0
  | cons c r =>
    simp only [badN, List.getD_cons_zero, List.getD_cons_succ, List.length_cons, Bool.or_eq_true, Bool.and_eq_true, decide_eq_true_eq] at h; simp only [numT]
    by_cases h8 : 8 < c.toNat
    · rw [if_pos h8]
    · rw [if_neg h8, if_pos]
      rcases h with h | ⟨h1, h2, h3⟩
      · omega
      · refine ⟨by omega, ?_⟩
        cases r with
        | nil => simp at h2
        | cons d r => rw [List.getD_cons_zero] at h3; rw [u8_zero h3]; rfl
theorem numT_good {xs : List UInt8} (h0 : xs ≠ []) (h : badN xs = false) : (xs.getD 0 default).toNat ≤ 8 ∧
    ((xs.length : Int) - 1 < ((xs.getD 0 default).toNat : Int) → numT xs = .error 11) ∧
    (¬ (xs.length : Int) - 1 < ((xs.getD 0 default).toNat : Int) → numT xs = .ok (beN ((xs.drop 1).take (xs.getD 0 default).toNat), xs.drop (1 + (xs.getD 0 default).toNat))) := by
  cases xs with
  | nil => exact absurd rfl h0
  | cons c r =>
    simp only [badN, List.getD_cons_zero, List.getD_cons_succ, List.length_cons, Bool.or_eq_false_iff, Bool.and_eq_false_iff, decide_eq_false_iff_not] at h; obtain ⟨h8, hz⟩ := h; have h8' : ¬ 8 < c.toNat := by omega
    refine ⟨by simp only [List.getD_cons_zero]; omega, fun hl => ?_, fun hl => ?_⟩
    · simp only [List.getD_cons_zero, List.length_cons] at hl; simp only [numT]; rw [if_neg h8', if_neg, if_pos (by omega)]; rintro ⟨h1, h2⟩
      cases r with
      | nil => simp at h2
      | cons d r =>
        simp only [List.head?_cons, Option.some.injEq] at h2; subst h2; rw [List.getD_cons_zero] at hz
        rcases hz with hz | hz | hz
        · omega
        · simp only [List.length_cons] at hz; omega
        · exact hz (by decide)
    · simp only [List.getD_cons_zero, List.length_cons] at hl; simp only [numT]; rw [if_neg h8', if_neg, if_neg (by omega)]
      · simp [Nat.add_comm 1]
      rintro ⟨h1, h2⟩
      cases r with
      | nil => simp at h2
      | cons d r =>
        simp only [List.head?_cons, Option.some.injEq] at h2; subst h2; rw [List.getD_cons_zero] at hz
        rcases hz with hz | hz | hz
        · omega
        · simp only [List.length_cons] at hz; omega
        · exact hz (by decide)
theorem shl8 {m : Nat} (h : m < 72057594037927936) : IntKind.wrap .u64 ((m : Int) * 2 ^ (min (8 : Int).toNat 64)) = ((256 * m : Nat) : Int) := by
  rw [show min (8 : Int).toNat 64 = 8 from by decide, show (2 : Int) ^ 8 = 256 from by decide, wrap_u64 (by omega) (by omega)]; omega
theorem or8 {m : Nat} {c : UInt8} (h : m < 72057594037927936) : IntKind.wrap .u64 (((BitVec.ofInt 64 ((256 * m : Nat) : Int) ||| BitVec.ofInt 64 (c.toNat : Int)).toNat : Nat) : Int) = ((256 * m + c.toNat : Nat) : Int) := by
  have hc := c.toNat_lt; have e1 : (BitVec.ofInt 64 ((256 * m : Nat) : Int)).toNat = 256 * m := by rw [BitVec.ofInt_natCast, BitVec.toNat_ofNat]; omega
  have e2 : (BitVec.ofInt 64 (c.toNat : Int)).toNat = c.toNat := by rw [BitVec.ofInt_natCast, BitVec.toNat_ofNat]; omega
  have e3 : 256 * m ||| c.toNat = 256 * m + c.toNat := by
    have := Nat.two_pow_add_eq_or_of_lt (i := 8) (b := c.toNat) (by omega) m; simpa using this.symm
  rw [BitVec.toNat_or, e1, e2, e3, wrap_u64 (by omega) (by omega)]
theorem beN_next {l : List UInt8} {k : Nat} (hk : k < l.length) : beN (l.take (k + 1)) = 256 * beN (l.take k) + (l.getD k default).toNat := by rw [take_succ_getD l k hk, beN_snoc]
theorem beN_56 {l : List UInt8} (h : l.length ≤ 7) : beN l < 72057594037927936 := by
  have h1 := beN_lt l; have h2 : 256 ^ l.length ≤ 256 ^ 7 := Nat.pow_le_pow_right (by decide) h; have h3 : (256 : Nat) ^ 7 = 72057594037927936 := by decide
  omega
def RNum (B : SL UInt8) (e : Int) (n : Nat) (B' : SL UInt8) (e' : Int) : Prop :=
  (e ≠ 0 → e' = e ∧ n = 0) ∧ (e = 0 → (numT B.xs = .ok (n, B'.xs) ∧ e' = 0) ∨ (∃ c, numT B.xs = .error c ∧ e' = c ∧ c ≠ 0 ∧ n = 0))
def RCnt (some_ : Bool) (B : SL UInt8) (e : Int) (n : Nat) (B' : SL UInt8) (e' : Int) : Prop :=
  (e ≠ 0 → e' = e ∧ n = 0) ∧ (e = 0 → (cntT some_ B.xs = .ok (n, B'.xs) ∧ e' = 0) ∨ (∃ c, cntT some_ B.xs = .error c ∧ e' = c ∧ c ≠ 0 ∧ n = 0))
def RTk (s : Sh) (B : SL UInt8) (e : Int) (v : PV) (B' : SL UInt8) (e' : Int) : Prop :=
  (e ≠ 0 → e' = e) ∧ (e = 0 → (takeF s B.xs = .ok (v, B'.xs) ∧ e' = 0) ∨ (∃ c, takeF s B.xs = .error c ∧ e' = c ∧ c ≠ 0))
theorem cntT_bd {some_ : Bool} {xs r : List UInt8} {n : Nat} (h : cntT some_ xs = .ok (n, r)) : (some_ = true → n ≤ r.length) ∧ (some_ = false → n ≤ 1048576) := by
  unfold cntT at h
  cases hn : numT xs with
  | error c => rw [hn] at h; cases h
  | ok p =>
    obtain ⟨m, q⟩ := p; rw [hn] at h; simp only at h
    split at h
    · cases h
    · rename_i h1
      split at h
      · cases h
      · rename_i h2
        cases h
        exact ⟨fun e => Nat.le_of_not_lt fun c => h1 ⟨e, c⟩, fun e => Nat.le_of_not_lt fun c => h2 ⟨e, c⟩⟩
theorem RNum.cnt {B B' : SL UInt8} {n : Nat} {e' : Int} (h : RNum B 0 n B' e') (some_ : Bool) :
    (e' ≠ 0 → (∃ c, cntT some_ B.xs = .error c ∧ e' = c ∧ c ≠ 0)) ∧ (e' = 0 → cntT some_ B.xs = if some_ = true ∧ B'.xs.length < n then .error 11 else if some_ = false ∧ 1048576 < n then .error 13 else .ok (n, B'.xs)) := by
  rcases h.2 rfl with ⟨h1, h2⟩ | ⟨c, h1, h2, h3, -⟩
  · exact ⟨fun q => absurd h2 q, fun _ => by unfold cntT; rw [h1]⟩
  · exact ⟨fun _ => ⟨c, by unfold cntT; rw [h1], h2, h3⟩, fun q => absurd (h2.symm.trans q) h3⟩
theorem ro_mid {ρ : Hp} {B : SL UInt8} (h : B.ro encB 1 ρ) {c : Nat} (hc : 1 + c ≤ B.xs.length) : Ro ρ 1 (sh B.a B.cap 1 1) ((B.xs.drop 1).take c).length (B.cap - 1) (((B.xs.drop 1).take c).flatMap encB) := by
  have h1 := Ro.cut2e h (fun _ => rfl) 1 (1 + c) (by omega) hc; have e : (B.xs.take (1 + c)).drop 1 = (B.xs.drop 1).take c := by rw [List.drop_take]; congr 1; omega
  rw [e] at h1; rw [show ((B.xs.drop 1).take c).length = 1 + c - 1 from by rw [List.length_take, List.length_drop]; omega]; exact h1
theorem cnt_short {some_ : Bool} {B B' : SL UInt8} {e e1 : Int} {n : Nat} (hR : RNum B e n B' e1) (h : some_ = true ∧ B'.xs.length < n) : RCnt some_ B e 0 B' (if e1 = 0 then 11 else e1) := by
  refine ⟨fun he => ?_, fun he => ?_⟩
  · obtain ⟨h1, -⟩ := hR.1 he; subst h1; exact ⟨if_neg he, rfl⟩
  · subst he; obtain ⟨h1, h2⟩ := hR.cnt some_
    by_cases q : e1 = 0
    · exact .inr ⟨11, by rw [h2 q, if_pos h], by rw [if_pos q], by decide, rfl⟩
    · obtain ⟨c, a1, a2, a3⟩ := h1 q; exact .inr ⟨c, a1, by rw [if_neg q]; exact a2, a3, rfl⟩
theorem cnt_form {some_ : Bool} {B B' : SL UInt8} {e e1 : Int} {n : Nat} (hR : RNum B e n B' e1) (h : some_ = false ∧ 1048576 < n) : RCnt some_ B e 0 B' (if e1 = 0 then 13 else e1) := by
  refine ⟨fun he => ?_, fun he => ?_⟩
  · obtain ⟨h1, -⟩ := hR.1 he; subst h1; exact ⟨if_neg he, rfl⟩
  · subst he; obtain ⟨h1, h2⟩ := hR.cnt some_
    by_cases q : e1 = 0
    · exact .inr ⟨13, by rw [h2 q, if_neg (by rw [h.1]; simp), if_pos h], by rw [if_pos q], by decide, rfl⟩
    · obtain ⟨c, a1, a2, a3⟩ := h1 q; exact .inr ⟨c, a1, by rw [if_neg q]; exact a2, a3, rfl⟩
theorem cnt_err {some_ : Bool} {B B' : SL UInt8} {e e1 : Int} {n : Nat} (hR : RNum B e n B' e1) (h : e1 ≠ 0) : RCnt some_ B e 0 B' e1 := by
  refine ⟨fun he => ?_, fun he => ?_⟩
  · obtain ⟨h1, -⟩ := hR.1 he; exact ⟨h1, rfl⟩
  · subst he; obtain ⟨c, a1, a2, a3⟩ := (hR.cnt some_).1 h; exact .inr ⟨c, a1, a2, a3, rfl⟩
theorem cnt_ok {some_ : Bool} {B B' : SL UInt8} {e e1 : Int} {n : Nat} (hR : RNum B e n B' e1) (h : e1 = 0) (h1 : ¬ (some_ = true ∧ B'.xs.length < n)) (h2 : ¬ (some_ = false ∧ 1048576 < n)) : RCnt some_ B e n B' e1 := by
  refine ⟨fun he => hR.1 he, fun he => ?_⟩; subst he; exact .inl ⟨by rw [(hR.cnt some_).2 h, if_neg h1, if_neg h2], h⟩
theorem RCnt.le {B B' : SL UInt8} {e e' : Int} {n : Nat} (h : RCnt true B e n B' e') : n ≤ B'.xs.length := by
  by_cases he : e = 0
  · rcases h.2 he with ⟨h1, -⟩ | ⟨c, -, -, -, h1⟩
    · exact (cntT_bd h1).1 rfl
    · omega
  · have := (h.1 he).2; omega
theorem RCnt.bd {some_ : Bool} {B B' : SL UInt8} {e e' : Int} {n : Nat} (h : RCnt some_ B e n B' e') : n ≤ B'.xs.length ∨ n ≤ 1048576 := by
  by_cases he : e = 0
  · rcases h.2 he with ⟨h1, -⟩ | ⟨c, -, -, -, h1⟩
    · cases some_ with
      | true => exact .inl ((cntT_bd h1).1 rfl)
      | false => exact .inr ((cntT_bd h1).2 rfl)
    · omega
  · have := (h.1 he).2; omega
theorem RCnt.none {some_ : Bool} {B B' : SL UInt8} {e e' : Int} {n : Nat} (h : RCnt some_ B e n B' e') (h1 : e' ≠ 0) : n = 0 := by
  by_cases he : e = 0
  · rcases h.2 he with ⟨-, h2⟩ | ⟨c, -, -, -, h2⟩
    · exact absurd h2 h1
    · exact h2
  · exact (h.1 he).2
theorem tk_n {B B' : SL UInt8} {e e' : Int} {n : Nat} (h : RNum B e n B' e') : RTk .n B e (.mk n [] []) B' e' := by
  refine ⟨fun he => (h.1 he).1, fun he => ?_⟩
  rcases h.2 he with ⟨h1, h2⟩ | ⟨c, h1, h2, h3, -⟩
  · exact .inl ⟨by simp only [takeF, h1], h2⟩
  · exact .inr ⟨c, by simp only [takeF, h1], h2, h3⟩
theorem tk_b {B B' : SL UInt8} {e e' : Int} {n : Nat} (h : RCnt true B e n B' e') : RTk .b B e (.mk 0 (B'.xs.take n) []) (dropS B' n) e' := by
  refine ⟨fun he => (h.1 he).1, fun he => ?_⟩
  rcases h.2 he with ⟨h1, h2⟩ | ⟨c, h1, h2, h3, -⟩
  · exact .inl ⟨by simp only [takeF, h1]; rfl, h2⟩
  · exact .inr ⟨c, by simp only [takeF, h1], h2, h3⟩
theorem tk_star_ok {s : Sh} {B B2 B' : SL UInt8} {e e2 : Int} {n : Nat} {l : List PV} (h : RCnt (someS s) B e n B2 e2) (hr : e2 = 0 → rep (takeF s) n B2.xs = .ok (l, B'.xs)) : RTk (.star s) B e (.mk 0 [] l) B' e2 := by
  refine ⟨fun he => (h.1 he).1, fun he => ?_⟩
  rcases h.2 he with ⟨h1, h2⟩ | ⟨c, h1, h2, h3, -⟩
  · exact .inl ⟨by simp only [takeF, h1, hr h2], h2⟩
  · exact .inr ⟨c, by simp only [takeF, h1], h2, h3⟩
theorem tk_star_err {s : Sh} {B B2 B' : SL UInt8} {e e2 c : Int} {n : Nat} {v : PV} (h : RCnt (someS s) B e n B2 e2) (h0 : e2 = 0) (hr : rep (takeF s) n B2.xs = .error c) (hc : c ≠ 0) : RTk (.star s) B e v B' c := by
  refine ⟨fun he => absurd ((h.1 he).1.symm.trans h0) he, fun he => ?_⟩
  rcases h.2 he with ⟨h1, h2⟩ | ⟨c', h1, h2, h3, -⟩
  · exact .inr ⟨c, by simp only [takeF, h1, hr], rfl, hc⟩
  · exact absurd (h2.symm.trans h0) h3
theorem len_wts : ∀ (l : List Sh), l.length ≤ wts l
  | [] => Nat.le_refl _
  | s :: l => by have := len_wts l; simp only [wts, List.length_cons]; omega
theorem ro_nil8 {ρ : Hp} {a : Option Addr} {n cap : Nat} {s : List UInt8} (h : Ro ρ 1 a n cap (s.flatMap encB)) (ha : a.isNone = true) (hn : s.length = n) : s = [] ∧ n = 0 := by
  cases s with
  | nil => exact ⟨rfl, hn.symm⟩
  | cons x s =>
    obtain ⟨ad, e, _⟩ := h.2.2.2 0 (.int .u8 (x.toNat : Int)) rfl; rw [e] at ha
    cases ha
def RTake (s : Sh) (xs : List UInt8) (v : PV) (e : Int) : Prop :=
  (takeF s xs = .ok (v, []) ∧ e = 0) ∨ (∃ p r, takeF s xs = .ok (p, r) ∧ r ≠ [] ∧ e = 12) ∨ (∃ c, takeF s xs = .error c ∧ e = c ∧ c ≠ 0)
theorem rep_err {f : List UInt8 → Except Int (PV × List UInt8)} {c : Int} : ∀ (d : Nat) {k : Nat} {bs : List UInt8}, rep f k bs = .error c → rep f (k + d) bs = .error c
  | 0, _, _, h => h
  | d + 1, k, bs, h => by
    have := rep_err d h; show rep f (k + d + 1) bs = _; simp only [rep, this]
theorem rep_err_at {f : List UInt8 → Except Int (PV × List UInt8)} {n k : Nat} {bs r : List UInt8} {l : List PV} {c : Int} (hk : k < n) (h : rep f k bs = .ok (l, r)) (he : f r = .error c) : rep f n bs = .error c := by
  have h1 : rep f (k + 1) bs = .error c := by simp only [rep, h, he]
  have := rep_err (n - (k + 1)) h1
  rwa [show k + 1 + (n - (k + 1)) = n from by omega] at this
theorem rep_ok_at {f : List UInt8 → Except Int (PV × List UInt8)} {k : Nat} {bs r r' : List UInt8} {l : List PV} {x : PV} (h : rep f k bs = .ok (l, r)) (he : f r = .ok (x, r')) : rep f (k + 1) bs = .ok (l ++ [x], r') := by simp only [rep, h, he]
theorem takes_app : ∀ (l : List Sh) (s : Sh) (L : List PV) (bs : List UInt8), takes (l ++ [s]) L bs = match takes l L bs with | .error e => .error e | .ok (M, r) => match takeF s r with | .error e => .error e | .ok (x, r') => .ok (M ++ [x], r')
  | [], s, L, bs => by
    simp only [List.nil_append, takes] <;> (cases takeF s bs <;> rfl)
  | t :: l, s, L, bs => by
    simp only [List.cons_append, takes]
    cases takeF t bs with
    | error e => rfl
    | ok p => exact takes_app l s _ _
theorem takes_err : ∀ (d : Nat) {l : List Sh} {k : Nat} {L : List PV} {bs : List UInt8} {c : Int}, k + d = l.length → takes (l.take k) L bs = .error c → takes l L bs = .error c
  | 0, l, k, L, bs, c, hd, h => by rwa [List.take_of_length_le (by omega)] at h
  | d + 1, l, k, L, bs, c, hd, h => by
    refine takes_err d (k := k + 1) (by omega) ?_; rw [take_succ_getD l k (by omega), takes_app, h]
theorem takes_ok_at {l : List Sh} {k : Nat} {bs r r' : List UInt8} {M : List PV} {x : PV} (hk : k < l.length) (h : takes (l.take k) [] bs = .ok (M, r)) (he : takeF (l.getD k default) r = .ok (x, r')) : takes (l.take (k + 1)) [] bs = .ok (M ++ [x], r') := by
  rw [take_succ_getD l k hk, takes_app, h]; simp only [he]
theorem takes_err_at {l : List Sh} {k : Nat} {bs r : List UInt8} {M : List PV} {c : Int} (hk : k < l.length) (h : takes (l.take k) [] bs = .ok (M, r)) (he : takeF (l.getD k default) r = .error c) : takes l [] bs = .error c := by
  refine takes_err (l.length - (k + 1)) (k := k + 1) (by omega) ?_; rw [take_succ_getD l k hk, takes_app, h]; simp only [he]
def RRow (l : List Sh) (i : Nat) (B : SL UInt8) (e : Int) (L : List PV) (B' : SL UInt8) (e' : Int) : Prop :=
  (e ≠ 0 → e' = e) ∧ (e = 0 → (takes (l.take i) [] B.xs = .ok (L, B'.xs) ∧ e' = 0) ∨ (∃ c, takes l [] B.xs = .error c ∧ e' = c ∧ c ≠ 0))
theorem row_next {l : List Sh} {i : Nat} {B B' B2 : SL UInt8} {e e' e2 : Int} {L : List PV} {x : PV} (hi : i < l.length) (h : RRow l i B e L B' e') (h2 : RTk (l.getD i default) B' e' x B2 e2) : RRow l (i + 1) B e (L ++ [x]) B2 e2 := by
  refine ⟨fun he => ?_, fun he => ?_⟩
  · have h3 := h.1 he; subst h3; exact h2.1 he
  · rcases h.2 he with ⟨a1, a2⟩ | ⟨c, a1, a2, a3⟩
    · rcases h2.2 a2 with ⟨b1, b2⟩ | ⟨c, b1, b2, b3⟩
      · exact .inl ⟨takes_ok_at hi a1 b1, b2⟩
      · exact .inr ⟨c, takes_err_at hi a1 b1, b2, b3⟩
    · exact .inr ⟨c, a1, (h2.1 (by rw [a2]; exact a3)).trans a2, a3⟩
theorem tk_row {l : List Sh} {B B' : SL UInt8} {e e' : Int} {L : List PV} (h : RRow l l.length B e L B' e') : RTk (.row l) B e (.mk 0 [] L) B' e' := by
  refine ⟨h.1, fun he => ?_⟩
  rcases h.2 he with ⟨a1, a2⟩ | ⟨c, a1, a2, a3⟩
  · rw [List.take_length] at a1; exact .inl ⟨by simp only [takeF, a1], a2⟩
  · exact .inr ⟨c, by simp only [takeF, a1], a2, a3⟩
theorem somes_any : ∀ (l : List Sh), somes l = l.any someS
  | [] => rfl
  | s :: l => by simp only [somes, List.any_cons, somes_any l]
theorem somes_kids {k : KT} (hk : KOk k) {l : List Sh} (h : k.s = .row l) : (k.kids.map fun x => someS x.s).any id = someS k.s := by
  rw [h]; show _ = somes l; rw [somes_any, ← show k.kids.map KT.s = l from by rw [hk.subs, h]; rfl]; simp [List.any_map, Function.comp_def]
theorem some_leaf {s : Sh} (h : ¬ (wh s).toNat = 91) : someS s = true := by cases s <;> simp [wh, someS] at h ⊢
theorem take_extra {s : Sh} {B B' : SL UInt8} {e : Int} {v z : PV} (h : RTk s B 0 v B' e) (hr : B'.xs ≠ []) : RTake s B.xs z (if e = 0 then 12 else e) := by
  rcases h.2 rfl with ⟨h1, h2⟩ | ⟨c, h1, h2, h3⟩
  · exact .inr (.inl ⟨v, B'.xs, h1, hr, if_pos h2⟩)
  · exact .inr (.inr ⟨c, h1, by rw [if_neg (by rw [h2]; exact h3)]; exact h2, h3⟩)
theorem take_err {s : Sh} {B B' : SL UInt8} {e : Int} {v z : PV} (h : RTk s B 0 v B' e) (he : e ≠ 0) : RTake s B.xs z e := by
  rcases h.2 rfl with ⟨h1, h2⟩ | ⟨c, h1, h2, h3⟩
  · exact absurd h2 he
  · exact .inr (.inr ⟨c, h1, h2, h3⟩)
theorem take_fine {s : Sh} {B B' : SL UInt8} {e : Int} {v : PV} (h : RTk s B 0 v B' e) (he : e = 0) (hr : B'.xs = []) : RTake s B.xs v e := by
  rcases h.2 rfl with ⟨h1, h2⟩ | ⟨c, h1, h2, h3⟩
  · exact .inl ⟨by rw [h1, hr], he⟩
  · exact absurd (h2.symm.trans he) h3
theorem flatB_take (xs : List UInt8) (m : Nat) : (xs.flatMap encB).take m = (xs.take m).flatMap encB := by
  induction xs generalizing m with
  | nil => simp
  | cons x xs ih =>
    cases m with
    | zero => simp
    | succ m => simp [encB, ih m]
theorem ro_takeS {ρ : Hp} {B : SL UInt8} (h : B.ro encB 1 ρ) {m : Nat} (hm : m ≤ B.xs.length) : Ro ρ 1 B.a (B.xs.take m).length B.cap ((B.xs.take m).flatMap encB) := by
  have h1 := Ro.take h m hm; rw [Nat.mul_one, flatB_take] at h1
  rwa [show (B.xs.take m).length = m from by rw [List.length_take]; omega]
theorem spec0_part {P : Program} {f : FuncId} {vs : Array Value} {ρ : Hp} {v0 : Value} {L : List Asn} {A : Asn} {i : Nat} (hi : i < L.length) (hA : L[i] = A) (h : Spec0 P f vs ρ [A] fun v Γ' => v = v0 ∧ Γ' = [A]) : Spec0 P f vs ρ [Bun L] fun v Γ' => v = v0 ∧ Γ' = [Bun L] := by
  subst hA; refine spec0_bun ?_; intro E Δ w s; have e1 : Ent (L ++ Δ) (L[i] :: Bun (L.eraseIdx i) :: Δ) := Ent.trans (bun_in L Δ) (bun_get L Δ i hi)
  have e2 : Ent (L[i] :: Bun (L.eraseIdx i) :: Δ) (L ++ Δ) := by
    have := Ent.trans (bun_set L Δ i L[i] hi) (bun_out _ _)
    rwa [List.set_getElem_self] at this
  refine (h E (Bun (L.eraseIdx i) :: Δ) w (s.ent e1)).mono ?_; rintro e w' ⟨ρ', v, Γ', l, ⟨rfl, rfl, rfl⟩, rfl, s'⟩; exact ⟨_, _, L, l, ⟨rfl, rfl, rfl⟩, rfl, s'.ent e2⟩
end Go.Mou
