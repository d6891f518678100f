/-
  The structures of package dispatch and of its reference.
-/
import Derived.Test.YteajafkmnhikoaaSlM
set_option linter.unusedVariables false
namespace Go.Dsp
open Go Go.SL
structure Ord where
  ID : Int
  Epoch : Int
  Cluster : Int
  Version : Int
def zOrd : Ord := ⟨0, 0, 0, 0⟩
instance : Inhabited Ord := ⟨zOrd⟩
def encOrd (x : Ord) : List Value := [.int .i64 x.ID, .int .i64 x.Epoch, .int .i64 x.Cluster, .int .i64 x.Version]
theorem oneOrd (x : Ord) : ∀ u ∈ encOrd x, u.oneCell' = true := fun u hu => by
  simp only [encOrd, List.mem_cons, List.not_mem_nil, or_false] at hu
  rcases hu with rfl | rfl | rfl | rfl <;> rfl
theorem oneOrds (xs : List Ord) : ∀ u ∈ xs.flatMap encOrd, u.oneCell' = true := fun u hu => by
  obtain ⟨b, _, hb⟩ := List.mem_flatMap.1 hu
  exact oneOrd b u hb
structure Sent where
  Order : Ord
  at_ : Int
def zSent : Sent := ⟨zOrd, 0⟩
instance : Inhabited Sent := ⟨zSent⟩
def encSent (x : Sent) : List Value := [.int .i64 x.Order.ID, .int .i64 x.Order.Epoch, .int .i64 x.Order.Cluster, .int .i64 x.Order.Version, .int .i64 x.at_]
theorem oneSent (x : Sent) : ∀ u ∈ encSent x, u.oneCell' = true := fun u hu => by
  simp only [encSent, List.mem_cons, List.not_mem_nil, or_false] at hu
  rcases hu with rfl | rfl | rfl | rfl | rfl <;> rfl
theorem oneSents (xs : List Sent) : ∀ u ∈ xs.flatMap encSent, u.oneCell' = true := fun u hu => by
  obtain ⟨b, _, hb⟩ := List.mem_flatMap.1 hu
  exact oneSent b u hb
structure Told where
  number : Int
  done : Int
  at_ : Int
  any : Bool
def zTold : Told := ⟨0, 0, 0, false⟩
instance : Inhabited Told := ⟨zTold⟩
def encTold (x : Told) : List Value := [.int .i64 x.number, .int .i64 x.done, .int .i64 x.at_, .bool x.any]
theorem oneTold (x : Told) : ∀ u ∈ encTold x, u.oneCell' = true := fun u hu => by
  simp only [encTold, List.mem_cons, List.not_mem_nil, or_false] at hu
  rcases hu with rfl | rfl | rfl | rfl <;> rfl
theorem oneTolds (xs : List Told) : ∀ u ∈ xs.flatMap encTold, u.oneCell' = true := fun u hu => by
  obtain ⟨b, _, hb⟩ := List.mem_flatMap.1 hu
  exact oneTold b u hb
structure Disp where
  span : Int
  now : Int
  out : (Option Nat)
  told : (Option Nat)
def zDisp : Disp := ⟨0, 0, none, none⟩
instance : Inhabited Disp := ⟨zDisp⟩
def encDisp (x : Disp) : List Value := [.int .i64 x.span, .int .i64 x.now, .map x.out, .map x.told]
theorem oneDisp (x : Disp) : ∀ u ∈ encDisp x, u.oneCell' = true := fun u hu => by
  simp only [encDisp, List.mem_cons, List.not_mem_nil, or_false] at hu
  rcases hu with rfl | rfl | rfl | rfl <;> rfl
theorem oneDisps (xs : List Disp) : ∀ u ∈ xs.flatMap encDisp, u.oneCell' = true := fun u hu => by
  obtain ⟨b, _, hb⟩ := List.mem_flatMap.1 hu
  exact oneDisp b u hb
structure Rep_ where
  Cluster : Int
  Done : Int
  At : Int
  Version : Int
  Number : Int
  Good : Bool
def zRep_ : Rep_ := ⟨0, 0, 0, 0, 0, false⟩
instance : Inhabited Rep_ := ⟨zRep_⟩
def encRep_ (x : Rep_) : List Value := [.int .i64 x.Cluster, .int .i64 x.Done, .int .i64 x.At, .int .i64 x.Version, .int .i64 x.Number, .bool x.Good]
theorem oneRep_ (x : Rep_) : ∀ u ∈ encRep_ x, u.oneCell' = true := fun u hu => by
  simp only [encRep_, List.mem_cons, List.not_mem_nil, or_false] at hu
  rcases hu with rfl | rfl | rfl | rfl | rfl | rfl <;> rfl
theorem oneRep_s (xs : List Rep_) : ∀ u ∈ xs.flatMap encRep_, u.oneCell' = true := fun u hu => by
  obtain ⟨b, _, hb⟩ := List.mem_flatMap.1 hu
  exact oneRep_ b u hb
structure Wv where
  After : (SL Int)
  Clusters : (SL Int)
  Bake : Int
def zWv : Wv := ⟨⟨none, [], 0⟩, ⟨none, [], 0⟩, 0⟩
instance : Inhabited Wv := ⟨zWv⟩
def encWv (x : Wv) : List Value := [x.After.v, x.Clusters.v, .int .i64 x.Bake]
theorem oneWv (x : Wv) : ∀ u ∈ encWv x, u.oneCell' = true := fun u hu => by
  simp only [encWv, List.mem_cons, List.not_mem_nil, or_false] at hu
  rcases hu with rfl | rfl | rfl <;> rfl
theorem oneWvs (xs : List Wv) : ∀ u ∈ xs.flatMap encWv, u.oneCell' = true := fun u hu => by
  obtain ⟨b, _, hb⟩ := List.mem_flatMap.1 hu
  exact oneWv b u hb
structure Pln where
  Budget : Int
  Bad : Int
  Waves : (SL Wv)
def zPln : Pln := ⟨0, 0, ⟨none, [], 0⟩⟩
instance : Inhabited Pln := ⟨zPln⟩
def encPln (x : Pln) : List Value := [.int .i64 x.Budget, .int .i64 x.Bad, x.Waves.v]
theorem onePln (x : Pln) : ∀ u ∈ encPln x, u.oneCell' = true := fun u hu => by
  simp only [encPln, List.mem_cons, List.not_mem_nil, or_false] at hu
  rcases hu with rfl | rfl | rfl <;> rfl
theorem onePlns (xs : List Pln) : ∀ u ∈ xs.flatMap encPln, u.oneCell' = true := fun u hu => by
  obtain ⟨b, _, hb⟩ := List.mem_flatMap.1 hu
  exact onePln b u hb
structure Op1 where
  Kind : Int
  Cluster : Int
  Number : Int
  Good : Bool
  Plan : Pln
def zOp1 : Op1 := ⟨0, 0, 0, false, zPln⟩
instance : Inhabited Op1 := ⟨zOp1⟩
def encOp1 (x : Op1) : List Value := [.int .i64 x.Kind, .int .i64 x.Cluster, .int .i64 x.Number, .bool x.Good, .int .i64 x.Plan.Budget, .int .i64 x.Plan.Bad, x.Plan.Waves.v]
theorem oneOp1 (x : Op1) : ∀ u ∈ encOp1 x, u.oneCell' = true := fun u hu => by
  simp only [encOp1, List.mem_cons, List.not_mem_nil, or_false] at hu
  rcases hu with rfl | rfl | rfl | rfl | rfl | rfl | rfl <;> rfl
theorem oneOp1s (xs : List Op1) : ∀ u ∈ xs.flatMap encOp1, u.oneCell' = true := fun u hu => by
  obtain ⟨b, _, hb⟩ := List.mem_flatMap.1 hu
  exact oneOp1 b u hb
structure RSent where
  O : Ord
  Since : Int
def zRSent : RSent := ⟨zOrd, 0⟩
instance : Inhabited RSent := ⟨zRSent⟩
def encRSent (x : RSent) : List Value := [.int .i64 x.O.ID, .int .i64 x.O.Epoch, .int .i64 x.O.Cluster, .int .i64 x.O.Version, .int .i64 x.Since]
theorem oneRSent (x : RSent) : ∀ u ∈ encRSent x, u.oneCell' = true := fun u hu => by
  simp only [encRSent, List.mem_cons, List.not_mem_nil, or_false] at hu
  rcases hu with rfl | rfl | rfl | rfl | rfl <;> rfl
theorem oneRSents (xs : List RSent) : ∀ u ∈ xs.flatMap encRSent, u.oneCell' = true := fun u hu => by
  obtain ⟨b, _, hb⟩ := List.mem_flatMap.1 hu
  exact oneRSent b u hb
structure RTold where
  Cluster : Int
  Number : Int
  Done : Int
  Since : Int
def zRTold : RTold := ⟨0, 0, 0, 0⟩
instance : Inhabited RTold := ⟨zRTold⟩
def encRTold (x : RTold) : List Value := [.int .i64 x.Cluster, .int .i64 x.Number, .int .i64 x.Done, .int .i64 x.Since]
theorem oneRTold (x : RTold) : ∀ u ∈ encRTold x, u.oneCell' = true := fun u hu => by
  simp only [encRTold, List.mem_cons, List.not_mem_nil, or_false] at hu
  rcases hu with rfl | rfl | rfl | rfl <;> rfl
theorem oneRTolds (xs : List RTold) : ∀ u ∈ xs.flatMap encRTold, u.oneCell' = true := fun u hu => by
  obtain ⟨b, _, hb⟩ := List.mem_flatMap.1 hu
  exact oneRTold b u hb
structure RDisp where
  Span : Int
  L : SH
  T : SH
def zRDisp : RDisp := ⟨0, ⟨none, 0, 0⟩, ⟨none, 0, 0⟩⟩
instance : Inhabited RDisp := ⟨zRDisp⟩
def encRDisp (x : RDisp) : List Value := [.int .i64 x.Span, x.L.v, x.T.v]
theorem oneRDisp (x : RDisp) : ∀ u ∈ encRDisp x, u.oneCell' = true := fun u hu => by
  simp only [encRDisp, List.mem_cons, List.not_mem_nil, or_false] at hu
  rcases hu with rfl | rfl | rfl <;> rfl
theorem oneRDisps (xs : List RDisp) : ∀ u ∈ xs.flatMap encRDisp, u.oneCell' = true := fun u hu => by
  obtain ⟨b, _, hb⟩ := List.mem_flatMap.1 hu
  exact oneRDisp b u hb
structure Act1 where
  Kind : Int
  Os : (SL Ord)
  Rs : (SL Rep_)
def zAct1 : Act1 := ⟨0, ⟨none, [], 0⟩, ⟨none, [], 0⟩⟩
instance : Inhabited Act1 := ⟨zAct1⟩
def encAct1 (x : Act1) : List Value := [.int .i64 x.Kind, x.Os.v, x.Rs.v]
theorem oneAct1 (x : Act1) : ∀ u ∈ encAct1 x, u.oneCell' = true := fun u hu => by
  simp only [encAct1, List.mem_cons, List.not_mem_nil, or_false] at hu
  rcases hu with rfl | rfl | rfl <;> rfl
theorem oneAct1s (xs : List Act1) : ∀ u ∈ xs.flatMap encAct1, u.oneCell' = true := fun u hu => by
  obtain ⟨b, _, hb⟩ := List.mem_flatMap.1 hu
  exact oneAct1 b u hb
end Go.Dsp
