/-
  The structures of package tally and of its reference.
-/
import Derived.Test.YteajafkmnhikoaaSlM
set_option linter.unusedVariables false
namespace Go.Tly
open Go Go.SL
structure Conf where
  Voters : (SL Int)
  Learners : (SL Int)
def zConf : Conf := ⟨⟨none, [], 0⟩, ⟨none, [], 0⟩⟩
instance : Inhabited Conf := ⟨zConf⟩
def encConf (x : Conf) : List Value := [x.Voters.v, x.Learners.v]
theorem oneConf (x : Conf) : ∀ u ∈ encConf x, u.oneCell' = true := fun u hu => by
  simp only [encConf, List.mem_cons, List.not_mem_nil, or_false] at hu
  rcases hu with rfl | rfl <;> rfl
theorem oneConfs (xs : List Conf) : ∀ u ∈ xs.flatMap encConf, u.oneCell' = true := fun u hu => by
  obtain ⟨b, _, hb⟩ := List.mem_flatMap.1 hu
  exact oneConf b u hb
structure Mtch where
  ID : Int
  Index : Int
def zMtch : Mtch := ⟨0, 0⟩
instance : Inhabited Mtch := ⟨zMtch⟩
def encMtch (x : Mtch) : List Value := [.int .i64 x.ID, .int .i64 x.Index]
theorem oneMtch (x : Mtch) : ∀ u ∈ encMtch x, u.oneCell' = true := fun u hu => by
  simp only [encMtch, List.mem_cons, List.not_mem_nil, or_false] at hu
  rcases hu with rfl | rfl <;> rfl
theorem oneMtchs (xs : List Mtch) : ∀ u ∈ xs.flatMap encMtch, u.oneCell' = true := fun u hu => by
  obtain ⟨b, _, hb⟩ := List.mem_flatMap.1 hu
  exact oneMtch b u hb
structure Peer where
  match_ : Int
  next : Int
def zPeer : Peer := ⟨0, 0⟩
instance : Inhabited Peer := ⟨zPeer⟩
def encPeer (x : Peer) : List Value := [.int .i64 x.match_, .int .i64 x.next]
theorem onePeer (x : Peer) : ∀ u ∈ encPeer x, u.oneCell' = true := fun u hu => by
  simp only [encPeer, List.mem_cons, List.not_mem_nil, or_false] at hu
  rcases hu with rfl | rfl <;> rfl
theorem onePeers (xs : List Peer) : ∀ u ∈ xs.flatMap encPeer, u.oneCell' = true := fun u hu => by
  obtain ⟨b, _, hb⟩ := List.mem_flatMap.1 hu
  exact onePeer b u hb
structure Track where
  peers : (Option Nat)
def zTrack : Track := ⟨none⟩
instance : Inhabited Track := ⟨zTrack⟩
def encTrack (x : Track) : List Value := [.map x.peers]
theorem oneTrack (x : Track) : ∀ u ∈ encTrack x, u.oneCell' = true := fun u hu => by
  simp only [encTrack, List.mem_cons, List.not_mem_nil, or_false] at hu
  subst hu; rfl
theorem oneTracks (xs : List Track) : ∀ u ∈ xs.flatMap encTrack, u.oneCell' = true := fun u hu => by
  obtain ⟨b, _, hb⟩ := List.mem_flatMap.1 hu
  exact oneTrack b u hb
structure Said1 where
  Yes : Bool
  ID : Int
def zSaid1 : Said1 := ⟨false, 0⟩
instance : Inhabited Said1 := ⟨zSaid1⟩
def encSaid1 (x : Said1) : List Value := [.bool x.Yes, .int .i64 x.ID]
theorem oneSaid1 (x : Said1) : ∀ u ∈ encSaid1 x, u.oneCell' = true := fun u hu => by
  simp only [encSaid1, List.mem_cons, List.not_mem_nil, or_false] at hu
  rcases hu with rfl | rfl <;> rfl
theorem oneSaid1s (xs : List Said1) : ∀ u ∈ xs.flatMap encSaid1, u.oneCell' = true := fun u hu => by
  obtain ⟨b, _, hb⟩ := List.mem_flatMap.1 hu
  exact oneSaid1 b u hb
structure RPeer where
  ID : Int
  Match : Int
  Next : Int
def zRPeer : RPeer := ⟨0, 0, 0⟩
instance : Inhabited RPeer := ⟨zRPeer⟩
def encRPeer (x : RPeer) : List Value := [.int .i64 x.ID, .int .i64 x.Match, .int .i64 x.Next]
theorem oneRPeer (x : RPeer) : ∀ u ∈ encRPeer x, u.oneCell' = true := fun u hu => by
  simp only [encRPeer, List.mem_cons, List.not_mem_nil, or_false] at hu
  rcases hu with rfl | rfl | rfl <;> rfl
theorem oneRPeers (xs : List RPeer) : ∀ u ∈ xs.flatMap encRPeer, u.oneCell' = true := fun u hu => by
  obtain ⟨b, _, hb⟩ := List.mem_flatMap.1 hu
  exact oneRPeer b u hb
structure TAct where
  Kind : Int
  ID : Int
  Index : Int
  Hint : Int
  Last : Int
  IDs : (SL Int)
def zTAct : TAct := ⟨0, 0, 0, 0, 0, ⟨none, [], 0⟩⟩
instance : Inhabited TAct := ⟨zTAct⟩
def encTAct (x : TAct) : List Value := [.int .i64 x.Kind, .int .i64 x.ID, .int .i64 x.Index, .int .i64 x.Hint, .int .i64 x.Last, x.IDs.v]
theorem oneTAct (x : TAct) : ∀ u ∈ encTAct x, u.oneCell' = true := fun u hu => by
  simp only [encTAct, List.mem_cons, List.not_mem_nil, or_false] at hu
  rcases hu with rfl | rfl | rfl | rfl | rfl | rfl <;> rfl
theorem oneTActs (xs : List TAct) : ∀ u ∈ xs.flatMap encTAct, u.oneCell' = true := fun u hu => by
  obtain ⟨b, _, hb⟩ := List.mem_flatMap.1 hu
  exact oneTAct b u hb
structure Poll where
  voters : SH
  said : (Option Nat)
  yes : (Option Nat)
def zPoll : Poll := ⟨⟨none, 0, 0⟩, none, none⟩
instance : Inhabited Poll := ⟨zPoll⟩
def encPoll (x : Poll) : List Value := [x.voters.v, .map x.said, .map x.yes]
theorem onePoll (x : Poll) : ∀ u ∈ encPoll x, u.oneCell' = true := fun u hu => by
  simp only [encPoll, List.mem_cons, List.not_mem_nil, or_false] at hu
  rcases hu with rfl | rfl | rfl <;> rfl
theorem onePolls (xs : List Poll) : ∀ u ∈ xs.flatMap encPoll, u.oneCell' = true := fun u hu => by
  obtain ⟨b, _, hb⟩ := List.mem_flatMap.1 hu
  exact onePoll b u hb
end Go.Tly
