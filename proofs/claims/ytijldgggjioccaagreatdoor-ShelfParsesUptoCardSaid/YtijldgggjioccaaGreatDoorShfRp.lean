/- part -/
import Derived.Test.YtijldgggjioccaaGreatDoorShfU
set_option linter.unusedVariables false
set_option linter.unusedSimpArgs false
namespace Go.Shf
open Go Go.SL Go.Mou Go.Dsk Go.Sm Go.Hrd
section
variable {T : RT} {k : Nat} {a : PSnap × Bool}
theorem r6_len (T : RT) : (mkeys (rvw T)).length = T.length := by rw [rvw_keys, List.length_map]
theorem r6_all : ((mkeys (rvw T)).take T.length).foldl (stepX (rvw T)) a = (mkeys (rvw T)).foldl (stepX (rvw T)) a := by rw [← r6_len T, List.take_length]
theorem r6_key (hk : k < T.length) : (mkeys (rvw T)).getD k default = (T.getD k default).Name := by rw [rvw_keys]; exact rname_get hk
theorem r6_file (hk : k < T.length) (hT : VOk (rvw T)) : mgetD (rvw T) (T.getD k default).Name zF = ((T.getD k default).B.xs, (T.getD k default).Safe) := getD_of (rget (rnd hT) hk)
theorem r6_next (hk : k < T.length) (hT : VOk (rvw T)) : ((mkeys (rvw T)).take (k + 1)).foldl (stepX (rvw T)) a =
    (fun (c : PSnap × Bool) => if 0 ≤ numI (T.getD k default).Name ∧ (parseX (T.getD k default).B.xs).1 = 0 ∧ (parseX (T.getD k default).B.xs).2.ix = numI (T.getD k default).Name then ((parseX (T.getD k default).B.xs).2, true) else c) (((mkeys (rvw T)).take k).foldl (stepX (rvw T)) a) := by
  rw [foldl_take _ _ _ _ (by rw [r6_len]; exact hk), r6_key hk]
  generalize ((mkeys (rvw T)).take k).foldl (stepX (rvw T)) a = c
  unfold stepX numI; rw [r6_file hk hT]
  cases hn : namedX (T.getD k default).Name with
  | none => simp
  | some n =>
    obtain ⟨b1, b2, b3⟩ := named_back hn; simp only [b1, true_and]
end
section
variable {nI e : Int} {x : PSnap} {c : PSnap × Bool} {i : Int}
theorem r6_yes (h : (0 ≤ nI ∧ e = 0) ∧ i = nI) (hi : i = x.ix) : (fun (c : PSnap × Bool) => if 0 ≤ nI ∧ e = 0 ∧ x.ix = nI then (x, true) else c) c = (x, true) := if_pos ⟨h.1.1, h.1.2, by rw [← hi]; exact h.2⟩
theorem r6_no (h : (¬ 0 ≤ nI ∨ ¬ e = 0) ∨ ¬ i = nI) (hi : i = x.ix) : (fun (c : PSnap × Bool) => if 0 ≤ nI ∧ e = 0 ∧ x.ix = nI then (x, true) else c) c = c := if_neg (fun q => by
  rcases h with (h | h) | h
  · exact h q.1
  · exact h q.2.1
  · exact h (hi.trans q.2.2))
end
end Go.Shf
