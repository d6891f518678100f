/-
  The law 'ShelfNewest': her frame about her walk: the given statement 'Rows.ShelfNewestSaid'.
-/
import Derived.Test.YtijldgggjioccaaGreatDoorRows
import Derived.Test.YtijldgggjioccaaGreatDoorShfNz
import Derived.Test.YtijldgggjioccaaGreatDoorTie
import Derived.Test.YtijldgggjioccaaGreatDoorCards
import Derived.LaidMore
import Derived.Lay
import Derived.SevenTiedAt
import Derived.Stop.Joined
import Derived.Stop.LaidErr
import Derived.Lib.LaidTab
set_option maxRecDepth 100000
set_option linter.unusedVariables false
set_option linter.unusedSimpArgs false
namespace Go.Proofs.YtijldgggjioccaaGreatDoor.shelfNewest
open Go.ChangeShapes Go.WideShapes Go.ChangeAt Go.RowKit
open Go.ChangeMaps (open_string shut_string)
open Go.SL 
theorem own : ownKnob Tryz.prog.godebug = none := by kernel_rfl
theorem laidOut : laidOutB Tryz.prog = true := by kernel_rfl
theorem rd_string {H : Type} {enc : TypeId × Value → H} {P : Program} {w : World} {t : TypeId} {cs : List Value} (ht : P.underlying t = some .string) (h : Rdy enc P w t cs) : ∃ s : List UInt8, cs = [.string ⟨s.toArray⟩] ∧ s.length ≤ maxLen := by
  obtain ⟨fuel, y, h⟩ := h; obtain ⟨q, hq, -, hl⟩ := DataW.trod_string ht h; exact ⟨q.data.toList, hq.trans (by rw [Array.toArray_toList]), by rw [Array.length_toList]; exact hl⟩
def MemL_22 (x : SL UInt8) (h : Hp) : Prop := x.ro Go.SL.encB 1 h ∧ x.xs.length ≤ maxLen ∧ ∀ y ∈ x.xs, True
theorem rdl_22 {H : Type} {enc : TypeId × Value → H} {w : World} {cs : List Value} (h : Rdy enc Tryz.prog w 22 cs) : ∃ x : SL UInt8, cs = Go.SL.encSL x ∧ MemL_22 x (hp w) := by
  obtain ⟨a, cap, xs, rfl, hr, hq⟩ := rdy_slice (en := Go.SL.encB) (Q := fun y => True) (sz := 1) Tryz.underlying22 (by kernel_rfl) (fun _ => rfl) (fun cs h => rdy_byte Tryz.underlying5 h) h; exact ⟨⟨a, xs, cap⟩, rfl, hr, Nat.le_trans hr.2.1 hr.2.2.1, hq⟩
def MemL_37 (x : SL (SL UInt8)) (h : Hp) : Prop := x.ro Go.SL.encSL 1 h ∧ x.xs.length ≤ maxLen ∧ ∀ y ∈ x.xs, MemL_22 y h
theorem rdl_37 {H : Type} {enc : TypeId × Value → H} {w : World} {cs : List Value} (h : Rdy enc Tryz.prog w 37 cs) : ∃ x : SL (SL UInt8), cs = Go.SL.encSL x ∧ MemL_37 x (hp w) := by
  obtain ⟨a, cap, xs, rfl, hr, hq⟩ := rdy_slice (en := Go.SL.encSL) (Q := fun y => MemL_22 y (hp w)) (sz := 1) Tryz.underlying37 (by kernel_rfl) (fun _ => rfl) (fun cs h => rdl_22 h) h; exact ⟨⟨a, xs, cap⟩, rfl, hr, Nat.le_trans hr.2.1 hr.2.2.1, hq⟩
theorem rdl1_37 {H : Type} {enc : TypeId × Value → H} {w : World} {c : Value} (h : Rdy enc Tryz.prog w 37 [c]) : ∃ x : SL (SL UInt8), c = x.v ∧ MemL_37 x (hp w) := by
  obtain ⟨x, hx, hm⟩ := rdl_37 h; exact ⟨x, by simpa [Go.SL.encSL] using hx, hm⟩
def MemL_52 (x : SL (List UInt8)) (h : Hp) : Prop := x.ro Go.SL.encStr 1 h ∧ x.xs.length ≤ maxLen ∧ ∀ y ∈ x.xs, y.length ≤ maxLen
theorem rdl_52 {H : Type} {enc : TypeId × Value → H} {w : World} {cs : List Value} (h : Rdy enc Tryz.prog w 52 cs) : ∃ x : SL (List UInt8), cs = Go.SL.encSL x ∧ MemL_52 x (hp w) := by
  obtain ⟨a, cap, xs, rfl, hr, hq⟩ := rdy_slice (en := Go.SL.encStr) (Q := fun y => y.length ≤ maxLen) (sz := 1) Tryz.underlying52 (by kernel_rfl) (fun _ => rfl) (fun cs h => by obtain ⟨n, e, hn⟩ := rd_string Tryz.underlying9 h; exact ⟨n, e, hn⟩) h; exact ⟨⟨a, xs, cap⟩, rfl, hr, Nat.le_trans hr.2.1 hr.2.2.1, hq⟩
theorem rdl1_52 {H : Type} {enc : TypeId × Value → H} {w : World} {c : Value} (h : Rdy enc Tryz.prog w 52 [c]) : ∃ x : SL (List UInt8), c = x.v ∧ MemL_52 x (hp w) := by
  obtain ⟨x, hx, hm⟩ := rdl_52 h; exact ⟨x, by simpa [Go.SL.encSL] using hx, hm⟩
theorem laid9 : (Rows.laid_internal_strconv_uint64pow10 : DataW Unit) = Lib.tabData .u64 Lib.pow10Tab := by kernel_rfl
theorem tabC {W : World} {r : List (String × DataW Unit)} (h : laidMet Tryz.prog (("internal/strconv.uint64pow10", Rows.laid_internal_strconv_uint64pow10) :: r) W) : Lib.TabIs Tryz.prog W "internal/strconv.uint64pow10" .u64 Lib.pow10Tab := by
  rw [laid9] at h; exact Lib.tabIs_of_head (g := 5) (t := 360) (e := 128) (n := 20) (by kernel_rfl) (by kernel_rfl) (by kernel_rfl) (by kernel_rfl) (by kernel_rfl) (by kernel_rfl) h
theorem lifted (os : Os) (started : os.Started) (H : Type) (enc : TypeId × Value → H) :
    ReturnsInHanded {} Tryz.checked os 5 .any (fun w args => (Rows.shelfNewestSpec.pre enc Tryz.prog Tryz.f5 Rows.shelfNewestRow.domain false w args ∧ laidMetH Tryz.prog Rows.shelfNewestRow.laid w) ∧ sizedMet enc Tryz.prog Tryz.f5 (OpenSpec.ofChange Rows.shelfNewestSpec) false w args) (Rows.shelfNewestSpec.post enc Tryz.prog Tryz.f5 false true false false) := by
  refine returnsInHanded_of_change_and (C := Tryz.checked) (X := fun w _ => laidMetH Tryz.prog Rows.shelfNewestRow.laid w) (fun _ _ _ hh h => h.of_heap hh) own started (by kernel_rfl) Tryz.func5
    (ChangeSpec.witness_shaped (enc := enc) (C := Tryz.checked) (os := os) (X := fun w _ => laidMetH Tryz.prog Rows.shelfNewestRow.laid w) false (World.laidAll Tryz.prog os Rows.shelfNewestRow.laid) #[.slice none 0 0, .slice none 0 0, .int .i64 0] 8 (World.laidAll_os _ _ _)
      (World.shaped_of_ZipB (by kernel_rfl) (by kernel_rfl)) (by kernel_rfl) (by kernel_rfl) (by kernel_rfl)
      (by rw [MakeChecks.laidMetH_plain _ _ _ (by kernel_rfl)]; exact laidMet_laidAll _ (by kernel_rfl) (by kernel_rfl))) ?_
  intro W base args ds gs before hval0 hW hcnd _ hX _; have hval : ∀ (j : Nat) t v, Tryz.f5.params[j]? = some t → args[j]? = some v → Value.okWide Tryz.prog W .any base t v := hval0; have hW' := hW; obtain ⟨p, q, hA0, hV, rfl, hfz, hnd⟩ := hW; have hA : DataW.TrodAll enc Tryz.prog W 0 (fun _ => true) true Tryz.f5.params.toList args.toList ds p := hA0; rw [Tryz.params5] at hA hval; have hlm := hX; rw [MakeChecks.laidMetH_plain _ _ _ (by kernel_rfl)] at hlm; have htab : Tab Tryz.prog (hp W) := tab_of (tabC (laidMet.tail (laidMet.tail hlm))); clear hlm; obtain ⟨v0, vs0, d0, ds0, p0, q0, hargs, rfl, rfl, h0, r0⟩ := trodAll_cons hA; obtain ⟨v1, vs1, d1, ds1, p1, q1, rfl, rfl, rfl, h1, r1⟩ := trodAll_cons r0; obtain ⟨v2, vs2, d2, ds2, p2, q2, rfl, rfl, rfl, h2, r2⟩ := trodAll_cons r1; obtain ⟨rfl, rfl, rfl⟩ := trodAll_nil r2; obtain rfl : args = #[v0, v1, v2] := by cases args; simp_all
  obtain ⟨rfl, rfl⟩ := trodVars_none hV; have k0 := h0; have lt0 : ∀ x ∈ p0, x.block < W.heap.size := by obtain ⟨m, hm⟩ := k0; exact DataW.trod_lt m _ _ _ hm
  obtain ⟨a0, len0, cap0, rfl⟩ := okWide_slice Tryz.underlying52 (hval 0 52 v0 rfl rfl); obtain ⟨S0, e0, ro0⟩ := rdl1_52 (rdy_of h0); simp [SL.v] at e0; obtain ⟨rfl, rfl, rfl⟩ := e0; have k1 := h1; have lt1 : ∀ x ∈ p1, x.block < W.heap.size := by obtain ⟨m, hm⟩ := k1; exact DataW.trod_lt m _ _ _ hm
  obtain ⟨a1, len1, cap1, rfl⟩ := okWide_slice Tryz.underlying37 (hval 1 37 v1 rfl rfl); obtain ⟨S1, e1, ro1⟩ := rdl1_37 (rdy_of h1); simp [SL.v] at e1; obtain ⟨rfl, rfl, rfl⟩ := e1; have k2 := h2; have lt2 : ∀ x ∈ p2, x.block < W.heap.size := by obtain ⟨m, hm⟩ := k2; exact DataW.trod_lt m _ _ _ hm
  obtain ⟨a2, rfl, rfl, rfl, w2⟩ := open_int Tryz.underlying3 (hval 2 3 v2 rfl rfl) h2; clear hA0 hval0; refine (law_of_spec (lawish (Go.ShfNz.newlaw_spec S0.a S0.xs.length S0.cap S0.xs rfl S1.a S1.xs.length S1.cap S1.xs rfl a2 (hp W) ro0.1 (fun s hs => ro0.2.2 s hs) ro1.1 (fun B hB => (ro1.2.2 B hB).1) (wf_i64.1 w2) htab))).mono fun e W' ⟨he, bel⟩ => ?_; subst he; exact ⟨_, rfl, _, _, _, [], _, [], hW', trodAll_mk1 (shut_bool Tryz.underlying4 _), (trodAll_cons_mk (Below.trod laidOut (by kernel_rfl) (of_decide_eq_true (by kernel_rfl)) k0 bel lt0) (trodAll_cons_mk (Below.trod laidOut (by kernel_rfl) (of_decide_eq_true (by kernel_rfl)) k1 bel lt1) (trodAll_cons_mk (Below.trod laidOut (by kernel_rfl) (of_decide_eq_true (by kernel_rfl)) k2 bel lt2) trodAll_mk0))), rfl, bel.frame _, fun h => by cases h⟩
theorem and2_ {a b : Bool} (h : a = true) (k : b = true) : (a && b) = true := by rw [h, k]; rfl
theorem jf0 : (Rows.shelfNewestRow.wf (OpenSpec.ofChange Rows.shelfNewestSpec)) = true := by kernel_rfl
theorem jf1 : (laidOutB Tryz.prog) = true := by kernel_rfl
theorem jf2 : (mapsRowed Tryz.prog) = true := by kernel_rfl
theorem jf3 : (Tryz.f5.params.all (Tryz.prog.readableRec ·)) = true := by kernel_rfl
theorem jf4 : (namedTie Tryz.prog Rows.shelfNewestRow.named Rows.shelfNewestSpec.vars) = true := by kernel_rfl
theorem jf5 : ((Rows.shelfNewestRow.stops == [])) = true := by kernel_rfl
theorem jf6 : ((Tryz.prog.stops == [])) = true := by kernel_rfl
theorem jf7 : ((Rows.shelfNewestRow.knobs == [])) = true := by kernel_rfl
theorem jf8 : ((Tryz.prog.stopKnobs == [])) = true := by kernel_rfl
theorem jf9 : ((Rows.shelfNewestRow.inPlace == Tryz.prog.inPlace 5)) = true := by kernel_rfl
theorem jf10 : ((Rows.shelfNewestRow.unfollowed == Tryz.prog.unfollowed 5)) = true := by kernel_rfl
theorem jf11 : ((Rows.shelfNewestRow.recurses == Tryz.prog.recurses 5)) = true := by kernel_rfl
theorem jf12 : ((Rows.shelfNewestRow.named == Tryz.prog.varsNamed 5)) = true := by kernel_rfl
theorem jf13 : ((Rows.shelfNewestRow.maps == (Tryz.f5.params.toList ++ Rows.shelfNewestSpec.plain.varTypes Tryz.prog).any (Tryz.prog.mapsRec ·))) = true := by kernel_rfl
theorem jf14 : ((Rows.shelfNewestRow.ifaces == (Tryz.f5.params.toList ++ Rows.shelfNewestSpec.plain.varTypes Tryz.prog).any (Tryz.prog.ifacesRec ·))) = true := by kernel_rfl
theorem jf15 : ((Rows.shelfNewestRow.mapsOut == Tryz.prog.mapsAmong Tryz.f5.resultTypes.toList)) = true := by kernel_rfl
theorem jf16 : ((Rows.shelfNewestRow.loops == (Tryz.f5.params.toList ++ Rows.shelfNewestSpec.plain.varTypes Tryz.prog).any (Tryz.prog.loopsFrom ·))) = true := by kernel_rfl
theorem jf17 : ((Rows.shelfNewestRow.wideKeys == (Tryz.f5.params.toList ++ Rows.shelfNewestSpec.plain.varTypes Tryz.prog ++ Tryz.f5.resultTypes.toList).any (Tryz.prog.wideKeysFrom ·))) = true := by kernel_rfl
theorem jf18 : (Rows.shelfNewestSpec.vars.all (Tryz.prog.varReadable ·)) = true := by kernel_rfl
theorem jf19 : (Tryz.f5.resultTypes.all (fun t => Tryz.prog.readableRec t && decide (t < Tryz.prog.types.size))) = true := by kernel_rfl
theorem jf20 : ((Rows.shelfNewestRow.ifacesOut == Tryz.f5.resultTypes.toList.any (Tryz.prog.ifacesRec ·))) = true := by kernel_rfl
theorem jf21 : ((Rows.shelfNewestRow.loopsOut == Tryz.f5.resultTypes.toList.any (Tryz.prog.loopsFrom ·))) = true := by kernel_rfl
theorem jf22 : ((Rows.shelfNewestRow.plainKeys == Tryz.prog.plainKeys)) = true := by kernel_rfl
theorem jf23 : (Rows.shelfNewestRow.shortTexts.isNone) = true := by kernel_rfl
theorem jf24 : (Tryz.prog.stopsHeard) = true := by kernel_rfl
theorem jf25 : (Tryz.prog.mayEnter) = true := by kernel_rfl
theorem jf26 : ((Rows.shelfNewestRow.lifted == Tryz.prog.liftsFinal)) = true := by kernel_rfl
theorem jf27 : ((Tryz.prog.make == some Rows.shelfNewestRow.make)) = true := by kernel_rfl
theorem jf28 : ((Rows.shelfNewestRow.kinds == (if Rows.shelfNewestRow.domain.isEmpty then [] else Tryz.f5.params.toList.map fun t => match Tryz.prog.underlying t with | some (.int k) => some k | _ => none))) = true := by kernel_rfl
theorem jf29 : ((Rows.shelfNewestRow.pinned == Rows.shelfNewestRow.pinnedBy)) = true := by kernel_rfl
theorem jf30 : ((Rows.shelfNewestRow.veiled == (Tryz.f5.params.toList ++ Rows.shelfNewestSpec.plain.varTypes Tryz.prog ++ Tryz.f5.resultTypes.toList).any (Tryz.prog.veiledRec ·))) = true := by kernel_rfl
theorem jf31 : (Rows.shelfNewestRow.veiledFits Tryz.prog Tryz.f5.params.toList (Tryz.f5.params.toList ++ Rows.shelfNewestSpec.plain.varTypes Tryz.prog ++ Tryz.f5.resultTypes.toList)) = true := by kernel_rfl
theorem closed : joinedFacts Tryz.prog 5 Tryz.f5 Rows.shelfNewestSpec Rows.shelfNewestRow = true := (and2_ (and2_ (and2_ (and2_ (and2_ (and2_ (and2_ (and2_ (and2_ (and2_ (and2_ (and2_ (and2_ (and2_ (and2_ (and2_ (and2_ (and2_ (and2_ (and2_ (and2_ (and2_ (and2_ (and2_ (and2_ (and2_ (and2_ (and2_ (and2_ (and2_ (and2_ jf0 jf1) jf2) jf3) jf4) jf5) jf6) jf7) jf8) jf9) jf10) jf11) jf12) jf13) jf14) jf15) jf16) jf17) jf18) jf19) jf20) jf21) jf22) jf23) jf24) jf25) jf26) jf27) jf28) jf29) jf30) jf31)
theorem rowSaid : Rows.ShelfNewestSaid :=
  OpenClaim.holds_of_wide 5 Tryz.f5 rfl rfl rfl rfl rfl rfl rfl ⟨rfl, rfl, rfl, rfl, rfl⟩ rfl rfl rfl rfl rfl (by kernel_rfl) Tryz.func5 closed
    (of_decide_eq_true (by kernel_rfl)) (by unfold Func.isWrapper; first | (rw [if_pos (by decide +kernel)]; kernel_rfl) | (rw [if_neg (by decide +kernel)]; exact ⟨rfl, rfl⟩))
    (fun os started H enc _ => lifted os started H enc)
theorem pw : Rows.shelfNewestRow.wfByText (OpenSpec.ofChange Rows.shelfNewestSpec) = true := by kernel_rfl
theorem pm : Tryz.prog.mainIs = some (true, ("983c3602b494791859c4d496bd53b28a9502d3df16336e811413cc5ddef28ce4" : String).toList) := by kernel_rfl
theorem pf : Tryz.prog.funcNamed "echelon/echelonlaw06.ShelfNewest" = some 5 := by kernel_rfl
theorem pl : true = Tryz.prog.looks [] := by kernel_rfl
theorem pa : ([52, 37, 3].all fun u => !Tryz.prog.wantsStandIn u) = true := by kernel_rfl
theorem pg : false = Rows.shelfNewestRow.goesBy Tryz.prog := by kernel_rfl
theorem proved : Rows.ShelfNewestCardSaid :=
  Claim7.holds_tied_plain_at .later [] [.data, .data, .data, .data, .sentinel, .sentinel, .pinned] true (true, "983c3602b494791859c4d496bd53b28a9502d3df16336e811413cc5ddef28ce4") true
    rowSaid (fun _ h => by cases h) pw (fun _ h => by cases h) shelfNewest_row_tie rfl ⟨rfl, rfl⟩ pm rfl
    (fun f fn hf hfn => by
      obtain rfl : f = 5 := Option.some.inj ((show Tryz.prog.funcNamed "echelon/echelonlaw06.ShelfNewest" = some 5 from pf).symm.trans hf) |>.symm; obtain rfl : fn = Tryz.f5 := (Option.some.inj (Tryz.func5.symm.trans hfn)).symm
      exact ⟨pl, fun j t ht => by
        rw [Tryz.params5] at ht; have hm : t ∈ [52, 37, 3] := by simpa using Array.mem_of_getElem? ht
        have hall : ([52, 37, 3].all fun u => !Tryz.prog.wantsStandIn u) = true := pa; exact (show Tryz.prog.wantsStandIn t = false by simpa using List.all_eq_true.1 hall t hm)⟩)
    pg
#print axioms proved
end Go.Proofs.YtijldgggjioccaaGreatDoor.shelfNewest
