/-
  The law 'ShelfParses': her frame about her walk: the given statement 'Rows.ShelfParsesSaid'.
-/
import Derived.Test.YtijldgggjioccaaGreatDoorRows
import Derived.Test.YtijldgggjioccaaGreatDoorSlZb
import Derived.Test.YtijldgggjioccaaGreatDoorShfPa
import Derived.Test.YtijldgggjioccaaGreatDoorTie
import Derived.Test.YtijldgggjioccaaGreatDoorCards
import Derived.LaidMore
import Derived.Lay
import Derived.SevenTiedAt
import Derived.Stop.Joined
set_option maxRecDepth 100000
set_option linter.unusedVariables false
set_option linter.unusedSimpArgs false
namespace Go.Proofs.YtijldgggjioccaaGreatDoor.shelfParses
open Go.ChangeShapes Go.WideShapes Go.ChangeAt Go.RowKit
open Go.ChangeMaps (open_string shut_string)
open Go.SL 
theorem own : ownKnob Tryz.prog.godebug = none := by kernel_rfl
theorem laidOut : laidOutB Tryz.prog = true := by kernel_rfl
theorem rd_int {H : Type} {enc : TypeId × Value → H} {P : Program} {w : World} {t : TypeId} {k : IntKind} {cs : List Value} {N : Nat} (ht : P.underlying t = some (.int k)) (h : RdyN enc P w t cs N) : ∃ n, cs = [.int k n] ∧ (Lit.int k n).wf = true := rdy_int ht (h.rdy)
theorem rd_int1 {H : Type} {enc : TypeId × Value → H} {P : Program} {w : World} {t : TypeId} {k : IntKind} {c : Value} {N : Nat} (ht : P.underlying t = some (.int k)) (h : RdyN enc P w t [c] N) : ∃ n, c = .int k n ∧ (Lit.int k n).wf = true := by
  obtain ⟨n, hc, hw⟩ := rd_int ht h; exact ⟨n, by simpa using hc, hw⟩
def MemL_22 (x : SL UInt8) (h : Hp) (N : Nat) : Prop := x.ro Go.SL.encB 1 h ∧ x.xs.length ≤ maxLen ∧ x.xs.length ≤ N ∧ ∀ y ∈ x.xs, True
theorem rdl_22 {H : Type} {enc : TypeId × Value → H} {w : World} {N : Nat} {cs : List Value} (h : RdyN enc Tryz.prog w 22 cs N) : ∃ x : SL UInt8, cs = Go.SL.encSL x ∧ MemL_22 x (hp w) N := by
  obtain ⟨a, cap, xs, rfl, hr, hn, hq⟩ := rdyN_slice (en := Go.SL.encB) (Q := fun y => True) (sz := 1) Tryz.underlying22 (by kernel_rfl) (fun _ => rfl) (fun cs h => rdy_byte Tryz.underlying5 h.rdy) h; exact ⟨⟨a, xs, cap⟩, rfl, hr, Nat.le_trans hr.2.1 hr.2.2.1, hn, hq⟩
theorem rdl1_22 {H : Type} {enc : TypeId × Value → H} {w : World} {N : Nat} {c : Value} (h : RdyN enc Tryz.prog w 22 [c] N) : ∃ x : SL UInt8, c = x.v ∧ MemL_22 x (hp w) N := by
  obtain ⟨x, hx, hm⟩ := rdl_22 h; exact ⟨x, by simpa [Go.SL.encSL] using hx, hm⟩
def Mem_Mark1 (x : Go.Shf.Mark1) (h : Hp) (N : Nat) : Prop := (Lit.int .i64 x.Index).wf = true ∧ (Lit.int .i64 x.Term).wf = true
theorem rd_Mark1 {H : Type} {enc : TypeId × Value → H} {w : World} {N : Nat} {cs : List Value} (h : RdyN enc Tryz.prog w 24 cs N) : ∃ x : Go.Shf.Mark1, cs = Go.Shf.encMark1 x ∧ Mem_Mark1 x (hp w) N := by
  obtain ⟨hl, hf⟩ := rdyN_struct Tryz.underlying24 h; rw [show Program.cellsOf Tryz.prog 24 = 2 from by kernel_rfl] at hl
  obtain ⟨c0, c1, rfl⟩ : ∃ c0 c1, cs = [c0, c1] := by
    match cs, hl with
    | [c0, c1], _ => exact ⟨_, _, rfl⟩
  have z3 : Program.cellsOf Tryz.prog 3 = 1 := by kernel_rfl
  simp only [List.mem_cons, List.not_mem_nil, or_false, forall_eq_or_imp, forall_eq, z3] at hf; obtain ⟨hf_0, hf_1⟩ := hf; simp at hf_0 hf_1; obtain ⟨x0, rfl, m0⟩ := rd_int1 Tryz.underlying3 hf_0; obtain ⟨x1, rfl, m1⟩ := rd_int1 Tryz.underlying3 hf_1; exact ⟨⟨x0, x1⟩, rfl, ⟨m0, m1⟩⟩
def Mem_Snap1 (x : Go.Shf.Snap1) (h : Hp) (N : Nat) : Prop := Mem_Mark1 x.Mark h N ∧ MemL_22 x.Conf h N ∧ MemL_22 x.Body h N
theorem rd_Snap1 {H : Type} {enc : TypeId × Value → H} {w : World} {N : Nat} {cs : List Value} (h : RdyN enc Tryz.prog w 26 cs N) : ∃ x : Go.Shf.Snap1, cs = Go.Shf.encSnap1 x ∧ Mem_Snap1 x (hp w) N := by
  obtain ⟨hl, hf⟩ := rdyN_struct Tryz.underlying26 h; rw [show Program.cellsOf Tryz.prog 26 = 4 from by kernel_rfl] at hl
  obtain ⟨c0, c1, c2, c3, rfl⟩ : ∃ c0 c1 c2 c3, cs = [c0, c1, c2, c3] := by
    match cs, hl with
    | [c0, c1, c2, c3], _ => exact ⟨_, _, _, _, rfl⟩
  have z24 : Program.cellsOf Tryz.prog 24 = 2 := by kernel_rfl
  have z22 : Program.cellsOf Tryz.prog 22 = 1 := by kernel_rfl
  simp only [List.mem_cons, List.not_mem_nil, or_false, forall_eq_or_imp, forall_eq, z22, z24] at hf; obtain ⟨hf_0, hf_1, hf_2⟩ := hf; simp at hf_0 hf_1 hf_2; obtain ⟨x0, e0, m0⟩ := rd_Mark1 hf_0; simp only [Go.Shf.encMark1, List.cons.injEq, and_true] at e0; obtain ⟨rfl, rfl⟩ := e0; obtain ⟨x1, rfl, m1⟩ := rdl1_22 hf_1; obtain ⟨x2, rfl, m2⟩ := rdl1_22 hf_2; exact ⟨⟨x0, x1, x2⟩, rfl, ⟨m0, m1, m2⟩⟩
theorem lifted (os : Os) (started : os.Started) (H : Type) (enc : TypeId × Value → H) (F : Stop.Interp) :
    ReturnsInHanded {} Tryz.checked os 3 .any (fun w args => ((Rows.OpenSpec.upto Rows.shelfParsesSpec).pre enc Tryz.prog Tryz.f3 Rows.shelfParsesUptoRow.domain false w args ∧ laidMetH Tryz.prog Rows.shelfParsesUptoRow.laid w) ∧ sizedMet enc Tryz.prog Tryz.f3 (Rows.OpenSpec.upto Rows.shelfParsesSpec) false w args) (((Rows.OpenSpec.upto Rows.shelfParsesSpec).at F).post enc Tryz.prog Tryz.f3 false true false false) := by
  refine cond_and (C := Tryz.checked) (s := (Rows.OpenSpec.upto Rows.shelfParsesSpec)) (k := Rows.uptoSmall) (X := fun w _ => laidMetH Tryz.prog Rows.shelfParsesUptoRow.laid w) rfl own started (by kernel_rfl) Tryz.func3
    (witness_cond (enc := enc) (C := Tryz.checked) (os := os) (s := (Rows.OpenSpec.upto Rows.shelfParsesSpec)) (k := Rows.uptoSmall) rfl (X := fun w _ => laidMetH Tryz.prog Rows.shelfParsesUptoRow.laid w) false (World.laidAll Tryz.prog os Rows.shelfParsesUptoRow.laid) #[.slice none 0 0, .agg #[.int .i64 0, .int .i64 0, .slice none 0 0, .slice none 0 0]] 8 (World.laidAll_os _ _ _)
      (World.shaped_of_ZipB (by kernel_rfl) (by kernel_rfl)) (by kernel_rfl) (x := ([.nil, .agg [.agg [.lit (.int .i64 0), .lit (.int .i64 0)], .nil, .nil]], [], [])) (by kernel_rfl) rfl (by kernel_rfl) (by kernel_rfl)
      (by rw [MakeChecks.laidMetH_plain _ _ _ (by kernel_rfl)]; exact laidMet_laidAll _ (by kernel_rfl) (by kernel_rfl))) ?_
  intro W base args ds gs before hval0 hW _ hk _; have hval : ∀ (j : Nat) t v, Tryz.f3.params[j]? = some t → args[j]? = some v → Value.okWide Tryz.prog W .any base t v := hval0; have hW' := hW; obtain ⟨p, q, hA0, hV, rfl, hfz, hnd⟩ := hW; have hA : DataW.TrodAll enc Tryz.prog W 0 (fun _ => true) true Tryz.f3.params.toList args.toList ds p := hA0; rw [Tryz.params3] at hA hval; obtain ⟨v0, vs0, d0, ds0, p0, q0, hargs, rfl, rfl, h0, r0⟩ := trodAll_cons hA; obtain ⟨v1, vs1, d1, ds1, p1, q1, rfl, rfl, rfl, h1, r1⟩ := trodAll_cons r0; obtain ⟨rfl, rfl, rfl⟩ := trodAll_nil r1; obtain rfl : args = #[v0, v1] := by cases args; simp_all
  obtain ⟨rfl, rfl⟩ := trodVars_none hV; have hkk := of_decide_eq_true hk; simp only [List.append_nil, Rows.uptoBulkAll] at hkk; have hb0 : Rows.uptoBulk d0 ≤ 1048576 := by omega
  have hb1 : Rows.uptoBulk d1 ≤ 1048576 := by omega
  clear hk hkk; have k0 := h0; have lt0 : ∀ x ∈ p0, x.block < W.heap.size := by obtain ⟨m, hm⟩ := k0; exact DataW.trod_lt m _ _ _ hm
  obtain ⟨a0, len0, cap0, rfl⟩ := okWide_slice Tryz.underlying22 (hval 0 22 v0 rfl rfl); obtain ⟨S0, e0, ro0⟩ := rdl1_22 (rdyN_of h0 hb0); simp [SL.v] at e0; obtain ⟨rfl, rfl, rfl⟩ := e0; have k1 := h1; have lt1 : ∀ x ∈ p1, x.block < W.heap.size := by obtain ⟨m, hm⟩ := k1; exact DataW.trod_lt m _ _ _ hm
  obtain ⟨cs1, rfl, sz1⟩ := okWide_struct Tryz.underlying26 (hval 1 26 v1 rfl rfl); obtain ⟨S1, e1, ro1⟩ := rd_Snap1 (rdyN_of h1 hb1); obtain rfl : cs1 = (Go.Shf.encSnap1 S1).toArray := by rw [← e1]; simp [Value.cells]
  clear hA0 hval0; refine (law_of_spec (lawish (Go.ShfPa.parses_spec S0 S1 (hp W) ro0.1 ro1.2.1.1 ro1.2.2.1 ro0.2.2.1 ro1.2.1.2.2.1 ro1.2.2.2.2.1))).mono fun e W' ⟨he, bel⟩ => ?_; subst he; exact ⟨_, rfl, _, _, _, [], _, [], hW', trodAll_mk1 (shut_bool Tryz.underlying4 _), (trodAll_cons_mk (Below.trod laidOut (by kernel_rfl) (of_decide_eq_true (by kernel_rfl)) k0 bel lt0) (trodAll_cons_mk (Below.trod laidOut (by kernel_rfl) (of_decide_eq_true (by kernel_rfl)) k1 bel lt1) trodAll_mk0)), rfl, bel.frame _, fun h => by cases h⟩
theorem and2_ {a b : Bool} (h : a = true) (k : b = true) : (a && b) = true := by rw [h, k]; rfl
theorem jf0 : (Rows.shelfParsesUptoRow.wf (OpenSpec.ofChange (Rows.OpenSpec.upto Rows.shelfParsesSpec).bare)) = true := by kernel_rfl
theorem jf1 : (laidOutB Tryz.prog) = true := by kernel_rfl
theorem jf2 : (mapsRowed Tryz.prog) = true := by kernel_rfl
theorem jf3 : (Tryz.f3.params.all (Tryz.prog.readableRec ·)) = true := by kernel_rfl
theorem jf4 : (namedTie Tryz.prog Rows.shelfParsesUptoRow.named (Rows.OpenSpec.upto Rows.shelfParsesSpec).bare.vars) = true := by kernel_rfl
theorem jf5 : ((Rows.shelfParsesUptoRow.stops == [])) = true := by kernel_rfl
theorem jf6 : ((Tryz.prog.stops == [])) = true := by kernel_rfl
theorem jf7 : ((Rows.shelfParsesUptoRow.knobs == [])) = true := by kernel_rfl
theorem jf8 : ((Tryz.prog.stopKnobs == [])) = true := by kernel_rfl
theorem jf9 : ((Rows.shelfParsesUptoRow.inPlace == Tryz.prog.inPlace 3)) = true := by kernel_rfl
theorem jf10 : ((Rows.shelfParsesUptoRow.unfollowed == Tryz.prog.unfollowed 3)) = true := by kernel_rfl
theorem jf11 : ((Rows.shelfParsesUptoRow.recurses == Tryz.prog.recurses 3)) = true := by kernel_rfl
theorem jf12 : ((Rows.shelfParsesUptoRow.named == Tryz.prog.varsNamed 3)) = true := by kernel_rfl
theorem jf13 : ((Rows.shelfParsesUptoRow.maps == (Tryz.f3.params.toList ++ (Rows.OpenSpec.upto Rows.shelfParsesSpec).bare.plain.varTypes Tryz.prog).any (Tryz.prog.mapsRec ·))) = true := by kernel_rfl
theorem jf14 : ((Rows.shelfParsesUptoRow.ifaces == (Tryz.f3.params.toList ++ (Rows.OpenSpec.upto Rows.shelfParsesSpec).bare.plain.varTypes Tryz.prog).any (Tryz.prog.ifacesRec ·))) = true := by kernel_rfl
theorem jf15 : ((Rows.shelfParsesUptoRow.mapsOut == Tryz.prog.mapsAmong Tryz.f3.resultTypes.toList)) = true := by kernel_rfl
theorem jf16 : ((Rows.shelfParsesUptoRow.loops == (Tryz.f3.params.toList ++ (Rows.OpenSpec.upto Rows.shelfParsesSpec).bare.plain.varTypes Tryz.prog).any (Tryz.prog.loopsFrom ·))) = true := by kernel_rfl
theorem jf17 : ((Rows.shelfParsesUptoRow.wideKeys == (Tryz.f3.params.toList ++ (Rows.OpenSpec.upto Rows.shelfParsesSpec).bare.plain.varTypes Tryz.prog ++ Tryz.f3.resultTypes.toList).any (Tryz.prog.wideKeysFrom ·))) = true := by kernel_rfl
theorem jf18 : ((Rows.OpenSpec.upto Rows.shelfParsesSpec).bare.vars.all (Tryz.prog.varReadable ·)) = true := by kernel_rfl
theorem jf19 : (Tryz.f3.resultTypes.all (fun t => Tryz.prog.readableRec t && decide (t < Tryz.prog.types.size))) = true := by kernel_rfl
theorem jf20 : ((Rows.shelfParsesUptoRow.ifacesOut == Tryz.f3.resultTypes.toList.any (Tryz.prog.ifacesRec ·))) = true := by kernel_rfl
theorem jf21 : ((Rows.shelfParsesUptoRow.loopsOut == Tryz.f3.resultTypes.toList.any (Tryz.prog.loopsFrom ·))) = true := by kernel_rfl
theorem jf22 : ((Rows.shelfParsesUptoRow.plainKeys == Tryz.prog.plainKeys)) = true := by kernel_rfl
theorem jf23 : (Rows.shelfParsesUptoRow.shortTexts.isNone) = true := by kernel_rfl
theorem jf24 : (Tryz.prog.stopsHeard) = true := by kernel_rfl
theorem jf25 : (Tryz.prog.mayEnter) = true := by kernel_rfl
theorem jf26 : ((Rows.shelfParsesUptoRow.lifted == Tryz.prog.liftsFinal)) = true := by kernel_rfl
theorem jf27 : ((Tryz.prog.make == some Rows.shelfParsesUptoRow.make)) = true := by kernel_rfl
theorem jf28 : ((Rows.shelfParsesUptoRow.kinds == (if Rows.shelfParsesUptoRow.domain.isEmpty then [] else Tryz.f3.params.toList.map fun t => match Tryz.prog.underlying t with | some (.int k) => some k | _ => none))) = true := by kernel_rfl
theorem jf29 : ((Rows.shelfParsesUptoRow.pinned == Rows.shelfParsesUptoRow.pinnedBy)) = true := by kernel_rfl
theorem jf30 : ((Rows.shelfParsesUptoRow.veiled == (Tryz.f3.params.toList ++ (Rows.OpenSpec.upto Rows.shelfParsesSpec).bare.plain.varTypes Tryz.prog ++ Tryz.f3.resultTypes.toList).any (Tryz.prog.veiledRec ·))) = true := by kernel_rfl
theorem jf31 : (Rows.shelfParsesUptoRow.veiledFits Tryz.prog Tryz.f3.params.toList (Tryz.f3.params.toList ++ (Rows.OpenSpec.upto Rows.shelfParsesSpec).bare.plain.varTypes Tryz.prog ++ Tryz.f3.resultTypes.toList)) = true := by kernel_rfl
theorem closed : joinedFacts Tryz.prog 3 Tryz.f3 (Rows.OpenSpec.upto Rows.shelfParsesSpec).bare Rows.shelfParsesUptoRow = true := (and2_ (and2_ (and2_ (and2_ (and2_ (and2_ (and2_ (and2_ (and2_ (and2_ (and2_ (and2_ (and2_ (and2_ (and2_ (and2_ (and2_ (and2_ (and2_ (and2_ (and2_ (and2_ (and2_ (and2_ (and2_ (and2_ (and2_ (and2_ (and2_ (and2_ (and2_ jf0 jf1) jf2) jf3) jf4) jf5) jf6) jf7) jf8) jf9) jf10) jf11) jf12) jf13) jf14) jf15) jf16) jf17) jf18) jf19) jf20) jf21) jf22) jf23) jf24) jf25) jf26) jf27) jf28) jf29) jf30) jf31)
theorem rowSaid : Rows.ShelfParsesUptoSaid :=
  OpenClaim.holds_of_cond 3 Tryz.f3 rfl rfl rfl rfl rfl rfl rfl ⟨rfl, rfl, rfl, rfl, rfl⟩ rfl rfl rfl rfl rfl (by kernel_rfl) Tryz.func3 closed
    (of_decide_eq_true (by kernel_rfl)) (by unfold Func.isWrapper; first | (rw [if_pos (by decide +kernel)]; kernel_rfl) | (rw [if_neg (by decide +kernel)]; exact ⟨rfl, rfl⟩))
    (fun os started H enc _ F => lifted os started H enc F)
theorem pw : Rows.shelfParsesUptoRow.wfByText (Rows.OpenSpec.upto Rows.shelfParsesSpec) = true := by kernel_rfl
theorem pm : Tryz.prog.mainIs = some (true, ("983c3602b494791859c4d496bd53b28a9502d3df16336e811413cc5ddef28ce4" : String).toList) := by kernel_rfl
theorem pf : Tryz.prog.funcNamed "echelon/echelonlaw06.ShelfParses" = some 3 := by kernel_rfl
theorem pl : true = Tryz.prog.looks [] := by kernel_rfl
theorem pa : ([22, 26].all fun u => !Tryz.prog.wantsStandIn u) = true := by kernel_rfl
theorem pg : false = Rows.shelfParsesUptoRow.goesBy Tryz.prog := by kernel_rfl
theorem proved : Rows.ShelfParsesUptoCardSaid :=
  Claim7.holds_tied_plain_at .later [] [.data, .data, .data, .data, .sentinel, .sentinel, .pinned] true (true, "983c3602b494791859c4d496bd53b28a9502d3df16336e811413cc5ddef28ce4") true
    rowSaid (fun _ h => by cases h) pw (fun _ h => by cases h) shelfParsesUpto_row_tie rfl ⟨rfl, rfl⟩ pm rfl
    (fun f fn hf hfn => by
      obtain rfl : f = 3 := Option.some.inj ((show Tryz.prog.funcNamed "echelon/echelonlaw06.ShelfParses" = some 3 from pf).symm.trans hf) |>.symm; obtain rfl : fn = Tryz.f3 := (Option.some.inj (Tryz.func3.symm.trans hfn)).symm
      exact ⟨pl, fun j t ht => by
        rw [Tryz.params3] at ht; have hm : t ∈ [22, 26] := by simpa using Array.mem_of_getElem? ht
        have hall : ([22, 26].all fun u => !Tryz.prog.wantsStandIn u) = true := pa; exact (show Tryz.prog.wantsStandIn t = false by simpa using List.all_eq_true.1 hall t hm)⟩)
    pg
#print axioms proved
end Go.Proofs.YtijldgggjioccaaGreatDoor.shelfParses
