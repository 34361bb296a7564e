/- The law EmitSingles of the given program, for every input that its row speaks of: it returns true and leaves its arguments as they were. -/
import Derived.Test.YtollifnnpihfdaaGreatDoorCards
import Derived.Test.YtollifnnpihfdaaGreatDoorTie
import Derived.Test.YtollifnnpihfdaaGreatDoorC09
import Derived.Test.YtollifnnpihfdaaGreatDoorC39
import Derived.Lay
import Derived.LaidMore
import Derived.Stop.Joined
import Derived.SevenTiedAt
import Derived.Lib.SmallJoins
namespace Go.Proofs.YtollifnnpihfdaaGreatDoor.emitSingles
open Go.ChangeShapes Go.WideShapes Go.ChangeAt Go.WideMaps Go.WideElems Go.RowKit Go.Joins
open Go.ChangeMaps (open_string)

theorem pow_of {W : World} (h : laidMetH Tryz.prog Rows.emitSinglesRow.laid W) : Pow W :=
  tab_of_laid (k := .u64) (zs := Lib.pow10Tab) (g := 7) 2 (by kernel_rfl) h (by kernel_rfl) (by kernel_rfl) (by kernel_rfl) Tryz.underlying343 Tryz.underlying87 (by kernel_rfl) (by kernel_rfl)
theorem tab_of {W : World} (h : laidMetH Tryz.prog Rows.emitSinglesRow.laid W) : Tab W :=
  glob_of_tab (tab_of_laid (k := .u8) (zs := [48, 49, 50, 51, 52, 53, 54, 55, 56, 57, 97, 98, 99, 100, 101, 102]) (g := 6) 4 (by kernel_rfl) h rfl (by kernel_rfl) (by kernel_rfl) Tryz.underlying316 Tryz.underlying5 (by kernel_rfl) (by kernel_rfl)) (by kernel_rfl) rfl
theorem calls_of {W : World} (h : laidMetH Tryz.prog Rows.emitSinglesRow.laid W) : Calls10 W := calls_of_laid 5 (by kernel_rfl) h rfl
theorem names_of {W : World} (h : laidMetH Tryz.prog Rows.emitSinglesRow.laid W) : FNames W := names_laid 6 (by kernel_rfl) h rfl
theorem ops_of {W : World} (h : laidMetH Tryz.prog Rows.emitSinglesRow.laid W) : FOps W := ops_laid 7 (by kernel_rfl) h rfl
theorem lists_of {W : World} (h : laidMetH Tryz.prog Rows.emitSinglesRow.laid W) : RLists W := lists_laid 8 (by kernel_rfl) h rfl
theorem acts_of {W : World} (h : laidMetH Tryz.prog Rows.emitSinglesRow.laid W) : RActs W := acts_laid 9 (by kernel_rfl) h rfl
theorem perm_of {W : World} (h : laidMetH Tryz.prog Rows.emitSinglesRow.laid W) : RPerm W := perm_laid 10 (by kernel_rfl) h rfl
theorem rglob_of {W : World} (h : laidMetH Tryz.prog Rows.emitSinglesRow.laid W) : RGlob W := ⟨lists_of h, acts_of h, perm_of h, names_of h, ops_of h, tab_of h, pow_of h⟩
theorem own : ownKnob Tryz.prog.godebug = none := by kernel_rfl
theorem laidOut : laidOutB Tryz.prog = true := by kernel_rfl
theorem door_met (os : Os) (args : Array Value) : laidMetH Tryz.prog Rows.emitSinglesRow.laid ((World.laidAll Tryz.prog os Rows.emitSinglesRow.laid).forCall (fun _ _ => 0) ⟨#[], args, []⟩).memory := by
  rw [MakeChecks.laidMetH_plain _ _ _ (by kernel_rfl)]; exact laidMet_laidAll _ (by kernel_rfl) (by kernel_rfl)
set_option maxRecDepth 100000 in
theorem contract (H : Type) (enc : TypeId × Value → H) (W : World) (base : Nat) (args : Array Value) (ds gs : List (DataW H)) (before : List MemPlace)
    (hval : ∀ (j : Nat) t v, Tryz.f9.params[j]? = some t → args[j]? = some v → Value.okWide Tryz.prog W .any base t v)
    (hW : DataW.Whole enc Tryz.prog Tryz.f9.params.toList Rows.emitSinglesSpec.vars false W args.toList ds gs before) (hL : laidMetH Tryz.prog Rows.emitSinglesRow.laid W) :
    Calls Tryz.prog 9 args W fun e W' => ∃ v, e = .returned v ∧ Rows.emitSinglesSpec.post enc Tryz.prog Tryz.f9 false true false false W args v W' := by
  have hlt : ∀ p ∈ before, p.block < W.heap.size := fun p hp => hW.lt p hp
  have hW' := hW
  obtain ⟨p, q, hA0, hV, rfl, hfz, hnd⟩ := hW
  have hA : DataW.TrodAll enc Tryz.prog W 0 (fun _ => true) true Tryz.f9.params.toList args.toList ds p := hA0
  rw [Tryz.params9] at hA hval
  obtain ⟨v0, vs0, d0, ds0, p0, q0, hargs, rfl, rfl, h0, r0⟩ := trodAll_cons hA
  obtain ⟨v1, vs1, d1, ds1, p1, q1, rfl, rfl, rfl, h1, r1⟩ := trodAll_cons r0
  obtain ⟨v2, vs2, d2, ds2, p2, q2, rfl, rfl, rfl, h2, r2⟩ := trodAll_cons r1
  obtain ⟨v3, vs3, d3, ds3, p3, q3, rfl, rfl, rfl, h3, r3⟩ := trodAll_cons r2
  obtain ⟨v4, vs4, d4, ds4, p4, q4, rfl, rfl, rfl, h4, r4⟩ := trodAll_cons r3
  obtain ⟨v5, vs5, d5, ds5, p5, q5, rfl, rfl, rfl, h5, r5⟩ := trodAll_cons r4
  obtain ⟨v6, vs6, d6, ds6, p6, q6, rfl, rfl, rfl, h6, r6⟩ := trodAll_cons r5
  obtain ⟨v7, vs7, d7, ds7, p7, q7, rfl, rfl, rfl, h7, r7⟩ := trodAll_cons r6
  obtain ⟨v8, vs8, d8, ds8, p8, q8, rfl, rfl, rfl, h8, r8⟩ := trodAll_cons r7
  obtain ⟨v9, vs9, d9, ds9, p9, q9, rfl, rfl, rfl, h9, r9⟩ := trodAll_cons r8
  obtain ⟨rfl, rfl, rfl⟩ := trodAll_nil r9
  obtain rfl : args = #[v0, v1, v2, v3, v4, v5, v6, v7, v8, v9] := by cases args; simp_all
  obtain ⟨rfl, rfl⟩ := trodVars_none hV
  have fin : ∀ (ds : List (DataW H)) (before : List MemPlace) (args : Array Value) W', DataW.Whole enc Tryz.prog Tryz.f9.params.toList Rows.emitSinglesSpec.vars false W args.toList ds [] before → Rows.emitSinglesSpec.fn H (ds ++ []) = { results := [.lit (.bool true)], args := ds } → Below W.heap.size W W' → Rows.emitSinglesSpec.post enc Tryz.prog Tryz.f9 false true false false W args (.bool true) W' :=
    fun ds before args W' h1 h2 h3 => post_law laidOut (by kernel_rfl) (by kernel_rfl) Tryz.underlying4 h1 rfl h2 h3
  have hfin := fun W' h => fin _ _ _ W' hW' rfl h
  clear fin hW' hA0 hV hfz hnd
  obtain ⟨pp, dd, ii, cm, ex, oo, uu, rfl⟩ := proc_arg (hval 0 47 v0 rfl rfl) h0
  obtain ⟨x1, rfl, rfl, rfl, hx1⟩ := open_string Tryz.underlying9 (hval 1 9 v1 rfl rfl) h1
  obtain ⟨x2, rfl, rfl, rfl, hx2⟩ := open_string Tryz.underlying9 (hval 2 9 v2 rfl rfl) h2
  obtain ⟨la, rfl⟩ := loss_arg (hval 3 101 v3 rfl rfl) h3
  obtain ⟨x4, rfl, rfl, rfl, hx4⟩ := open_int Tryz.underlying3 (hval 4 3 v4 rfl rfl) h4
  obtain ⟨x5, rfl, rfl, rfl, hx5⟩ := open_int Tryz.underlying3 (hval 5 3 v5 rfl rfl) h5
  obtain ⟨x6, rfl, rfl, rfl, hx6⟩ := open_int Tryz.underlying3 (hval 6 3 v6 rfl rfl) h6
  obtain ⟨x7, rfl, rfl, rfl, hx7⟩ := open_int Tryz.underlying3 (hval 7 3 v7 rfl rfl) h7
  obtain ⟨x8, rfl, rfl, rfl, hx8⟩ := open_int Tryz.underlying3 (hval 8 3 v8 rfl rfl) h8
  obtain ⟨A, n, c, rfl, hn, hl⟩ := ints_arg (t := 22) (e := 3) Tryz.underlying22 Tryz.underlying3 (by kernel_rfl) (hval 9 22 v9 rfl rfl) h9 (fun x hx => hlt x (by simp [hx]))
  refine law_mono ?_ fun W' hb => ⟨_, rfl, hfin W' hb⟩
  exact emitSingles_walk W pp dd ii cm ex oo uu x1 x2 la x4 x5 x6 x7 x8 A n c hn hl hx1 hx2 (rglob_of hL) (calls_of hL)
set_option maxRecDepth 100000 in
theorem lifted (os : Os) (started : os.Started) (H : Type) (enc : TypeId × Value → H) :
    ReturnsInHanded {} Tryz.checked os 9 .any (fun w args => (Rows.emitSinglesSpec.pre enc Tryz.prog Tryz.f9 [] false w args ∧ laidMetH Tryz.prog Rows.emitSinglesRow.laid w) ∧ sizedMet enc Tryz.prog Tryz.f9 (OpenSpec.ofChange Rows.emitSinglesSpec) false w args)
      (Rows.emitSinglesSpec.post enc Tryz.prog Tryz.f9 false true false false) := by
  refine returnsInHanded_of_change_and (C := Tryz.checked) (X := fun w _ => laidMetH Tryz.prog Rows.emitSinglesRow.laid w) (fun _ _ _ hh h => h.of_heap hh) own started (by kernel_rfl) Tryz.func9
    (ChangeSpec.witness_shaped (enc := enc) (C := Tryz.checked) (os := os) (X := fun w _ => laidMetH Tryz.prog Rows.emitSinglesRow.laid w) false (World.laidAll Tryz.prog os Rows.emitSinglesRow.laid) #[.agg #[.int .i64 0, .int .i64 0, .int .i64 0, .int .i64 0, .int .i64 0, .int .i64 0, .int .i64 0, .int .i64 0, .int .i64 0, .int .i64 0, .string ⟨#[]⟩, .string ⟨#[]⟩, .slice none 0 0, .bool false], .string ⟨#[]⟩, .string ⟨#[]⟩, .agg #[.int .i64 0, .int .i64 0, .int .i64 0, .int .i64 0, .int .i64 0], .int .i64 0, .int .i64 0, .int .i64 0, .int .i64 0, .int .i64 0, .slice none 0 0] 8 (World.laidAll_os _ _ _) (World.shaped_of_ZipB (by kernel_rfl) (by kernel_rfl)) (by kernel_rfl) (by kernel_rfl) (by kernel_rfl) (door_met os _)) ?_
  intro W base args ds gs before hval hW _ _ hL _
  exact contract H enc W base args ds gs before hval hW hL
def kindsMet (P : Program) (fn : Func) (c : OpenClaim) : Bool := (c.kinds == (if c.domain.isEmpty then [] else fn.params.toList.map fun t => match P.underlying t with | some (.int k) => some k | _ => none))
theorem joined_parts {P : Program} {f : FuncId} {fn : Func} {s : ChangeSpec} {c : OpenClaim} (h0 : (c.wf (OpenSpec.ofChange s)) = true) (h1 : (laidOutB P) = true) (h2 : (mapsRowed P) = true) (h3 : (fn.params.all (P.readableRec ·)) = true) (h4 : (namedTie P c.named s.vars) = true) (h5 : ((c.stops == [])) = true) (h6 : ((P.stops == [])) = true) (h7 : ((c.knobs == [])) = true) (h8 : ((P.stopKnobs == [])) = true) (h9 : ((c.inPlace == P.inPlace f)) = true) (h10 : ((c.unfollowed == P.unfollowed f)) = true) (h11 : ((c.recurses == P.recurses f)) = true) (h12 : ((c.named == P.varsNamed f)) = true) (h13 : ((c.maps == (fn.params.toList ++ s.plain.varTypes P).any (P.mapsRec ·))) = true) (h14 : ((c.ifaces == (fn.params.toList ++ s.plain.varTypes P).any (P.ifacesRec ·))) = true) (h15 : ((c.mapsOut == P.mapsAmong fn.resultTypes.toList)) = true) (h16 : ((c.loops == (fn.params.toList ++ s.plain.varTypes P).any (P.loopsFrom ·))) = true) (h17 : ((c.wideKeys == (fn.params.toList ++ s.plain.varTypes P ++ fn.resultTypes.toList).any (P.wideKeysFrom ·))) = true) (h18 : (s.vars.all (P.varReadable ·)) = true) (h19 : (fn.resultTypes.all (fun t => P.readableRec t && decide (t < P.types.size))) = true) (h20 : ((c.ifacesOut == fn.resultTypes.toList.any (P.ifacesRec ·))) = true) (h21 : ((c.loopsOut == fn.resultTypes.toList.any (P.loopsFrom ·))) = true) (h22 : ((c.plainKeys == P.plainKeys)) = true) (h23 : (c.shortTexts.isNone) = true) (h24 : (P.stopsHeard) = true) (h25 : (P.mayEnter) = true) (h26 : ((c.lifted == P.liftsFinal)) = true) (h27 : ((P.make == some c.make)) = true) (h28 : (kindsMet P fn c) = true) (h29 : ((c.pinned == c.pinnedBy)) = true) (h30 : ((c.veiled == (fn.params.toList ++ s.plain.varTypes P ++ fn.resultTypes.toList).any (P.veiledRec ·))) = true) (h31 : (c.veiledFits P fn.params.toList (fn.params.toList ++ s.plain.varTypes P ++ fn.resultTypes.toList)) = true) : joinedFacts P f fn s c = true := by
  unfold joinedFacts
  rw [h0, h1, h2, h3, h4, h5, h6, h7, h8, h9, h10, h11, h12, h13, h14, h15, h16, h17, h18, h19, h20, h21, h22, h23, h24, h25, h26, h27, h29, h30, h31]
  simp only [Bool.true_and, Bool.and_true]
  exact h28
set_option maxRecDepth 100000 in
theorem fact0 : (Rows.emitSinglesRow.wf (OpenSpec.ofChange Rows.emitSinglesSpec)) = true := by kernel_rfl
set_option maxRecDepth 100000 in
theorem fact1 : (laidOutB Tryz.prog) = true := by kernel_rfl
set_option maxRecDepth 100000 in
theorem fact2 : (mapsRowed Tryz.prog) = true := by kernel_rfl
set_option maxRecDepth 100000 in
theorem fact3 : (Tryz.f9.params.all (Tryz.prog.readableRec ·)) = true := by kernel_rfl
set_option maxRecDepth 100000 in
theorem fact4 : (namedTie Tryz.prog Rows.emitSinglesRow.named Rows.emitSinglesSpec.vars) = true := by kernel_rfl
set_option maxRecDepth 100000 in
theorem fact5 : ((Rows.emitSinglesRow.stops == [])) = true := by kernel_rfl
set_option maxRecDepth 100000 in
theorem fact6 : ((Tryz.prog.stops == [])) = true := by kernel_rfl
set_option maxRecDepth 100000 in
theorem fact7 : ((Rows.emitSinglesRow.knobs == [])) = true := by kernel_rfl
set_option maxRecDepth 100000 in
theorem fact8 : ((Tryz.prog.stopKnobs == [])) = true := by kernel_rfl
set_option maxRecDepth 100000 in
theorem fact9 : ((Rows.emitSinglesRow.inPlace == Tryz.prog.inPlace 9)) = true := by kernel_rfl
set_option maxRecDepth 100000 in
theorem fact10 : ((Rows.emitSinglesRow.unfollowed == Tryz.prog.unfollowed 9)) = true := by kernel_rfl
set_option maxRecDepth 100000 in
theorem fact11 : ((Rows.emitSinglesRow.recurses == Tryz.prog.recurses 9)) = true := by kernel_rfl
set_option maxRecDepth 100000 in
theorem fact12 : ((Rows.emitSinglesRow.named == Tryz.prog.varsNamed 9)) = true := by kernel_rfl
set_option maxRecDepth 100000 in
theorem fact13 : ((Rows.emitSinglesRow.maps == (Tryz.f9.params.toList ++ Rows.emitSinglesSpec.plain.varTypes Tryz.prog).any (Tryz.prog.mapsRec ·))) = true := by kernel_rfl
set_option maxRecDepth 100000 in
theorem fact14 : ((Rows.emitSinglesRow.ifaces == (Tryz.f9.params.toList ++ Rows.emitSinglesSpec.plain.varTypes Tryz.prog).any (Tryz.prog.ifacesRec ·))) = true := by kernel_rfl
set_option maxRecDepth 100000 in
theorem fact15 : ((Rows.emitSinglesRow.mapsOut == Tryz.prog.mapsAmong Tryz.f9.resultTypes.toList)) = true := by kernel_rfl
set_option maxRecDepth 100000 in
theorem fact16 : ((Rows.emitSinglesRow.loops == (Tryz.f9.params.toList ++ Rows.emitSinglesSpec.plain.varTypes Tryz.prog).any (Tryz.prog.loopsFrom ·))) = true := by kernel_rfl
set_option maxRecDepth 100000 in
theorem fact17 : ((Rows.emitSinglesRow.wideKeys == (Tryz.f9.params.toList ++ Rows.emitSinglesSpec.plain.varTypes Tryz.prog ++ Tryz.f9.resultTypes.toList).any (Tryz.prog.wideKeysFrom ·))) = true := by kernel_rfl
set_option maxRecDepth 100000 in
theorem fact18 : (Rows.emitSinglesSpec.vars.all (Tryz.prog.varReadable ·)) = true := by kernel_rfl
set_option maxRecDepth 100000 in
theorem fact19 : (Tryz.f9.resultTypes.all (fun t => Tryz.prog.readableRec t && decide (t < Tryz.prog.types.size))) = true := by kernel_rfl
set_option maxRecDepth 100000 in
theorem fact20 : ((Rows.emitSinglesRow.ifacesOut == Tryz.f9.resultTypes.toList.any (Tryz.prog.ifacesRec ·))) = true := by kernel_rfl
set_option maxRecDepth 100000 in
theorem fact21 : ((Rows.emitSinglesRow.loopsOut == Tryz.f9.resultTypes.toList.any (Tryz.prog.loopsFrom ·))) = true := by kernel_rfl
set_option maxRecDepth 100000 in
theorem fact22 : ((Rows.emitSinglesRow.plainKeys == Tryz.prog.plainKeys)) = true := by kernel_rfl
set_option maxRecDepth 100000 in
theorem fact23 : (Rows.emitSinglesRow.shortTexts.isNone) = true := by kernel_rfl
set_option maxRecDepth 100000 in
theorem fact24 : (Tryz.prog.stopsHeard) = true := by kernel_rfl
set_option maxRecDepth 100000 in
theorem fact25 : (Tryz.prog.mayEnter) = true := by kernel_rfl
set_option maxRecDepth 100000 in
theorem fact26 : ((Rows.emitSinglesRow.lifted == Tryz.prog.liftsFinal)) = true := by kernel_rfl
set_option maxRecDepth 100000 in
theorem fact27 : ((Tryz.prog.make == some Rows.emitSinglesRow.make)) = true := by kernel_rfl
set_option maxRecDepth 100000 in
theorem fact28 : (kindsMet Tryz.prog Tryz.f9 Rows.emitSinglesRow) = true := by kernel_rfl
set_option maxRecDepth 100000 in
theorem fact29 : ((Rows.emitSinglesRow.pinned == Rows.emitSinglesRow.pinnedBy)) = true := by kernel_rfl
set_option maxRecDepth 100000 in
theorem fact30 : ((Rows.emitSinglesRow.veiled == (Tryz.f9.params.toList ++ Rows.emitSinglesSpec.plain.varTypes Tryz.prog ++ Tryz.f9.resultTypes.toList).any (Tryz.prog.veiledRec ·))) = true := by kernel_rfl
set_option maxRecDepth 100000 in
theorem fact31 : (Rows.emitSinglesRow.veiledFits Tryz.prog Tryz.f9.params.toList (Tryz.f9.params.toList ++ Rows.emitSinglesSpec.plain.varTypes Tryz.prog ++ Tryz.f9.resultTypes.toList)) = true := by kernel_rfl
set_option maxRecDepth 100000 in
theorem facts : joinedFacts Tryz.prog 9 Tryz.f9 Rows.emitSinglesSpec Rows.emitSinglesRow = true := joined_parts fact0 fact1 fact2 fact3 fact4 fact5 fact6 fact7 fact8 fact9 fact10 fact11 fact12 fact13 fact14 fact15 fact16 fact17 fact18 fact19 fact20 fact21 fact22 fact23 fact24 fact25 fact26 fact27 fact28 fact29 fact30 fact31
set_option maxRecDepth 100000 in
theorem said : Rows.EmitSinglesSaid :=
  OpenClaim.holds_of_wide 9 Tryz.f9 rfl rfl rfl rfl rfl rfl rfl ⟨rfl, rfl, rfl, rfl, rfl⟩ rfl rfl rfl rfl rfl (by kernel_rfl) Tryz.func9 facts
    (of_decide_eq_true (by kernel_rfl)) (by unfold Func.isWrapper; first | (rw [if_pos (by decide +kernel)]; kernel_rfl) | (rw [if_neg (by decide +kernel)]; exact ⟨rfl, rfl⟩))
    (fun os started H enc _ => lifted os started H enc)
theorem plain (f : FuncId) (fn : Func) (hf : Tryz.pinned.checked.prog.funcNamed "kaudit/kauditlaw19.EmitSingles" = some f) (hfn : Tryz.pinned.checked.prog.funcs[f]? = some fn) :
    false = Tryz.pinned.checked.prog.looks [] ∧ ∀ (j : Nat) t, fn.params[j]? = some t → Tryz.pinned.checked.prog.wantsStandIn t = false := by
  obtain rfl : f = 9 := Option.some.inj ((show Tryz.prog.funcNamed "kaudit/kauditlaw19.EmitSingles" = some 9 by kernel_rfl).symm.trans hf) |>.symm
  obtain rfl : fn = Tryz.f9 := (Option.some.inj (Tryz.func9.symm.trans hfn)).symm
  refine ⟨by kernel_rfl, fun j t ht => ?_⟩
  rw [Tryz.params9] at ht
  have hm : t ∈ [47, 9, 9, 101, 3, 3, 3, 3, 3, 22] := by simpa using Array.mem_of_getElem? ht
  have hall : ([47, 9, 9, 101, 3, 3, 3, 3, 3, 22].all fun u => !Tryz.prog.wantsStandIn u) = true := by kernel_rfl
  exact (show Tryz.prog.wantsStandIn t = false by simpa using List.all_eq_true.1 hall t hm)
theorem card : Rows.EmitSinglesCardSaid :=
  Claim7.holds_tied_plain_at .later [] _ _ _ _ said (fun _ h => by cases h) (by kernel_rfl) (fun _ h => by cases h) emitSingles_row_tie rfl ⟨rfl, rfl⟩ (by kernel_rfl) rfl plain (by kernel_rfl)
end Go.Proofs.YtollifnnpihfdaaGreatDoor.emitSingles
