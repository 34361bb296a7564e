/- The law FieldParses of the given program, for every input that its row speaks of: it returns true and leaves its arguments as they were. -/
import Derived.Test.YtnpaoepkpdileaaDoorCards
import Derived.Test.YtnpaoepkpdileaaDoorTie
import Derived.Test.YtnpaoepkpdileaaDoorFrame
import Derived.Test.YtnpaoepkpdileaaDoorFieldParsesAll
import Derived.Test.YtnpaoepkpdileaaDoorShaped
import Derived.Lay
import Derived.LaidMore
import Derived.Stop.Joined
import Derived.SevenTiedAt
import Derived.Lib.SmallJoins
namespace Go.Proofs.YtnpaoepkpdileaaDoor.fieldParses
open Go.ChangeShapes Go.WideShapes Go.ChangeAt Go.WideMaps Go.WideElems Go.RowKit Go.Joins
open Go.ChangeMaps (open_string)

theorem pow_of {W : World} (h : laidMetH Tryd.prog Rows.fieldParsesRow.laid W) : Pow W :=
  tab_of_laid (k := .u64) (zs := Lib.pow10Tab) (g := 6) 2 (by kernel_rfl) h (by kernel_rfl) (by kernel_rfl) (by kernel_rfl) Tryd.underlying140 Tryd.underlying128 (by kernel_rfl) (by kernel_rfl)
theorem er_of {W : World} (h : laidMetH Tryd.prog Rows.fieldParsesRow.laid W) : ErrV W 5 := errv_of_laid 3 (by kernel_rfl) h rfl (by kernel_rfl) (by kernel_rfl) Tryd.underlying99
theorem es_of {W : World} (h : laidMetH Tryd.prog Rows.fieldParsesRow.laid W) : ErrV W 4 := errv_of_laid 4 (by kernel_rfl) h rfl (by kernel_rfl) (by kernel_rfl) Tryd.underlying99
theorem tab_of {W : World} (h : laidMetH Tryd.prog Rows.fieldParsesRow.laid W) : Tab W :=
  glob_of_tab (tab_of_laid (k := .u8) (zs := [48, 49, 50, 51, 52, 53, 54, 55, 56, 57, 97, 98, 99, 100, 101, 102]) (g := 2) 5 (by kernel_rfl) h rfl (by kernel_rfl) (by kernel_rfl) Tryd.underlying105 Tryd.underlying5 (by kernel_rfl) (by kernel_rfl)) (by kernel_rfl) rfl
theorem names_of {W : World} (h : laidMetH Tryd.prog Rows.fieldParsesRow.laid W) : FNames W := names_laid 6 (by kernel_rfl) h rfl
theorem ops_of {W : World} (h : laidMetH Tryd.prog Rows.fieldParsesRow.laid W) : FOps W := ops_laid 7 (by kernel_rfl) h rfl
theorem env_of {W : World} (h : laidMetH Tryd.prog Rows.fieldParsesRow.laid W) (hs : W.ShapedOpen Tryd.prog) : Env W := ⟨tab_of h, pow_of h, mx_of_shape hs, es_of h, er_of h⟩
theorem own : ownKnob Tryd.prog.godebug = none := by kernel_rfl
theorem laidOut : laidOutB Tryd.prog = true := by kernel_rfl
theorem door_met (os : Os) (args : Array Value) : laidMetH Tryd.prog Rows.fieldParsesRow.laid ((World.laidAll Tryd.prog os Rows.fieldParsesRow.laid).forCall (fun _ _ => 0) ⟨#[], args, []⟩).memory := by
  rw [MakeChecks.laidMetH_plain _ _ _ (by kernel_rfl)]; exact laidMet_laidAll _ (by kernel_rfl) (by kernel_rfl)
set_option maxRecDepth 100000 in
theorem contract (H : Type) (enc : TypeId × Value → H) (W : World) (base : Nat) (args : Array Value) (ds gs : List (DataW H)) (before : List MemPlace)
    (hval : ∀ (j : Nat) t v, Tryd.f8.params[j]? = some t → args[j]? = some v → Value.okWide Tryd.prog W .any base t v)
    (hW : DataW.Whole enc Tryd.prog Tryd.f8.params.toList Rows.fieldParsesSpec.vars false W args.toList ds gs before) (hL : laidMetH Tryd.prog Rows.fieldParsesRow.laid W) (hS : W.ShapedOpen Tryd.prog) :
    Calls Tryd.prog 8 args W fun e W' => ∃ v, e = .returned v ∧ Rows.fieldParsesSpec.post enc Tryd.prog Tryd.f8 false true false false W args v W' := by
  have hlt : ∀ p ∈ before, p.block < W.heap.size := fun p hp => hW.lt p hp
  have hW' := hW
  obtain ⟨p, q, hA0, hV, rfl, hfz, hnd⟩ := hW
  have hA : DataW.TrodAll enc Tryd.prog W 0 (fun _ => true) true Tryd.f8.params.toList args.toList ds p := hA0
  rw [Tryd.params8] at hA hval
  obtain ⟨v0, vs0, d0, ds0, p0, q0, hargs, rfl, rfl, h0, r0⟩ := trodAll_cons hA
  obtain ⟨v1, vs1, d1, ds1, p1, q1, rfl, rfl, rfl, h1, r1⟩ := trodAll_cons r0
  obtain ⟨v2, vs2, d2, ds2, p2, q2, rfl, rfl, rfl, h2, r2⟩ := trodAll_cons r1
  obtain ⟨rfl, rfl, rfl⟩ := trodAll_nil r2
  obtain rfl : args = #[v0, v1, v2] := by cases args; simp_all
  obtain ⟨rfl, rfl⟩ := trodVars_none hV
  have fin : ∀ (ds : List (DataW H)) (before : List MemPlace) (args : Array Value) W', DataW.Whole enc Tryd.prog Tryd.f8.params.toList Rows.fieldParsesSpec.vars false W args.toList ds [] before → Rows.fieldParsesSpec.fn H (ds ++ []) = { results := [.lit (.bool true)], args := ds } → Below W.heap.size W W' → Rows.fieldParsesSpec.post enc Tryd.prog Tryd.f8 false true false false W args (.bool true) W' :=
    fun ds before args W' h1 h2 h3 => post_law laidOut (by kernel_rfl) (by kernel_rfl) Tryd.underlying4 h1 rfl h2 h3
  have hfin := fun W' h => fin _ _ _ W' hW' rfl h
  clear fin hW' hA0 hV hfz hnd
  obtain ⟨x0, rfl, rfl, rfl, hx0⟩ := open_string Tryd.underlying9 (hval 0 9 v0 rfl rfl) h0
  obtain ⟨x1, rfl, rfl, rfl, hx1⟩ := open_int Tryd.underlying5 (hval 1 5 v1 rfl rfl) h1
  obtain ⟨x2, rfl, rfl, rfl, hx2⟩ := open_int Tryd.underlying5 (hval 2 5 v2 rfl rfl) h2
  refine law_mono ?_ fun W' hb => ⟨_, rfl, hfin W' hb⟩
  exact fieldParses_walk x0 x1 x2 (bounds_u8 hx1) (bounds_u8 hx2) W (names_of hL) (ops_of hL) (env_of hL hS)
set_option maxRecDepth 100000 in
theorem lifted (os : Os) (started : os.Started) (H : Type) (enc : TypeId × Value → H) :
    ReturnsInHanded {} Tryd.checked os 8 .any (fun w args => (Rows.fieldParsesSpec.pre enc Tryd.prog Tryd.f8 [] false w args ∧ laidMetH Tryd.prog Rows.fieldParsesRow.laid w) ∧ sizedMet enc Tryd.prog Tryd.f8 (OpenSpec.ofChange Rows.fieldParsesSpec) false w args)
      (Rows.fieldParsesSpec.post enc Tryd.prog Tryd.f8 false true false false) := by
  refine handed_and_shaped (C := Tryd.checked) (X := fun w _ => laidMetH Tryd.prog Rows.fieldParsesRow.laid w) (fun _ _ _ hh h => h.of_heap hh) own started (by kernel_rfl) Tryd.func8
    (ChangeSpec.witness_shaped (enc := enc) (C := Tryd.checked) (os := os) (X := fun w _ => laidMetH Tryd.prog Rows.fieldParsesRow.laid w) false (World.laidAll Tryd.prog os Rows.fieldParsesRow.laid) #[.string ⟨#[]⟩, .int .u8 0, .int .u8 0] 8 (World.laidAll_os _ _ _) (World.shaped_of_ZipB (by kernel_rfl) (by kernel_rfl)) (by kernel_rfl) (by kernel_rfl) (by kernel_rfl) (door_met os _)) ?_
  intro W base args ds gs before hval hW hL hS
  exact contract H enc W base args ds gs before hval hW hL hS
theorem said : Rows.FieldParsesSaid :=
  OpenClaim.holds_of_wide 8 Tryd.f8 rfl rfl rfl rfl rfl rfl rfl ⟨rfl, rfl, rfl, rfl, rfl⟩ rfl rfl rfl rfl rfl (by kernel_rfl) Tryd.func8 (by kernel_rfl)
    (of_decide_eq_true (by kernel_rfl)) (by unfold Func.isWrapper; first | (rw [if_pos (by decide +kernel)]; kernel_rfl) | (rw [if_neg (by decide +kernel)]; exact ⟨rfl, rfl⟩))
    (fun os started H enc _ => lifted os started H enc)
theorem plain (f : FuncId) (fn : Func) (hf : Tryd.pinned.checked.prog.funcNamed "kaudit/kauditlaw12.FieldParses" = some f) (hfn : Tryd.pinned.checked.prog.funcs[f]? = some fn) :
    true = Tryd.pinned.checked.prog.looks [] ∧ ∀ (j : Nat) t, fn.params[j]? = some t → Tryd.pinned.checked.prog.wantsStandIn t = false := by
  obtain rfl : f = 8 := Option.some.inj ((show Tryd.prog.funcNamed "kaudit/kauditlaw12.FieldParses" = some 8 by kernel_rfl).symm.trans hf) |>.symm
  obtain rfl : fn = Tryd.f8 := (Option.some.inj (Tryd.func8.symm.trans hfn)).symm
  refine ⟨by kernel_rfl, fun j t ht => ?_⟩
  rw [Tryd.params8] at ht
  have hm : t ∈ [9, 5, 5] := by simpa using Array.mem_of_getElem? ht
  have hall : ([9, 5, 5].all fun u => !Tryd.prog.wantsStandIn u) = true := by kernel_rfl
  exact (show Tryd.prog.wantsStandIn t = false by simpa using List.all_eq_true.1 hall t hm)
theorem card : Rows.FieldParsesCardSaid :=
  Claim7.holds_tied_plain_at .later [] _ _ _ _ said (fun _ h => by cases h) (by kernel_rfl) (fun _ h => by cases h) fieldParses_row_tie rfl ⟨rfl, rfl⟩ (by kernel_rfl) rfl plain (by kernel_rfl)
end Go.Proofs.YtnpaoepkpdileaaDoor.fieldParses
