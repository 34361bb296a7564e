/- The law RuleEquals of the given program, for every input that its row speaks of: it returns true and leaves its arguments as they were. -/
import Derived.Test.YtbbihfafkpniiaaGreatDoorCards
import Derived.Test.YtbbihfafkpniiaaGreatDoorTie
import Derived.Test.YtbbihfafkpniiaaGreatDoorC02
import Derived.Test.YtbbihfafkpniiaaGreatDoorE702
import Derived.Lay
import Derived.LaidMore
import Derived.Stop.Joined
import Derived.SevenTiedAt
import Derived.Lib.SmallJoins
namespace Go.Proofs.YtbbihfafkpniiaaGreatDoor.ruleEquals
open Go.ChangeShapes Go.WideShapes Go.ChangeAt Go.WideMaps Go.WideElems Go.RowKit Go.Joins
open Go.ChangeMaps (open_string)

theorem pow_of {W : World} (h : laidMetH Tryz.prog Rows.ruleEqualsRow.laid W) : Pow W :=
  tab_of_laid (k := .u64) (zs := Lib.pow10Tab) (g := 7) 2 (by kernel_rfl) h (by kernel_rfl) (by kernel_rfl) (by kernel_rfl) Tryz.underlying148 Tryz.underlying22 (by kernel_rfl) (by kernel_rfl)
theorem er_of {W : World} (h : laidMetH Tryz.prog Rows.ruleEqualsRow.laid W) : ErrV W 13 := errv_of_laid 4 (by kernel_rfl) h rfl (by kernel_rfl) (by kernel_rfl) Tryz.underlying92
theorem es_of {W : World} (h : laidMetH Tryz.prog Rows.ruleEqualsRow.laid W) : ErrV W 12 := errv_of_laid 5 (by kernel_rfl) h rfl (by kernel_rfl) (by kernel_rfl) Tryz.underlying92
theorem tab_of {W : World} (h : laidMetH Tryz.prog Rows.ruleEqualsRow.laid W) : Tab W :=
  glob_of_tab (tab_of_laid (k := .u8) (zs := [48, 49, 50, 51, 52, 53, 54, 55, 56, 57, 97, 98, 99, 100, 101, 102]) (g := 5) 6 (by kernel_rfl) h rfl (by kernel_rfl) (by kernel_rfl) Tryz.underlying110 Tryz.underlying5 (by kernel_rfl) (by kernel_rfl)) (by kernel_rfl) rfl
theorem names_of {W : World} (h : laidMetH Tryz.prog Rows.ruleEqualsRow.laid W) : FNames W := names_laid 7 (by kernel_rfl) h rfl
theorem ops_of {W : World} (h : laidMetH Tryz.prog Rows.ruleEqualsRow.laid W) : FOps W := ops_laid 8 (by kernel_rfl) h rfl
theorem lists_of {W : World} (h : laidMetH Tryz.prog Rows.ruleEqualsRow.laid W) : RLists W := lists_laid 9 (by kernel_rfl) h rfl
theorem acts_of {W : World} (h : laidMetH Tryz.prog Rows.ruleEqualsRow.laid W) : RActs W := acts_laid 10 (by kernel_rfl) h rfl
theorem perm_of {W : World} (h : laidMetH Tryz.prog Rows.ruleEqualsRow.laid W) : RPerm W := perm_laid 11 (by kernel_rfl) h rfl
theorem env_of {W : World} (h : laidMetH Tryz.prog Rows.ruleEqualsRow.laid W) (hs : W.ShapedOpen Tryz.prog) : Env W := ⟨tab_of h, pow_of h, mx_of_shape hs, es_of h, er_of h⟩
theorem rglob_of {W : World} (h : laidMetH Tryz.prog Rows.ruleEqualsRow.laid W) : RGlob W := ⟨lists_of h, acts_of h, perm_of h, names_of h, ops_of h, tab_of h, pow_of h⟩
theorem own : ownKnob Tryz.prog.godebug = none := by kernel_rfl
theorem laidOut : laidOutB Tryz.prog = true := by kernel_rfl
theorem door_met (os : Os) (args : Array Value) : laidMetH Tryz.prog Rows.ruleEqualsRow.laid ((World.laidAll Tryz.prog os Rows.ruleEqualsRow.laid).forCall (fun _ _ => 0) ⟨#[], args, []⟩).memory := by
  rw [MakeChecks.laidMetH_plain _ _ _ (by kernel_rfl)]; exact laidMet_laidAll _ (by kernel_rfl) (by kernel_rfl)
set_option maxRecDepth 100000 in
theorem contract (H : Type) (enc : TypeId × Value → H) (W : World) (base : Nat) (args : Array Value) (ds gs : List (DataW H)) (before : List MemPlace)
    (hval : ∀ (j : Nat) t v, Tryz.f9.params[j]? = some t → args[j]? = some v → Value.okWide Tryz.prog W .any base t v)
    (hW : DataW.Whole enc Tryz.prog Tryz.f9.params.toList Rows.ruleEqualsSpec.vars false W args.toList ds gs before) (hL : laidMetH Tryz.prog Rows.ruleEqualsRow.laid W) (hS : W.ShapedOpen Tryz.prog) :
    Calls Tryz.prog 9 args W fun e W' => ∃ v, e = .returned v ∧ Rows.ruleEqualsSpec.post enc Tryz.prog Tryz.f9 false true false false W args v W' := by
  have hlt : ∀ p ∈ before, p.block < W.heap.size := fun p hp => hW.lt p hp
  have hW' := hW
  obtain ⟨p, q, hA0, hV, rfl, hfz, hnd⟩ := hW
  have hA : DataW.TrodAll enc Tryz.prog W 0 (fun _ => true) true Tryz.f9.params.toList args.toList ds p := hA0
  rw [Tryz.params9] at hA hval
  obtain ⟨v0, vs0, d0, ds0, p0, q0, hargs, rfl, rfl, h0, r0⟩ := trodAll_cons hA
  obtain ⟨v1, vs1, d1, ds1, p1, q1, rfl, rfl, rfl, h1, r1⟩ := trodAll_cons r0
  obtain ⟨v2, vs2, d2, ds2, p2, q2, rfl, rfl, rfl, h2, r2⟩ := trodAll_cons r1
  obtain ⟨rfl, rfl, rfl⟩ := trodAll_nil r2
  obtain rfl : args = #[v0, v1, v2] := by cases args; simp_all
  obtain ⟨rfl, rfl⟩ := trodVars_none hV
  have fin : ∀ (ds : List (DataW H)) (before : List MemPlace) (args : Array Value) W', DataW.Whole enc Tryz.prog Tryz.f9.params.toList Rows.ruleEqualsSpec.vars false W args.toList ds [] before → Rows.ruleEqualsSpec.fn H (ds ++ []) = { results := [.lit (.bool true)], args := ds } → Below W.heap.size W W' → Rows.ruleEqualsSpec.post enc Tryz.prog Tryz.f9 false true false false W args (.bool true) W' :=
    fun ds before args W' h1 h2 h3 => post_law laidOut (by kernel_rfl) (by kernel_rfl) Tryz.underlying4 h1 rfl h2 h3
  have hfin := fun W' h => fin _ _ _ W' hW' rfl h
  clear fin hW' hA0 hV hfz hnd
  obtain ⟨a, A, ca, rfl, hIa, hTa⟩ := rul_arg (hval 0 26 v0 rfl rfl) h0 (fun x hx => hlt x (by simp [hx]))
  obtain ⟨b, B, cb, rfl, hIb, hTb⟩ := rul_arg (hval 1 26 v1 rfl rfl) h1 (fun x hx => hlt x (by simp [hx]))
  obtain ⟨L, n, c, rfl, hn, hl⟩ := ints_arg (t := 29) (e := 3) Tryz.underlying29 Tryz.underlying3 (by kernel_rfl) (hval 2 29 v2 rfl rfl) h2 (fun x hx => hlt x (by simp [hx]))
  refine law_mono ?_ fun W' hb => ⟨_, rfl, hfin W' hb⟩
  exact ruleEquals_walk W a A ca hIa b B cb hIb L n c hn hl hTa hTb (rglob_of hL) (env_of hL hS)
set_option maxRecDepth 100000 in
theorem lifted (os : Os) (started : os.Started) (H : Type) (enc : TypeId × Value → H) :
    ReturnsInHanded {} Tryz.checked os 9 .any (fun w args => (Rows.ruleEqualsSpec.pre enc Tryz.prog Tryz.f9 [] false w args ∧ laidMetH Tryz.prog Rows.ruleEqualsRow.laid w) ∧ sizedMet enc Tryz.prog Tryz.f9 (OpenSpec.ofChange Rows.ruleEqualsSpec) false w args)
      (Rows.ruleEqualsSpec.post enc Tryz.prog Tryz.f9 false true false false) := by
  refine handed_and_shaped (C := Tryz.checked) (X := fun w _ => laidMetH Tryz.prog Rows.ruleEqualsRow.laid w) (fun _ _ _ hh h => h.of_heap hh) own started (by kernel_rfl) Tryz.func9
    (ChangeSpec.witness_shaped (enc := enc) (C := Tryz.checked) (os := os) (X := fun w _ => laidMetH Tryz.prog Rows.ruleEqualsRow.laid w) false (World.laidAll Tryz.prog os Rows.ruleEqualsRow.laid) #[.agg #[.int .i64 0, .int .i64 0, .int .u64 0, .slice none 0 0, .int .i64 0, .string ⟨#[]⟩, .int .i64 0, .string ⟨#[]⟩], .agg #[.int .i64 0, .int .i64 0, .int .u64 0, .slice none 0 0, .int .i64 0, .string ⟨#[]⟩, .int .i64 0, .string ⟨#[]⟩], .slice none 0 0] 8 (World.laidAll_os _ _ _) (World.shaped_of_ZipB (by kernel_rfl) (by kernel_rfl)) (by kernel_rfl) (by kernel_rfl) (by kernel_rfl) (door_met os _)) ?_
  intro W base args ds gs before hval hW hL hS
  exact contract H enc W base args ds gs before hval hW hL hS
theorem said : Rows.RuleEqualsSaid :=
  OpenClaim.holds_of_wide 9 Tryz.f9 rfl rfl rfl rfl rfl rfl rfl ⟨rfl, rfl, rfl, rfl, rfl⟩ rfl rfl rfl rfl rfl (by kernel_rfl) Tryz.func9 (by kernel_rfl)
    (of_decide_eq_true (by kernel_rfl)) (by unfold Func.isWrapper; first | (rw [if_pos (by decide +kernel)]; kernel_rfl) | (rw [if_neg (by decide +kernel)]; exact ⟨rfl, rfl⟩))
    (fun os started H enc _ => lifted os started H enc)
theorem plain (f : FuncId) (fn : Func) (hf : Tryz.pinned.checked.prog.funcNamed "kaudit/kauditlaw13.RuleEquals" = some f) (hfn : Tryz.pinned.checked.prog.funcs[f]? = some fn) :
    true = Tryz.pinned.checked.prog.looks [] ∧ ∀ (j : Nat) t, fn.params[j]? = some t → Tryz.pinned.checked.prog.wantsStandIn t = false := by
  obtain rfl : f = 9 := Option.some.inj ((show Tryz.prog.funcNamed "kaudit/kauditlaw13.RuleEquals" = some 9 by kernel_rfl).symm.trans hf) |>.symm
  obtain rfl : fn = Tryz.f9 := (Option.some.inj (Tryz.func9.symm.trans hfn)).symm
  refine ⟨by kernel_rfl, fun j t ht => ?_⟩
  rw [Tryz.params9] at ht
  have hm : t ∈ [26, 26, 29] := by simpa using Array.mem_of_getElem? ht
  have hall : ([26, 26, 29].all fun u => !Tryz.prog.wantsStandIn u) = true := by kernel_rfl
  exact (show Tryz.prog.wantsStandIn t = false by simpa using List.all_eq_true.1 hall t hm)
theorem card : Rows.RuleEqualsCardSaid :=
  Claim7.holds_tied_plain_at .later [] _ _ _ _ said (fun _ h => by cases h) (by kernel_rfl) (fun _ h => by cases h) ruleEquals_row_tie rfl ⟨rfl, rfl⟩ (by kernel_rfl) rfl plain (by kernel_rfl)
end Go.Proofs.YtbbihfafkpniiaaGreatDoor.ruleEquals
