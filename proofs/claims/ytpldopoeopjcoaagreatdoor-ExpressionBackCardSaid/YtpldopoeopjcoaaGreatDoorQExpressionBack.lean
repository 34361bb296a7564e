/- The law ExpressionBack of the given program, for every input that its row speaks of: it returns true and leaves its arguments as they were. -/
import Derived.Test.YtpldopoeopjcoaaGreatDoorCards
import Derived.Test.YtpldopoeopjcoaaGreatDoorTie
import Derived.Test.YtpldopoeopjcoaaGreatDoorK22
import Derived.Test.YtpldopoeopjcoaaGreatDoorK23
import Derived.Lay
import Derived.LaidMore
import Derived.Stop.Joined
import Derived.SevenTiedAt
import Derived.Lib.SmallJoins
namespace Go.Proofs.YtpldopoeopjcoaaGreatDoor.expressionBack
open Go.ChangeShapes Go.WideShapes Go.ChangeAt Go.WideMaps Go.WideElems Go.RowKit Go.Joins
open Go.ChangeMaps (open_string)

theorem pow_of {W : World} (h : laidMetH Tryz.prog Rows.expressionBackRow.laid W) : Pow W :=
  tab_of_laid (k := .u64) (zs := Lib.pow10Tab) (g := 2) 2 (by kernel_rfl) h (by kernel_rfl) (by kernel_rfl) (by kernel_rfl) Tryz.underlying138 Tryz.underlying124 (by kernel_rfl) (by kernel_rfl)
theorem er_of {W : World} (h : laidMetH Tryz.prog Rows.expressionBackRow.laid W) : ErrV W 7 := errv_of_laid 4 (by kernel_rfl) h rfl (by kernel_rfl) (by kernel_rfl) Tryz.underlying94
theorem es_of {W : World} (h : laidMetH Tryz.prog Rows.expressionBackRow.laid W) : ErrV W 6 := errv_of_laid 5 (by kernel_rfl) h rfl (by kernel_rfl) (by kernel_rfl) Tryz.underlying94
theorem tab_of {W : World} (h : laidMetH Tryz.prog Rows.expressionBackRow.laid W) : Tab W :=
  glob_of_tab (tab_of_laid (k := .u8) (zs := [48, 49, 50, 51, 52, 53, 54, 55, 56, 57, 97, 98, 99, 100, 101, 102]) (g := 0) 6 (by kernel_rfl) h rfl (by kernel_rfl) (by kernel_rfl) Tryz.underlying87 Tryz.underlying5 (by kernel_rfl) (by kernel_rfl)) (by kernel_rfl) rfl
theorem rtys_of {W : World} (h : laidMetH Tryz.prog Rows.expressionBackRow.laid W) : RTys W := rtys_of_laid 7 (by kernel_rfl) h rfl
theorem env_of {W : World} (h : laidMetH Tryz.prog Rows.expressionBackRow.laid W) (hs : W.ShapedOpen Tryz.prog) : Env W := ⟨tab_of h, pow_of h, mx_of_shape hs, es_of h, er_of h⟩
theorem xglob_of {W : World} (h : laidMetH Tryz.prog Rows.expressionBackRow.laid W) (hs : W.ShapedOpen Tryz.prog) : XGlob W := ⟨env_of h hs, rtys_of h⟩
theorem own : ownKnob Tryz.prog.godebug = none := by kernel_rfl
theorem laidOut : laidOutB Tryz.prog = true := by kernel_rfl
theorem door_met (os : Os) (args : Array Value) : laidMetH Tryz.prog Rows.expressionBackRow.laid ((World.laidAll Tryz.prog os Rows.expressionBackRow.laid).forCall (fun _ _ => 0) ⟨#[], args, []⟩).memory := by
  rw [MakeChecks.laidMetH_plain _ _ _ (by kernel_rfl)]; exact laidMet_laidAll _ (by kernel_rfl) (by kernel_rfl)
set_option maxRecDepth 100000 in
theorem contract (H : Type) (enc : TypeId × Value → H) (W : World) (base : Nat) (args : Array Value) (ds gs : List (DataW H)) (before : List MemPlace)
    (hval : ∀ (j : Nat) t v, Tryz.f3.params[j]? = some t → args[j]? = some v → Value.okWide Tryz.prog W .any base t v)
    (hW : DataW.Whole enc Tryz.prog Tryz.f3.params.toList Rows.expressionBackSpec.vars false W args.toList ds gs before) (hL : laidMetH Tryz.prog Rows.expressionBackRow.laid W) (hS : W.ShapedOpen Tryz.prog) :
    Calls Tryz.prog 3 args W fun e W' => ∃ v, e = .returned v ∧ Rows.expressionBackSpec.post enc Tryz.prog Tryz.f3 false true false false W args v W' := by
  have hlt : ∀ p ∈ before, p.block < W.heap.size := fun p hp => hW.lt p hp
  have hW' := hW
  obtain ⟨p, q, hA0, hV, rfl, hfz, hnd⟩ := hW
  have hA : DataW.TrodAll enc Tryz.prog W 0 (fun _ => true) true Tryz.f3.params.toList args.toList ds p := hA0
  rw [Tryz.params3] at hA hval
  obtain ⟨v0, vs0, d0, ds0, p0, q0, hargs, rfl, rfl, h0, r0⟩ := trodAll_cons hA
  obtain ⟨v1, vs1, d1, ds1, p1, q1, rfl, rfl, rfl, h1, r1⟩ := trodAll_cons r0
  obtain ⟨rfl, rfl, rfl⟩ := trodAll_nil r1
  obtain rfl : args = #[v0, v1] := by cases args; simp_all
  obtain ⟨rfl, rfl⟩ := trodVars_none hV
  have fin : ∀ (ds : List (DataW H)) (before : List MemPlace) (args : Array Value) W', DataW.Whole enc Tryz.prog Tryz.f3.params.toList Rows.expressionBackSpec.vars false W args.toList ds [] before → Rows.expressionBackSpec.fn H (ds ++ []) = { results := [.lit (.bool true)], args := ds } → Below W.heap.size W W' → Rows.expressionBackSpec.post enc Tryz.prog Tryz.f3 false true false false W args (.bool true) W' :=
    fun ds before args W' h1 h2 h3 => post_law laidOut (by kernel_rfl) (by kernel_rfl) Tryz.underlying4 h1 rfl h2 h3
  have hfin := fun W' h => fin _ _ _ W' hW' rfl h
  clear fin hW' hA0 hV hfz hnd
  obtain ⟨A, n, c, rfl, hnc, hn, hl⟩ := u8s_arg (t := 22) (e := 5) Tryz.underlying22 Tryz.underlying5 (by kernel_rfl) (hval 0 22 v0 rfl rfl) h0 (fun x hx => hlt x (by simp [hx]))
  obtain ⟨x1, rfl, rfl, rfl, hx1⟩ := open_string Tryz.underlying9 (hval 1 9 v1 rfl rfl) h1
  refine law_mono ?_ fun W' hb => ⟨_, rfl, hfin W' hb⟩
  exact expressionBack_walk W A n c x1 hnc hn hl hx1 (xglob_of hL hS)
set_option maxRecDepth 100000 in
theorem lifted (os : Os) (started : os.Started) (H : Type) (enc : TypeId × Value → H) :
    ReturnsInHanded {} Tryz.checked os 3 .any (fun w args => (Rows.expressionBackSpec.pre enc Tryz.prog Tryz.f3 [] false w args ∧ laidMetH Tryz.prog Rows.expressionBackRow.laid w) ∧ sizedMet enc Tryz.prog Tryz.f3 (OpenSpec.ofChange Rows.expressionBackSpec) false w args)
      (Rows.expressionBackSpec.post enc Tryz.prog Tryz.f3 false true false false) := by
  refine handed_and_shaped (C := Tryz.checked) (X := fun w _ => laidMetH Tryz.prog Rows.expressionBackRow.laid w) (fun _ _ _ hh h => h.of_heap hh) own started (by kernel_rfl) Tryz.func3
    (ChangeSpec.witness_shaped (enc := enc) (C := Tryz.checked) (os := os) (X := fun w _ => laidMetH Tryz.prog Rows.expressionBackRow.laid w) false (World.laidAll Tryz.prog os Rows.expressionBackRow.laid) #[.slice none 0 0, .string ⟨#[]⟩] 8 (World.laidAll_os _ _ _) (World.shaped_of_ZipB (by kernel_rfl) (by kernel_rfl)) (by kernel_rfl) (by kernel_rfl) (by kernel_rfl) (door_met os _)) ?_
  intro W base args ds gs before hval hW hL hS
  exact contract H enc W base args ds gs before hval hW hL hS
theorem said : Rows.ExpressionBackSaid :=
  OpenClaim.holds_of_wide 3 Tryz.f3 rfl rfl rfl rfl rfl rfl rfl ⟨rfl, rfl, rfl, rfl, rfl⟩ rfl rfl rfl rfl rfl (by kernel_rfl) Tryz.func3 (by kernel_rfl)
    (of_decide_eq_true (by kernel_rfl)) (by unfold Func.isWrapper; first | (rw [if_pos (by decide +kernel)]; kernel_rfl) | (rw [if_neg (by decide +kernel)]; exact ⟨rfl, rfl⟩))
    (fun os started H enc _ => lifted os started H enc)
theorem plain (f : FuncId) (fn : Func) (hf : Tryz.pinned.checked.prog.funcNamed "kaudit/kauditlaw38.ExpressionBack" = some f) (hfn : Tryz.pinned.checked.prog.funcs[f]? = some fn) :
    true = Tryz.pinned.checked.prog.looks [] ∧ ∀ (j : Nat) t, fn.params[j]? = some t → Tryz.pinned.checked.prog.wantsStandIn t = false := by
  obtain rfl : f = 3 := Option.some.inj ((show Tryz.prog.funcNamed "kaudit/kauditlaw38.ExpressionBack" = some 3 by kernel_rfl).symm.trans hf) |>.symm
  obtain rfl : fn = Tryz.f3 := (Option.some.inj (Tryz.func3.symm.trans hfn)).symm
  refine ⟨by kernel_rfl, fun j t ht => ?_⟩
  rw [Tryz.params3] at ht
  have hm : t ∈ [22, 9] := by simpa using Array.mem_of_getElem? ht
  have hall : ([22, 9].all fun u => !Tryz.prog.wantsStandIn u) = true := by kernel_rfl
  exact (show Tryz.prog.wantsStandIn t = false by simpa using List.all_eq_true.1 hall t hm)
theorem card : Rows.ExpressionBackCardSaid :=
  Claim7.holds_tied_plain_at .later [] _ _ _ _ said (fun _ h => by cases h) (by kernel_rfl) (fun _ h => by cases h) expressionBack_row_tie rfl ⟨rfl, rfl⟩ (by kernel_rfl) rfl plain (by kernel_rfl)
end Go.Proofs.YtpldopoeopjcoaaGreatDoor.expressionBack
