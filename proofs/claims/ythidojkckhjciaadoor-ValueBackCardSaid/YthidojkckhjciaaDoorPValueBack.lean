/- The law ValueBack of the given program, for every input that its row speaks of: it returns true and leaves its arguments as they were. -/
import Derived.Test.YthidojkckhjciaaDoorCards
import Derived.Test.YthidojkckhjciaaDoorTie
import Derived.Test.YthidojkckhjciaaDoorFrame
import Derived.Test.YthidojkckhjciaaDoorBackAll
import Derived.Test.YthidojkckhjciaaDoorShaped
import Derived.LaidMore
import Derived.Stop.Joined
import Derived.SevenTiedAt
import Derived.Lib.SmallJoins
namespace Go.Proofs.YthidojkckhjciaaDoor.valueBack
open Go.ChangeShapes Go.WideShapes Go.ChangeAt Go.WideMaps Go.WideElems Go.RowKit Go.Joins
open Go.ChangeMaps (open_string)

theorem pow_of {W : World} (h : laidMetH Tryd.prog Rows.valueBackRow.laid W) : Pow W :=
  tab_of_laid (k := .u64) (zs := Lib.pow10Tab) (g := 4) 2 (by kernel_rfl) h (by kernel_rfl) (by kernel_rfl) (by kernel_rfl) Tryd.underlying90 Tryd.underlying77 (by kernel_rfl) (by kernel_rfl)
theorem er_of {W : World} (h : laidMetH Tryd.prog Rows.valueBackRow.laid W) : ErrV W 3 := errv_of_laid 3 (by kernel_rfl) h rfl (by kernel_rfl) (by kernel_rfl) Tryd.underlying62
theorem es_of {W : World} (h : laidMetH Tryd.prog Rows.valueBackRow.laid W) : ErrV W 2 := errv_of_laid 4 (by kernel_rfl) h rfl (by kernel_rfl) (by kernel_rfl) Tryd.underlying62
theorem tab_of {W : World} (h : laidMetH Tryd.prog Rows.valueBackRow.laid W) : Tab W :=
  glob_of_tab (tab_of_laid (k := .u8) (zs := [48, 49, 50, 51, 52, 53, 54, 55, 56, 57, 97, 98, 99, 100, 101, 102]) (g := 0) 5 (by kernel_rfl) h rfl (by kernel_rfl) (by kernel_rfl) Tryd.underlying46 Tryd.underlying5 (by kernel_rfl) (by kernel_rfl)) (by kernel_rfl) rfl
theorem env_of {W : World} (h : laidMetH Tryd.prog Rows.valueBackRow.laid W) (hs : W.ShapedOpen Tryd.prog) : Env W := ⟨tab_of h, pow_of h, mx_of_shape hs, es_of h, er_of h⟩
theorem own : ownKnob Tryd.prog.godebug = none := by kernel_rfl
theorem laidOut : laidOutB Tryd.prog = true := by kernel_rfl
theorem door_met (os : Os) (args : Array Value) : laidMetH Tryd.prog Rows.valueBackRow.laid ((World.doorLaid Tryd.prog 67 os).forCall (fun _ _ => 0) ⟨#[], args, []⟩).memory :=
  laidMetH_of_parts3 (fuel := 8) (laidMet_of_run' 8 (by kernel_rfl) (by kernel_rfl)) (by kernel_rfl) (by kernel_rfl)
set_option maxRecDepth 100000 in
theorem contract (H : Type) (enc : TypeId × Value → H) (W : World) (base : Nat) (args : Array Value) (ds gs : List (DataW H)) (before : List MemPlace)
    (hval : ∀ (j : Nat) t v, Tryd.f10.params[j]? = some t → args[j]? = some v → Value.okWide Tryd.prog W .any base t v)
    (hW : DataW.Whole enc Tryd.prog Tryd.f10.params.toList Rows.valueBackSpec.vars false W args.toList ds gs before) (hL : laidMetH Tryd.prog Rows.valueBackRow.laid W) (hS : W.ShapedOpen Tryd.prog) :
    Calls Tryd.prog 10 args W fun e W' => ∃ v, e = .returned v ∧ Rows.valueBackSpec.post enc Tryd.prog Tryd.f10 false true false false W args v W' := by
  have hlt : ∀ p ∈ before, p.block < W.heap.size := fun p hp => hW.lt p hp
  have hW' := hW
  obtain ⟨p, q, hA0, hV, rfl, hfz, hnd⟩ := hW
  have hA : DataW.TrodAll enc Tryd.prog W 0 (fun _ => true) true Tryd.f10.params.toList args.toList ds p := hA0
  rw [Tryd.params10] at hA hval
  obtain ⟨v0, vs0, d0, ds0, p0, q0, hargs, rfl, rfl, h0, r0⟩ := trodAll_cons hA
  obtain ⟨v1, vs1, d1, ds1, p1, q1, rfl, rfl, rfl, h1, r1⟩ := trodAll_cons r0
  obtain ⟨rfl, rfl, rfl⟩ := trodAll_nil r1
  obtain rfl : args = #[v0, v1] := by cases args; simp_all
  obtain ⟨rfl, rfl⟩ := trodVars_none hV
  have fin : ∀ (ds : List (DataW H)) (before : List MemPlace) (args : Array Value) W', DataW.Whole enc Tryd.prog Tryd.f10.params.toList Rows.valueBackSpec.vars false W args.toList ds [] before → Rows.valueBackSpec.fn H (ds ++ []) = { results := [.lit (.bool true)], args := ds } → Below W.heap.size W W' → Rows.valueBackSpec.post enc Tryd.prog Tryd.f10 false true false false W args (.bool true) W' :=
    fun ds before args W' h1 h2 h3 => post_law laidOut (by kernel_rfl) (by kernel_rfl) Tryd.underlying4 h1 rfl h2 h3
  have hfin := fun W' h => fin _ _ _ W' hW' rfl h
  clear fin hW' hA0 hV hfz hnd
  obtain ⟨c0, c1, c2, c3, y0, y1, y2, y3, m, rfl, rfl, rfl, hy0, hy1, hy2, hy3⟩ := open_agg4 Tryd.underlying31 (by kernel_rfl) (by kernel_rfl) (hval 0 31 v0 rfl rfl) h0
  obtain ⟨nm, e0, hd0, hnm⟩ := DataW.trod_string Tryd.underlying9 hy0
  obtain ⟨kd, e1, hd1, hkd⟩ := DataW.trod_int Tryd.underlying3 hy1
  obtain ⟨nu, e2, hd2, hnu⟩ := DataW.trod_int Tryd.underlying3 hy2
  obtain ⟨tx, e3, hd3, htx⟩ := DataW.trod_string Tryd.underlying9 hy3
  simp only [List.cons.injEq, and_true] at e0 e1 e2 e3
  subst e0 e1 e2 e3
  obtain ⟨A, n, c, rfl, hn, hl⟩ := ints_arg (t := 35) (e := 3) Tryd.underlying35 Tryd.underlying3 (by kernel_rfl) (hval 1 35 v1 rfl rfl) h1 (fun x hx => hlt x (by simp [hx]))
  refine law_mono ?_ fun W' hb => ⟨_, rfl, hfin W' hb⟩
  exact valueBack_walk nm kd nu tx W A n c hnm htx (bounds_i64 hnu).1 (bounds_i64 hnu).2 hn hl (env_of hL hS)
set_option maxRecDepth 100000 in
theorem lifted (os : Os) (started : os.Started) (H : Type) (enc : TypeId × Value → H) :
    ReturnsInHanded {} Tryd.checked os 10 .any (fun w args => (Rows.valueBackSpec.pre enc Tryd.prog Tryd.f10 [] false w args ∧ laidMetH Tryd.prog Rows.valueBackRow.laid w) ∧ sizedMet enc Tryd.prog Tryd.f10 (OpenSpec.ofChange Rows.valueBackSpec) false w args)
      (Rows.valueBackSpec.post enc Tryd.prog Tryd.f10 false true false false) := by
  refine handed_and_shaped (C := Tryd.checked) (X := fun w _ => laidMetH Tryd.prog Rows.valueBackRow.laid w) (fun _ _ _ hh h => h.of_heap hh) own started (by kernel_rfl) Tryd.func10
    (ChangeSpec.witness_shaped (enc := enc) (C := Tryd.checked) (os := os) (X := fun w _ => laidMetH Tryd.prog Rows.valueBackRow.laid w) false (World.doorLaid Tryd.prog 67 os) #[.agg #[.string ⟨#[]⟩, .int .i64 0, .int .i64 0, .string ⟨#[]⟩], .slice none 0 0] 8 rfl (World.shaped_of_RefB (by kernel_rfl) (by kernel_rfl)) (by kernel_rfl) (by kernel_rfl) (by kernel_rfl) (door_met os _)) ?_
  intro W base args ds gs before hval hW hL hS
  exact contract H enc W base args ds gs before hval hW hL hS
theorem said : Rows.ValueBackSaid :=
  OpenClaim.holds_of_wide 10 Tryd.f10 rfl rfl rfl rfl rfl rfl rfl ⟨rfl, rfl, rfl, rfl, rfl⟩ rfl rfl rfl rfl rfl (by kernel_rfl) Tryd.func10 (by kernel_rfl)
    (of_decide_eq_true (by kernel_rfl)) (by unfold Func.isWrapper; first | (rw [if_pos (by decide +kernel)]; kernel_rfl) | (rw [if_neg (by decide +kernel)]; exact ⟨rfl, rfl⟩))
    (fun os started H enc _ => lifted os started H enc)
theorem plain (f : FuncId) (fn : Func) (hf : Tryd.pinned.checked.prog.funcNamed "kaudit/kauditlaw02.ValueBack" = some f) (hfn : Tryd.pinned.checked.prog.funcs[f]? = some fn) :
    true = Tryd.pinned.checked.prog.looks [] ∧ ∀ (j : Nat) t, fn.params[j]? = some t → Tryd.pinned.checked.prog.wantsStandIn t = false := by
  obtain rfl : f = 10 := Option.some.inj ((show Tryd.prog.funcNamed "kaudit/kauditlaw02.ValueBack" = some 10 by kernel_rfl).symm.trans hf) |>.symm
  obtain rfl : fn = Tryd.f10 := (Option.some.inj (Tryd.func10.symm.trans hfn)).symm
  refine ⟨by kernel_rfl, fun j t ht => ?_⟩
  rw [Tryd.params10] at ht
  have hm : t ∈ [31, 35] := by simpa using Array.mem_of_getElem? ht
  have hall : ([31, 35].all fun u => !Tryd.prog.wantsStandIn u) = true := by kernel_rfl
  exact (show Tryd.prog.wantsStandIn t = false by simpa using List.all_eq_true.1 hall t hm)
theorem card : Rows.ValueBackCardSaid :=
  Claim7.holds_tied_plain_at .later [] _ _ _ _ said (fun _ h => by cases h) (by kernel_rfl) (fun _ h => by cases h) valueBack_row_tie rfl ⟨rfl, rfl⟩ (by kernel_rfl) rfl plain (by kernel_rfl)
end Go.Proofs.YthidojkckhjciaaDoor.valueBack
