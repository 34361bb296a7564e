/- The law CallDiffer of the given program, for every input that its row speaks of: it returns true and leaves its arguments as they were. -/
import Derived.Test.YtokkbboahajbhaaDoorCards
import Derived.Test.YtokkbboahajbhaaDoorTie
import Derived.Test.YtokkbboahajbhaaDoorFrame
import Derived.Test.YtokkbboahajbhaaDoorCallDifferAll
import Derived.LaidMore
import Derived.Stop.Joined
import Derived.SevenTiedAt
import Derived.Lib.SmallJoins
namespace Go.Proofs.YtokkbboahajbhaaDoor.callDiffer
open Go.ChangeShapes Go.WideShapes Go.ChangeAt Go.WideMaps Go.WideElems Go.RowKit Go.Joins
open Go.ChangeMaps (open_string)

theorem pow_of {W : World} (h : laidMetH Tryd.prog Rows.callDifferRow.laid W) : Pow W :=
  tab_of_laid (k := .u64) (zs := Lib.pow10Tab) (g := 2) 2 (by kernel_rfl) h (by kernel_rfl) (by kernel_rfl) (by kernel_rfl) Tryd.underlying115 Tryd.underlying97 (by kernel_rfl) (by kernel_rfl)
theorem tab_of {W : World} (h : laidMetH Tryd.prog Rows.callDifferRow.laid W) : Tab W :=
  glob_of_tab (tab_of_laid (k := .u8) (zs := [48, 49, 50, 51, 52, 53, 54, 55, 56, 57, 97, 98, 99, 100, 101, 102]) (g := 1) 3 (by kernel_rfl) h rfl (by kernel_rfl) (by kernel_rfl) Tryd.underlying72 Tryd.underlying5 (by kernel_rfl) (by kernel_rfl)) (by kernel_rfl) rfl
theorem calls_of {W : World} (h : laidMetH Tryd.prog Rows.callDifferRow.laid W) : Calls10 W := calls_of_laid 4 (by kernel_rfl) h rfl
theorem own : ownKnob Tryd.prog.godebug = none := by kernel_rfl
theorem laidOut : laidOutB Tryd.prog = true := by kernel_rfl
theorem door_met (os : Os) (args : Array Value) : laidMetH Tryd.prog Rows.callDifferRow.laid ((World.doorLaid Tryd.prog 104 os).forCall (fun _ _ => 0) ⟨#[], args, []⟩).memory :=
  laidMetH_of_parts3 (fuel := 8) (laidMet_of_run' 8 (by kernel_rfl) (by kernel_rfl)) (by kernel_rfl) (by kernel_rfl)
set_option maxRecDepth 100000 in
theorem contract (H : Type) (enc : TypeId × Value → H) (W : World) (base : Nat) (args : Array Value) (ds gs : List (DataW H)) (before : List MemPlace)
    (hval : ∀ (j : Nat) t v, Tryd.f4.params[j]? = some t → args[j]? = some v → Value.okWide Tryd.prog W .any base t v)
    (hW : DataW.Whole enc Tryd.prog Tryd.f4.params.toList Rows.callDifferSpec.vars false W args.toList ds gs before) (hL : laidMetH Tryd.prog Rows.callDifferRow.laid W) :
    Calls Tryd.prog 4 args W fun e W' => ∃ v, e = .returned v ∧ Rows.callDifferSpec.post enc Tryd.prog Tryd.f4 false true false false W args v W' := by
  have hlt : ∀ p ∈ before, p.block < W.heap.size := fun p hp => hW.lt p hp
  have hW' := hW
  obtain ⟨p, q, hA0, hV, rfl, hfz, hnd⟩ := hW
  have hA : DataW.TrodAll enc Tryd.prog W 0 (fun _ => true) true Tryd.f4.params.toList args.toList ds p := hA0
  rw [Tryd.params4] at hA hval
  obtain ⟨v0, vs0, d0, ds0, p0, q0, hargs, rfl, rfl, h0, r0⟩ := trodAll_cons hA
  obtain ⟨rfl, rfl, rfl⟩ := trodAll_nil r0
  obtain rfl : args = #[v0] := by cases args; simp_all
  obtain ⟨rfl, rfl⟩ := trodVars_none hV
  have fin : ∀ (ds : List (DataW H)) (before : List MemPlace) (args : Array Value) W', DataW.Whole enc Tryd.prog Tryd.f4.params.toList Rows.callDifferSpec.vars false W args.toList ds [] before → Rows.callDifferSpec.fn H (ds ++ []) = { results := [.lit (.bool true)], args := ds } → Below W.heap.size W W' → Rows.callDifferSpec.post enc Tryd.prog Tryd.f4 false true false false W args (.bool true) W' :=
    fun ds before args W' h1 h2 h3 => post_law laidOut (by kernel_rfl) (by kernel_rfl) Tryd.underlying4 h1 rfl h2 h3
  have hfin := fun W' h => fin _ _ _ W' hW' rfl h
  clear fin hW' hA0 hV hfz hnd
  obtain ⟨A, n, c, rfl, hn, hl⟩ := ints_arg (t := 28) (e := 3) Tryd.underlying28 Tryd.underlying3 (by kernel_rfl) (hval 0 28 v0 rfl rfl) h0 (fun x hx => hlt x (by simp [hx]))
  refine law_mono ?_ fun W' hb => ⟨_, rfl, hfin W' hb⟩
  exact callDiffer_walk W A n c hn hl (calls_of hL) (tab_of hL) (pow_of hL)
set_option maxRecDepth 100000 in
theorem lifted (os : Os) (started : os.Started) (H : Type) (enc : TypeId × Value → H) :
    ReturnsInHanded {} Tryd.checked os 4 .any (fun w args => (Rows.callDifferSpec.pre enc Tryd.prog Tryd.f4 [] false w args ∧ laidMetH Tryd.prog Rows.callDifferRow.laid w) ∧ sizedMet enc Tryd.prog Tryd.f4 (OpenSpec.ofChange Rows.callDifferSpec) false w args)
      (Rows.callDifferSpec.post enc Tryd.prog Tryd.f4 false true false false) := by
  refine returnsInHanded_of_change_and (C := Tryd.checked) (X := fun w _ => laidMetH Tryd.prog Rows.callDifferRow.laid w) (fun _ _ _ hh h => h.of_heap hh) own started (by kernel_rfl) Tryd.func4
    (ChangeSpec.witness_shaped (enc := enc) (C := Tryd.checked) (os := os) (X := fun w _ => laidMetH Tryd.prog Rows.callDifferRow.laid w) false (World.doorLaid Tryd.prog 104 os) #[.slice none 0 0] 8 rfl (World.shaped_of_RefB (by kernel_rfl) (by kernel_rfl)) (by kernel_rfl) (by kernel_rfl) (by kernel_rfl) (door_met os _)) ?_
  intro W base args ds gs before hval hW _ _ hL _
  exact contract H enc W base args ds gs before hval hW hL
theorem said : Rows.CallDifferSaid :=
  OpenClaim.holds_of_wide 4 Tryd.f4 rfl rfl rfl rfl rfl rfl rfl ⟨rfl, rfl, rfl, rfl, rfl⟩ rfl rfl rfl rfl rfl (by kernel_rfl) Tryd.func4 (by kernel_rfl)
    (of_decide_eq_true (by kernel_rfl)) (by unfold Func.isWrapper; first | (rw [if_pos (by decide +kernel)]; kernel_rfl) | (rw [if_neg (by decide +kernel)]; exact ⟨rfl, rfl⟩))
    (fun os started H enc _ => lifted os started H enc)
theorem plain (f : FuncId) (fn : Func) (hf : Tryd.pinned.checked.prog.funcNamed "kaudit/kauditlaw10.CallDiffer" = some f) (hfn : Tryd.pinned.checked.prog.funcs[f]? = some fn) :
    true = Tryd.pinned.checked.prog.looks [] ∧ ∀ (j : Nat) t, fn.params[j]? = some t → Tryd.pinned.checked.prog.wantsStandIn t = false := by
  obtain rfl : f = 4 := Option.some.inj ((show Tryd.prog.funcNamed "kaudit/kauditlaw10.CallDiffer" = some 4 by kernel_rfl).symm.trans hf) |>.symm
  obtain rfl : fn = Tryd.f4 := (Option.some.inj (Tryd.func4.symm.trans hfn)).symm
  refine ⟨by kernel_rfl, fun j t ht => ?_⟩
  rw [Tryd.params4] at ht
  have hm : t ∈ [28] := by simpa using Array.mem_of_getElem? ht
  have hall : ([28].all fun u => !Tryd.prog.wantsStandIn u) = true := by kernel_rfl
  exact (show Tryd.prog.wantsStandIn t = false by simpa using List.all_eq_true.1 hall t hm)
theorem card : Rows.CallDifferCardSaid :=
  Claim7.holds_tied_plain_at .later [] _ _ _ _ said (fun _ h => by cases h) (by kernel_rfl) (fun _ h => by cases h) callDiffer_row_tie rfl ⟨rfl, rfl⟩ (by kernel_rfl) rfl plain (by kernel_rfl)
end Go.Proofs.YtokkbboahajbhaaDoor.callDiffer
