/- awake of the laws on fields. -/
import Derived.Test.YtnpaoepkpdileaaDoorFieldVEv
namespace Go.Proofs.YtnpaoepkpdileaaDoor
open Go.RowKit
def cAw : Ctx := ⟨1, fun j => if j = 2 then 1000 else 0, fun _ => 0, 0, 0, ⟨#[]⟩, ⟨#[]⟩⟩
def slZ : Sl := ⟨none, 0, 0⟩
def rAw : CRest := ⟨0, 0, slZ, false, 0, slZ, slZ⟩
set_option maxRecDepth 100000 in
theorem aw_text : testS 3 6 1000 ⟨#[]⟩ 0 = ⟨#[117, 105, 100, 62, 61, 49, 48, 48, 48]⟩ := by decide +kernel
theorem aw_err : anyE 3 6 1000 ⟨#[]⟩ 0 = 0 := by decide +kernel
theorem aw_ev1 : evalP cAw [] 3 6 1000 ⟨#[]⟩ 0 = true := by decide +kernel
theorem aw_ev2 : evalP cAw [] 15 2 5 ⟨#[]⟩ 0 = false := by decide +kernel
def awC : Array Value := #[.int .i64 1, .int .i64 0, .int .i64 0, .int .i64 1000, .int .i64 0, .int .i64 0, .int .i64 0, .int .i64 0, .int .i64 0, .int .i64 0, .int .i64 0, .string ⟨#[]⟩, .string ⟨#[]⟩, .slice none 0 0, .bool false, .int .i64 0, .int .i64 0, .int .i64 0, .int .i64 0, .int .i64 0, .slice none 0 0, .slice none 0 0, .int .i64 0, .slice none 0 0, .int .i64 0]
theorem awC_lit : awC = #[.int .i64 1, .int .i64 0, .int .i64 0, .int .i64 1000, .int .i64 0, .int .i64 0, .int .i64 0, .int .i64 0, .int .i64 0, .int .i64 0, .int .i64 0, .string ⟨#[]⟩, .string ⟨#[]⟩, .slice none 0 0, .bool false, .int .i64 0, .int .i64 0, .int .i64 0, .int .i64 0, .int .i64 0, .slice none 0 0, .slice none 0 0, .int .i64 0, .slice none 0 0, .int .i64 0] := rfl
theorem aw_one : awC.all (·.oneCell') = true := by decide +kernel
theorem awC_eq : awC = ctxC cAw rAw (.slice none 0 0) := rfl
abbrev zeroX : Array Value := #[.int .i64 0, .int .i64 0, .int .i64 0, .int .i64 0, .int .i64 0, .int .i64 0, .int .i64 0, .int .i64 0, .int .i64 0, .int .i64 0, .int .i64 0, .string ⟨#[]⟩, .string ⟨#[]⟩, .slice none 0 0, .bool false, .int .i64 0, .int .i64 0, .int .i64 0, .int .i64 0, .int .i64 0, .slice none 0 0, .slice none 0 0, .int .i64 0, .slice none 0 0, .int .i64 0]
theorem aw_sz : (Tryd.prog.info? 35).map (·.size) = some awC.size := by show _ = some 25; kernel_rfl
theorem aw_old : zeroX.size = awC.size := rfl
attribute [local irreducible] awC testS anyE evalP ctxC
set_option maxRecDepth 100000 in
set_option maxHeartbeats 2000000 in
theorem awake12 (w : World) (hn : FNames w) (ho : FOps w) (ht : Tab w) (hp : Pow w) : Calls Tryd.prog 11 #[] w fun e w' => e = .returned (.bool true) ∧ Below w.heap.size w w' := by
  have hal : Below w.heap.size w ((w.alloc (.cells zeroX 35)).setRow w.heap.size awC) := below_row ((Below.refl _ _).alloc (Nat.le_refl _) _) (Nat.le_refl _) _
  have hC : Blk ((w.alloc (.cells zeroX 35)).setRow w.heap.size awC) w.heap.size 35 (ctxC cAw rAw (.slice none 0 0)) := by rw [← awC_eq]; exact (Blk.new w _ _).row _
  have HF := Lib.hid (vformatF 3 6 1000 ⟨#[]⟩ 0 ⟨by omega, by omega⟩ (by decide) ((w.alloc (.cells zeroX 35)).setRow w.heap.size awC) (hn.below hal) (ho.below hal) (ht.below hal (Nat.le_refl _)) (hp.below hal (Nat.le_refl _)))
  rw [aw_text, aw_err] at HF
  have HV1 := Lib.hid (fun W => vevalF cAw rAw none 0 0 [] rfl (by omega) 3 6 1000 ⟨#[]⟩ 0 (by decide) W ItemsAt.nil)
  have HV2 := Lib.hid (fun W => vevalF cAw rAw none 0 0 [] rfl (by omega) 15 2 5 ⟨#[]⟩ 0 (by decide) W ItemsAt.nil)
  simp only [List.map_nil] at HV1 HV2
  rw [aw_ev1] at HV1
  rw [aw_ev2] at HV2
  have HC := Lib.hid hC
  have HAL := Lib.hid hal
  clear hn ho ht hp hal hC
  go_enter Tryd.func11, Tryd.ntmps11
  have HZ := Lib.hid (Blk.new w zeroX 35)
  go_wp2_with ((with_reducible refine store_blk ?_ 35 (.tmp 1) (.tmp 5) ?_ HZ.out awC ?_ ?_ ?_ ?_ ?_ ?_); (iterate 3 rfl); (exact congrArg Value.agg awC_lit.symm); (exact aw_sz); (exact aw_old); (exact aw_one))
  refine HF.out.mono ?_
  rintro e w1 ⟨rfl, hb1⟩
  have HC1 := Lib.hid (HC.out.below hb1)
  have HB1 := Lib.hid (HAL.out.trans (hb1.mono HAL.out.size))
  clear hb1
  go_wp2_with ((with_reducible refine load_blk_g ?_ 35 (.tmp 1) ?_ HC1.out ?_ _ Tryd.underlying35 ?_ ?_ ?_); (iterate 4 rfl); exact ctx_sz _ _ _)
  refine (HV1.out _).mono ?_
  rintro e w2 ⟨rfl, hb2⟩
  have HC2 := Lib.hid (HC1.out.below hb2)
  have HB2 := Lib.hid (below_then HB1.out hb2)
  clear hb2
  go_wp2_with ((with_reducible refine load_blk_g ?_ 35 (.tmp 1) ?_ HC2.out ?_ _ Tryd.underlying35 ?_ ?_ ?_); (iterate 4 rfl); exact ctx_sz _ _ _)
  refine (HV2.out _).mono ?_
  rintro e w3 ⟨rfl, hb3⟩
  have HB3 := Lib.hid (below_then HB2.out hb3)
  clear hb3
  go_wp2_with fail
  go_ret
  exact ⟨rfl, HB3.out⟩
end Go.Proofs.YtnpaoepkpdileaaDoor
