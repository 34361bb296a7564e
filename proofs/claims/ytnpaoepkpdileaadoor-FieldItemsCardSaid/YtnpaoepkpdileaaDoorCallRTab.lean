/- The reference's table of calls. -/
import Derived.Test.YtnpaoepkpdileaaDoorCallTab
namespace Go.Proofs.YtnpaoepkpdileaaDoor
open Go.RowKit
theorem row_lit {w wr : World} {cs : Array Value} {t : TypeId} (hb : Below (w.heap.size + 1) (w.alloc (.cells cs t)) wr) (k : Nat) : wr.cell? ⟨w.heap.size, k, none⟩ = cs[k]? := by
  rw [hb.cell (p := ⟨w.heap.size, k, none⟩) (by show w.heap.size < w.heap.size + 1; omega)]
  exact cell_of_row _ _ _ cs t (0, 0) (heap_alloc_new w _)
/-- A list of rows of the table, in one block of the call's own. -/
def TabAt (w : World) (g : Nat) : Prop := Glob w g (cellsC .i64)
set_option maxRecDepth 100000 in
theorem cellsC_lit : cellsC .i64 = #[.string ⟨#[102, 111, 114, 107]⟩, .int .i64 0, .int .i64 0, .int .i64 0, .int .i64 0, .string ⟨#[101, 120, 101, 99, 118, 101]⟩, .int .i64 0, .int .i64 1, .int .i64 0, .int .i64 4, .string ⟨#[101, 120, 105, 116]⟩, .int .i64 1, .int .i64 0, .int .i64 0, .int .i64 0, .string ⟨#[115, 101, 116, 117, 105, 100]⟩, .int .i64 1, .int .i64 0, .int .i64 0, .int .i64 0, .string ⟨#[115, 101, 116, 103, 105, 100]⟩, .int .i64 1, .int .i64 0, .int .i64 0, .int .i64 0, .string ⟨#[108, 111, 103, 105, 110]⟩, .int .i64 1, .int .i64 0, .int .i64 0, .int .i64 0, .string ⟨#[111, 112, 101, 110]⟩, .int .i64 2, .int .i64 1, .int .i64 0, .int .i64 0, .string ⟨#[99, 108, 111, 115, 101]⟩, .int .i64 1, .int .i64 0, .int .i64 0, .int .i64 0, .string ⟨#[108, 105, 110, 107]⟩, .int .i64 0, .int .i64 2, .int .i64 0, .int .i64 0, .string ⟨#[115, 121, 109, 108, 105, 110, 107]⟩, .int .i64 0, .int .i64 1, .int .i64 1, .int .i64 1, .string ⟨#[117, 110, 108, 105, 110, 107]⟩, .int .i64 0, .int .i64 1, .int .i64 0, .int .i64 0, .string ⟨#[109, 107, 100, 105, 114]⟩, .int .i64 1, .int .i64 1, .int .i64 0, .int .i64 0, .string ⟨#[114, 109, 100, 105, 114]⟩, .int .i64 0, .int .i64 1, .int .i64 0, .int .i64 0, .string ⟨#[114, 101, 110, 97, 109, 101]⟩, .int .i64 0, .int .i64 2, .int .i64 0, .int .i64 0, .string ⟨#[99, 104, 109, 111, 100]⟩, .int .i64 1, .int .i64 1, .int .i64 0, .int .i64 0, .string ⟨#[99, 104, 111, 119, 110]⟩, .int .i64 2, .int .i64 1, .int .i64 0, .int .i64 0, .string ⟨#[99, 104, 100, 105, 114]⟩, .int .i64 0, .int .i64 1, .int .i64 0, .int .i64 0, .string ⟨#[109, 111, 117, 110, 116]⟩, .int .i64 1, .int .i64 1, .int .i64 0, .int .i64 0, .string ⟨#[117, 109, 111, 117, 110, 116]⟩, .int .i64 1, .int .i64 0, .int .i64 0, .int .i64 0, .string ⟨#[99, 111, 110, 110, 101, 99, 116]⟩, .int .i64 1, .int .i64 0, .int .i64 1, .int .i64 1, .string ⟨#[107, 105, 108, 108]⟩, .int .i64 2, .int .i64 0, .int .i64 0, .int .i64 0, .string ⟨#[116, 114, 117, 110, 99, 97, 116, 101]⟩, .int .i64 1, .int .i64 1, .int .i64 0, .int .i64 0] := rfl
attribute [local irreducible] cellsC rowC
set_option maxRecDepth 100000 in
set_option maxHeartbeats 4000000 in
theorem rtable (w : World) : Calls Tryd.prog 91 #[] w fun e w' => e = .returned (.slice (some ⟨w.heap.size, 0, none⟩) 22 22) ∧ Glob w' w.heap.size (cellsC .i64) ∧ Below w.heap.size w w' := by
  go_enter Tryd.func91, Tryd.ntmps91
  go_wp2
  go_ret
  exact ⟨rfl, ⟨109, (0, 0), (heap_alloc_new w _).trans (congrArg (fun c => some (Obj.cells c 109 (0, 0))) cellsC_lit.symm)⟩, (Below.refl _ _).alloc (Nat.le_refl _) _⟩
end Go.Proofs.YtnpaoepkpdileaaDoor
