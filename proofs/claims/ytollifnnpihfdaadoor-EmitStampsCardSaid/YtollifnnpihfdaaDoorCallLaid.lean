/- The listed table of calls. -/
import Derived.Test.YtollifnnpihfdaaDoorRows
import Derived.Test.YtollifnnpihfdaaDoorLaidRows
import Derived.Test.YtollifnnpihfdaaDoorCallRows
import Derived.SliceStrings
import Derived.Laws.IdiomArrays
namespace Go.Proofs.YtollifnnpihfdaaDoor
open Go.ChangeShapes Go.WideShapes Go.RowKit Go.Joins Go.Deep
theorem cells_of_row (w : World) (i : Nat) (hi : i < (rowsC.map (CRow.cells .u8)).length) (m : Nat) (cs' : List Value) (d : DataW Unit) (q : List MemPlace) (ds : List (DataW Unit)) (hds : DataW.agg ds = Rows.laid_kaudit_call_calls) (hd : ds[i]? = some d) (ht : DataW.trod (fun _ => ()) Tryd.prog w 0 (fun _ => true) false m 96 cs' = some (d, q)) : cs' = (rowsC.map (CRow.cells .u8))[i] := by
  have H : ∀ k : Fin 22, ds[k.val]? = some d → cs' = (rowsC.map (CRow.cells .u8))[k.val]'(by have : (rowsC.map (CRow.cells .u8)).length = 22 := rfl; omega) := by
    unfold Rows.laid_kaudit_call_calls at hds
    injection hds with hds
    subst hds
    intro k hd
    match k with
    | ⟨0, _⟩ => exact row5_cells Tryd.underlying96 (by kernel_rfl) (by kernel_rfl) Tryd.underlying9 Tryd.underlying5 Tryd.underlying5 Tryd.underlying5 Tryd.underlying5 (by cases hd; exact ht)
    | ⟨1, _⟩ => exact row5_cells Tryd.underlying96 (by kernel_rfl) (by kernel_rfl) Tryd.underlying9 Tryd.underlying5 Tryd.underlying5 Tryd.underlying5 Tryd.underlying5 (by cases hd; exact ht)
    | ⟨2, _⟩ => exact row5_cells Tryd.underlying96 (by kernel_rfl) (by kernel_rfl) Tryd.underlying9 Tryd.underlying5 Tryd.underlying5 Tryd.underlying5 Tryd.underlying5 (by cases hd; exact ht)
    | ⟨3, _⟩ => exact row5_cells Tryd.underlying96 (by kernel_rfl) (by kernel_rfl) Tryd.underlying9 Tryd.underlying5 Tryd.underlying5 Tryd.underlying5 Tryd.underlying5 (by cases hd; exact ht)
    | ⟨4, _⟩ => exact row5_cells Tryd.underlying96 (by kernel_rfl) (by kernel_rfl) Tryd.underlying9 Tryd.underlying5 Tryd.underlying5 Tryd.underlying5 Tryd.underlying5 (by cases hd; exact ht)
    | ⟨5, _⟩ => exact row5_cells Tryd.underlying96 (by kernel_rfl) (by kernel_rfl) Tryd.underlying9 Tryd.underlying5 Tryd.underlying5 Tryd.underlying5 Tryd.underlying5 (by cases hd; exact ht)
    | ⟨6, _⟩ => exact row5_cells Tryd.underlying96 (by kernel_rfl) (by kernel_rfl) Tryd.underlying9 Tryd.underlying5 Tryd.underlying5 Tryd.underlying5 Tryd.underlying5 (by cases hd; exact ht)
    | ⟨7, _⟩ => exact row5_cells Tryd.underlying96 (by kernel_rfl) (by kernel_rfl) Tryd.underlying9 Tryd.underlying5 Tryd.underlying5 Tryd.underlying5 Tryd.underlying5 (by cases hd; exact ht)
    | ⟨8, _⟩ => exact row5_cells Tryd.underlying96 (by kernel_rfl) (by kernel_rfl) Tryd.underlying9 Tryd.underlying5 Tryd.underlying5 Tryd.underlying5 Tryd.underlying5 (by cases hd; exact ht)
    | ⟨9, _⟩ => exact row5_cells Tryd.underlying96 (by kernel_rfl) (by kernel_rfl) Tryd.underlying9 Tryd.underlying5 Tryd.underlying5 Tryd.underlying5 Tryd.underlying5 (by cases hd; exact ht)
    | ⟨10, _⟩ => exact row5_cells Tryd.underlying96 (by kernel_rfl) (by kernel_rfl) Tryd.underlying9 Tryd.underlying5 Tryd.underlying5 Tryd.underlying5 Tryd.underlying5 (by cases hd; exact ht)
    | ⟨11, _⟩ => exact row5_cells Tryd.underlying96 (by kernel_rfl) (by kernel_rfl) Tryd.underlying9 Tryd.underlying5 Tryd.underlying5 Tryd.underlying5 Tryd.underlying5 (by cases hd; exact ht)
    | ⟨12, _⟩ => exact row5_cells Tryd.underlying96 (by kernel_rfl) (by kernel_rfl) Tryd.underlying9 Tryd.underlying5 Tryd.underlying5 Tryd.underlying5 Tryd.underlying5 (by cases hd; exact ht)
    | ⟨13, _⟩ => exact row5_cells Tryd.underlying96 (by kernel_rfl) (by kernel_rfl) Tryd.underlying9 Tryd.underlying5 Tryd.underlying5 Tryd.underlying5 Tryd.underlying5 (by cases hd; exact ht)
    | ⟨14, _⟩ => exact row5_cells Tryd.underlying96 (by kernel_rfl) (by kernel_rfl) Tryd.underlying9 Tryd.underlying5 Tryd.underlying5 Tryd.underlying5 Tryd.underlying5 (by cases hd; exact ht)
    | ⟨15, _⟩ => exact row5_cells Tryd.underlying96 (by kernel_rfl) (by kernel_rfl) Tryd.underlying9 Tryd.underlying5 Tryd.underlying5 Tryd.underlying5 Tryd.underlying5 (by cases hd; exact ht)
    | ⟨16, _⟩ => exact row5_cells Tryd.underlying96 (by kernel_rfl) (by kernel_rfl) Tryd.underlying9 Tryd.underlying5 Tryd.underlying5 Tryd.underlying5 Tryd.underlying5 (by cases hd; exact ht)
    | ⟨17, _⟩ => exact row5_cells Tryd.underlying96 (by kernel_rfl) (by kernel_rfl) Tryd.underlying9 Tryd.underlying5 Tryd.underlying5 Tryd.underlying5 Tryd.underlying5 (by cases hd; exact ht)
    | ⟨18, _⟩ => exact row5_cells Tryd.underlying96 (by kernel_rfl) (by kernel_rfl) Tryd.underlying9 Tryd.underlying5 Tryd.underlying5 Tryd.underlying5 Tryd.underlying5 (by cases hd; exact ht)
    | ⟨19, _⟩ => exact row5_cells Tryd.underlying96 (by kernel_rfl) (by kernel_rfl) Tryd.underlying9 Tryd.underlying5 Tryd.underlying5 Tryd.underlying5 Tryd.underlying5 (by cases hd; exact ht)
    | ⟨20, _⟩ => exact row5_cells Tryd.underlying96 (by kernel_rfl) (by kernel_rfl) Tryd.underlying9 Tryd.underlying5 Tryd.underlying5 Tryd.underlying5 Tryd.underlying5 (by cases hd; exact ht)
    | ⟨21, _⟩ => exact row5_cells Tryd.underlying96 (by kernel_rfl) (by kernel_rfl) Tryd.underlying9 Tryd.underlying5 Tryd.underlying5 Tryd.underlying5 Tryd.underlying5 (by cases hd; exact ht)
    | ⟨k + 22, h⟩ => exact absurd h (by omega)
  exact H ⟨i, hi⟩ hd
theorem calls_of_laid {W : World} {laid : List (String × DataW Unit)} (i : Nat) (hpl : (laid.all fun x => x.2.handleName?.isNone) = true) (h : laidMetH Tryd.prog laid W) (hi : laid[i]? = some ("kaudit/call.calls", Rows.laid_kaudit_call_calls)) : Calls10 W :=
  glob_of_laid (t := 97) (e := 96) (c := 5) (n := 22) (L := rowsC.map (CRow.cells .u8)) i hpl h hi rfl (by kernel_rfl) Tryd.underlying97 (by kernel_rfl) (by kernel_rfl) rfl rfl (fun w i hi m cs' d q hd ht => cells_of_row w i hi m cs' d q _ rfl hd ht)
end Go.Proofs.YtollifnnpihfdaaDoor
