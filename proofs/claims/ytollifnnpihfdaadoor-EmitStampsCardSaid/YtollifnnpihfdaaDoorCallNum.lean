/- Number, of the program and of the reference; Name and Shape for every number. -/
import Derived.Test.YtollifnnpihfdaaDoorCallRGet
namespace Go.Proofs.YtollifnnpihfdaaDoor
open Go.RowKit
/-- The number of a name, or -1. -/
def numC (s : ByteArray) : Int := match (List.range 22).find? (fun n => (rowC n).name.toList == s.toList) with | some n => (n : Int) | none => -1
theorem numC_at {s : ByteArray} {k : Nat} (hk : k < 22) (h : ∀ j, j < k → (rowC j).name ≠ s) (he : (rowC k).name = s) : numC s = k := by
  have : (List.range 22).find? (fun n => (rowC n).name.toList == s.toList) = some k := by
    rw [List.find?_range_eq_some]
    refine ⟨str_eq he, by simpa using hk, fun j hj => ?_⟩
    simp [str_ne (h j hj)]
  unfold numC; rw [this]
theorem numC_none {s : ByteArray} (h : ∀ j, j < 22 → (rowC j).name ≠ s) : numC s = -1 := by
  have : (List.range 22).find? (fun n => (rowC n).name.toList == s.toList) = none := by
    rw [List.find?_range_eq_none]
    intro j hj
    simp [str_ne (h j hj)]
  unfold numC; rw [this]
theorem idx_at (k : Nat) (hk : k < 22) (w : World) : (Instr.index 97 (.agg (cellsC .u8)) (.int .i64 (k : Int))).run Tryd.prog w = .ok (.agg #[.string (rowC k).name, .int .u8 (rowC k).nums, .int .u8 (rowC k).pths, .int .u8 (rowC k).least, .int .u8 (rowC k).most]) w := by
  have H : ∀ m : Fin 22, (Instr.index 97 (.agg (cellsC .u8)) (.int .i64 (m.val : Int))).run Tryd.prog w = .ok (.agg #[.string (rowC m).name, .int .u8 (rowC m).nums, .int .u8 (rowC m).pths, .int .u8 (rowC m).least, .int .u8 (rowC m).most]) w := by
    intro m
    match m with
    | ⟨0, _⟩ => show _ = _; kernel_rfl
    | ⟨1, _⟩ => show _ = _; kernel_rfl
    | ⟨2, _⟩ => show _ = _; kernel_rfl
    | ⟨3, _⟩ => show _ = _; kernel_rfl
    | ⟨4, _⟩ => show _ = _; kernel_rfl
    | ⟨5, _⟩ => show _ = _; kernel_rfl
    | ⟨6, _⟩ => show _ = _; kernel_rfl
    | ⟨7, _⟩ => show _ = _; kernel_rfl
    | ⟨8, _⟩ => show _ = _; kernel_rfl
    | ⟨9, _⟩ => show _ = _; kernel_rfl
    | ⟨10, _⟩ => show _ = _; kernel_rfl
    | ⟨11, _⟩ => show _ = _; kernel_rfl
    | ⟨12, _⟩ => show _ = _; kernel_rfl
    | ⟨13, _⟩ => show _ = _; kernel_rfl
    | ⟨14, _⟩ => show _ = _; kernel_rfl
    | ⟨15, _⟩ => show _ = _; kernel_rfl
    | ⟨16, _⟩ => show _ = _; kernel_rfl
    | ⟨17, _⟩ => show _ = _; kernel_rfl
    | ⟨18, _⟩ => show _ = _; kernel_rfl
    | ⟨19, _⟩ => show _ = _; kernel_rfl
    | ⟨20, _⟩ => show _ = _; kernel_rfl
    | ⟨21, _⟩ => show _ = _; kernel_rfl
    | ⟨_ + 22, h⟩ => exact absurd h (by omega)
  exact H ⟨k, hk⟩
attribute [local irreducible] rowC cellsC
theorem arr_size : (Tryd.prog.info? 97).map (·.size) = some (cellsC .u8).size := by kernel_rfl
theorem rowI_name_out {z : Int} (h : z < 0 ∨ 22 ≤ z) : rowI z = ⟨⟨#[]⟩, 0, 0, 0, 0⟩ := h.elim rowI_neg rowI_great
theorem vnameI (z : Int) (w : World) (hc : Calls10 w) : Calls Tryd.prog 26 #[.int .i64 z] w fun e w' => e = .returned (.string (rowI z).name) ∧ w = w' := by
  by_cases h : z < 0 ∨ 22 ≤ z
  · rw [rowI_name_out h]; exact vname_out z h w
  · obtain ⟨n, rfl⟩ := Int.eq_ofNat_of_zero_le (show 0 ≤ z by omega)
    rw [rowI_nat]; exact vname n (by omega) w hc
end Go.Proofs.YtollifnnpihfdaaDoor
