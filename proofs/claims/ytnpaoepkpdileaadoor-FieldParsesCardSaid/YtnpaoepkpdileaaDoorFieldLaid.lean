/- The listed tables of fields and operators. -/
import Derived.Test.YtnpaoepkpdileaaDoorRows
import Derived.Test.YtnpaoepkpdileaaDoorLaidRows
import Derived.Test.YtnpaoepkpdileaaDoorFieldTab
namespace Go.Proofs.YtnpaoepkpdileaaDoor
open Go.ChangeShapes Go.WideShapes Go.RowKit Go.Joins Go.Deep
theorem flat_one : ∀ M : List ByteArray, (M.map fun s => [Value.string s]).flatten = M.map Value.string
  | [] => rfl
  | x :: M => by simp [flat_one M]
theorem strs_laid {P : Program} {W : World} {laid : List (String × DataW Unit)} {name : String} {g n : Nat} {t e : TypeId} {M : List ByteArray} (i : Nat)
    (hpl : (laid.all fun x => x.2.handleName?.isNone) = true) (h : laidMetH P laid W) (hi : laid[i]? = some (name, .agg (M.map fun s => .lit (.string s.data.toList))))
    (hg : P.globalNamed name = some g) (hty : (P.globals[g]?).map (·.type) = some t) (ht : P.underlying t = some (.array n e)) (hce : P.cellsOf e = 1) (hct : P.cellsOf t = n * 1) (he : P.underlying e = some .string) (hL : M.length = n) : Glob W g (M.map Value.string).toArray :=
  glob_of_laid (c := 1) (n := n) (L := M.map fun s => [Value.string s]) i hpl h hi hg hty ht hce hct (by simpa using hL) (by
    rw [flat_one]) (fun w j hj m cs' d q hd htr => by
    have hjM : j < M.length := by simpa using hj
    rw [List.getElem?_map, List.getElem?_eq_getElem hjM] at hd
    simp at hd
    obtain ⟨s, c0, z0, _⟩ := DataW.trod_string he htr
    rw [← hd] at z0
    simp at z0
    subst c0
    have : s = M[j] := by
      apply ByteArray.ext
      exact z0.1.symm
    rw [this]; simp)
theorem names_laid {W : World} {laid : List (String × DataW Unit)} (i : Nat) (hpl : (laid.all fun x => x.2.handleName?.isNone) = true) (h : laidMetH Tryd.prog laid W) (hi : laid[i]? = some ("kaudit/field.names", Rows.laid_kaudit_field_names)) : FNames W :=
  strs_laid (M := fieldL) (t := 74) (e := 9) (n := 23) i hpl h hi (by kernel_rfl) (by kernel_rfl) Tryd.underlying74 (by kernel_rfl) (by kernel_rfl) Tryd.underlying9 rfl
theorem ops_laid {W : World} {laid : List (String × DataW Unit)} (i : Nat) (hpl : (laid.all fun x => x.2.handleName?.isNone) = true) (h : laidMetH Tryd.prog laid W) (hi : laid[i]? = some ("kaudit/field.operators", Rows.laid_kaudit_field_operators)) : FOps W :=
  strs_laid (M := opL) (t := 78) (e := 9) (n := 9) i hpl h hi (by kernel_rfl) (by kernel_rfl) Tryd.underlying78 (by kernel_rfl) (by kernel_rfl) Tryd.underlying9 rfl
end Go.Proofs.YtnpaoepkpdileaaDoor
