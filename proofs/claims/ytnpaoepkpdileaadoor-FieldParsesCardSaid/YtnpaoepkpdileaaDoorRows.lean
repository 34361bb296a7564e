/-
  NARROWER THAN 'FOR EVERY INPUT', by the rows' own cells (each row's printed sentence says how): FieldRaw: laid · FieldBuilt: laid · FieldOpposite: laid · FieldItems: laid · FieldNames: laid · FieldParses: laid · FieldBack: laid.
  DERIVED. THE GIVEN ROWS OF THIS SEAT. 7 by the template 'for every input the law returns true; each argument reads behind the call as it read before'; 0 by the template 'total and deterministic' (their statements: YtnpaoepkpdileaaDoorTotals.lean).
  GIVEN WITH THE SEED: the statements are not yours to turn. If you find one false, say at which input.
  Laid BY PROGRAM, IN A SANDBOX (cutbox-rows.mjs): the forced cells as the released guide's own fill.sh prints them over the translation 30836a008f75b44c… (all of the seat's roots in one cut). By AI agents, Wed Nov 11 2026. No macro, syntax, notation, axiom, sorry.
-/
import Derived.Test.YtnpaoepkpdileaaDoorChecked
import GoSem.Claim
import GoSem.ClaimJoined
import GoSem.ClaimMapViews
import Derived.JoinedTies
import Derived.KernelRfl
namespace Go.Proofs.YtnpaoepkpdileaaDoor
/- THE CELL 'sum', in the pinned program and in every row, IS THE sha256 OF THE DUMP (.gsa) THAT YtnpaoepkpdileaaDoorProg.lean LOADS. Nothing in Lean hashes anything: it is a label: what it is worth is what the hold of that sum in a sandbox is worth. -/
noncomputable def Tryd.pinned : Pinned := { name := "ytnpaoepkpdileaadoor", sum := "30836a008f75b44ca6cabee5cc3d5ffce791e12ab010117511c6504c50c87144", checked := Tryd.checked }
namespace Rows
def none {H : Type} : Left H := { results := [], args := [] }

/- WHAT THE LISTED PACKAGE-LEVEL VARIABLES READ AS WHEN THE CALL BEGINS. Each datum BY PROGRAM (the guide's laid-datum.mjs) off the statement by which the dump's own 'gosem.cut.vars' lays the variable. In a bare row this is a premise. The card (YtnpaoepkpdileaaDoorCards.lean) ties it to the program's text. -/
def laid_math_bits_deBruijn32tab {H : Type} : DataW H := .agg [.lit (.int .u8 0), .lit (.int .u8 1), .lit (.int .u8 28), .lit (.int .u8 2), .lit (.int .u8 29), .lit (.int .u8 14), .lit (.int .u8 24), .lit (.int .u8 3), .lit (.int .u8 30), .lit (.int .u8 22), .lit (.int .u8 20), .lit (.int .u8 15), .lit (.int .u8 25), .lit (.int .u8 17), .lit (.int .u8 4), .lit (.int .u8 8), .lit (.int .u8 31), .lit (.int .u8 27), .lit (.int .u8 13), .lit (.int .u8 23), .lit (.int .u8 21), .lit (.int .u8 19), .lit (.int .u8 16), .lit (.int .u8 7), .lit (.int .u8 26), .lit (.int .u8 12), .lit (.int .u8 18), .lit (.int .u8 6), .lit (.int .u8 11), .lit (.int .u8 5), .lit (.int .u8 10), .lit (.int .u8 9)]
def laid_math_bits_deBruijn64tab {H : Type} : DataW H := .agg [.lit (.int .u8 0), .lit (.int .u8 1), .lit (.int .u8 56), .lit (.int .u8 2), .lit (.int .u8 57), .lit (.int .u8 49), .lit (.int .u8 28), .lit (.int .u8 3), .lit (.int .u8 61), .lit (.int .u8 58), .lit (.int .u8 42), .lit (.int .u8 50), .lit (.int .u8 38), .lit (.int .u8 29), .lit (.int .u8 17), .lit (.int .u8 4), .lit (.int .u8 62), .lit (.int .u8 47), .lit (.int .u8 59), .lit (.int .u8 36), .lit (.int .u8 45), .lit (.int .u8 43), .lit (.int .u8 51), .lit (.int .u8 22), .lit (.int .u8 53), .lit (.int .u8 39), .lit (.int .u8 33), .lit (.int .u8 30), .lit (.int .u8 24), .lit (.int .u8 18), .lit (.int .u8 12), .lit (.int .u8 5), .lit (.int .u8 63), .lit (.int .u8 55), .lit (.int .u8 48), .lit (.int .u8 27), .lit (.int .u8 60), .lit (.int .u8 41), .lit (.int .u8 37), .lit (.int .u8 16), .lit (.int .u8 46), .lit (.int .u8 35), .lit (.int .u8 44), .lit (.int .u8 21), .lit (.int .u8 52), .lit (.int .u8 32), .lit (.int .u8 23), .lit (.int .u8 11), .lit (.int .u8 54), .lit (.int .u8 26), .lit (.int .u8 40), .lit (.int .u8 15), .lit (.int .u8 34), .lit (.int .u8 20), .lit (.int .u8 31), .lit (.int .u8 10), .lit (.int .u8 25), .lit (.int .u8 14), .lit (.int .u8 19), .lit (.int .u8 9), .lit (.int .u8 13), .lit (.int .u8 8), .lit (.int .u8 7), .lit (.int .u8 6)]
def laid_internal_strconv_uint64pow10 {H : Type} : DataW H := .agg [.lit (.int .u64 1), .lit (.int .u64 10), .lit (.int .u64 100), .lit (.int .u64 1000), .lit (.int .u64 10000), .lit (.int .u64 100000), .lit (.int .u64 1000000), .lit (.int .u64 10000000), .lit (.int .u64 100000000), .lit (.int .u64 1000000000), .lit (.int .u64 10000000000), .lit (.int .u64 100000000000), .lit (.int .u64 1000000000000), .lit (.int .u64 10000000000000), .lit (.int .u64 100000000000000), .lit (.int .u64 1000000000000000), .lit (.int .u64 10000000000000000), .lit (.int .u64 100000000000000000), .lit (.int .u64 1000000000000000000), .lit (.int .u64 10000000000000000000)]
def laid_kaudit_value_digits {H : Type} : DataW H := .agg [.lit (.int .u8 48), .lit (.int .u8 49), .lit (.int .u8 50), .lit (.int .u8 51), .lit (.int .u8 52), .lit (.int .u8 53), .lit (.int .u8 54), .lit (.int .u8 55), .lit (.int .u8 56), .lit (.int .u8 57), .lit (.int .u8 97), .lit (.int .u8 98), .lit (.int .u8 99), .lit (.int .u8 100), .lit (.int .u8 101), .lit (.int .u8 102)]
def laid_kaudit_field_names {H : Type} : DataW H := .agg [.lit (.string []), .lit (.string [112, 105, 100]), .lit (.string [112, 112, 105, 100]), .lit (.string [117, 105, 100]), .lit (.string [101, 117, 105, 100]), .lit (.string [103, 105, 100]), .lit (.string [101, 103, 105, 100]), .lit (.string [97, 117, 105, 100]), .lit (.string [115, 101, 115]), .lit (.string [97, 48]), .lit (.string [97, 49]), .lit (.string [97, 50]), .lit (.string [97, 51]), .lit (.string [101, 120, 101]), .lit (.string [99, 111, 109, 109]), .lit (.string [101, 120, 105, 116]), .lit (.string [115, 117, 99, 99, 101, 115, 115]), .lit (.string [105, 110, 111, 100, 101]), .lit (.string [100, 101, 118]), .lit (.string [111, 98, 106, 95, 117, 105, 100]), .lit (.string [111, 98, 106, 95, 103, 105, 100]), .lit (.string [107, 105, 110, 100]), .lit (.string [116, 121, 112, 101])]
def laid_kaudit_field_operators {H : Type} : DataW H := .agg [.lit (.string []), .lit (.string [61]), .lit (.string [33, 61]), .lit (.string [60]), .lit (.string [60, 61]), .lit (.string [62]), .lit (.string [62, 61]), .lit (.string [38]), .lit (.string [38, 61])]
def laid_strconv_ErrRange {H : Type} : DataW H := .iface "*errors.errorString" (.ptr (.agg [.lit (.string [118, 97, 108, 117, 101, 32, 111, 117, 116, 32, 111, 102, 32, 114, 97, 110, 103, 101])]))
def laid_strconv_ErrSyntax {H : Type} : DataW H := .iface "*errors.errorString" (.ptr (.agg [.lit (.string [105, 110, 118, 97, 108, 105, 100, 32, 115, 121, 110, 116, 97, 120])]))

/-- 'kauditlaw12.FieldRaw': WHATEVER THE INPUT: true; the input reads as it did. -/
def fieldRawSpec : ChangeSpec := { name := "fieldRaw", fn := fun _ => fun
  | [d1, d2, d3] => { results := [.lit (.bool true)], args := [d1, d2, d3] }
  | _ => none }
def fieldRawRow : OpenClaim := { program := "ytnpaoepkpdileaadoor", sum := "30836a008f75b44ca6cabee5cc3d5ffce791e12ab010117511c6504c50c87144", func := "kaudit/kauditlaw12.FieldRaw", spec := "fieldRaw", named := ["kaudit/field.names", "kaudit/field.operators", "kaudit/value.digits", "internal/strconv.uint64pow10", "math/bits.deBruijn32tab", "math/bits.deBruijn64tab"], apart := false, laid := [("math/bits.deBruijn32tab", laid_math_bits_deBruijn32tab), ("math/bits.deBruijn64tab", laid_math_bits_deBruijn64tab), ("internal/strconv.uint64pow10", laid_internal_strconv_uint64pow10), ("kaudit/value.digits", laid_kaudit_value_digits), ("kaudit/field.names", laid_kaudit_field_names), ("kaudit/field.operators", laid_kaudit_field_operators)] }
def FieldRawSaid : Prop := fieldRawRow.holds Tryd.pinned (OpenSpec.ofChange fieldRawSpec)

/-- ITS FALSE NEIGHBOUR: 'it returns false'. Refute it at one input. -/
def fieldRawWrong : ChangeSpec := { name := "fieldRaw", fn := fun _ => fun
  | [d1, d2, d3] => { results := [.lit (.bool false)], args := [d1, d2, d3] }
  | _ => none }
def FieldRawWrongFalsely : Prop := fieldRawRow.holds Tryd.pinned (OpenSpec.ofChange fieldRawWrong)

/-- 'kauditlaw12.FieldBuilt': WHATEVER THE INPUT: true; the input reads as it did. -/
def fieldBuiltSpec : ChangeSpec := { name := "fieldBuilt", fn := fun _ => fun
  | [d] => { results := [.lit (.bool true)], args := [d] }
  | _ => none }
def fieldBuiltRow : OpenClaim := { program := "ytnpaoepkpdileaadoor", sum := "30836a008f75b44ca6cabee5cc3d5ffce791e12ab010117511c6504c50c87144", func := "kaudit/kauditlaw12.FieldBuilt", spec := "fieldBuilt", named := ["kaudit/field.names", "kaudit/field.operators", "kaudit/value.digits", "internal/strconv.uint64pow10", "math/bits.deBruijn32tab", "math/bits.deBruijn64tab"], apart := false, laid := [("math/bits.deBruijn32tab", laid_math_bits_deBruijn32tab), ("math/bits.deBruijn64tab", laid_math_bits_deBruijn64tab), ("internal/strconv.uint64pow10", laid_internal_strconv_uint64pow10), ("kaudit/value.digits", laid_kaudit_value_digits), ("kaudit/field.names", laid_kaudit_field_names), ("kaudit/field.operators", laid_kaudit_field_operators)] }
def FieldBuiltSaid : Prop := fieldBuiltRow.holds Tryd.pinned (OpenSpec.ofChange fieldBuiltSpec)

/-- ITS FALSE NEIGHBOUR: 'it returns false'. Refute it at one input. -/
def fieldBuiltWrong : ChangeSpec := { name := "fieldBuilt", fn := fun _ => fun
  | [d] => { results := [.lit (.bool false)], args := [d] }
  | _ => none }
def FieldBuiltWrongFalsely : Prop := fieldBuiltRow.holds Tryd.pinned (OpenSpec.ofChange fieldBuiltWrong)

/-- 'kauditlaw12.FieldOpposite': WHATEVER THE INPUT: true; the input reads as it did. -/
def fieldOppositeSpec : ChangeSpec := { name := "fieldOpposite", fn := fun _ => fun
  | [d1, d2] => { results := [.lit (.bool true)], args := [d1, d2] }
  | _ => none }
def fieldOppositeRow : OpenClaim := { program := "ytnpaoepkpdileaadoor", sum := "30836a008f75b44ca6cabee5cc3d5ffce791e12ab010117511c6504c50c87144", func := "kaudit/kauditlaw12.FieldOpposite", spec := "fieldOpposite", named := ["kaudit/field.names", "kaudit/field.operators", "kaudit/value.digits", "internal/strconv.uint64pow10", "math/bits.deBruijn32tab", "math/bits.deBruijn64tab"], apart := false, laid := [("math/bits.deBruijn32tab", laid_math_bits_deBruijn32tab), ("math/bits.deBruijn64tab", laid_math_bits_deBruijn64tab), ("internal/strconv.uint64pow10", laid_internal_strconv_uint64pow10), ("kaudit/value.digits", laid_kaudit_value_digits), ("kaudit/field.names", laid_kaudit_field_names), ("kaudit/field.operators", laid_kaudit_field_operators)] }
def FieldOppositeSaid : Prop := fieldOppositeRow.holds Tryd.pinned (OpenSpec.ofChange fieldOppositeSpec)

/-- ITS FALSE NEIGHBOUR: 'it returns false'. Refute it at one input. -/
def fieldOppositeWrong : ChangeSpec := { name := "fieldOpposite", fn := fun _ => fun
  | [d1, d2] => { results := [.lit (.bool false)], args := [d1, d2] }
  | _ => none }
def FieldOppositeWrongFalsely : Prop := fieldOppositeRow.holds Tryd.pinned (OpenSpec.ofChange fieldOppositeWrong)

/-- 'kauditlaw12.FieldItems': WHATEVER THE INPUT: true; the input reads as it did. -/
def fieldItemsSpec : ChangeSpec := { name := "fieldItems", fn := fun _ => fun
  | [d] => { results := [.lit (.bool true)], args := [d] }
  | _ => none }
def fieldItemsRow : OpenClaim := { program := "ytnpaoepkpdileaadoor", sum := "30836a008f75b44ca6cabee5cc3d5ffce791e12ab010117511c6504c50c87144", func := "kaudit/kauditlaw12.FieldItems", spec := "fieldItems", named := ["kaudit/field.names", "kaudit/field.operators", "kaudit/value.digits", "internal/strconv.uint64pow10", "math/bits.deBruijn32tab", "math/bits.deBruijn64tab"], apart := false, laid := [("math/bits.deBruijn32tab", laid_math_bits_deBruijn32tab), ("math/bits.deBruijn64tab", laid_math_bits_deBruijn64tab), ("internal/strconv.uint64pow10", laid_internal_strconv_uint64pow10), ("kaudit/value.digits", laid_kaudit_value_digits), ("kaudit/field.names", laid_kaudit_field_names), ("kaudit/field.operators", laid_kaudit_field_operators)] }
def FieldItemsSaid : Prop := fieldItemsRow.holds Tryd.pinned (OpenSpec.ofChange fieldItemsSpec)

/-- ITS FALSE NEIGHBOUR: 'it returns false'. Refute it at one input. -/
def fieldItemsWrong : ChangeSpec := { name := "fieldItems", fn := fun _ => fun
  | [d] => { results := [.lit (.bool false)], args := [d] }
  | _ => none }
def FieldItemsWrongFalsely : Prop := fieldItemsRow.holds Tryd.pinned (OpenSpec.ofChange fieldItemsWrong)

/-- 'kauditlaw12.FieldNames': WHATEVER THE INPUT: true; the input reads as it did. -/
def fieldNamesSpec : ChangeSpec := { name := "fieldNames", fn := fun _ => fun
  | [d1, d2, d3] => { results := [.lit (.bool true)], args := [d1, d2, d3] }
  | _ => none }
def fieldNamesRow : OpenClaim := { program := "ytnpaoepkpdileaadoor", sum := "30836a008f75b44ca6cabee5cc3d5ffce791e12ab010117511c6504c50c87144", func := "kaudit/kauditlaw12.FieldNames", spec := "fieldNames", named := ["kaudit/field.names", "kaudit/field.operators", "kaudit/value.digits", "internal/strconv.uint64pow10", "math/bits.deBruijn32tab", "math/bits.deBruijn64tab"], apart := false, laid := [("math/bits.deBruijn32tab", laid_math_bits_deBruijn32tab), ("math/bits.deBruijn64tab", laid_math_bits_deBruijn64tab), ("internal/strconv.uint64pow10", laid_internal_strconv_uint64pow10), ("kaudit/value.digits", laid_kaudit_value_digits), ("kaudit/field.names", laid_kaudit_field_names), ("kaudit/field.operators", laid_kaudit_field_operators)] }
def FieldNamesSaid : Prop := fieldNamesRow.holds Tryd.pinned (OpenSpec.ofChange fieldNamesSpec)

/-- ITS FALSE NEIGHBOUR: 'it returns false'. Refute it at one input. -/
def fieldNamesWrong : ChangeSpec := { name := "fieldNames", fn := fun _ => fun
  | [d1, d2, d3] => { results := [.lit (.bool false)], args := [d1, d2, d3] }
  | _ => none }
def FieldNamesWrongFalsely : Prop := fieldNamesRow.holds Tryd.pinned (OpenSpec.ofChange fieldNamesWrong)

/-- 'kauditlaw12.FieldParses': WHATEVER THE INPUT: true; the input reads as it did. -/
def fieldParsesSpec : ChangeSpec := { name := "fieldParses", fn := fun _ => fun
  | [d1, d2, d3] => { results := [.lit (.bool true)], args := [d1, d2, d3] }
  | _ => none }
def fieldParsesRow : OpenClaim := { program := "ytnpaoepkpdileaadoor", sum := "30836a008f75b44ca6cabee5cc3d5ffce791e12ab010117511c6504c50c87144", func := "kaudit/kauditlaw12.FieldParses", spec := "fieldParses", inPlace := ["internal/bytealg.IndexByteString", "internal/bytealg.IndexString"], named := ["kaudit/field.names", "kaudit/field.operators", "kaudit/value.digits", "internal/strconv.uint64pow10", "math/bits.deBruijn32tab", "math/bits.deBruijn64tab", "strconv.ErrSyntax", "strconv.ErrRange", "internal/bytealg.MaxLen"], apart := false, laid := [("math/bits.deBruijn32tab", laid_math_bits_deBruijn32tab), ("math/bits.deBruijn64tab", laid_math_bits_deBruijn64tab), ("internal/strconv.uint64pow10", laid_internal_strconv_uint64pow10), ("strconv.ErrRange", laid_strconv_ErrRange), ("strconv.ErrSyntax", laid_strconv_ErrSyntax), ("kaudit/value.digits", laid_kaudit_value_digits), ("kaudit/field.names", laid_kaudit_field_names), ("kaudit/field.operators", laid_kaudit_field_operators)] }
def FieldParsesSaid : Prop := fieldParsesRow.holds Tryd.pinned (OpenSpec.ofChange fieldParsesSpec)

/-- ITS FALSE NEIGHBOUR: 'it returns false'. Refute it at one input. -/
def fieldParsesWrong : ChangeSpec := { name := "fieldParses", fn := fun _ => fun
  | [d1, d2, d3] => { results := [.lit (.bool false)], args := [d1, d2, d3] }
  | _ => none }
def FieldParsesWrongFalsely : Prop := fieldParsesRow.holds Tryd.pinned (OpenSpec.ofChange fieldParsesWrong)

/-- 'kauditlaw12.FieldBack': WHATEVER THE INPUT: true; the input reads as it did. -/
def fieldBackSpec : ChangeSpec := { name := "fieldBack", fn := fun _ => fun
  | [d] => { results := [.lit (.bool true)], args := [d] }
  | _ => none }
def fieldBackRow : OpenClaim := { program := "ytnpaoepkpdileaadoor", sum := "30836a008f75b44ca6cabee5cc3d5ffce791e12ab010117511c6504c50c87144", func := "kaudit/kauditlaw12.FieldBack", spec := "fieldBack", inPlace := ["internal/bytealg.IndexByteString", "internal/bytealg.IndexString"], named := ["kaudit/field.names", "kaudit/field.operators", "kaudit/value.digits", "internal/strconv.uint64pow10", "math/bits.deBruijn32tab", "math/bits.deBruijn64tab", "strconv.ErrSyntax", "strconv.ErrRange", "internal/bytealg.MaxLen"], apart := false, laid := [("math/bits.deBruijn32tab", laid_math_bits_deBruijn32tab), ("math/bits.deBruijn64tab", laid_math_bits_deBruijn64tab), ("internal/strconv.uint64pow10", laid_internal_strconv_uint64pow10), ("strconv.ErrRange", laid_strconv_ErrRange), ("strconv.ErrSyntax", laid_strconv_ErrSyntax), ("kaudit/value.digits", laid_kaudit_value_digits), ("kaudit/field.names", laid_kaudit_field_names), ("kaudit/field.operators", laid_kaudit_field_operators)] }
def FieldBackSaid : Prop := fieldBackRow.holds Tryd.pinned (OpenSpec.ofChange fieldBackSpec)

/-- ITS FALSE NEIGHBOUR: 'it returns false'. Refute it at one input. -/
def fieldBackWrong : ChangeSpec := { name := "fieldBack", fn := fun _ => fun
  | [d] => { results := [.lit (.bool false)], args := [d] }
  | _ => none }
def FieldBackWrongFalsely : Prop := fieldBackRow.holds Tryd.pinned (OpenSpec.ofChange fieldBackWrong)

/- THE SECOND FORM. 'bulk': how many values and letters a reading holds, each counted each time it is reached (what is shared counts as often as it is met; a slice's spare places count too). A statement '..UptoSaid' is the law's where the arguments, and the package variables that the reading takes, are together of bulk at most 1048576: NARROWER than '..Said'. Prove '..Said' where nothing that the law and all that it calls make is longer than what came in: it says more and counts as full. Else prove '..UptoSaid'. A law counts once. -/
mutual
def uptoBulk {H : Type} : DataW H → Nat
  | .lit (.string bytes) => bytes.length + 1
  | .lit _ => 1
  | .nil => 1
  | .ptr d => uptoBulk d + 1
  | .slice elems spare => uptoBulkAll elems + uptoBulkAll spare + 1
  | .agg parts => uptoBulkAll parts + 1
  | .iface _ d => uptoBulk d + 1
  | .map entries => uptoBulkEntries entries + 1
  | .held _ => 1
def uptoBulkAll {H : Type} : List (DataW H) → Nat
  | [] => 0
  | d :: r => uptoBulk d + uptoBulkAll r
def uptoBulkEntries {H : Type} : List (Lit × DataW H) → Nat
  | [] => 0
  | x :: r => uptoBulkEntry x + uptoBulkEntries r
def uptoBulkEntry {H : Type} : Lit × DataW H → Nat
  | (.string bytes, d) => bytes.length + uptoBulk d + 1
  | (_, d) => uptoBulk d + 1
 end
def uptoSmall : (H : Type) → List (DataW H) → Bool := fun _ ds => decide (uptoBulkAll ds ≤ 1048576)
def OpenSpec.upto (s : _root_.Go.ChangeSpec) : _root_.Go.OpenSpec := { _root_.Go.OpenSpec.ofChange s with cond := some uptoSmall }

/-- 'kauditlaw12.FieldRaw', WHERE WHAT IT READS IS OF BULK AT MOST 1048576: true; the input reads as it did. -/
def fieldRawUptoRow : OpenClaim := { program := "ytnpaoepkpdileaadoor", sum := "30836a008f75b44ca6cabee5cc3d5ffce791e12ab010117511c6504c50c87144", func := "kaudit/kauditlaw12.FieldRaw", spec := "fieldRaw", named := ["kaudit/field.names", "kaudit/field.operators", "kaudit/value.digits", "internal/strconv.uint64pow10", "math/bits.deBruijn32tab", "math/bits.deBruijn64tab"], apart := false, laid := [("math/bits.deBruijn32tab", laid_math_bits_deBruijn32tab), ("math/bits.deBruijn64tab", laid_math_bits_deBruijn64tab), ("internal/strconv.uint64pow10", laid_internal_strconv_uint64pow10), ("kaudit/value.digits", laid_kaudit_value_digits), ("kaudit/field.names", laid_kaudit_field_names), ("kaudit/field.operators", laid_kaudit_field_operators)], narrowed := true }
def FieldRawUptoSaid : Prop := fieldRawUptoRow.holds Tryd.pinned (OpenSpec.upto fieldRawSpec)

/-- 'kauditlaw12.FieldBuilt', WHERE WHAT IT READS IS OF BULK AT MOST 1048576: true; the input reads as it did. -/
def fieldBuiltUptoRow : OpenClaim := { program := "ytnpaoepkpdileaadoor", sum := "30836a008f75b44ca6cabee5cc3d5ffce791e12ab010117511c6504c50c87144", func := "kaudit/kauditlaw12.FieldBuilt", spec := "fieldBuilt", named := ["kaudit/field.names", "kaudit/field.operators", "kaudit/value.digits", "internal/strconv.uint64pow10", "math/bits.deBruijn32tab", "math/bits.deBruijn64tab"], apart := false, laid := [("math/bits.deBruijn32tab", laid_math_bits_deBruijn32tab), ("math/bits.deBruijn64tab", laid_math_bits_deBruijn64tab), ("internal/strconv.uint64pow10", laid_internal_strconv_uint64pow10), ("kaudit/value.digits", laid_kaudit_value_digits), ("kaudit/field.names", laid_kaudit_field_names), ("kaudit/field.operators", laid_kaudit_field_operators)], narrowed := true }
def FieldBuiltUptoSaid : Prop := fieldBuiltUptoRow.holds Tryd.pinned (OpenSpec.upto fieldBuiltSpec)

/-- 'kauditlaw12.FieldOpposite', WHERE WHAT IT READS IS OF BULK AT MOST 1048576: true; the input reads as it did. -/
def fieldOppositeUptoRow : OpenClaim := { program := "ytnpaoepkpdileaadoor", sum := "30836a008f75b44ca6cabee5cc3d5ffce791e12ab010117511c6504c50c87144", func := "kaudit/kauditlaw12.FieldOpposite", spec := "fieldOpposite", named := ["kaudit/field.names", "kaudit/field.operators", "kaudit/value.digits", "internal/strconv.uint64pow10", "math/bits.deBruijn32tab", "math/bits.deBruijn64tab"], apart := false, laid := [("math/bits.deBruijn32tab", laid_math_bits_deBruijn32tab), ("math/bits.deBruijn64tab", laid_math_bits_deBruijn64tab), ("internal/strconv.uint64pow10", laid_internal_strconv_uint64pow10), ("kaudit/value.digits", laid_kaudit_value_digits), ("kaudit/field.names", laid_kaudit_field_names), ("kaudit/field.operators", laid_kaudit_field_operators)], narrowed := true }
def FieldOppositeUptoSaid : Prop := fieldOppositeUptoRow.holds Tryd.pinned (OpenSpec.upto fieldOppositeSpec)

/-- 'kauditlaw12.FieldItems', WHERE WHAT IT READS IS OF BULK AT MOST 1048576: true; the input reads as it did. -/
def fieldItemsUptoRow : OpenClaim := { program := "ytnpaoepkpdileaadoor", sum := "30836a008f75b44ca6cabee5cc3d5ffce791e12ab010117511c6504c50c87144", func := "kaudit/kauditlaw12.FieldItems", spec := "fieldItems", named := ["kaudit/field.names", "kaudit/field.operators", "kaudit/value.digits", "internal/strconv.uint64pow10", "math/bits.deBruijn32tab", "math/bits.deBruijn64tab"], apart := false, laid := [("math/bits.deBruijn32tab", laid_math_bits_deBruijn32tab), ("math/bits.deBruijn64tab", laid_math_bits_deBruijn64tab), ("internal/strconv.uint64pow10", laid_internal_strconv_uint64pow10), ("kaudit/value.digits", laid_kaudit_value_digits), ("kaudit/field.names", laid_kaudit_field_names), ("kaudit/field.operators", laid_kaudit_field_operators)], narrowed := true }
def FieldItemsUptoSaid : Prop := fieldItemsUptoRow.holds Tryd.pinned (OpenSpec.upto fieldItemsSpec)

/-- 'kauditlaw12.FieldNames', WHERE WHAT IT READS IS OF BULK AT MOST 1048576: true; the input reads as it did. -/
def fieldNamesUptoRow : OpenClaim := { program := "ytnpaoepkpdileaadoor", sum := "30836a008f75b44ca6cabee5cc3d5ffce791e12ab010117511c6504c50c87144", func := "kaudit/kauditlaw12.FieldNames", spec := "fieldNames", named := ["kaudit/field.names", "kaudit/field.operators", "kaudit/value.digits", "internal/strconv.uint64pow10", "math/bits.deBruijn32tab", "math/bits.deBruijn64tab"], apart := false, laid := [("math/bits.deBruijn32tab", laid_math_bits_deBruijn32tab), ("math/bits.deBruijn64tab", laid_math_bits_deBruijn64tab), ("internal/strconv.uint64pow10", laid_internal_strconv_uint64pow10), ("kaudit/value.digits", laid_kaudit_value_digits), ("kaudit/field.names", laid_kaudit_field_names), ("kaudit/field.operators", laid_kaudit_field_operators)], narrowed := true }
def FieldNamesUptoSaid : Prop := fieldNamesUptoRow.holds Tryd.pinned (OpenSpec.upto fieldNamesSpec)

/-- 'kauditlaw12.FieldParses', WHERE WHAT IT READS IS OF BULK AT MOST 1048576: true; the input reads as it did. -/
def fieldParsesUptoRow : OpenClaim := { program := "ytnpaoepkpdileaadoor", sum := "30836a008f75b44ca6cabee5cc3d5ffce791e12ab010117511c6504c50c87144", func := "kaudit/kauditlaw12.FieldParses", spec := "fieldParses", inPlace := ["internal/bytealg.IndexByteString", "internal/bytealg.IndexString"], named := ["kaudit/field.names", "kaudit/field.operators", "kaudit/value.digits", "internal/strconv.uint64pow10", "math/bits.deBruijn32tab", "math/bits.deBruijn64tab", "strconv.ErrSyntax", "strconv.ErrRange", "internal/bytealg.MaxLen"], apart := false, laid := [("math/bits.deBruijn32tab", laid_math_bits_deBruijn32tab), ("math/bits.deBruijn64tab", laid_math_bits_deBruijn64tab), ("internal/strconv.uint64pow10", laid_internal_strconv_uint64pow10), ("strconv.ErrRange", laid_strconv_ErrRange), ("strconv.ErrSyntax", laid_strconv_ErrSyntax), ("kaudit/value.digits", laid_kaudit_value_digits), ("kaudit/field.names", laid_kaudit_field_names), ("kaudit/field.operators", laid_kaudit_field_operators)], narrowed := true }
def FieldParsesUptoSaid : Prop := fieldParsesUptoRow.holds Tryd.pinned (OpenSpec.upto fieldParsesSpec)

/-- 'kauditlaw12.FieldBack', WHERE WHAT IT READS IS OF BULK AT MOST 1048576: true; the input reads as it did. -/
def fieldBackUptoRow : OpenClaim := { program := "ytnpaoepkpdileaadoor", sum := "30836a008f75b44ca6cabee5cc3d5ffce791e12ab010117511c6504c50c87144", func := "kaudit/kauditlaw12.FieldBack", spec := "fieldBack", inPlace := ["internal/bytealg.IndexByteString", "internal/bytealg.IndexString"], named := ["kaudit/field.names", "kaudit/field.operators", "kaudit/value.digits", "internal/strconv.uint64pow10", "math/bits.deBruijn32tab", "math/bits.deBruijn64tab", "strconv.ErrSyntax", "strconv.ErrRange", "internal/bytealg.MaxLen"], apart := false, laid := [("math/bits.deBruijn32tab", laid_math_bits_deBruijn32tab), ("math/bits.deBruijn64tab", laid_math_bits_deBruijn64tab), ("internal/strconv.uint64pow10", laid_internal_strconv_uint64pow10), ("strconv.ErrRange", laid_strconv_ErrRange), ("strconv.ErrSyntax", laid_strconv_ErrSyntax), ("kaudit/value.digits", laid_kaudit_value_digits), ("kaudit/field.names", laid_kaudit_field_names), ("kaudit/field.operators", laid_kaudit_field_operators)], narrowed := true }
def FieldBackUptoSaid : Prop := fieldBackUptoRow.holds Tryd.pinned (OpenSpec.upto fieldBackSpec)

end Rows
end Go.Proofs.YtnpaoepkpdileaaDoor
