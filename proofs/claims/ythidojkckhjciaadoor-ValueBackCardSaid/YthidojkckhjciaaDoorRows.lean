/-
  NARROWER THAN 'FOR EVERY INPUT', by the rows' own cells (each row's printed sentence says how): ValueQuotes: laid · ValueUnquotes: laid · ValueLimits: laid · ValuePairs: laid · ValueDiffer: laid · ValueParses: laid · ValueBuilt: laid · ValueBack: laid.
  DERIVED. THE GIVEN ROWS OF THIS SEAT. 8 by the template 'for every input the law returns true; each argument reads behind the call as it read before'; 0 by the template 'total and deterministic' (their statements: YthidojkckhjciaaDoorTotals.lean).
  GIVEN WITH THE SEED: the statements are not yours to turn. If you find one false, say at which input.
  Laid BY PROGRAM, IN A SANDBOX (cutbox-rows.mjs): the forced cells as the released guide's own fill.sh prints them over the translation 994d721c3b6cae47… (all of the seat's roots in one cut). By AI agents, Wed Nov 11 2026. No macro, syntax, notation, axiom, sorry.
-/
import Derived.Test.YthidojkckhjciaaDoorChecked
import GoSem.Claim
import GoSem.ClaimJoined
import GoSem.ClaimMapViews
import Derived.JoinedTies
import Derived.KernelRfl
namespace Go.Proofs.YthidojkckhjciaaDoor
/- THE CELL 'sum', in the pinned program and in every row, IS THE sha256 OF THE DUMP (.gsa) THAT YthidojkckhjciaaDoorProg.lean LOADS. Nothing in Lean hashes anything: it is a label: what it is worth is what the hold of that sum in a sandbox is worth. -/
noncomputable def Tryd.pinned : Pinned := { name := "ythidojkckhjciaadoor", sum := "994d721c3b6cae472ad4305887d7662aee3d5265c0270c5eac0e725ac90f52ca", checked := Tryd.checked }
namespace Rows
def none {H : Type} : Left H := { results := [], args := [] }

/- WHAT THE LISTED PACKAGE-LEVEL VARIABLES READ AS WHEN THE CALL BEGINS. Each datum BY PROGRAM (the guide's laid-datum.mjs) off the statement by which the dump's own 'gosem.cut.vars' lays the variable. In a bare row this is a premise. The card (YthidojkckhjciaaDoorCards.lean) ties it to the program's text. -/
def laid_kaudit_value_digits {H : Type} : DataW H := .agg [.lit (.int .u8 48), .lit (.int .u8 49), .lit (.int .u8 50), .lit (.int .u8 51), .lit (.int .u8 52), .lit (.int .u8 53), .lit (.int .u8 54), .lit (.int .u8 55), .lit (.int .u8 56), .lit (.int .u8 57), .lit (.int .u8 97), .lit (.int .u8 98), .lit (.int .u8 99), .lit (.int .u8 100), .lit (.int .u8 101), .lit (.int .u8 102)]
def laid_math_bits_deBruijn32tab {H : Type} : DataW H := .agg [.lit (.int .u8 0), .lit (.int .u8 1), .lit (.int .u8 28), .lit (.int .u8 2), .lit (.int .u8 29), .lit (.int .u8 14), .lit (.int .u8 24), .lit (.int .u8 3), .lit (.int .u8 30), .lit (.int .u8 22), .lit (.int .u8 20), .lit (.int .u8 15), .lit (.int .u8 25), .lit (.int .u8 17), .lit (.int .u8 4), .lit (.int .u8 8), .lit (.int .u8 31), .lit (.int .u8 27), .lit (.int .u8 13), .lit (.int .u8 23), .lit (.int .u8 21), .lit (.int .u8 19), .lit (.int .u8 16), .lit (.int .u8 7), .lit (.int .u8 26), .lit (.int .u8 12), .lit (.int .u8 18), .lit (.int .u8 6), .lit (.int .u8 11), .lit (.int .u8 5), .lit (.int .u8 10), .lit (.int .u8 9)]
def laid_math_bits_deBruijn64tab {H : Type} : DataW H := .agg [.lit (.int .u8 0), .lit (.int .u8 1), .lit (.int .u8 56), .lit (.int .u8 2), .lit (.int .u8 57), .lit (.int .u8 49), .lit (.int .u8 28), .lit (.int .u8 3), .lit (.int .u8 61), .lit (.int .u8 58), .lit (.int .u8 42), .lit (.int .u8 50), .lit (.int .u8 38), .lit (.int .u8 29), .lit (.int .u8 17), .lit (.int .u8 4), .lit (.int .u8 62), .lit (.int .u8 47), .lit (.int .u8 59), .lit (.int .u8 36), .lit (.int .u8 45), .lit (.int .u8 43), .lit (.int .u8 51), .lit (.int .u8 22), .lit (.int .u8 53), .lit (.int .u8 39), .lit (.int .u8 33), .lit (.int .u8 30), .lit (.int .u8 24), .lit (.int .u8 18), .lit (.int .u8 12), .lit (.int .u8 5), .lit (.int .u8 63), .lit (.int .u8 55), .lit (.int .u8 48), .lit (.int .u8 27), .lit (.int .u8 60), .lit (.int .u8 41), .lit (.int .u8 37), .lit (.int .u8 16), .lit (.int .u8 46), .lit (.int .u8 35), .lit (.int .u8 44), .lit (.int .u8 21), .lit (.int .u8 52), .lit (.int .u8 32), .lit (.int .u8 23), .lit (.int .u8 11), .lit (.int .u8 54), .lit (.int .u8 26), .lit (.int .u8 40), .lit (.int .u8 15), .lit (.int .u8 34), .lit (.int .u8 20), .lit (.int .u8 31), .lit (.int .u8 10), .lit (.int .u8 25), .lit (.int .u8 14), .lit (.int .u8 19), .lit (.int .u8 9), .lit (.int .u8 13), .lit (.int .u8 8), .lit (.int .u8 7), .lit (.int .u8 6)]
def laid_internal_strconv_uint64pow10 {H : Type} : DataW H := .agg [.lit (.int .u64 1), .lit (.int .u64 10), .lit (.int .u64 100), .lit (.int .u64 1000), .lit (.int .u64 10000), .lit (.int .u64 100000), .lit (.int .u64 1000000), .lit (.int .u64 10000000), .lit (.int .u64 100000000), .lit (.int .u64 1000000000), .lit (.int .u64 10000000000), .lit (.int .u64 100000000000), .lit (.int .u64 1000000000000), .lit (.int .u64 10000000000000), .lit (.int .u64 100000000000000), .lit (.int .u64 1000000000000000), .lit (.int .u64 10000000000000000), .lit (.int .u64 100000000000000000), .lit (.int .u64 1000000000000000000), .lit (.int .u64 10000000000000000000)]
def laid_strconv_ErrRange {H : Type} : DataW H := .iface "*errors.errorString" (.ptr (.agg [.lit (.string [118, 97, 108, 117, 101, 32, 111, 117, 116, 32, 111, 102, 32, 114, 97, 110, 103, 101])]))
def laid_strconv_ErrSyntax {H : Type} : DataW H := .iface "*errors.errorString" (.ptr (.agg [.lit (.string [105, 110, 118, 97, 108, 105, 100, 32, 115, 121, 110, 116, 97, 120])]))

/-- 'kauditlaw02.ValueQuotes': WHATEVER THE INPUT: true; the input reads as it did. -/
def valueQuotesSpec : ChangeSpec := { name := "valueQuotes", fn := fun _ => fun
  | [d] => { results := [.lit (.bool true)], args := [d] }
  | _ => none }
def valueQuotesRow : OpenClaim := { program := "ythidojkckhjciaadoor", sum := "994d721c3b6cae472ad4305887d7662aee3d5265c0270c5eac0e725ac90f52ca", func := "kaudit/kauditlaw02.ValueQuotes", spec := "valueQuotes", named := ["kaudit/value.digits"], apart := false, laid := [("kaudit/value.digits", laid_kaudit_value_digits)] }
def ValueQuotesSaid : Prop := valueQuotesRow.holds Tryd.pinned (OpenSpec.ofChange valueQuotesSpec)

/-- ITS FALSE NEIGHBOUR: 'it returns false'. Refute it at one input. -/
def valueQuotesWrong : ChangeSpec := { name := "valueQuotes", fn := fun _ => fun
  | [d] => { results := [.lit (.bool false)], args := [d] }
  | _ => none }
def ValueQuotesWrongFalsely : Prop := valueQuotesRow.holds Tryd.pinned (OpenSpec.ofChange valueQuotesWrong)

/-- 'kauditlaw02.ValueUnquotes': WHATEVER THE INPUT: true; the input reads as it did. -/
def valueUnquotesSpec : ChangeSpec := { name := "valueUnquotes", fn := fun _ => fun
  | [d] => { results := [.lit (.bool true)], args := [d] }
  | _ => none }
def valueUnquotesRow : OpenClaim := { program := "ythidojkckhjciaadoor", sum := "994d721c3b6cae472ad4305887d7662aee3d5265c0270c5eac0e725ac90f52ca", func := "kaudit/kauditlaw02.ValueUnquotes", spec := "valueUnquotes", named := ["kaudit/value.digits"], apart := false, laid := [("kaudit/value.digits", laid_kaudit_value_digits)] }
def ValueUnquotesSaid : Prop := valueUnquotesRow.holds Tryd.pinned (OpenSpec.ofChange valueUnquotesSpec)

/-- ITS FALSE NEIGHBOUR: 'it returns false'. Refute it at one input. -/
def valueUnquotesWrong : ChangeSpec := { name := "valueUnquotes", fn := fun _ => fun
  | [d] => { results := [.lit (.bool false)], args := [d] }
  | _ => none }
def ValueUnquotesWrongFalsely : Prop := valueUnquotesRow.holds Tryd.pinned (OpenSpec.ofChange valueUnquotesWrong)

/-- 'kauditlaw02.ValueLimits': WHATEVER THE INPUT: true; the input reads as it did. -/
def valueLimitsSpec : ChangeSpec := { name := "valueLimits", fn := fun _ => fun
  | [d1, d2] => { results := [.lit (.bool true)], args := [d1, d2] }
  | _ => none }
def valueLimitsRow : OpenClaim := { program := "ythidojkckhjciaadoor", sum := "994d721c3b6cae472ad4305887d7662aee3d5265c0270c5eac0e725ac90f52ca", func := "kaudit/kauditlaw02.ValueLimits", spec := "valueLimits", named := ["kaudit/value.digits"], apart := false, laid := [("kaudit/value.digits", laid_kaudit_value_digits)] }
def ValueLimitsSaid : Prop := valueLimitsRow.holds Tryd.pinned (OpenSpec.ofChange valueLimitsSpec)

/-- ITS FALSE NEIGHBOUR: 'it returns false'. Refute it at one input. -/
def valueLimitsWrong : ChangeSpec := { name := "valueLimits", fn := fun _ => fun
  | [d1, d2] => { results := [.lit (.bool false)], args := [d1, d2] }
  | _ => none }
def ValueLimitsWrongFalsely : Prop := valueLimitsRow.holds Tryd.pinned (OpenSpec.ofChange valueLimitsWrong)

/-- 'kauditlaw02.ValuePairs': WHATEVER THE INPUT: true; the input reads as it did. -/
def valuePairsSpec : ChangeSpec := { name := "valuePairs", fn := fun _ => fun
  | [d] => { results := [.lit (.bool true)], args := [d] }
  | _ => none }
def valuePairsRow : OpenClaim := { program := "ythidojkckhjciaadoor", sum := "994d721c3b6cae472ad4305887d7662aee3d5265c0270c5eac0e725ac90f52ca", func := "kaudit/kauditlaw02.ValuePairs", spec := "valuePairs", named := ["kaudit/value.digits", "internal/strconv.uint64pow10", "math/bits.deBruijn32tab", "math/bits.deBruijn64tab"], apart := false, laid := [("math/bits.deBruijn32tab", laid_math_bits_deBruijn32tab), ("math/bits.deBruijn64tab", laid_math_bits_deBruijn64tab), ("internal/strconv.uint64pow10", laid_internal_strconv_uint64pow10), ("kaudit/value.digits", laid_kaudit_value_digits)] }
def ValuePairsSaid : Prop := valuePairsRow.holds Tryd.pinned (OpenSpec.ofChange valuePairsSpec)

/-- ITS FALSE NEIGHBOUR: 'it returns false'. Refute it at one input. -/
def valuePairsWrong : ChangeSpec := { name := "valuePairs", fn := fun _ => fun
  | [d] => { results := [.lit (.bool false)], args := [d] }
  | _ => none }
def ValuePairsWrongFalsely : Prop := valuePairsRow.holds Tryd.pinned (OpenSpec.ofChange valuePairsWrong)

/-- 'kauditlaw02.ValueDiffer': WHATEVER THE INPUT: true; the input reads as it did. -/
def valueDifferSpec : ChangeSpec := { name := "valueDiffer", fn := fun _ => fun
  | [d] => { results := [.lit (.bool true)], args := [d] }
  | _ => none }
def valueDifferRow : OpenClaim := { program := "ythidojkckhjciaadoor", sum := "994d721c3b6cae472ad4305887d7662aee3d5265c0270c5eac0e725ac90f52ca", func := "kaudit/kauditlaw02.ValueDiffer", spec := "valueDiffer", named := ["internal/strconv.uint64pow10", "math/bits.deBruijn32tab", "math/bits.deBruijn64tab", "kaudit/value.digits"], apart := false, laid := [("math/bits.deBruijn32tab", laid_math_bits_deBruijn32tab), ("math/bits.deBruijn64tab", laid_math_bits_deBruijn64tab), ("internal/strconv.uint64pow10", laid_internal_strconv_uint64pow10), ("kaudit/value.digits", laid_kaudit_value_digits)] }
def ValueDifferSaid : Prop := valueDifferRow.holds Tryd.pinned (OpenSpec.ofChange valueDifferSpec)

/-- ITS FALSE NEIGHBOUR: 'it returns false'. Refute it at one input. -/
def valueDifferWrong : ChangeSpec := { name := "valueDiffer", fn := fun _ => fun
  | [d] => { results := [.lit (.bool false)], args := [d] }
  | _ => none }
def ValueDifferWrongFalsely : Prop := valueDifferRow.holds Tryd.pinned (OpenSpec.ofChange valueDifferWrong)

/-- 'kauditlaw02.ValueParses': WHATEVER THE INPUT: true; the input reads as it did. -/
def valueParsesSpec : ChangeSpec := { name := "valueParses", fn := fun _ => fun
  | [d] => { results := [.lit (.bool true)], args := [d] }
  | _ => none }
def valueParsesRow : OpenClaim := { program := "ythidojkckhjciaadoor", sum := "994d721c3b6cae472ad4305887d7662aee3d5265c0270c5eac0e725ac90f52ca", func := "kaudit/kauditlaw02.ValueParses", spec := "valueParses", inPlace := ["internal/bytealg.IndexByteString", "internal/bytealg.IndexString"], named := ["kaudit/value.digits", "internal/bytealg.MaxLen", "strconv.ErrSyntax", "strconv.ErrRange", "internal/strconv.uint64pow10", "math/bits.deBruijn32tab", "math/bits.deBruijn64tab"], apart := false, laid := [("math/bits.deBruijn32tab", laid_math_bits_deBruijn32tab), ("math/bits.deBruijn64tab", laid_math_bits_deBruijn64tab), ("internal/strconv.uint64pow10", laid_internal_strconv_uint64pow10), ("strconv.ErrRange", laid_strconv_ErrRange), ("strconv.ErrSyntax", laid_strconv_ErrSyntax), ("kaudit/value.digits", laid_kaudit_value_digits)] }
def ValueParsesSaid : Prop := valueParsesRow.holds Tryd.pinned (OpenSpec.ofChange valueParsesSpec)

/-- ITS FALSE NEIGHBOUR: 'it returns false'. Refute it at one input. -/
def valueParsesWrong : ChangeSpec := { name := "valueParses", fn := fun _ => fun
  | [d] => { results := [.lit (.bool false)], args := [d] }
  | _ => none }
def ValueParsesWrongFalsely : Prop := valueParsesRow.holds Tryd.pinned (OpenSpec.ofChange valueParsesWrong)

/-- 'kauditlaw02.ValueBuilt': WHATEVER THE INPUT: true; the input reads as it did. -/
def valueBuiltSpec : ChangeSpec := { name := "valueBuilt", fn := fun _ => fun
  | [d1, d2] => { results := [.lit (.bool true)], args := [d1, d2] }
  | _ => none }
def valueBuiltRow : OpenClaim := { program := "ythidojkckhjciaadoor", sum := "994d721c3b6cae472ad4305887d7662aee3d5265c0270c5eac0e725ac90f52ca", func := "kaudit/kauditlaw02.ValueBuilt", spec := "valueBuilt", inPlace := ["internal/bytealg.IndexByteString", "internal/bytealg.IndexString"], named := ["internal/strconv.uint64pow10", "math/bits.deBruijn32tab", "math/bits.deBruijn64tab", "kaudit/value.digits", "internal/bytealg.MaxLen", "strconv.ErrSyntax", "strconv.ErrRange"], apart := false, laid := [("math/bits.deBruijn32tab", laid_math_bits_deBruijn32tab), ("math/bits.deBruijn64tab", laid_math_bits_deBruijn64tab), ("internal/strconv.uint64pow10", laid_internal_strconv_uint64pow10), ("strconv.ErrRange", laid_strconv_ErrRange), ("strconv.ErrSyntax", laid_strconv_ErrSyntax), ("kaudit/value.digits", laid_kaudit_value_digits)] }
def ValueBuiltSaid : Prop := valueBuiltRow.holds Tryd.pinned (OpenSpec.ofChange valueBuiltSpec)

/-- ITS FALSE NEIGHBOUR: 'it returns false'. Refute it at one input. -/
def valueBuiltWrong : ChangeSpec := { name := "valueBuilt", fn := fun _ => fun
  | [d1, d2] => { results := [.lit (.bool false)], args := [d1, d2] }
  | _ => none }
def ValueBuiltWrongFalsely : Prop := valueBuiltRow.holds Tryd.pinned (OpenSpec.ofChange valueBuiltWrong)

/-- 'kauditlaw02.ValueBack': WHATEVER THE INPUT: true; the input reads as it did. -/
def valueBackSpec : ChangeSpec := { name := "valueBack", fn := fun _ => fun
  | [d1, d2] => { results := [.lit (.bool true)], args := [d1, d2] }
  | _ => none }
def valueBackRow : OpenClaim := { program := "ythidojkckhjciaadoor", sum := "994d721c3b6cae472ad4305887d7662aee3d5265c0270c5eac0e725ac90f52ca", func := "kaudit/kauditlaw02.ValueBack", spec := "valueBack", inPlace := ["internal/bytealg.IndexByteString", "internal/bytealg.IndexString"], named := ["kaudit/value.digits", "internal/strconv.uint64pow10", "math/bits.deBruijn32tab", "math/bits.deBruijn64tab", "internal/bytealg.MaxLen", "strconv.ErrSyntax", "strconv.ErrRange"], apart := false, laid := [("math/bits.deBruijn32tab", laid_math_bits_deBruijn32tab), ("math/bits.deBruijn64tab", laid_math_bits_deBruijn64tab), ("internal/strconv.uint64pow10", laid_internal_strconv_uint64pow10), ("strconv.ErrRange", laid_strconv_ErrRange), ("strconv.ErrSyntax", laid_strconv_ErrSyntax), ("kaudit/value.digits", laid_kaudit_value_digits)] }
def ValueBackSaid : Prop := valueBackRow.holds Tryd.pinned (OpenSpec.ofChange valueBackSpec)

/-- ITS FALSE NEIGHBOUR: 'it returns false'. Refute it at one input. -/
def valueBackWrong : ChangeSpec := { name := "valueBack", fn := fun _ => fun
  | [d1, d2] => { results := [.lit (.bool false)], args := [d1, d2] }
  | _ => none }
def ValueBackWrongFalsely : Prop := valueBackRow.holds Tryd.pinned (OpenSpec.ofChange valueBackWrong)

/- THE SECOND FORM. 'bulk': how many values and letters a reading holds, each counted each time it is reached (what is shared counts as often as it is met; a slice's spare places count too). A statement '..UptoSaid' is the law's where the arguments, and the package variables that the reading takes, are together of bulk at most 1048576: NARROWER than '..Said'. Prove '..Said' where nothing that the law and all that it calls make is longer than what came in: it says more and counts as full. Else prove '..UptoSaid'. A law counts once. -/
mutual
def uptoBulk {H : Type} : DataW H → Nat
  | .lit (.string bytes) => bytes.length + 1
  | .lit _ => 1
  | .nil => 1
  | .ptr d => uptoBulk d + 1
  | .slice elems spare => uptoBulkAll elems + uptoBulkAll spare + 1
  | .agg parts => uptoBulkAll parts + 1
  | .iface _ d => uptoBulk d + 1
  | .map entries => uptoBulkEntries entries + 1
  | .held _ => 1
def uptoBulkAll {H : Type} : List (DataW H) → Nat
  | [] => 0
  | d :: r => uptoBulk d + uptoBulkAll r
def uptoBulkEntries {H : Type} : List (Lit × DataW H) → Nat
  | [] => 0
  | x :: r => uptoBulkEntry x + uptoBulkEntries r
def uptoBulkEntry {H : Type} : Lit × DataW H → Nat
  | (.string bytes, d) => bytes.length + uptoBulk d + 1
  | (_, d) => uptoBulk d + 1
 end
def uptoSmall : (H : Type) → List (DataW H) → Bool := fun _ ds => decide (uptoBulkAll ds ≤ 1048576)
def OpenSpec.upto (s : _root_.Go.ChangeSpec) : _root_.Go.OpenSpec := { _root_.Go.OpenSpec.ofChange s with cond := some uptoSmall }

/-- 'kauditlaw02.ValueQuotes', WHERE WHAT IT READS IS OF BULK AT MOST 1048576: true; the input reads as it did. -/
def valueQuotesUptoRow : OpenClaim := { program := "ythidojkckhjciaadoor", sum := "994d721c3b6cae472ad4305887d7662aee3d5265c0270c5eac0e725ac90f52ca", func := "kaudit/kauditlaw02.ValueQuotes", spec := "valueQuotes", named := ["kaudit/value.digits"], apart := false, laid := [("kaudit/value.digits", laid_kaudit_value_digits)], narrowed := true }
def ValueQuotesUptoSaid : Prop := valueQuotesUptoRow.holds Tryd.pinned (OpenSpec.upto valueQuotesSpec)

/-- 'kauditlaw02.ValueUnquotes', WHERE WHAT IT READS IS OF BULK AT MOST 1048576: true; the input reads as it did. -/
def valueUnquotesUptoRow : OpenClaim := { program := "ythidojkckhjciaadoor", sum := "994d721c3b6cae472ad4305887d7662aee3d5265c0270c5eac0e725ac90f52ca", func := "kaudit/kauditlaw02.ValueUnquotes", spec := "valueUnquotes", named := ["kaudit/value.digits"], apart := false, laid := [("kaudit/value.digits", laid_kaudit_value_digits)], narrowed := true }
def ValueUnquotesUptoSaid : Prop := valueUnquotesUptoRow.holds Tryd.pinned (OpenSpec.upto valueUnquotesSpec)

/-- 'kauditlaw02.ValueLimits', WHERE WHAT IT READS IS OF BULK AT MOST 1048576: true; the input reads as it did. -/
def valueLimitsUptoRow : OpenClaim := { program := "ythidojkckhjciaadoor", sum := "994d721c3b6cae472ad4305887d7662aee3d5265c0270c5eac0e725ac90f52ca", func := "kaudit/kauditlaw02.ValueLimits", spec := "valueLimits", named := ["kaudit/value.digits"], apart := false, laid := [("kaudit/value.digits", laid_kaudit_value_digits)], narrowed := true }
def ValueLimitsUptoSaid : Prop := valueLimitsUptoRow.holds Tryd.pinned (OpenSpec.upto valueLimitsSpec)

/-- 'kauditlaw02.ValuePairs', WHERE WHAT IT READS IS OF BULK AT MOST 1048576: true; the input reads as it did. -/
def valuePairsUptoRow : OpenClaim := { program := "ythidojkckhjciaadoor", sum := "994d721c3b6cae472ad4305887d7662aee3d5265c0270c5eac0e725ac90f52ca", func := "kaudit/kauditlaw02.ValuePairs", spec := "valuePairs", named := ["kaudit/value.digits", "internal/strconv.uint64pow10", "math/bits.deBruijn32tab", "math/bits.deBruijn64tab"], apart := false, laid := [("math/bits.deBruijn32tab", laid_math_bits_deBruijn32tab), ("math/bits.deBruijn64tab", laid_math_bits_deBruijn64tab), ("internal/strconv.uint64pow10", laid_internal_strconv_uint64pow10), ("kaudit/value.digits", laid_kaudit_value_digits)], narrowed := true }
def ValuePairsUptoSaid : Prop := valuePairsUptoRow.holds Tryd.pinned (OpenSpec.upto valuePairsSpec)

/-- 'kauditlaw02.ValueDiffer', WHERE WHAT IT READS IS OF BULK AT MOST 1048576: true; the input reads as it did. -/
def valueDifferUptoRow : OpenClaim := { program := "ythidojkckhjciaadoor", sum := "994d721c3b6cae472ad4305887d7662aee3d5265c0270c5eac0e725ac90f52ca", func := "kaudit/kauditlaw02.ValueDiffer", spec := "valueDiffer", named := ["internal/strconv.uint64pow10", "math/bits.deBruijn32tab", "math/bits.deBruijn64tab", "kaudit/value.digits"], apart := false, laid := [("math/bits.deBruijn32tab", laid_math_bits_deBruijn32tab), ("math/bits.deBruijn64tab", laid_math_bits_deBruijn64tab), ("internal/strconv.uint64pow10", laid_internal_strconv_uint64pow10), ("kaudit/value.digits", laid_kaudit_value_digits)], narrowed := true }
def ValueDifferUptoSaid : Prop := valueDifferUptoRow.holds Tryd.pinned (OpenSpec.upto valueDifferSpec)

/-- 'kauditlaw02.ValueParses', WHERE WHAT IT READS IS OF BULK AT MOST 1048576: true; the input reads as it did. -/
def valueParsesUptoRow : OpenClaim := { program := "ythidojkckhjciaadoor", sum := "994d721c3b6cae472ad4305887d7662aee3d5265c0270c5eac0e725ac90f52ca", func := "kaudit/kauditlaw02.ValueParses", spec := "valueParses", inPlace := ["internal/bytealg.IndexByteString", "internal/bytealg.IndexString"], named := ["kaudit/value.digits", "internal/bytealg.MaxLen", "strconv.ErrSyntax", "strconv.ErrRange", "internal/strconv.uint64pow10", "math/bits.deBruijn32tab", "math/bits.deBruijn64tab"], apart := false, laid := [("math/bits.deBruijn32tab", laid_math_bits_deBruijn32tab), ("math/bits.deBruijn64tab", laid_math_bits_deBruijn64tab), ("internal/strconv.uint64pow10", laid_internal_strconv_uint64pow10), ("strconv.ErrRange", laid_strconv_ErrRange), ("strconv.ErrSyntax", laid_strconv_ErrSyntax), ("kaudit/value.digits", laid_kaudit_value_digits)], narrowed := true }
def ValueParsesUptoSaid : Prop := valueParsesUptoRow.holds Tryd.pinned (OpenSpec.upto valueParsesSpec)

/-- 'kauditlaw02.ValueBuilt', WHERE WHAT IT READS IS OF BULK AT MOST 1048576: true; the input reads as it did. -/
def valueBuiltUptoRow : OpenClaim := { program := "ythidojkckhjciaadoor", sum := "994d721c3b6cae472ad4305887d7662aee3d5265c0270c5eac0e725ac90f52ca", func := "kaudit/kauditlaw02.ValueBuilt", spec := "valueBuilt", inPlace := ["internal/bytealg.IndexByteString", "internal/bytealg.IndexString"], named := ["internal/strconv.uint64pow10", "math/bits.deBruijn32tab", "math/bits.deBruijn64tab", "kaudit/value.digits", "internal/bytealg.MaxLen", "strconv.ErrSyntax", "strconv.ErrRange"], apart := false, laid := [("math/bits.deBruijn32tab", laid_math_bits_deBruijn32tab), ("math/bits.deBruijn64tab", laid_math_bits_deBruijn64tab), ("internal/strconv.uint64pow10", laid_internal_strconv_uint64pow10), ("strconv.ErrRange", laid_strconv_ErrRange), ("strconv.ErrSyntax", laid_strconv_ErrSyntax), ("kaudit/value.digits", laid_kaudit_value_digits)], narrowed := true }
def ValueBuiltUptoSaid : Prop := valueBuiltUptoRow.holds Tryd.pinned (OpenSpec.upto valueBuiltSpec)

/-- 'kauditlaw02.ValueBack', WHERE WHAT IT READS IS OF BULK AT MOST 1048576: true; the input reads as it did. -/
def valueBackUptoRow : OpenClaim := { program := "ythidojkckhjciaadoor", sum := "994d721c3b6cae472ad4305887d7662aee3d5265c0270c5eac0e725ac90f52ca", func := "kaudit/kauditlaw02.ValueBack", spec := "valueBack", inPlace := ["internal/bytealg.IndexByteString", "internal/bytealg.IndexString"], named := ["kaudit/value.digits", "internal/strconv.uint64pow10", "math/bits.deBruijn32tab", "math/bits.deBruijn64tab", "internal/bytealg.MaxLen", "strconv.ErrSyntax", "strconv.ErrRange"], apart := false, laid := [("math/bits.deBruijn32tab", laid_math_bits_deBruijn32tab), ("math/bits.deBruijn64tab", laid_math_bits_deBruijn64tab), ("internal/strconv.uint64pow10", laid_internal_strconv_uint64pow10), ("strconv.ErrRange", laid_strconv_ErrRange), ("strconv.ErrSyntax", laid_strconv_ErrSyntax), ("kaudit/value.digits", laid_kaudit_value_digits)], narrowed := true }
def ValueBackUptoSaid : Prop := valueBackUptoRow.holds Tryd.pinned (OpenSpec.upto valueBackSpec)

end Rows
end Go.Proofs.YthidojkckhjciaaDoor
