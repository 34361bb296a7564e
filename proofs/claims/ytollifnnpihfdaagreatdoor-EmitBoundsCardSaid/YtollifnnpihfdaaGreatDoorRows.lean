/-
  NARROWER THAN 'FOR EVERY INPUT', by the rows' own cells (each row's printed sentence says how): EmitEvents: laid · EmitContexts: laid · EmitTells: laid · EmitExcludes: laid · EmitBounds: laid · EmitWhere: laid · EmitSingles: laid.
  DERIVED. THE GIVEN ROWS OF THIS SEAT. 7 by the template 'for every input the law returns true; each argument reads behind the call as it read before'; 0 by the template 'total and deterministic' (their statements: YtollifnnpihfdaaGreatDoorTotals.lean).
  GIVEN WITH THE SEED: the statements are not yours to turn. If you find one false, say at which input.
  Laid BY PROGRAM, IN A SANDBOX (cutbox-rows.mjs): the forced cells as the released guide's own fill.sh prints them over the translation fc16008957a9a621… (all of the seat's roots in one cut). By AI agents, Wed Nov 11 2026. No macro, syntax, notation, axiom, sorry.
-/
import Derived.Test.YtollifnnpihfdaaGreatDoorChecked
import GoSem.PinnedTables
import GoSem.Claim
import GoSem.ClaimJoined
import GoSem.ClaimMapViews
import Derived.JoinedTies
import Derived.KernelRfl
namespace Go.Proofs.YtollifnnpihfdaaGreatDoor
/- THE CELL 'sum', in the pinned program and in every row, IS THE sha256 OF THE DUMP (.gsa) THAT YtollifnnpihfdaaGreatDoorProg.lean LOADS. Nothing in Lean hashes anything: it is a label: what it is worth is what the hold of that sum in a sandbox is worth. -/
noncomputable def Tryz.pinned : Pinned := { name := "ytollifnnpihfdaagreatdoor", sum := "fc16008957a9a621c305445a1d41fe3c5f87223dd39a4ae39ab07d6fd3f3cc49", checked := Tryz.checked }
namespace Rows
def none {H : Type} : Left H := { results := [], args := [] }

/- WHAT THE LISTED PACKAGE-LEVEL VARIABLES READ AS WHEN THE CALL BEGINS. Each datum BY PROGRAM (the guide's laid-datum.mjs) off the statement by which the dump's own 'gosem.cut.vars' lays the variable. In a bare row this is a premise. The card (YtollifnnpihfdaaGreatDoorCards.lean) ties it to the program's text. -/
def laid_math_bits_deBruijn32tab {H : Type} : DataW H := .agg [.lit (.int .u8 0), .lit (.int .u8 1), .lit (.int .u8 28), .lit (.int .u8 2), .lit (.int .u8 29), .lit (.int .u8 14), .lit (.int .u8 24), .lit (.int .u8 3), .lit (.int .u8 30), .lit (.int .u8 22), .lit (.int .u8 20), .lit (.int .u8 15), .lit (.int .u8 25), .lit (.int .u8 17), .lit (.int .u8 4), .lit (.int .u8 8), .lit (.int .u8 31), .lit (.int .u8 27), .lit (.int .u8 13), .lit (.int .u8 23), .lit (.int .u8 21), .lit (.int .u8 19), .lit (.int .u8 16), .lit (.int .u8 7), .lit (.int .u8 26), .lit (.int .u8 12), .lit (.int .u8 18), .lit (.int .u8 6), .lit (.int .u8 11), .lit (.int .u8 5), .lit (.int .u8 10), .lit (.int .u8 9)]
def laid_math_bits_deBruijn64tab {H : Type} : DataW H := .agg [.lit (.int .u8 0), .lit (.int .u8 1), .lit (.int .u8 56), .lit (.int .u8 2), .lit (.int .u8 57), .lit (.int .u8 49), .lit (.int .u8 28), .lit (.int .u8 3), .lit (.int .u8 61), .lit (.int .u8 58), .lit (.int .u8 42), .lit (.int .u8 50), .lit (.int .u8 38), .lit (.int .u8 29), .lit (.int .u8 17), .lit (.int .u8 4), .lit (.int .u8 62), .lit (.int .u8 47), .lit (.int .u8 59), .lit (.int .u8 36), .lit (.int .u8 45), .lit (.int .u8 43), .lit (.int .u8 51), .lit (.int .u8 22), .lit (.int .u8 53), .lit (.int .u8 39), .lit (.int .u8 33), .lit (.int .u8 30), .lit (.int .u8 24), .lit (.int .u8 18), .lit (.int .u8 12), .lit (.int .u8 5), .lit (.int .u8 63), .lit (.int .u8 55), .lit (.int .u8 48), .lit (.int .u8 27), .lit (.int .u8 60), .lit (.int .u8 41), .lit (.int .u8 37), .lit (.int .u8 16), .lit (.int .u8 46), .lit (.int .u8 35), .lit (.int .u8 44), .lit (.int .u8 21), .lit (.int .u8 52), .lit (.int .u8 32), .lit (.int .u8 23), .lit (.int .u8 11), .lit (.int .u8 54), .lit (.int .u8 26), .lit (.int .u8 40), .lit (.int .u8 15), .lit (.int .u8 34), .lit (.int .u8 20), .lit (.int .u8 31), .lit (.int .u8 10), .lit (.int .u8 25), .lit (.int .u8 14), .lit (.int .u8 19), .lit (.int .u8 9), .lit (.int .u8 13), .lit (.int .u8 8), .lit (.int .u8 7), .lit (.int .u8 6)]
def laid_internal_strconv_uint64pow10 {H : Type} : DataW H := .agg [.lit (.int .u64 1), .lit (.int .u64 10), .lit (.int .u64 100), .lit (.int .u64 1000), .lit (.int .u64 10000), .lit (.int .u64 100000), .lit (.int .u64 1000000), .lit (.int .u64 10000000), .lit (.int .u64 100000000), .lit (.int .u64 1000000000), .lit (.int .u64 10000000000), .lit (.int .u64 100000000000), .lit (.int .u64 1000000000000), .lit (.int .u64 10000000000000), .lit (.int .u64 100000000000000), .lit (.int .u64 1000000000000000), .lit (.int .u64 10000000000000000), .lit (.int .u64 100000000000000000), .lit (.int .u64 1000000000000000000), .lit (.int .u64 10000000000000000000)]
def laid_kaudit_call_calls {H : Type} : DataW H := .agg [.agg [.lit (.string [102, 111, 114, 107]), .lit (.int .u8 0), .lit (.int .u8 0), .lit (.int .u8 0), .lit (.int .u8 0)], .agg [.lit (.string [101, 120, 101, 99, 118, 101]), .lit (.int .u8 0), .lit (.int .u8 1), .lit (.int .u8 0), .lit (.int .u8 4)], .agg [.lit (.string [101, 120, 105, 116]), .lit (.int .u8 1), .lit (.int .u8 0), .lit (.int .u8 0), .lit (.int .u8 0)], .agg [.lit (.string [115, 101, 116, 117, 105, 100]), .lit (.int .u8 1), .lit (.int .u8 0), .lit (.int .u8 0), .lit (.int .u8 0)], .agg [.lit (.string [115, 101, 116, 103, 105, 100]), .lit (.int .u8 1), .lit (.int .u8 0), .lit (.int .u8 0), .lit (.int .u8 0)], .agg [.lit (.string [108, 111, 103, 105, 110]), .lit (.int .u8 1), .lit (.int .u8 0), .lit (.int .u8 0), .lit (.int .u8 0)], .agg [.lit (.string [111, 112, 101, 110]), .lit (.int .u8 2), .lit (.int .u8 1), .lit (.int .u8 0), .lit (.int .u8 0)], .agg [.lit (.string [99, 108, 111, 115, 101]), .lit (.int .u8 1), .lit (.int .u8 0), .lit (.int .u8 0), .lit (.int .u8 0)], .agg [.lit (.string [108, 105, 110, 107]), .lit (.int .u8 0), .lit (.int .u8 2), .lit (.int .u8 0), .lit (.int .u8 0)], .agg [.lit (.string [115, 121, 109, 108, 105, 110, 107]), .lit (.int .u8 0), .lit (.int .u8 1), .lit (.int .u8 1), .lit (.int .u8 1)], .agg [.lit (.string [117, 110, 108, 105, 110, 107]), .lit (.int .u8 0), .lit (.int .u8 1), .lit (.int .u8 0), .lit (.int .u8 0)], .agg [.lit (.string [109, 107, 100, 105, 114]), .lit (.int .u8 1), .lit (.int .u8 1), .lit (.int .u8 0), .lit (.int .u8 0)], .agg [.lit (.string [114, 109, 100, 105, 114]), .lit (.int .u8 0), .lit (.int .u8 1), .lit (.int .u8 0), .lit (.int .u8 0)], .agg [.lit (.string [114, 101, 110, 97, 109, 101]), .lit (.int .u8 0), .lit (.int .u8 2), .lit (.int .u8 0), .lit (.int .u8 0)], .agg [.lit (.string [99, 104, 109, 111, 100]), .lit (.int .u8 1), .lit (.int .u8 1), .lit (.int .u8 0), .lit (.int .u8 0)], .agg [.lit (.string [99, 104, 111, 119, 110]), .lit (.int .u8 2), .lit (.int .u8 1), .lit (.int .u8 0), .lit (.int .u8 0)], .agg [.lit (.string [99, 104, 100, 105, 114]), .lit (.int .u8 0), .lit (.int .u8 1), .lit (.int .u8 0), .lit (.int .u8 0)], .agg [.lit (.string [109, 111, 117, 110, 116]), .lit (.int .u8 1), .lit (.int .u8 1), .lit (.int .u8 0), .lit (.int .u8 0)], .agg [.lit (.string [117, 109, 111, 117, 110, 116]), .lit (.int .u8 1), .lit (.int .u8 0), .lit (.int .u8 0), .lit (.int .u8 0)], .agg [.lit (.string [99, 111, 110, 110, 101, 99, 116]), .lit (.int .u8 1), .lit (.int .u8 0), .lit (.int .u8 1), .lit (.int .u8 1)], .agg [.lit (.string [107, 105, 108, 108]), .lit (.int .u8 2), .lit (.int .u8 0), .lit (.int .u8 0), .lit (.int .u8 0)], .agg [.lit (.string [116, 114, 117, 110, 99, 97, 116, 101]), .lit (.int .u8 1), .lit (.int .u8 1), .lit (.int .u8 0), .lit (.int .u8 0)]]
def laid_unicode_utf8_acceptRanges {H : Type} : DataW H := .agg [.agg [.lit (.int .u8 128), .lit (.int .u8 191)], .agg [.lit (.int .u8 160), .lit (.int .u8 191)], .agg [.lit (.int .u8 128), .lit (.int .u8 159)], .agg [.lit (.int .u8 144), .lit (.int .u8 191)], .agg [.lit (.int .u8 128), .lit (.int .u8 143)], .agg [.lit (.int .u8 0), .lit (.int .u8 0)], .agg [.lit (.int .u8 0), .lit (.int .u8 0)], .agg [.lit (.int .u8 0), .lit (.int .u8 0)], .agg [.lit (.int .u8 0), .lit (.int .u8 0)], .agg [.lit (.int .u8 0), .lit (.int .u8 0)], .agg [.lit (.int .u8 0), .lit (.int .u8 0)], .agg [.lit (.int .u8 0), .lit (.int .u8 0)], .agg [.lit (.int .u8 0), .lit (.int .u8 0)], .agg [.lit (.int .u8 0), .lit (.int .u8 0)], .agg [.lit (.int .u8 0), .lit (.int .u8 0)], .agg [.lit (.int .u8 0), .lit (.int .u8 0)]]
def laid_kaudit_value_digits {H : Type} : DataW H := .agg [.lit (.int .u8 48), .lit (.int .u8 49), .lit (.int .u8 50), .lit (.int .u8 51), .lit (.int .u8 52), .lit (.int .u8 53), .lit (.int .u8 54), .lit (.int .u8 55), .lit (.int .u8 56), .lit (.int .u8 57), .lit (.int .u8 97), .lit (.int .u8 98), .lit (.int .u8 99), .lit (.int .u8 100), .lit (.int .u8 101), .lit (.int .u8 102)]
def laid_kaudit_field_names {H : Type} : DataW H := .agg [.lit (.string []), .lit (.string [112, 105, 100]), .lit (.string [112, 112, 105, 100]), .lit (.string [117, 105, 100]), .lit (.string [101, 117, 105, 100]), .lit (.string [103, 105, 100]), .lit (.string [101, 103, 105, 100]), .lit (.string [97, 117, 105, 100]), .lit (.string [115, 101, 115]), .lit (.string [97, 48]), .lit (.string [97, 49]), .lit (.string [97, 50]), .lit (.string [97, 51]), .lit (.string [101, 120, 101]), .lit (.string [99, 111, 109, 109]), .lit (.string [101, 120, 105, 116]), .lit (.string [115, 117, 99, 99, 101, 115, 115]), .lit (.string [105, 110, 111, 100, 101]), .lit (.string [100, 101, 118]), .lit (.string [111, 98, 106, 95, 117, 105, 100]), .lit (.string [111, 98, 106, 95, 103, 105, 100]), .lit (.string [107, 105, 110, 100]), .lit (.string [116, 121, 112, 101])]
def laid_kaudit_field_operators {H : Type} : DataW H := .agg [.lit (.string []), .lit (.string [61]), .lit (.string [33, 61]), .lit (.string [60]), .lit (.string [60, 61]), .lit (.string [62]), .lit (.string [62, 61]), .lit (.string [38]), .lit (.string [38, 61])]
def laid_kaudit_rule_lists {H : Type} : DataW H := .agg [.lit (.string []), .lit (.string [116, 97, 115, 107]), .lit (.string [101, 110, 116, 114, 121]), .lit (.string [101, 120, 105, 116]), .lit (.string [117, 115, 101, 114]), .lit (.string [101, 120, 99, 108, 117, 100, 101])]
def laid_kaudit_rule_actions {H : Type} : DataW H := .agg [.lit (.string []), .lit (.string [97, 108, 119, 97, 121, 115]), .lit (.string [110, 101, 118, 101, 114])]
def laid_kaudit_rule_permBits {H : Type} : DataW H := .agg [.lit (.int .i64 4), .lit (.int .i64 2), .lit (.int .i64 1), .lit (.int .i64 8)]
/-- One of Go's own tables, pinned by name: the form's constant. -/
def laid_unicode_utf8_first : DataW Unit := Go.Pinned.utf8First

/-- 'kauditlaw19.EmitEvents': WHATEVER THE INPUT: true; the input reads as it did. -/
def emitEventsSpec : ChangeSpec := { name := "emitEvents", fn := fun _ => fun
  | [d1, d2] => { results := [.lit (.bool true)], args := [d1, d2] }
  | _ => none }
def emitEventsRow : OpenClaim := { program := "ytollifnnpihfdaagreatdoor", sum := "fc16008957a9a621c305445a1d41fe3c5f87223dd39a4ae39ab07d6fd3f3cc49", func := "kaudit/kauditlaw19.EmitEvents", spec := "emitEvents", unfollowed := true, recurses := true, named := ["kaudit/call.calls", "internal/strconv.uint64pow10", "math/bits.deBruijn32tab", "math/bits.deBruijn64tab"], apart := false, laid := [("math/bits.deBruijn32tab", laid_math_bits_deBruijn32tab), ("math/bits.deBruijn64tab", laid_math_bits_deBruijn64tab), ("internal/strconv.uint64pow10", laid_internal_strconv_uint64pow10), ("kaudit/call.calls", laid_kaudit_call_calls)] }
def EmitEventsSaid : Prop := emitEventsRow.holds Tryz.pinned (OpenSpec.ofChange emitEventsSpec)

/-- ITS FALSE NEIGHBOUR: 'it returns false'. Refute it at one input. -/
def emitEventsWrong : ChangeSpec := { name := "emitEvents", fn := fun _ => fun
  | [d1, d2] => { results := [.lit (.bool false)], args := [d1, d2] }
  | _ => none }
def EmitEventsWrongFalsely : Prop := emitEventsRow.holds Tryz.pinned (OpenSpec.ofChange emitEventsWrong)

/-- 'kauditlaw19.EmitContexts': WHATEVER THE INPUT: true; the input reads as it did. -/
def emitContextsSpec : ChangeSpec := { name := "emitContexts", fn := fun _ => fun
  | [d1, d2, d3, d4] => { results := [.lit (.bool true)], args := [d1, d2, d3, d4] }
  | _ => none }
def emitContextsRow : OpenClaim := { program := "ytollifnnpihfdaagreatdoor", sum := "fc16008957a9a621c305445a1d41fe3c5f87223dd39a4ae39ab07d6fd3f3cc49", func := "kaudit/kauditlaw19.EmitContexts", spec := "emitContexts", unfollowed := true, recurses := true, named := ["kaudit/call.calls", "internal/strconv.uint64pow10", "math/bits.deBruijn32tab", "math/bits.deBruijn64tab"], apart := false, laid := [("math/bits.deBruijn32tab", laid_math_bits_deBruijn32tab), ("math/bits.deBruijn64tab", laid_math_bits_deBruijn64tab), ("internal/strconv.uint64pow10", laid_internal_strconv_uint64pow10), ("kaudit/call.calls", laid_kaudit_call_calls)] }
def EmitContextsSaid : Prop := emitContextsRow.holds Tryz.pinned (OpenSpec.ofChange emitContextsSpec)

/-- ITS FALSE NEIGHBOUR: 'it returns false'. Refute it at one input. -/
def emitContextsWrong : ChangeSpec := { name := "emitContexts", fn := fun _ => fun
  | [d1, d2, d3, d4] => { results := [.lit (.bool false)], args := [d1, d2, d3, d4] }
  | _ => none }
def EmitContextsWrongFalsely : Prop := emitContextsRow.holds Tryz.pinned (OpenSpec.ofChange emitContextsWrong)

/-- 'kauditlaw19.EmitTells': WHATEVER THE INPUT: true; the input reads as it did. -/
def emitTellsSpec : ChangeSpec := { name := "emitTells", fn := fun _ => fun
  | [d] => { results := [.lit (.bool true)], args := [d] }
  | _ => none }
def emitTellsRow : OpenClaim := { program := "ytollifnnpihfdaagreatdoor", sum := "fc16008957a9a621c305445a1d41fe3c5f87223dd39a4ae39ab07d6fd3f3cc49", func := "kaudit/kauditlaw19.EmitTells", spec := "emitTells", unfollowed := true, recurses := true, named := ["kaudit/call.calls", "internal/strconv.uint64pow10", "math/bits.deBruijn32tab", "math/bits.deBruijn64tab"], apart := false, laid := [("math/bits.deBruijn32tab", laid_math_bits_deBruijn32tab), ("math/bits.deBruijn64tab", laid_math_bits_deBruijn64tab), ("internal/strconv.uint64pow10", laid_internal_strconv_uint64pow10), ("kaudit/call.calls", laid_kaudit_call_calls)] }
def EmitTellsSaid : Prop := emitTellsRow.holds Tryz.pinned (OpenSpec.ofChange emitTellsSpec)

/-- ITS FALSE NEIGHBOUR: 'it returns false'. Refute it at one input. -/
def emitTellsWrong : ChangeSpec := { name := "emitTells", fn := fun _ => fun
  | [d] => { results := [.lit (.bool false)], args := [d] }
  | _ => none }
def EmitTellsWrongFalsely : Prop := emitTellsRow.holds Tryz.pinned (OpenSpec.ofChange emitTellsWrong)

/-- 'kauditlaw19.EmitExcludes': WHATEVER THE INPUT: true; the input reads as it did. -/
def emitExcludesSpec : ChangeSpec := { name := "emitExcludes", fn := fun _ => fun
  | [d1, d2] => { results := [.lit (.bool true)], args := [d1, d2] }
  | _ => none }
def emitExcludesRow : OpenClaim := { program := "ytollifnnpihfdaagreatdoor", sum := "fc16008957a9a621c305445a1d41fe3c5f87223dd39a4ae39ab07d6fd3f3cc49", func := "kaudit/kauditlaw19.EmitExcludes", spec := "emitExcludes", unfollowed := true, recurses := true, named := ["kaudit/call.calls", "internal/strconv.uint64pow10", "math/bits.deBruijn32tab", "math/bits.deBruijn64tab"], apart := false, laid := [("math/bits.deBruijn32tab", laid_math_bits_deBruijn32tab), ("math/bits.deBruijn64tab", laid_math_bits_deBruijn64tab), ("internal/strconv.uint64pow10", laid_internal_strconv_uint64pow10), ("kaudit/call.calls", laid_kaudit_call_calls)] }
def EmitExcludesSaid : Prop := emitExcludesRow.holds Tryz.pinned (OpenSpec.ofChange emitExcludesSpec)

/-- ITS FALSE NEIGHBOUR: 'it returns false'. Refute it at one input. -/
def emitExcludesWrong : ChangeSpec := { name := "emitExcludes", fn := fun _ => fun
  | [d1, d2] => { results := [.lit (.bool false)], args := [d1, d2] }
  | _ => none }
def EmitExcludesWrongFalsely : Prop := emitExcludesRow.holds Tryz.pinned (OpenSpec.ofChange emitExcludesWrong)

/-- 'kauditlaw19.EmitBounds': WHATEVER THE INPUT: true; the input reads as it did. -/
def emitBoundsSpec : ChangeSpec := { name := "emitBounds", fn := fun _ => fun
  | [d] => { results := [.lit (.bool true)], args := [d] }
  | _ => none }
def emitBoundsRow : OpenClaim := { program := "ytollifnnpihfdaagreatdoor", sum := "fc16008957a9a621c305445a1d41fe3c5f87223dd39a4ae39ab07d6fd3f3cc49", func := "kaudit/kauditlaw19.EmitBounds", spec := "emitBounds", unfollowed := true, recurses := true, named := ["kaudit/call.calls", "internal/strconv.uint64pow10", "math/bits.deBruijn32tab", "math/bits.deBruijn64tab"], apart := false, laid := [("math/bits.deBruijn32tab", laid_math_bits_deBruijn32tab), ("math/bits.deBruijn64tab", laid_math_bits_deBruijn64tab), ("internal/strconv.uint64pow10", laid_internal_strconv_uint64pow10), ("kaudit/call.calls", laid_kaudit_call_calls)] }
def EmitBoundsSaid : Prop := emitBoundsRow.holds Tryz.pinned (OpenSpec.ofChange emitBoundsSpec)

/-- ITS FALSE NEIGHBOUR: 'it returns false'. Refute it at one input. -/
def emitBoundsWrong : ChangeSpec := { name := "emitBounds", fn := fun _ => fun
  | [d] => { results := [.lit (.bool false)], args := [d] }
  | _ => none }
def EmitBoundsWrongFalsely : Prop := emitBoundsRow.holds Tryz.pinned (OpenSpec.ofChange emitBoundsWrong)

/-- 'kauditlaw19.EmitWhere': WHATEVER THE INPUT: true; the input reads as it did. -/
def emitWhereSpec : ChangeSpec := { name := "emitWhere", fn := fun _ => fun
  | [d] => { results := [.lit (.bool true)], args := [d] }
  | _ => none }
def emitWhereRow : OpenClaim := { program := "ytollifnnpihfdaagreatdoor", sum := "fc16008957a9a621c305445a1d41fe3c5f87223dd39a4ae39ab07d6fd3f3cc49", func := "kaudit/kauditlaw19.EmitWhere", spec := "emitWhere", inPlace := ["internal/bytealg.IndexByteString", "internal/bytealg.IndexString", "internal/abi.NoEscape", "internal/bytealg.MakeNoZero"], unfollowed := true, recurses := true, named := ["kaudit/call.calls", "internal/strconv.uint64pow10", "math/bits.deBruijn32tab", "math/bits.deBruijn64tab", "kaudit/rule.actions", "kaudit/rule.lists", "unicode/utf8.first", "unicode/utf8.acceptRanges", "internal/bytealg.MaxLen", "kaudit/field.names", "kaudit/field.operators", "kaudit/value.digits", "kaudit/rule.permBits"], apart := false, laid := [("math/bits.deBruijn32tab", laid_math_bits_deBruijn32tab), ("math/bits.deBruijn64tab", laid_math_bits_deBruijn64tab), ("internal/strconv.uint64pow10", laid_internal_strconv_uint64pow10), ("unicode/utf8.acceptRanges", laid_unicode_utf8_acceptRanges), ("kaudit/value.digits", laid_kaudit_value_digits), ("kaudit/call.calls", laid_kaudit_call_calls), ("kaudit/field.names", laid_kaudit_field_names), ("kaudit/field.operators", laid_kaudit_field_operators), ("kaudit/rule.lists", laid_kaudit_rule_lists), ("kaudit/rule.actions", laid_kaudit_rule_actions), ("kaudit/rule.permBits", laid_kaudit_rule_permBits), ("unicode/utf8.first", laid_unicode_utf8_first)] }
def EmitWhereSaid : Prop := emitWhereRow.holds Tryz.pinned (OpenSpec.ofChange emitWhereSpec)

/-- ITS FALSE NEIGHBOUR: 'it returns false'. Refute it at one input. -/
def emitWhereWrong : ChangeSpec := { name := "emitWhere", fn := fun _ => fun
  | [d] => { results := [.lit (.bool false)], args := [d] }
  | _ => none }
def EmitWhereWrongFalsely : Prop := emitWhereRow.holds Tryz.pinned (OpenSpec.ofChange emitWhereWrong)

/-- 'kauditlaw19.EmitSingles': WHATEVER THE INPUT: true; the input reads as it did. -/
def emitSinglesSpec : ChangeSpec := { name := "emitSingles", fn := fun _ => fun
  | [d1, d2, d3, d4, d5, d6, d7, d8, d9, d10] => { results := [.lit (.bool true)], args := [d1, d2, d3, d4, d5, d6, d7, d8, d9, d10] }
  | _ => none }
def emitSinglesRow : OpenClaim := { program := "ytollifnnpihfdaagreatdoor", sum := "fc16008957a9a621c305445a1d41fe3c5f87223dd39a4ae39ab07d6fd3f3cc49", func := "kaudit/kauditlaw19.EmitSingles", spec := "emitSingles", inPlace := ["internal/bytealg.IndexByteString", "internal/bytealg.IndexString", "internal/abi.NoEscape", "internal/bytealg.MakeNoZero"], unfollowed := true, recurses := true, named := ["kaudit/call.calls", "internal/strconv.uint64pow10", "math/bits.deBruijn32tab", "math/bits.deBruijn64tab", "kaudit/rule.actions", "kaudit/rule.lists", "unicode/utf8.first", "unicode/utf8.acceptRanges", "internal/bytealg.MaxLen", "kaudit/field.names", "kaudit/field.operators", "kaudit/value.digits", "kaudit/rule.permBits"], apart := false, laid := [("math/bits.deBruijn32tab", laid_math_bits_deBruijn32tab), ("math/bits.deBruijn64tab", laid_math_bits_deBruijn64tab), ("internal/strconv.uint64pow10", laid_internal_strconv_uint64pow10), ("unicode/utf8.acceptRanges", laid_unicode_utf8_acceptRanges), ("kaudit/value.digits", laid_kaudit_value_digits), ("kaudit/call.calls", laid_kaudit_call_calls), ("kaudit/field.names", laid_kaudit_field_names), ("kaudit/field.operators", laid_kaudit_field_operators), ("kaudit/rule.lists", laid_kaudit_rule_lists), ("kaudit/rule.actions", laid_kaudit_rule_actions), ("kaudit/rule.permBits", laid_kaudit_rule_permBits), ("unicode/utf8.first", laid_unicode_utf8_first)] }
def EmitSinglesSaid : Prop := emitSinglesRow.holds Tryz.pinned (OpenSpec.ofChange emitSinglesSpec)

/-- ITS FALSE NEIGHBOUR: 'it returns false'. Refute it at one input. -/
def emitSinglesWrong : ChangeSpec := { name := "emitSingles", fn := fun _ => fun
  | [d1, d2, d3, d4, d5, d6, d7, d8, d9, d10] => { results := [.lit (.bool false)], args := [d1, d2, d3, d4, d5, d6, d7, d8, d9, d10] }
  | _ => none }
def EmitSinglesWrongFalsely : Prop := emitSinglesRow.holds Tryz.pinned (OpenSpec.ofChange emitSinglesWrong)

/- THE SECOND FORM. 'bulk': how many values and letters a reading holds, each counted each time it is reached (what is shared counts as often as it is met; a slice's spare places count too). A statement '..UptoSaid' is the law's where the arguments, and the package variables that the reading takes, are together of bulk at most 1048576: NARROWER than '..Said'. Prove '..Said' where nothing that the law and all that it calls make is longer than what came in: it says more and counts as full. Else prove '..UptoSaid'. A law counts once. -/
mutual
def uptoBulk {H : Type} : DataW H → Nat
  | .lit (.string bytes) => bytes.length + 1
  | .lit _ => 1
  | .nil => 1
  | .ptr d => uptoBulk d + 1
  | .slice elems spare => uptoBulkAll elems + uptoBulkAll spare + 1
  | .agg parts => uptoBulkAll parts + 1
  | .iface _ d => uptoBulk d + 1
  | .map entries => uptoBulkEntries entries + 1
  | .held _ => 1
def uptoBulkAll {H : Type} : List (DataW H) → Nat
  | [] => 0
  | d :: r => uptoBulk d + uptoBulkAll r
def uptoBulkEntries {H : Type} : List (Lit × DataW H) → Nat
  | [] => 0
  | x :: r => uptoBulkEntry x + uptoBulkEntries r
def uptoBulkEntry {H : Type} : Lit × DataW H → Nat
  | (.string bytes, d) => bytes.length + uptoBulk d + 1
  | (_, d) => uptoBulk d + 1
 end
def uptoSmall : (H : Type) → List (DataW H) → Bool := fun _ ds => decide (uptoBulkAll ds ≤ 1048576)
def OpenSpec.upto (s : _root_.Go.ChangeSpec) : _root_.Go.OpenSpec := { _root_.Go.OpenSpec.ofChange s with cond := some uptoSmall }

/-- 'kauditlaw19.EmitEvents', WHERE WHAT IT READS IS OF BULK AT MOST 1048576: true; the input reads as it did. -/
def emitEventsUptoRow : OpenClaim := { program := "ytollifnnpihfdaagreatdoor", sum := "fc16008957a9a621c305445a1d41fe3c5f87223dd39a4ae39ab07d6fd3f3cc49", func := "kaudit/kauditlaw19.EmitEvents", spec := "emitEvents", unfollowed := true, recurses := true, named := ["kaudit/call.calls", "internal/strconv.uint64pow10", "math/bits.deBruijn32tab", "math/bits.deBruijn64tab"], apart := false, laid := [("math/bits.deBruijn32tab", laid_math_bits_deBruijn32tab), ("math/bits.deBruijn64tab", laid_math_bits_deBruijn64tab), ("internal/strconv.uint64pow10", laid_internal_strconv_uint64pow10), ("kaudit/call.calls", laid_kaudit_call_calls)], narrowed := true }
def EmitEventsUptoSaid : Prop := emitEventsUptoRow.holds Tryz.pinned (OpenSpec.upto emitEventsSpec)

/-- 'kauditlaw19.EmitContexts', WHERE WHAT IT READS IS OF BULK AT MOST 1048576: true; the input reads as it did. -/
def emitContextsUptoRow : OpenClaim := { program := "ytollifnnpihfdaagreatdoor", sum := "fc16008957a9a621c305445a1d41fe3c5f87223dd39a4ae39ab07d6fd3f3cc49", func := "kaudit/kauditlaw19.EmitContexts", spec := "emitContexts", unfollowed := true, recurses := true, named := ["kaudit/call.calls", "internal/strconv.uint64pow10", "math/bits.deBruijn32tab", "math/bits.deBruijn64tab"], apart := false, laid := [("math/bits.deBruijn32tab", laid_math_bits_deBruijn32tab), ("math/bits.deBruijn64tab", laid_math_bits_deBruijn64tab), ("internal/strconv.uint64pow10", laid_internal_strconv_uint64pow10), ("kaudit/call.calls", laid_kaudit_call_calls)], narrowed := true }
def EmitContextsUptoSaid : Prop := emitContextsUptoRow.holds Tryz.pinned (OpenSpec.upto emitContextsSpec)

/-- 'kauditlaw19.EmitTells', WHERE WHAT IT READS IS OF BULK AT MOST 1048576: true; the input reads as it did. -/
def emitTellsUptoRow : OpenClaim := { program := "ytollifnnpihfdaagreatdoor", sum := "fc16008957a9a621c305445a1d41fe3c5f87223dd39a4ae39ab07d6fd3f3cc49", func := "kaudit/kauditlaw19.EmitTells", spec := "emitTells", unfollowed := true, recurses := true, named := ["kaudit/call.calls", "internal/strconv.uint64pow10", "math/bits.deBruijn32tab", "math/bits.deBruijn64tab"], apart := false, laid := [("math/bits.deBruijn32tab", laid_math_bits_deBruijn32tab), ("math/bits.deBruijn64tab", laid_math_bits_deBruijn64tab), ("internal/strconv.uint64pow10", laid_internal_strconv_uint64pow10), ("kaudit/call.calls", laid_kaudit_call_calls)], narrowed := true }
def EmitTellsUptoSaid : Prop := emitTellsUptoRow.holds Tryz.pinned (OpenSpec.upto emitTellsSpec)

/-- 'kauditlaw19.EmitExcludes', WHERE WHAT IT READS IS OF BULK AT MOST 1048576: true; the input reads as it did. -/
def emitExcludesUptoRow : OpenClaim := { program := "ytollifnnpihfdaagreatdoor", sum := "fc16008957a9a621c305445a1d41fe3c5f87223dd39a4ae39ab07d6fd3f3cc49", func := "kaudit/kauditlaw19.EmitExcludes", spec := "emitExcludes", unfollowed := true, recurses := true, named := ["kaudit/call.calls", "internal/strconv.uint64pow10", "math/bits.deBruijn32tab", "math/bits.deBruijn64tab"], apart := false, laid := [("math/bits.deBruijn32tab", laid_math_bits_deBruijn32tab), ("math/bits.deBruijn64tab", laid_math_bits_deBruijn64tab), ("internal/strconv.uint64pow10", laid_internal_strconv_uint64pow10), ("kaudit/call.calls", laid_kaudit_call_calls)], narrowed := true }
def EmitExcludesUptoSaid : Prop := emitExcludesUptoRow.holds Tryz.pinned (OpenSpec.upto emitExcludesSpec)

/-- 'kauditlaw19.EmitBounds', WHERE WHAT IT READS IS OF BULK AT MOST 1048576: true; the input reads as it did. -/
def emitBoundsUptoRow : OpenClaim := { program := "ytollifnnpihfdaagreatdoor", sum := "fc16008957a9a621c305445a1d41fe3c5f87223dd39a4ae39ab07d6fd3f3cc49", func := "kaudit/kauditlaw19.EmitBounds", spec := "emitBounds", unfollowed := true, recurses := true, named := ["kaudit/call.calls", "internal/strconv.uint64pow10", "math/bits.deBruijn32tab", "math/bits.deBruijn64tab"], apart := false, laid := [("math/bits.deBruijn32tab", laid_math_bits_deBruijn32tab), ("math/bits.deBruijn64tab", laid_math_bits_deBruijn64tab), ("internal/strconv.uint64pow10", laid_internal_strconv_uint64pow10), ("kaudit/call.calls", laid_kaudit_call_calls)], narrowed := true }
def EmitBoundsUptoSaid : Prop := emitBoundsUptoRow.holds Tryz.pinned (OpenSpec.upto emitBoundsSpec)

/-- 'kauditlaw19.EmitWhere', WHERE WHAT IT READS IS OF BULK AT MOST 1048576: true; the input reads as it did. -/
def emitWhereUptoRow : OpenClaim := { program := "ytollifnnpihfdaagreatdoor", sum := "fc16008957a9a621c305445a1d41fe3c5f87223dd39a4ae39ab07d6fd3f3cc49", func := "kaudit/kauditlaw19.EmitWhere", spec := "emitWhere", inPlace := ["internal/bytealg.IndexByteString", "internal/bytealg.IndexString", "internal/abi.NoEscape", "internal/bytealg.MakeNoZero"], unfollowed := true, recurses := true, named := ["kaudit/call.calls", "internal/strconv.uint64pow10", "math/bits.deBruijn32tab", "math/bits.deBruijn64tab", "kaudit/rule.actions", "kaudit/rule.lists", "unicode/utf8.first", "unicode/utf8.acceptRanges", "internal/bytealg.MaxLen", "kaudit/field.names", "kaudit/field.operators", "kaudit/value.digits", "kaudit/rule.permBits"], apart := false, laid := [("math/bits.deBruijn32tab", laid_math_bits_deBruijn32tab), ("math/bits.deBruijn64tab", laid_math_bits_deBruijn64tab), ("internal/strconv.uint64pow10", laid_internal_strconv_uint64pow10), ("unicode/utf8.acceptRanges", laid_unicode_utf8_acceptRanges), ("kaudit/value.digits", laid_kaudit_value_digits), ("kaudit/call.calls", laid_kaudit_call_calls), ("kaudit/field.names", laid_kaudit_field_names), ("kaudit/field.operators", laid_kaudit_field_operators), ("kaudit/rule.lists", laid_kaudit_rule_lists), ("kaudit/rule.actions", laid_kaudit_rule_actions), ("kaudit/rule.permBits", laid_kaudit_rule_permBits), ("unicode/utf8.first", laid_unicode_utf8_first)], narrowed := true }
def EmitWhereUptoSaid : Prop := emitWhereUptoRow.holds Tryz.pinned (OpenSpec.upto emitWhereSpec)

/-- 'kauditlaw19.EmitSingles', WHERE WHAT IT READS IS OF BULK AT MOST 1048576: true; the input reads as it did. -/
def emitSinglesUptoRow : OpenClaim := { program := "ytollifnnpihfdaagreatdoor", sum := "fc16008957a9a621c305445a1d41fe3c5f87223dd39a4ae39ab07d6fd3f3cc49", func := "kaudit/kauditlaw19.EmitSingles", spec := "emitSingles", inPlace := ["internal/bytealg.IndexByteString", "internal/bytealg.IndexString", "internal/abi.NoEscape", "internal/bytealg.MakeNoZero"], unfollowed := true, recurses := true, named := ["kaudit/call.calls", "internal/strconv.uint64pow10", "math/bits.deBruijn32tab", "math/bits.deBruijn64tab", "kaudit/rule.actions", "kaudit/rule.lists", "unicode/utf8.first", "unicode/utf8.acceptRanges", "internal/bytealg.MaxLen", "kaudit/field.names", "kaudit/field.operators", "kaudit/value.digits", "kaudit/rule.permBits"], apart := false, laid := [("math/bits.deBruijn32tab", laid_math_bits_deBruijn32tab), ("math/bits.deBruijn64tab", laid_math_bits_deBruijn64tab), ("internal/strconv.uint64pow10", laid_internal_strconv_uint64pow10), ("unicode/utf8.acceptRanges", laid_unicode_utf8_acceptRanges), ("kaudit/value.digits", laid_kaudit_value_digits), ("kaudit/call.calls", laid_kaudit_call_calls), ("kaudit/field.names", laid_kaudit_field_names), ("kaudit/field.operators", laid_kaudit_field_operators), ("kaudit/rule.lists", laid_kaudit_rule_lists), ("kaudit/rule.actions", laid_kaudit_rule_actions), ("kaudit/rule.permBits", laid_kaudit_rule_permBits), ("unicode/utf8.first", laid_unicode_utf8_first)], narrowed := true }
def EmitSinglesUptoSaid : Prop := emitSinglesUptoRow.holds Tryz.pinned (OpenSpec.upto emitSinglesSpec)

end Rows
end Go.Proofs.YtollifnnpihfdaaGreatDoor
