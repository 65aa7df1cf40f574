/-
  NARROWER THAN 'FOR EVERY INPUT', by the rows' own cells (each row's printed sentence says how): AsmParses: laid · AsmNames: laid · AsmBuilds: laid · AsmAdds: laid · AsmPrints: laid · AsmBack: laid · AsmJoins: laid.
  DERIVED. THE GIVEN ROWS OF THIS SEAT. 7 by the template 'for every input the law returns true; each argument reads behind the call as it read before'; 0 by the template 'total and deterministic' (their statements: YtlopmejmionnpaaDoorTotals.lean).
  GIVEN WITH THE SEED: the statements are not yours to turn. If you find one false, say at which input.
  Laid BY PROGRAM, IN A SANDBOX (cutbox-rows.mjs): the forced cells as the released guide's own fill.sh prints them over the translation 4df469da2fe1c44a… (all of the seat's roots in one cut). By AI agents, Wed Nov 11 2026. No macro, syntax, notation, axiom, sorry.
-/
import Derived.Test.YtlopmejmionnpaaDoorChecked
import GoSem.PinnedTables
import GoSem.Claim
import GoSem.ClaimJoined
import GoSem.ClaimMapViews
import Derived.JoinedTies
import Derived.KernelRfl
namespace Go.Proofs.YtlopmejmionnpaaDoor
/- THE CELL 'sum', in the pinned program and in every row, IS THE sha256 OF THE DUMP (.gsa) THAT YtlopmejmionnpaaDoorProg.lean LOADS. Nothing in Lean hashes anything: it is a label: what it is worth is what the hold of that sum in a sandbox is worth. -/
noncomputable def Tryd.pinned : Pinned := { name := "ytlopmejmionnpaadoor", sum := "4df469da2fe1c44a147f8014eda1359f795b25b7e2a714cd5f8d2a72e21b0e8c", checked := Tryd.checked }
namespace Rows
def none {H : Type} : Left H := { results := [], args := [] }

/- WHAT THE LISTED PACKAGE-LEVEL VARIABLES READ AS WHEN THE CALL BEGINS. Each datum BY PROGRAM (the guide's laid-datum.mjs) off the statement by which the dump's own 'gosem.cut.vars' lays the variable. In a bare row this is a premise. The card (YtlopmejmionnpaaDoorCards.lean) ties it to the program's text. -/
def laid_deadlatch_isa_uses {H : Type} : DataW H := .agg [.lit (.int .i64 0), .lit (.int .i64 17), .lit (.int .i64 3), .lit (.int .i64 7), .lit (.int .i64 7), .lit (.int .i64 7), .lit (.int .i64 7), .lit (.int .i64 7), .lit (.int .i64 7), .lit (.int .i64 7), .lit (.int .i64 7), .lit (.int .i64 7), .lit (.int .i64 7), .lit (.int .i64 32), .lit (.int .i64 33), .lit (.int .i64 33), .lit (.int .i64 25), .lit (.int .i64 25), .lit (.int .i64 0), .lit (.int .i64 25), .lit (.int .i64 25), .lit (.int .i64 29), .lit (.int .i64 1), .lit (.int .i64 25), .lit (.int .i64 25), .lit (.int .i64 0), .lit (.int .i64 0), .lit (.int .i64 17)]
def laid_deadlatch_isa_names {H : Type} : DataW H := .agg [.lit (.string [104, 97, 108, 116]), .lit (.string [115, 101, 116]), .lit (.string [109, 111, 118, 101]), .lit (.string [97, 100, 100]), .lit (.string [115, 117, 98]), .lit (.string [109, 117, 108]), .lit (.string [97, 110, 100]), .lit (.string [111, 114]), .lit (.string [120, 111, 114]), .lit (.string [115, 104, 108]), .lit (.string [115, 104, 114]), .lit (.string [108, 101, 115, 115]), .lit (.string [115, 97, 109, 101]), .lit (.string [106, 117, 109, 112]), .lit (.string [122, 101, 114, 111]), .lit (.string [115, 111, 109, 101]), .lit (.string [108, 111, 97, 100]), .lit (.string [115, 116, 111, 114, 101]), .lit (.string [102, 101, 110, 99, 101]), .lit (.string [115, 119, 97, 112]), .lit (.string [102, 101, 116, 99, 104]), .lit (.string [99, 97, 115]), .lit (.string [111, 117, 116]), .lit (.string [119, 97, 105, 116]), .lit (.string [119, 97, 107, 101]), .lit (.string [114, 101, 109, 111, 116, 101]), .lit (.string [121, 105, 101, 108, 100]), .lit (.string [109, 97, 114, 107])]
def laid_math_bits_deBruijn32tab {H : Type} : DataW H := .agg [.lit (.int .u8 0), .lit (.int .u8 1), .lit (.int .u8 28), .lit (.int .u8 2), .lit (.int .u8 29), .lit (.int .u8 14), .lit (.int .u8 24), .lit (.int .u8 3), .lit (.int .u8 30), .lit (.int .u8 22), .lit (.int .u8 20), .lit (.int .u8 15), .lit (.int .u8 25), .lit (.int .u8 17), .lit (.int .u8 4), .lit (.int .u8 8), .lit (.int .u8 31), .lit (.int .u8 27), .lit (.int .u8 13), .lit (.int .u8 23), .lit (.int .u8 21), .lit (.int .u8 19), .lit (.int .u8 16), .lit (.int .u8 7), .lit (.int .u8 26), .lit (.int .u8 12), .lit (.int .u8 18), .lit (.int .u8 6), .lit (.int .u8 11), .lit (.int .u8 5), .lit (.int .u8 10), .lit (.int .u8 9)]
def laid_math_bits_deBruijn64tab {H : Type} : DataW H := .agg [.lit (.int .u8 0), .lit (.int .u8 1), .lit (.int .u8 56), .lit (.int .u8 2), .lit (.int .u8 57), .lit (.int .u8 49), .lit (.int .u8 28), .lit (.int .u8 3), .lit (.int .u8 61), .lit (.int .u8 58), .lit (.int .u8 42), .lit (.int .u8 50), .lit (.int .u8 38), .lit (.int .u8 29), .lit (.int .u8 17), .lit (.int .u8 4), .lit (.int .u8 62), .lit (.int .u8 47), .lit (.int .u8 59), .lit (.int .u8 36), .lit (.int .u8 45), .lit (.int .u8 43), .lit (.int .u8 51), .lit (.int .u8 22), .lit (.int .u8 53), .lit (.int .u8 39), .lit (.int .u8 33), .lit (.int .u8 30), .lit (.int .u8 24), .lit (.int .u8 18), .lit (.int .u8 12), .lit (.int .u8 5), .lit (.int .u8 63), .lit (.int .u8 55), .lit (.int .u8 48), .lit (.int .u8 27), .lit (.int .u8 60), .lit (.int .u8 41), .lit (.int .u8 37), .lit (.int .u8 16), .lit (.int .u8 46), .lit (.int .u8 35), .lit (.int .u8 44), .lit (.int .u8 21), .lit (.int .u8 52), .lit (.int .u8 32), .lit (.int .u8 23), .lit (.int .u8 11), .lit (.int .u8 54), .lit (.int .u8 26), .lit (.int .u8 40), .lit (.int .u8 15), .lit (.int .u8 34), .lit (.int .u8 20), .lit (.int .u8 31), .lit (.int .u8 10), .lit (.int .u8 25), .lit (.int .u8 14), .lit (.int .u8 19), .lit (.int .u8 9), .lit (.int .u8 13), .lit (.int .u8 8), .lit (.int .u8 7), .lit (.int .u8 6)]
def laid_internal_strconv_uint64pow10 {H : Type} : DataW H := .agg [.lit (.int .u64 1), .lit (.int .u64 10), .lit (.int .u64 100), .lit (.int .u64 1000), .lit (.int .u64 10000), .lit (.int .u64 100000), .lit (.int .u64 1000000), .lit (.int .u64 10000000), .lit (.int .u64 100000000), .lit (.int .u64 1000000000), .lit (.int .u64 10000000000), .lit (.int .u64 100000000000), .lit (.int .u64 1000000000000), .lit (.int .u64 10000000000000), .lit (.int .u64 100000000000000), .lit (.int .u64 1000000000000000), .lit (.int .u64 10000000000000000), .lit (.int .u64 100000000000000000), .lit (.int .u64 1000000000000000000), .lit (.int .u64 10000000000000000000)]
def laid_unicode_utf8_acceptRanges {H : Type} : DataW H := .agg [.agg [.lit (.int .u8 128), .lit (.int .u8 191)], .agg [.lit (.int .u8 160), .lit (.int .u8 191)], .agg [.lit (.int .u8 128), .lit (.int .u8 159)], .agg [.lit (.int .u8 144), .lit (.int .u8 191)], .agg [.lit (.int .u8 128), .lit (.int .u8 143)], .agg [.lit (.int .u8 0), .lit (.int .u8 0)], .agg [.lit (.int .u8 0), .lit (.int .u8 0)], .agg [.lit (.int .u8 0), .lit (.int .u8 0)], .agg [.lit (.int .u8 0), .lit (.int .u8 0)], .agg [.lit (.int .u8 0), .lit (.int .u8 0)], .agg [.lit (.int .u8 0), .lit (.int .u8 0)], .agg [.lit (.int .u8 0), .lit (.int .u8 0)], .agg [.lit (.int .u8 0), .lit (.int .u8 0)], .agg [.lit (.int .u8 0), .lit (.int .u8 0)], .agg [.lit (.int .u8 0), .lit (.int .u8 0)], .agg [.lit (.int .u8 0), .lit (.int .u8 0)]]
def laid_strconv_ErrRange {H : Type} : DataW H := .iface "*errors.errorString" (.ptr (.agg [.lit (.string [118, 97, 108, 117, 101, 32, 111, 117, 116, 32, 111, 102, 32, 114, 97, 110, 103, 101])]))
def laid_strconv_ErrSyntax {H : Type} : DataW H := .iface "*errors.errorString" (.ptr (.agg [.lit (.string [105, 110, 118, 97, 108, 105, 100, 32, 115, 121, 110, 116, 97, 120])]))
/-- One of Go's own tables, pinned by name: the form's constant. -/
def laid_unicode_utf8_first : DataW Unit := Go.Pinned.utf8First

/-- 'deadlatchlaw04.AsmParses': WHATEVER THE INPUT: true; the input reads as it did. -/
def asmParsesSpec : ChangeSpec := { name := "asmParses", fn := fun _ => fun
  | [d] => { results := [.lit (.bool true)], args := [d] }
  | _ => none }
def asmParsesRow : OpenClaim := { program := "ytlopmejmionnpaadoor", sum := "4df469da2fe1c44a147f8014eda1359f795b25b7e2a714cd5f8d2a72e21b0e8c", func := "deadlatch/deadlatchlaw04.AsmParses", spec := "asmParses", inPlace := ["internal/bytealg.CountString", "internal/bytealg.IndexByteString", "internal/bytealg.IndexString"], unfollowed := true, recurses := true, named := ["unicode/utf8.first", "unicode/utf8.acceptRanges", "internal/bytealg.MaxLen", "deadlatch/isa.names", "strconv.ErrSyntax", "strconv.ErrRange", "internal/strconv.uint64pow10", "math/bits.deBruijn32tab", "math/bits.deBruijn64tab", "deadlatch/isa.uses"], apart := false, laid := [("deadlatch/isa.uses", laid_deadlatch_isa_uses), ("deadlatch/isa.names", laid_deadlatch_isa_names), ("math/bits.deBruijn32tab", laid_math_bits_deBruijn32tab), ("math/bits.deBruijn64tab", laid_math_bits_deBruijn64tab), ("internal/strconv.uint64pow10", laid_internal_strconv_uint64pow10), ("unicode/utf8.acceptRanges", laid_unicode_utf8_acceptRanges), ("strconv.ErrRange", laid_strconv_ErrRange), ("strconv.ErrSyntax", laid_strconv_ErrSyntax), ("unicode/utf8.first", laid_unicode_utf8_first)] }
def AsmParsesSaid : Prop := asmParsesRow.holds Tryd.pinned (OpenSpec.ofChange asmParsesSpec)

/-- ITS FALSE NEIGHBOUR: 'it returns false'. Refute it at one input. -/
def asmParsesWrong : ChangeSpec := { name := "asmParses", fn := fun _ => fun
  | [d] => { results := [.lit (.bool false)], args := [d] }
  | _ => none }
def AsmParsesWrongFalsely : Prop := asmParsesRow.holds Tryd.pinned (OpenSpec.ofChange asmParsesWrong)

/-- 'deadlatchlaw04.AsmNames': WHATEVER THE INPUT: true; the input reads as it did. -/
def asmNamesSpec : ChangeSpec := { name := "asmNames", fn := fun _ => fun
  | [d1, d2, d3] => { results := [.lit (.bool true)], args := [d1, d2, d3] }
  | _ => none }
def asmNamesRow : OpenClaim := { program := "ytlopmejmionnpaadoor", sum := "4df469da2fe1c44a147f8014eda1359f795b25b7e2a714cd5f8d2a72e21b0e8c", func := "deadlatch/deadlatchlaw04.AsmNames", spec := "asmNames", inPlace := ["internal/bytealg.CountString", "internal/bytealg.IndexByteString", "internal/bytealg.IndexString"], unfollowed := true, recurses := true, named := ["unicode/utf8.first", "unicode/utf8.acceptRanges", "internal/bytealg.MaxLen", "deadlatch/isa.names", "strconv.ErrSyntax", "strconv.ErrRange", "internal/strconv.uint64pow10", "math/bits.deBruijn32tab", "math/bits.deBruijn64tab", "deadlatch/isa.uses"], apart := false, laid := [("deadlatch/isa.uses", laid_deadlatch_isa_uses), ("deadlatch/isa.names", laid_deadlatch_isa_names), ("math/bits.deBruijn32tab", laid_math_bits_deBruijn32tab), ("math/bits.deBruijn64tab", laid_math_bits_deBruijn64tab), ("internal/strconv.uint64pow10", laid_internal_strconv_uint64pow10), ("unicode/utf8.acceptRanges", laid_unicode_utf8_acceptRanges), ("strconv.ErrRange", laid_strconv_ErrRange), ("strconv.ErrSyntax", laid_strconv_ErrSyntax), ("unicode/utf8.first", laid_unicode_utf8_first)] }
def AsmNamesSaid : Prop := asmNamesRow.holds Tryd.pinned (OpenSpec.ofChange asmNamesSpec)

/-- ITS FALSE NEIGHBOUR: 'it returns false'. Refute it at one input. -/
def asmNamesWrong : ChangeSpec := { name := "asmNames", fn := fun _ => fun
  | [d1, d2, d3] => { results := [.lit (.bool false)], args := [d1, d2, d3] }
  | _ => none }
def AsmNamesWrongFalsely : Prop := asmNamesRow.holds Tryd.pinned (OpenSpec.ofChange asmNamesWrong)

/-- 'deadlatchlaw04.AsmBuilds': WHATEVER THE INPUT: true; the input reads as it did. -/
def asmBuildsSpec : ChangeSpec := { name := "asmBuilds", fn := fun _ => fun
  | [d1, d2] => { results := [.lit (.bool true)], args := [d1, d2] }
  | _ => none }
def asmBuildsRow : OpenClaim := { program := "ytlopmejmionnpaadoor", sum := "4df469da2fe1c44a147f8014eda1359f795b25b7e2a714cd5f8d2a72e21b0e8c", func := "deadlatch/deadlatchlaw04.AsmBuilds", spec := "asmBuilds", inPlace := ["internal/bytealg.CountString", "internal/bytealg.IndexByteString", "internal/bytealg.IndexString"], unfollowed := true, recurses := true, named := ["unicode/utf8.first", "unicode/utf8.acceptRanges", "internal/bytealg.MaxLen", "deadlatch/isa.names", "strconv.ErrSyntax", "strconv.ErrRange", "internal/strconv.uint64pow10", "math/bits.deBruijn32tab", "math/bits.deBruijn64tab", "deadlatch/isa.uses"], apart := false, laid := [("deadlatch/isa.uses", laid_deadlatch_isa_uses), ("deadlatch/isa.names", laid_deadlatch_isa_names), ("math/bits.deBruijn32tab", laid_math_bits_deBruijn32tab), ("math/bits.deBruijn64tab", laid_math_bits_deBruijn64tab), ("internal/strconv.uint64pow10", laid_internal_strconv_uint64pow10), ("unicode/utf8.acceptRanges", laid_unicode_utf8_acceptRanges), ("strconv.ErrRange", laid_strconv_ErrRange), ("strconv.ErrSyntax", laid_strconv_ErrSyntax), ("unicode/utf8.first", laid_unicode_utf8_first)] }
def AsmBuildsSaid : Prop := asmBuildsRow.holds Tryd.pinned (OpenSpec.ofChange asmBuildsSpec)

/-- ITS FALSE NEIGHBOUR: 'it returns false'. Refute it at one input. -/
def asmBuildsWrong : ChangeSpec := { name := "asmBuilds", fn := fun _ => fun
  | [d1, d2] => { results := [.lit (.bool false)], args := [d1, d2] }
  | _ => none }
def AsmBuildsWrongFalsely : Prop := asmBuildsRow.holds Tryd.pinned (OpenSpec.ofChange asmBuildsWrong)

/-- 'deadlatchlaw04.AsmAdds': WHATEVER THE INPUT: true; the input reads as it did. -/
def asmAddsSpec : ChangeSpec := { name := "asmAdds", fn := fun _ => fun
  | [d1, d2, d3, d4, d5] => { results := [.lit (.bool true)], args := [d1, d2, d3, d4, d5] }
  | _ => none }
def asmAddsRow : OpenClaim := { program := "ytlopmejmionnpaadoor", sum := "4df469da2fe1c44a147f8014eda1359f795b25b7e2a714cd5f8d2a72e21b0e8c", func := "deadlatch/deadlatchlaw04.AsmAdds", spec := "asmAdds", inPlace := ["internal/bytealg.CountString", "internal/bytealg.IndexByteString", "internal/bytealg.IndexString"], unfollowed := true, recurses := true, named := ["unicode/utf8.first", "unicode/utf8.acceptRanges", "internal/bytealg.MaxLen", "deadlatch/isa.names", "strconv.ErrSyntax", "strconv.ErrRange", "internal/strconv.uint64pow10", "math/bits.deBruijn32tab", "math/bits.deBruijn64tab", "deadlatch/isa.uses"], apart := false, laid := [("deadlatch/isa.uses", laid_deadlatch_isa_uses), ("deadlatch/isa.names", laid_deadlatch_isa_names), ("math/bits.deBruijn32tab", laid_math_bits_deBruijn32tab), ("math/bits.deBruijn64tab", laid_math_bits_deBruijn64tab), ("internal/strconv.uint64pow10", laid_internal_strconv_uint64pow10), ("unicode/utf8.acceptRanges", laid_unicode_utf8_acceptRanges), ("strconv.ErrRange", laid_strconv_ErrRange), ("strconv.ErrSyntax", laid_strconv_ErrSyntax), ("unicode/utf8.first", laid_unicode_utf8_first)] }
def AsmAddsSaid : Prop := asmAddsRow.holds Tryd.pinned (OpenSpec.ofChange asmAddsSpec)

/-- ITS FALSE NEIGHBOUR: 'it returns false'. Refute it at one input. -/
def asmAddsWrong : ChangeSpec := { name := "asmAdds", fn := fun _ => fun
  | [d1, d2, d3, d4, d5] => { results := [.lit (.bool false)], args := [d1, d2, d3, d4, d5] }
  | _ => none }
def AsmAddsWrongFalsely : Prop := asmAddsRow.holds Tryd.pinned (OpenSpec.ofChange asmAddsWrong)

/-- 'deadlatchlaw04.AsmPrints': WHATEVER THE INPUT: true; the input reads as it did. -/
def asmPrintsSpec : ChangeSpec := { name := "asmPrints", fn := fun _ => fun
  | [d] => { results := [.lit (.bool true)], args := [d] }
  | _ => none }
def asmPrintsRow : OpenClaim := { program := "ytlopmejmionnpaadoor", sum := "4df469da2fe1c44a147f8014eda1359f795b25b7e2a714cd5f8d2a72e21b0e8c", func := "deadlatch/deadlatchlaw04.AsmPrints", spec := "asmPrints", inPlace := ["internal/bytealg.CountString", "internal/bytealg.IndexByteString", "internal/bytealg.IndexString", "internal/abi.NoEscape", "internal/bytealg.MakeNoZero"], unfollowed := true, recurses := true, named := ["unicode/utf8.first", "unicode/utf8.acceptRanges", "internal/bytealg.MaxLen", "deadlatch/isa.names", "strconv.ErrSyntax", "strconv.ErrRange", "internal/strconv.uint64pow10", "math/bits.deBruijn32tab", "math/bits.deBruijn64tab", "deadlatch/isa.uses"], apart := false, laid := [("deadlatch/isa.uses", laid_deadlatch_isa_uses), ("deadlatch/isa.names", laid_deadlatch_isa_names), ("math/bits.deBruijn32tab", laid_math_bits_deBruijn32tab), ("math/bits.deBruijn64tab", laid_math_bits_deBruijn64tab), ("internal/strconv.uint64pow10", laid_internal_strconv_uint64pow10), ("unicode/utf8.acceptRanges", laid_unicode_utf8_acceptRanges), ("strconv.ErrRange", laid_strconv_ErrRange), ("strconv.ErrSyntax", laid_strconv_ErrSyntax), ("unicode/utf8.first", laid_unicode_utf8_first)] }
def AsmPrintsSaid : Prop := asmPrintsRow.holds Tryd.pinned (OpenSpec.ofChange asmPrintsSpec)

/-- ITS FALSE NEIGHBOUR: 'it returns false'. Refute it at one input. -/
def asmPrintsWrong : ChangeSpec := { name := "asmPrints", fn := fun _ => fun
  | [d] => { results := [.lit (.bool false)], args := [d] }
  | _ => none }
def AsmPrintsWrongFalsely : Prop := asmPrintsRow.holds Tryd.pinned (OpenSpec.ofChange asmPrintsWrong)

/-- 'deadlatchlaw04.AsmBack': WHATEVER THE INPUT: true; the input reads as it did. -/
def asmBackSpec : ChangeSpec := { name := "asmBack", fn := fun _ => fun
  | [d] => { results := [.lit (.bool true)], args := [d] }
  | _ => none }
def asmBackRow : OpenClaim := { program := "ytlopmejmionnpaadoor", sum := "4df469da2fe1c44a147f8014eda1359f795b25b7e2a714cd5f8d2a72e21b0e8c", func := "deadlatch/deadlatchlaw04.AsmBack", spec := "asmBack", inPlace := ["internal/bytealg.CountString", "internal/bytealg.IndexByteString", "internal/bytealg.IndexString", "internal/abi.NoEscape", "internal/bytealg.MakeNoZero"], unfollowed := true, recurses := true, named := ["unicode/utf8.first", "unicode/utf8.acceptRanges", "internal/bytealg.MaxLen", "deadlatch/isa.names", "strconv.ErrSyntax", "strconv.ErrRange", "internal/strconv.uint64pow10", "math/bits.deBruijn32tab", "math/bits.deBruijn64tab", "deadlatch/isa.uses"], apart := false, laid := [("deadlatch/isa.uses", laid_deadlatch_isa_uses), ("deadlatch/isa.names", laid_deadlatch_isa_names), ("math/bits.deBruijn32tab", laid_math_bits_deBruijn32tab), ("math/bits.deBruijn64tab", laid_math_bits_deBruijn64tab), ("internal/strconv.uint64pow10", laid_internal_strconv_uint64pow10), ("unicode/utf8.acceptRanges", laid_unicode_utf8_acceptRanges), ("strconv.ErrRange", laid_strconv_ErrRange), ("strconv.ErrSyntax", laid_strconv_ErrSyntax), ("unicode/utf8.first", laid_unicode_utf8_first)] }
def AsmBackSaid : Prop := asmBackRow.holds Tryd.pinned (OpenSpec.ofChange asmBackSpec)

/-- ITS FALSE NEIGHBOUR: 'it returns false'. Refute it at one input. -/
def asmBackWrong : ChangeSpec := { name := "asmBack", fn := fun _ => fun
  | [d] => { results := [.lit (.bool false)], args := [d] }
  | _ => none }
def AsmBackWrongFalsely : Prop := asmBackRow.holds Tryd.pinned (OpenSpec.ofChange asmBackWrong)

/-- 'deadlatchlaw04.AsmJoins': WHATEVER THE INPUT: true; the input reads as it did. -/
def asmJoinsSpec : ChangeSpec := { name := "asmJoins", fn := fun _ => fun
  | [d1, d2] => { results := [.lit (.bool true)], args := [d1, d2] }
  | _ => none }
def asmJoinsRow : OpenClaim := { program := "ytlopmejmionnpaadoor", sum := "4df469da2fe1c44a147f8014eda1359f795b25b7e2a714cd5f8d2a72e21b0e8c", func := "deadlatch/deadlatchlaw04.AsmJoins", spec := "asmJoins", inPlace := ["internal/bytealg.CountString", "internal/bytealg.IndexByteString", "internal/bytealg.IndexString", "internal/abi.NoEscape", "internal/bytealg.MakeNoZero"], unfollowed := true, recurses := true, named := ["unicode/utf8.first", "unicode/utf8.acceptRanges", "internal/bytealg.MaxLen", "deadlatch/isa.names", "strconv.ErrSyntax", "strconv.ErrRange", "internal/strconv.uint64pow10", "math/bits.deBruijn32tab", "math/bits.deBruijn64tab", "deadlatch/isa.uses"], apart := false, laid := [("deadlatch/isa.uses", laid_deadlatch_isa_uses), ("deadlatch/isa.names", laid_deadlatch_isa_names), ("math/bits.deBruijn32tab", laid_math_bits_deBruijn32tab), ("math/bits.deBruijn64tab", laid_math_bits_deBruijn64tab), ("internal/strconv.uint64pow10", laid_internal_strconv_uint64pow10), ("unicode/utf8.acceptRanges", laid_unicode_utf8_acceptRanges), ("strconv.ErrRange", laid_strconv_ErrRange), ("strconv.ErrSyntax", laid_strconv_ErrSyntax), ("unicode/utf8.first", laid_unicode_utf8_first)] }
def AsmJoinsSaid : Prop := asmJoinsRow.holds Tryd.pinned (OpenSpec.ofChange asmJoinsSpec)

/-- ITS FALSE NEIGHBOUR: 'it returns false'. Refute it at one input. -/
def asmJoinsWrong : ChangeSpec := { name := "asmJoins", fn := fun _ => fun
  | [d1, d2] => { results := [.lit (.bool false)], args := [d1, d2] }
  | _ => none }
def AsmJoinsWrongFalsely : Prop := asmJoinsRow.holds Tryd.pinned (OpenSpec.ofChange asmJoinsWrong)

/- THE SECOND FORM. 'bulk': how many values and letters a reading holds, each counted each time it is reached (what is shared counts as often as it is met; a slice's spare places count too). A statement '..UptoSaid' is the law's where the arguments, and the package variables that the reading takes, are together of bulk at most 1048576: NARROWER than '..Said'. Prove '..Said' where nothing that the law and all that it calls make is longer than what came in: it says more and counts as full. Else prove '..UptoSaid'. A law counts once. -/
mutual
def uptoBulk {H : Type} : DataW H → Nat
  | .lit (.string bytes) => bytes.length + 1
  | .lit _ => 1
  | .nil => 1
  | .ptr d => uptoBulk d + 1
  | .slice elems spare => uptoBulkAll elems + uptoBulkAll spare + 1
  | .agg parts => uptoBulkAll parts + 1
  | .iface _ d => uptoBulk d + 1
  | .map entries => uptoBulkEntries entries + 1
  | .held _ => 1
def uptoBulkAll {H : Type} : List (DataW H) → Nat
  | [] => 0
  | d :: r => uptoBulk d + uptoBulkAll r
def uptoBulkEntries {H : Type} : List (Lit × DataW H) → Nat
  | [] => 0
  | x :: r => uptoBulkEntry x + uptoBulkEntries r
def uptoBulkEntry {H : Type} : Lit × DataW H → Nat
  | (.string bytes, d) => bytes.length + uptoBulk d + 1
  | (_, d) => uptoBulk d + 1
 end
def uptoSmall : (H : Type) → List (DataW H) → Bool := fun _ ds => decide (uptoBulkAll ds ≤ 1048576)
def OpenSpec.upto (s : _root_.Go.ChangeSpec) : _root_.Go.OpenSpec := { _root_.Go.OpenSpec.ofChange s with cond := some uptoSmall }

/-- 'deadlatchlaw04.AsmParses', WHERE WHAT IT READS IS OF BULK AT MOST 1048576: true; the input reads as it did. -/
def asmParsesUptoRow : OpenClaim := { program := "ytlopmejmionnpaadoor", sum := "4df469da2fe1c44a147f8014eda1359f795b25b7e2a714cd5f8d2a72e21b0e8c", func := "deadlatch/deadlatchlaw04.AsmParses", spec := "asmParses", inPlace := ["internal/bytealg.CountString", "internal/bytealg.IndexByteString", "internal/bytealg.IndexString"], unfollowed := true, recurses := true, named := ["unicode/utf8.first", "unicode/utf8.acceptRanges", "internal/bytealg.MaxLen", "deadlatch/isa.names", "strconv.ErrSyntax", "strconv.ErrRange", "internal/strconv.uint64pow10", "math/bits.deBruijn32tab", "math/bits.deBruijn64tab", "deadlatch/isa.uses"], apart := false, laid := [("deadlatch/isa.uses", laid_deadlatch_isa_uses), ("deadlatch/isa.names", laid_deadlatch_isa_names), ("math/bits.deBruijn32tab", laid_math_bits_deBruijn32tab), ("math/bits.deBruijn64tab", laid_math_bits_deBruijn64tab), ("internal/strconv.uint64pow10", laid_internal_strconv_uint64pow10), ("unicode/utf8.acceptRanges", laid_unicode_utf8_acceptRanges), ("strconv.ErrRange", laid_strconv_ErrRange), ("strconv.ErrSyntax", laid_strconv_ErrSyntax), ("unicode/utf8.first", laid_unicode_utf8_first)], narrowed := true }
def AsmParsesUptoSaid : Prop := asmParsesUptoRow.holds Tryd.pinned (OpenSpec.upto asmParsesSpec)

/-- 'deadlatchlaw04.AsmNames', WHERE WHAT IT READS IS OF BULK AT MOST 1048576: true; the input reads as it did. -/
def asmNamesUptoRow : OpenClaim := { program := "ytlopmejmionnpaadoor", sum := "4df469da2fe1c44a147f8014eda1359f795b25b7e2a714cd5f8d2a72e21b0e8c", func := "deadlatch/deadlatchlaw04.AsmNames", spec := "asmNames", inPlace := ["internal/bytealg.CountString", "internal/bytealg.IndexByteString", "internal/bytealg.IndexString"], unfollowed := true, recurses := true, named := ["unicode/utf8.first", "unicode/utf8.acceptRanges", "internal/bytealg.MaxLen", "deadlatch/isa.names", "strconv.ErrSyntax", "strconv.ErrRange", "internal/strconv.uint64pow10", "math/bits.deBruijn32tab", "math/bits.deBruijn64tab", "deadlatch/isa.uses"], apart := false, laid := [("deadlatch/isa.uses", laid_deadlatch_isa_uses), ("deadlatch/isa.names", laid_deadlatch_isa_names), ("math/bits.deBruijn32tab", laid_math_bits_deBruijn32tab), ("math/bits.deBruijn64tab", laid_math_bits_deBruijn64tab), ("internal/strconv.uint64pow10", laid_internal_strconv_uint64pow10), ("unicode/utf8.acceptRanges", laid_unicode_utf8_acceptRanges), ("strconv.ErrRange", laid_strconv_ErrRange), ("strconv.ErrSyntax", laid_strconv_ErrSyntax), ("unicode/utf8.first", laid_unicode_utf8_first)], narrowed := true }
def AsmNamesUptoSaid : Prop := asmNamesUptoRow.holds Tryd.pinned (OpenSpec.upto asmNamesSpec)

/-- 'deadlatchlaw04.AsmBuilds', WHERE WHAT IT READS IS OF BULK AT MOST 1048576: true; the input reads as it did. -/
def asmBuildsUptoRow : OpenClaim := { program := "ytlopmejmionnpaadoor", sum := "4df469da2fe1c44a147f8014eda1359f795b25b7e2a714cd5f8d2a72e21b0e8c", func := "deadlatch/deadlatchlaw04.AsmBuilds", spec := "asmBuilds", inPlace := ["internal/bytealg.CountString", "internal/bytealg.IndexByteString", "internal/bytealg.IndexString"], unfollowed := true, recurses := true, named := ["unicode/utf8.first", "unicode/utf8.acceptRanges", "internal/bytealg.MaxLen", "deadlatch/isa.names", "strconv.ErrSyntax", "strconv.ErrRange", "internal/strconv.uint64pow10", "math/bits.deBruijn32tab", "math/bits.deBruijn64tab", "deadlatch/isa.uses"], apart := false, laid := [("deadlatch/isa.uses", laid_deadlatch_isa_uses), ("deadlatch/isa.names", laid_deadlatch_isa_names), ("math/bits.deBruijn32tab", laid_math_bits_deBruijn32tab), ("math/bits.deBruijn64tab", laid_math_bits_deBruijn64tab), ("internal/strconv.uint64pow10", laid_internal_strconv_uint64pow10), ("unicode/utf8.acceptRanges", laid_unicode_utf8_acceptRanges), ("strconv.ErrRange", laid_strconv_ErrRange), ("strconv.ErrSyntax", laid_strconv_ErrSyntax), ("unicode/utf8.first", laid_unicode_utf8_first)], narrowed := true }
def AsmBuildsUptoSaid : Prop := asmBuildsUptoRow.holds Tryd.pinned (OpenSpec.upto asmBuildsSpec)

/-- 'deadlatchlaw04.AsmAdds', WHERE WHAT IT READS IS OF BULK AT MOST 1048576: true; the input reads as it did. -/
def asmAddsUptoRow : OpenClaim := { program := "ytlopmejmionnpaadoor", sum := "4df469da2fe1c44a147f8014eda1359f795b25b7e2a714cd5f8d2a72e21b0e8c", func := "deadlatch/deadlatchlaw04.AsmAdds", spec := "asmAdds", inPlace := ["internal/bytealg.CountString", "internal/bytealg.IndexByteString", "internal/bytealg.IndexString"], unfollowed := true, recurses := true, named := ["unicode/utf8.first", "unicode/utf8.acceptRanges", "internal/bytealg.MaxLen", "deadlatch/isa.names", "strconv.ErrSyntax", "strconv.ErrRange", "internal/strconv.uint64pow10", "math/bits.deBruijn32tab", "math/bits.deBruijn64tab", "deadlatch/isa.uses"], apart := false, laid := [("deadlatch/isa.uses", laid_deadlatch_isa_uses), ("deadlatch/isa.names", laid_deadlatch_isa_names), ("math/bits.deBruijn32tab", laid_math_bits_deBruijn32tab), ("math/bits.deBruijn64tab", laid_math_bits_deBruijn64tab), ("internal/strconv.uint64pow10", laid_internal_strconv_uint64pow10), ("unicode/utf8.acceptRanges", laid_unicode_utf8_acceptRanges), ("strconv.ErrRange", laid_strconv_ErrRange), ("strconv.ErrSyntax", laid_strconv_ErrSyntax), ("unicode/utf8.first", laid_unicode_utf8_first)], narrowed := true }
def AsmAddsUptoSaid : Prop := asmAddsUptoRow.holds Tryd.pinned (OpenSpec.upto asmAddsSpec)

/-- 'deadlatchlaw04.AsmPrints', WHERE WHAT IT READS IS OF BULK AT MOST 1048576: true; the input reads as it did. -/
def asmPrintsUptoRow : OpenClaim := { program := "ytlopmejmionnpaadoor", sum := "4df469da2fe1c44a147f8014eda1359f795b25b7e2a714cd5f8d2a72e21b0e8c", func := "deadlatch/deadlatchlaw04.AsmPrints", spec := "asmPrints", inPlace := ["internal/bytealg.CountString", "internal/bytealg.IndexByteString", "internal/bytealg.IndexString", "internal/abi.NoEscape", "internal/bytealg.MakeNoZero"], unfollowed := true, recurses := true, named := ["unicode/utf8.first", "unicode/utf8.acceptRanges", "internal/bytealg.MaxLen", "deadlatch/isa.names", "strconv.ErrSyntax", "strconv.ErrRange", "internal/strconv.uint64pow10", "math/bits.deBruijn32tab", "math/bits.deBruijn64tab", "deadlatch/isa.uses"], apart := false, laid := [("deadlatch/isa.uses", laid_deadlatch_isa_uses), ("deadlatch/isa.names", laid_deadlatch_isa_names), ("math/bits.deBruijn32tab", laid_math_bits_deBruijn32tab), ("math/bits.deBruijn64tab", laid_math_bits_deBruijn64tab), ("internal/strconv.uint64pow10", laid_internal_strconv_uint64pow10), ("unicode/utf8.acceptRanges", laid_unicode_utf8_acceptRanges), ("strconv.ErrRange", laid_strconv_ErrRange), ("strconv.ErrSyntax", laid_strconv_ErrSyntax), ("unicode/utf8.first", laid_unicode_utf8_first)], narrowed := true }
def AsmPrintsUptoSaid : Prop := asmPrintsUptoRow.holds Tryd.pinned (OpenSpec.upto asmPrintsSpec)

/-- 'deadlatchlaw04.AsmBack', WHERE WHAT IT READS IS OF BULK AT MOST 1048576: true; the input reads as it did. -/
def asmBackUptoRow : OpenClaim := { program := "ytlopmejmionnpaadoor", sum := "4df469da2fe1c44a147f8014eda1359f795b25b7e2a714cd5f8d2a72e21b0e8c", func := "deadlatch/deadlatchlaw04.AsmBack", spec := "asmBack", inPlace := ["internal/bytealg.CountString", "internal/bytealg.IndexByteString", "internal/bytealg.IndexString", "internal/abi.NoEscape", "internal/bytealg.MakeNoZero"], unfollowed := true, recurses := true, named := ["unicode/utf8.first", "unicode/utf8.acceptRanges", "internal/bytealg.MaxLen", "deadlatch/isa.names", "strconv.ErrSyntax", "strconv.ErrRange", "internal/strconv.uint64pow10", "math/bits.deBruijn32tab", "math/bits.deBruijn64tab", "deadlatch/isa.uses"], apart := false, laid := [("deadlatch/isa.uses", laid_deadlatch_isa_uses), ("deadlatch/isa.names", laid_deadlatch_isa_names), ("math/bits.deBruijn32tab", laid_math_bits_deBruijn32tab), ("math/bits.deBruijn64tab", laid_math_bits_deBruijn64tab), ("internal/strconv.uint64pow10", laid_internal_strconv_uint64pow10), ("unicode/utf8.acceptRanges", laid_unicode_utf8_acceptRanges), ("strconv.ErrRange", laid_strconv_ErrRange), ("strconv.ErrSyntax", laid_strconv_ErrSyntax), ("unicode/utf8.first", laid_unicode_utf8_first)], narrowed := true }
def AsmBackUptoSaid : Prop := asmBackUptoRow.holds Tryd.pinned (OpenSpec.upto asmBackSpec)

/-- 'deadlatchlaw04.AsmJoins', WHERE WHAT IT READS IS OF BULK AT MOST 1048576: true; the input reads as it did. -/
def asmJoinsUptoRow : OpenClaim := { program := "ytlopmejmionnpaadoor", sum := "4df469da2fe1c44a147f8014eda1359f795b25b7e2a714cd5f8d2a72e21b0e8c", func := "deadlatch/deadlatchlaw04.AsmJoins", spec := "asmJoins", inPlace := ["internal/bytealg.CountString", "internal/bytealg.IndexByteString", "internal/bytealg.IndexString", "internal/abi.NoEscape", "internal/bytealg.MakeNoZero"], unfollowed := true, recurses := true, named := ["unicode/utf8.first", "unicode/utf8.acceptRanges", "internal/bytealg.MaxLen", "deadlatch/isa.names", "strconv.ErrSyntax", "strconv.ErrRange", "internal/strconv.uint64pow10", "math/bits.deBruijn32tab", "math/bits.deBruijn64tab", "deadlatch/isa.uses"], apart := false, laid := [("deadlatch/isa.uses", laid_deadlatch_isa_uses), ("deadlatch/isa.names", laid_deadlatch_isa_names), ("math/bits.deBruijn32tab", laid_math_bits_deBruijn32tab), ("math/bits.deBruijn64tab", laid_math_bits_deBruijn64tab), ("internal/strconv.uint64pow10", laid_internal_strconv_uint64pow10), ("unicode/utf8.acceptRanges", laid_unicode_utf8_acceptRanges), ("strconv.ErrRange", laid_strconv_ErrRange), ("strconv.ErrSyntax", laid_strconv_ErrSyntax), ("unicode/utf8.first", laid_unicode_utf8_first)], narrowed := true }
def AsmJoinsUptoSaid : Prop := asmJoinsUptoRow.holds Tryd.pinned (OpenSpec.upto asmJoinsSpec)

end Rows
end Go.Proofs.YtlopmejmionnpaaDoor
