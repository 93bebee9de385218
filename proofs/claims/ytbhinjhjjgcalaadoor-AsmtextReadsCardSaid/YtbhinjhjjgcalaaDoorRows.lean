/-
  NARROWER THAN 'FOR EVERY INPUT', by the rows' own cells (each row's printed sentence says how): AsmtextReads: laid · AsmtextPrints: laid · AsmtextBack: laid · AsmtextJoined: laid · AsmtextNotes: laid · AsmtextApart: laid · AsmMay: laid · AsmUnnamed: laid · AsmNames: laid · AsmShort: laid.
  DERIVED. THE GIVEN ROWS OF THIS SEAT. 10 by the template 'for every input the law returns true; each argument reads behind the call as it read before'; 0 by the template 'total and deterministic' (their statements: YtbhinjhjjgcalaaDoorTotals.lean).
  GIVEN WITH THE SEED: the statements are not yours to turn. If you find one false, say at which input.
  Laid BY PROGRAM, IN A SANDBOX (cutbox-rows.mjs): the forced cells as the released guide's own fill.sh prints them over the translation da059f96e1283a24… (all of the seat's roots in one cut). By AI agents, Wed Nov 11 2026. No macro, syntax, notation, axiom, sorry.
-/
import Derived.Test.YtbhinjhjjgcalaaDoorChecked
import GoSem.PinnedTables
import GoSem.Claim
import GoSem.ClaimJoined
import GoSem.ClaimMapViews
import Derived.JoinedTies
import Derived.KernelRfl
namespace Go.Proofs.YtbhinjhjjgcalaaDoor
/- THE CELL 'sum', in the pinned program and in every row, IS THE sha256 OF THE DUMP (.gsa) THAT YtbhinjhjjgcalaaDoorProg.lean LOADS. Nothing in Lean hashes anything: it is a label: what it is worth is what the hold of that sum in a sandbox is worth. -/
noncomputable def Tryd.pinned : Pinned := { name := "ytbhinjhjjgcalaadoor", sum := "da059f96e1283a24a2e44269f17daa4d3060ac96e2d0f693d6b72bac24451a39", checked := Tryd.checked }
namespace Rows
def none {H : Type} : Left H := { results := [], args := [] }

/- WHAT THE LISTED PACKAGE-LEVEL VARIABLES READ AS WHEN THE CALL BEGINS. Each datum BY PROGRAM (the guide's laid-datum.mjs) off the statement by which the dump's own 'gosem.cut.vars' lays the variable. In a bare row this is a premise. The card (YtbhinjhjjgcalaaDoorCards.lean) ties it to the program's text. -/
def laid_math_bits_deBruijn32tab {H : Type} : DataW H := .agg [.lit (.int .u8 0), .lit (.int .u8 1), .lit (.int .u8 28), .lit (.int .u8 2), .lit (.int .u8 29), .lit (.int .u8 14), .lit (.int .u8 24), .lit (.int .u8 3), .lit (.int .u8 30), .lit (.int .u8 22), .lit (.int .u8 20), .lit (.int .u8 15), .lit (.int .u8 25), .lit (.int .u8 17), .lit (.int .u8 4), .lit (.int .u8 8), .lit (.int .u8 31), .lit (.int .u8 27), .lit (.int .u8 13), .lit (.int .u8 23), .lit (.int .u8 21), .lit (.int .u8 19), .lit (.int .u8 16), .lit (.int .u8 7), .lit (.int .u8 26), .lit (.int .u8 12), .lit (.int .u8 18), .lit (.int .u8 6), .lit (.int .u8 11), .lit (.int .u8 5), .lit (.int .u8 10), .lit (.int .u8 9)]
def laid_math_bits_deBruijn64tab {H : Type} : DataW H := .agg [.lit (.int .u8 0), .lit (.int .u8 1), .lit (.int .u8 56), .lit (.int .u8 2), .lit (.int .u8 57), .lit (.int .u8 49), .lit (.int .u8 28), .lit (.int .u8 3), .lit (.int .u8 61), .lit (.int .u8 58), .lit (.int .u8 42), .lit (.int .u8 50), .lit (.int .u8 38), .lit (.int .u8 29), .lit (.int .u8 17), .lit (.int .u8 4), .lit (.int .u8 62), .lit (.int .u8 47), .lit (.int .u8 59), .lit (.int .u8 36), .lit (.int .u8 45), .lit (.int .u8 43), .lit (.int .u8 51), .lit (.int .u8 22), .lit (.int .u8 53), .lit (.int .u8 39), .lit (.int .u8 33), .lit (.int .u8 30), .lit (.int .u8 24), .lit (.int .u8 18), .lit (.int .u8 12), .lit (.int .u8 5), .lit (.int .u8 63), .lit (.int .u8 55), .lit (.int .u8 48), .lit (.int .u8 27), .lit (.int .u8 60), .lit (.int .u8 41), .lit (.int .u8 37), .lit (.int .u8 16), .lit (.int .u8 46), .lit (.int .u8 35), .lit (.int .u8 44), .lit (.int .u8 21), .lit (.int .u8 52), .lit (.int .u8 32), .lit (.int .u8 23), .lit (.int .u8 11), .lit (.int .u8 54), .lit (.int .u8 26), .lit (.int .u8 40), .lit (.int .u8 15), .lit (.int .u8 34), .lit (.int .u8 20), .lit (.int .u8 31), .lit (.int .u8 10), .lit (.int .u8 25), .lit (.int .u8 14), .lit (.int .u8 19), .lit (.int .u8 9), .lit (.int .u8 13), .lit (.int .u8 8), .lit (.int .u8 7), .lit (.int .u8 6)]
def laid_internal_strconv_uint64pow10 {H : Type} : DataW H := .agg [.lit (.int .u64 1), .lit (.int .u64 10), .lit (.int .u64 100), .lit (.int .u64 1000), .lit (.int .u64 10000), .lit (.int .u64 100000), .lit (.int .u64 1000000), .lit (.int .u64 10000000), .lit (.int .u64 100000000), .lit (.int .u64 1000000000), .lit (.int .u64 10000000000), .lit (.int .u64 100000000000), .lit (.int .u64 1000000000000), .lit (.int .u64 10000000000000), .lit (.int .u64 100000000000000), .lit (.int .u64 1000000000000000), .lit (.int .u64 10000000000000000), .lit (.int .u64 100000000000000000), .lit (.int .u64 1000000000000000000), .lit (.int .u64 10000000000000000000)]
def laid_unicode_utf8_acceptRanges {H : Type} : DataW H := .agg [.agg [.lit (.int .u8 128), .lit (.int .u8 191)], .agg [.lit (.int .u8 160), .lit (.int .u8 191)], .agg [.lit (.int .u8 128), .lit (.int .u8 159)], .agg [.lit (.int .u8 144), .lit (.int .u8 191)], .agg [.lit (.int .u8 128), .lit (.int .u8 143)], .agg [.lit (.int .u8 0), .lit (.int .u8 0)], .agg [.lit (.int .u8 0), .lit (.int .u8 0)], .agg [.lit (.int .u8 0), .lit (.int .u8 0)], .agg [.lit (.int .u8 0), .lit (.int .u8 0)], .agg [.lit (.int .u8 0), .lit (.int .u8 0)], .agg [.lit (.int .u8 0), .lit (.int .u8 0)], .agg [.lit (.int .u8 0), .lit (.int .u8 0)], .agg [.lit (.int .u8 0), .lit (.int .u8 0)], .agg [.lit (.int .u8 0), .lit (.int .u8 0)], .agg [.lit (.int .u8 0), .lit (.int .u8 0)], .agg [.lit (.int .u8 0), .lit (.int .u8 0)]]
def laid_strconv_ErrRange {H : Type} : DataW H := .iface "*errors.errorString" (.ptr (.agg [.lit (.string [118, 97, 108, 117, 101, 32, 111, 117, 116, 32, 111, 102, 32, 114, 97, 110, 103, 101])]))
def laid_strconv_ErrSyntax {H : Type} : DataW H := .iface "*errors.errorString" (.ptr (.agg [.lit (.string [105, 110, 118, 97, 108, 105, 100, 32, 115, 121, 110, 116, 97, 120])]))
def laid_cotter_asmtext_lines {H : Type} : DataW H := .agg [.lit (.string []), .lit (.string [109, 111, 118, 105, 32, 65, 78]), .lit (.string [109, 111, 118, 32, 65, 66]), .lit (.string [97, 100, 100, 32, 65, 66]), .lit (.string [115, 117, 98, 32, 65, 66]), .lit (.string [109, 117, 108, 32, 65, 66]), .lit (.string [100, 105, 118, 32, 65, 66]), .lit (.string [114, 101, 109, 32, 65, 66]), .lit (.string [97, 110, 100, 32, 65, 66]), .lit (.string [111, 114, 32, 65, 66]), .lit (.string [120, 111, 114, 32, 65, 66]), .lit (.string [115, 104, 108, 32, 65, 66]), .lit (.string [115, 97, 114, 32, 65, 66]), .lit (.string [101, 113, 32, 65, 66]), .lit (.string [110, 101, 32, 65, 66]), .lit (.string [108, 116, 32, 65, 66]), .lit (.string [108, 101, 32, 65, 66]), .lit (.string [108, 100, 32, 65, 66, 78]), .lit (.string [115, 116, 32, 65, 78, 66]), .lit (.string [97, 100, 114, 32, 65, 83, 78]), .lit (.string [106, 109, 112, 32, 83]), .lit (.string [106, 122, 32, 65, 83]), .lit (.string [106, 110, 122, 32, 65, 83]), .lit (.string [99, 97, 108, 108, 32, 83]), .lit (.string [114, 101, 116, 32]), .lit (.string []), .lit (.string []), .lit (.string []), .lit (.string [120, 99, 104, 103, 32, 65, 78, 66]), .lit (.string [120, 97, 100, 100, 32, 65, 78, 66]), .lit (.string [102, 101, 110, 99, 101, 32]), .lit (.string [111, 117, 116, 32, 65]), .lit (.string [104, 97, 108, 116, 32]), .lit (.string [116, 114, 97, 112, 32, 78])]
/-- One of Go's own tables, pinned by name: the form's constant. -/
def laid_unicode_utf8_first : DataW Unit := Go.Pinned.utf8First
def laid_cotter_ins_shapes {H : Type} : DataW H := .agg [.lit (.int .u8 0), .lit (.int .u8 1), .lit (.int .u8 2), .lit (.int .u8 2), .lit (.int .u8 2), .lit (.int .u8 2), .lit (.int .u8 2), .lit (.int .u8 2), .lit (.int .u8 2), .lit (.int .u8 2), .lit (.int .u8 2), .lit (.int .u8 2), .lit (.int .u8 2), .lit (.int .u8 2), .lit (.int .u8 2), .lit (.int .u8 2), .lit (.int .u8 2), .lit (.int .u8 3), .lit (.int .u8 3), .lit (.int .u8 4), .lit (.int .u8 5), .lit (.int .u8 4), .lit (.int .u8 4), .lit (.int .u8 5), .lit (.int .u8 6), .lit (.int .u8 7), .lit (.int .u8 8), .lit (.int .u8 8), .lit (.int .u8 3), .lit (.int .u8 3), .lit (.int .u8 6), .lit (.int .u8 9), .lit (.int .u8 6), .lit (.int .u8 10)]

/-- 'cotterlaw09.AsmtextReads': WHATEVER THE INPUT: true; the input reads as it did. -/
def asmtextReadsSpec : ChangeSpec := { name := "asmtextReads", fn := fun _ => fun
  | [d] => { results := [.lit (.bool true)], args := [d] }
  | _ => none }
def asmtextReadsRow : OpenClaim := { program := "ytbhinjhjjgcalaadoor", sum := "da059f96e1283a24a2e44269f17daa4d3060ac96e2d0f693d6b72bac24451a39", func := "cotter/cotterlaw09.AsmtextReads", spec := "asmtextReads", inPlace := ["internal/bytealg.IndexByteString", "internal/bytealg.IndexString", "internal/abi.NoEscape", "internal/bytealg.MakeNoZero"], unfollowed := true, recurses := true, named := ["unicode/utf8.first", "unicode/utf8.acceptRanges", "internal/bytealg.MaxLen", "cotter/asmtext.lines", "strconv.ErrSyntax", "strconv.ErrRange", "internal/strconv.uint64pow10", "math/bits.deBruijn32tab", "math/bits.deBruijn64tab"], apart := false, laid := [("math/bits.deBruijn32tab", laid_math_bits_deBruijn32tab), ("math/bits.deBruijn64tab", laid_math_bits_deBruijn64tab), ("internal/strconv.uint64pow10", laid_internal_strconv_uint64pow10), ("unicode/utf8.acceptRanges", laid_unicode_utf8_acceptRanges), ("strconv.ErrRange", laid_strconv_ErrRange), ("strconv.ErrSyntax", laid_strconv_ErrSyntax), ("cotter/asmtext.lines", laid_cotter_asmtext_lines), ("unicode/utf8.first", laid_unicode_utf8_first)] }
def AsmtextReadsSaid : Prop := asmtextReadsRow.holds Tryd.pinned (OpenSpec.ofChange asmtextReadsSpec)

/-- ITS FALSE NEIGHBOUR: 'it returns false'. Refute it at one input. -/
def asmtextReadsWrong : ChangeSpec := { name := "asmtextReads", fn := fun _ => fun
  | [d] => { results := [.lit (.bool false)], args := [d] }
  | _ => none }
def AsmtextReadsWrongFalsely : Prop := asmtextReadsRow.holds Tryd.pinned (OpenSpec.ofChange asmtextReadsWrong)

/-- 'cotterlaw09.AsmtextPrints': WHATEVER THE INPUT: true; the input reads as it did. -/
def asmtextPrintsSpec : ChangeSpec := { name := "asmtextPrints", fn := fun _ => fun
  | [d] => { results := [.lit (.bool true)], args := [d] }
  | _ => none }
def asmtextPrintsRow : OpenClaim := { program := "ytbhinjhjjgcalaadoor", sum := "da059f96e1283a24a2e44269f17daa4d3060ac96e2d0f693d6b72bac24451a39", func := "cotter/cotterlaw09.AsmtextPrints", spec := "asmtextPrints", inPlace := ["internal/bytealg.IndexByteString", "internal/bytealg.IndexString", "internal/abi.NoEscape", "internal/bytealg.MakeNoZero"], unfollowed := true, recurses := true, named := ["unicode/utf8.first", "unicode/utf8.acceptRanges", "internal/bytealg.MaxLen", "cotter/asmtext.lines", "strconv.ErrSyntax", "strconv.ErrRange", "internal/strconv.uint64pow10", "math/bits.deBruijn32tab", "math/bits.deBruijn64tab"], apart := false, laid := [("math/bits.deBruijn32tab", laid_math_bits_deBruijn32tab), ("math/bits.deBruijn64tab", laid_math_bits_deBruijn64tab), ("internal/strconv.uint64pow10", laid_internal_strconv_uint64pow10), ("unicode/utf8.acceptRanges", laid_unicode_utf8_acceptRanges), ("strconv.ErrRange", laid_strconv_ErrRange), ("strconv.ErrSyntax", laid_strconv_ErrSyntax), ("cotter/asmtext.lines", laid_cotter_asmtext_lines), ("unicode/utf8.first", laid_unicode_utf8_first)] }
def AsmtextPrintsSaid : Prop := asmtextPrintsRow.holds Tryd.pinned (OpenSpec.ofChange asmtextPrintsSpec)

/-- ITS FALSE NEIGHBOUR: 'it returns false'. Refute it at one input. -/
def asmtextPrintsWrong : ChangeSpec := { name := "asmtextPrints", fn := fun _ => fun
  | [d] => { results := [.lit (.bool false)], args := [d] }
  | _ => none }
def AsmtextPrintsWrongFalsely : Prop := asmtextPrintsRow.holds Tryd.pinned (OpenSpec.ofChange asmtextPrintsWrong)

/-- 'cotterlaw09.AsmtextBack': WHATEVER THE INPUT: true; the input reads as it did. -/
def asmtextBackSpec : ChangeSpec := { name := "asmtextBack", fn := fun _ => fun
  | [d1, d2] => { results := [.lit (.bool true)], args := [d1, d2] }
  | _ => none }
def asmtextBackRow : OpenClaim := { program := "ytbhinjhjjgcalaadoor", sum := "da059f96e1283a24a2e44269f17daa4d3060ac96e2d0f693d6b72bac24451a39", func := "cotter/cotterlaw09.AsmtextBack", spec := "asmtextBack", inPlace := ["internal/bytealg.IndexByteString", "internal/bytealg.IndexString", "internal/abi.NoEscape", "internal/bytealg.MakeNoZero"], unfollowed := true, recurses := true, named := ["unicode/utf8.first", "unicode/utf8.acceptRanges", "internal/bytealg.MaxLen", "cotter/asmtext.lines", "strconv.ErrSyntax", "strconv.ErrRange", "internal/strconv.uint64pow10", "math/bits.deBruijn32tab", "math/bits.deBruijn64tab"], apart := false, laid := [("math/bits.deBruijn32tab", laid_math_bits_deBruijn32tab), ("math/bits.deBruijn64tab", laid_math_bits_deBruijn64tab), ("internal/strconv.uint64pow10", laid_internal_strconv_uint64pow10), ("unicode/utf8.acceptRanges", laid_unicode_utf8_acceptRanges), ("strconv.ErrRange", laid_strconv_ErrRange), ("strconv.ErrSyntax", laid_strconv_ErrSyntax), ("cotter/asmtext.lines", laid_cotter_asmtext_lines), ("unicode/utf8.first", laid_unicode_utf8_first)] }
def AsmtextBackSaid : Prop := asmtextBackRow.holds Tryd.pinned (OpenSpec.ofChange asmtextBackSpec)

/-- ITS FALSE NEIGHBOUR: 'it returns false'. Refute it at one input. -/
def asmtextBackWrong : ChangeSpec := { name := "asmtextBack", fn := fun _ => fun
  | [d1, d2] => { results := [.lit (.bool false)], args := [d1, d2] }
  | _ => none }
def AsmtextBackWrongFalsely : Prop := asmtextBackRow.holds Tryd.pinned (OpenSpec.ofChange asmtextBackWrong)

/-- 'cotterlaw09.AsmtextJoined': WHATEVER THE INPUT: true; the input reads as it did. -/
def asmtextJoinedSpec : ChangeSpec := { name := "asmtextJoined", fn := fun _ => fun
  | [d1, d2] => { results := [.lit (.bool true)], args := [d1, d2] }
  | _ => none }
def asmtextJoinedRow : OpenClaim := { program := "ytbhinjhjjgcalaadoor", sum := "da059f96e1283a24a2e44269f17daa4d3060ac96e2d0f693d6b72bac24451a39", func := "cotter/cotterlaw09.AsmtextJoined", spec := "asmtextJoined", inPlace := ["internal/bytealg.IndexByteString", "internal/bytealg.IndexString", "internal/abi.NoEscape", "internal/bytealg.MakeNoZero"], unfollowed := true, recurses := true, named := ["unicode/utf8.first", "unicode/utf8.acceptRanges", "internal/bytealg.MaxLen", "cotter/asmtext.lines", "strconv.ErrSyntax", "strconv.ErrRange", "internal/strconv.uint64pow10", "math/bits.deBruijn32tab", "math/bits.deBruijn64tab"], apart := false, laid := [("math/bits.deBruijn32tab", laid_math_bits_deBruijn32tab), ("math/bits.deBruijn64tab", laid_math_bits_deBruijn64tab), ("internal/strconv.uint64pow10", laid_internal_strconv_uint64pow10), ("unicode/utf8.acceptRanges", laid_unicode_utf8_acceptRanges), ("strconv.ErrRange", laid_strconv_ErrRange), ("strconv.ErrSyntax", laid_strconv_ErrSyntax), ("cotter/asmtext.lines", laid_cotter_asmtext_lines), ("unicode/utf8.first", laid_unicode_utf8_first)] }
def AsmtextJoinedSaid : Prop := asmtextJoinedRow.holds Tryd.pinned (OpenSpec.ofChange asmtextJoinedSpec)

/-- ITS FALSE NEIGHBOUR: 'it returns false'. Refute it at one input. -/
def asmtextJoinedWrong : ChangeSpec := { name := "asmtextJoined", fn := fun _ => fun
  | [d1, d2] => { results := [.lit (.bool false)], args := [d1, d2] }
  | _ => none }
def AsmtextJoinedWrongFalsely : Prop := asmtextJoinedRow.holds Tryd.pinned (OpenSpec.ofChange asmtextJoinedWrong)

/-- 'cotterlaw09.AsmtextNotes': WHATEVER THE INPUT: true; the input reads as it did. -/
def asmtextNotesSpec : ChangeSpec := { name := "asmtextNotes", fn := fun _ => fun
  | [d1, d2] => { results := [.lit (.bool true)], args := [d1, d2] }
  | _ => none }
def asmtextNotesRow : OpenClaim := { program := "ytbhinjhjjgcalaadoor", sum := "da059f96e1283a24a2e44269f17daa4d3060ac96e2d0f693d6b72bac24451a39", func := "cotter/cotterlaw09.AsmtextNotes", spec := "asmtextNotes", inPlace := ["internal/bytealg.IndexByteString", "internal/bytealg.IndexString", "internal/abi.NoEscape", "internal/bytealg.MakeNoZero"], unfollowed := true, recurses := true, named := ["unicode/utf8.first", "unicode/utf8.acceptRanges", "internal/bytealg.MaxLen", "cotter/asmtext.lines", "strconv.ErrSyntax", "strconv.ErrRange", "internal/strconv.uint64pow10", "math/bits.deBruijn32tab", "math/bits.deBruijn64tab"], apart := false, laid := [("math/bits.deBruijn32tab", laid_math_bits_deBruijn32tab), ("math/bits.deBruijn64tab", laid_math_bits_deBruijn64tab), ("internal/strconv.uint64pow10", laid_internal_strconv_uint64pow10), ("unicode/utf8.acceptRanges", laid_unicode_utf8_acceptRanges), ("strconv.ErrRange", laid_strconv_ErrRange), ("strconv.ErrSyntax", laid_strconv_ErrSyntax), ("cotter/asmtext.lines", laid_cotter_asmtext_lines), ("unicode/utf8.first", laid_unicode_utf8_first)] }
def AsmtextNotesSaid : Prop := asmtextNotesRow.holds Tryd.pinned (OpenSpec.ofChange asmtextNotesSpec)

/-- ITS FALSE NEIGHBOUR: 'it returns false'. Refute it at one input. -/
def asmtextNotesWrong : ChangeSpec := { name := "asmtextNotes", fn := fun _ => fun
  | [d1, d2] => { results := [.lit (.bool false)], args := [d1, d2] }
  | _ => none }
def AsmtextNotesWrongFalsely : Prop := asmtextNotesRow.holds Tryd.pinned (OpenSpec.ofChange asmtextNotesWrong)

/-- 'cotterlaw09.AsmtextApart': WHATEVER THE INPUT: true; the input reads as it did. -/
def asmtextApartSpec : ChangeSpec := { name := "asmtextApart", fn := fun _ => fun
  | [d1, d2] => { results := [.lit (.bool true)], args := [d1, d2] }
  | _ => none }
def asmtextApartRow : OpenClaim := { program := "ytbhinjhjjgcalaadoor", sum := "da059f96e1283a24a2e44269f17daa4d3060ac96e2d0f693d6b72bac24451a39", func := "cotter/cotterlaw09.AsmtextApart", spec := "asmtextApart", inPlace := ["internal/bytealg.IndexByteString", "internal/bytealg.IndexString", "internal/abi.NoEscape", "internal/bytealg.MakeNoZero"], unfollowed := true, recurses := true, named := ["unicode/utf8.first", "unicode/utf8.acceptRanges", "internal/bytealg.MaxLen", "cotter/asmtext.lines", "strconv.ErrSyntax", "strconv.ErrRange", "internal/strconv.uint64pow10", "math/bits.deBruijn32tab", "math/bits.deBruijn64tab"], apart := false, laid := [("math/bits.deBruijn32tab", laid_math_bits_deBruijn32tab), ("math/bits.deBruijn64tab", laid_math_bits_deBruijn64tab), ("internal/strconv.uint64pow10", laid_internal_strconv_uint64pow10), ("unicode/utf8.acceptRanges", laid_unicode_utf8_acceptRanges), ("strconv.ErrRange", laid_strconv_ErrRange), ("strconv.ErrSyntax", laid_strconv_ErrSyntax), ("cotter/asmtext.lines", laid_cotter_asmtext_lines), ("unicode/utf8.first", laid_unicode_utf8_first)] }
def AsmtextApartSaid : Prop := asmtextApartRow.holds Tryd.pinned (OpenSpec.ofChange asmtextApartSpec)

/-- ITS FALSE NEIGHBOUR: 'it returns false'. Refute it at one input. -/
def asmtextApartWrong : ChangeSpec := { name := "asmtextApart", fn := fun _ => fun
  | [d1, d2] => { results := [.lit (.bool false)], args := [d1, d2] }
  | _ => none }
def AsmtextApartWrongFalsely : Prop := asmtextApartRow.holds Tryd.pinned (OpenSpec.ofChange asmtextApartWrong)

/-- 'cotterlaw10.AsmMay': WHATEVER THE INPUT: true; the input reads as it did. -/
def asmMaySpec : ChangeSpec := { name := "asmMay", fn := fun _ => fun
  | [d] => { results := [.lit (.bool true)], args := [d] }
  | _ => none }
def asmMayRow : OpenClaim := { program := "ytbhinjhjjgcalaadoor", sum := "da059f96e1283a24a2e44269f17daa4d3060ac96e2d0f693d6b72bac24451a39", func := "cotter/cotterlaw10.AsmMay", spec := "asmMay", inPlace := ["internal/bytealg.IndexByteString", "internal/bytealg.IndexString"], unfollowed := true, recurses := true, named := ["unicode/utf8.first", "unicode/utf8.acceptRanges", "internal/bytealg.MaxLen", "cotter/asmtext.lines", "strconv.ErrSyntax", "strconv.ErrRange", "internal/strconv.uint64pow10", "math/bits.deBruijn32tab", "math/bits.deBruijn64tab", "cotter/ins.shapes"], apart := false, laid := [("math/bits.deBruijn32tab", laid_math_bits_deBruijn32tab), ("math/bits.deBruijn64tab", laid_math_bits_deBruijn64tab), ("internal/strconv.uint64pow10", laid_internal_strconv_uint64pow10), ("unicode/utf8.acceptRanges", laid_unicode_utf8_acceptRanges), ("cotter/ins.shapes", laid_cotter_ins_shapes), ("strconv.ErrRange", laid_strconv_ErrRange), ("strconv.ErrSyntax", laid_strconv_ErrSyntax), ("cotter/asmtext.lines", laid_cotter_asmtext_lines), ("unicode/utf8.first", laid_unicode_utf8_first)] }
def AsmMaySaid : Prop := asmMayRow.holds Tryd.pinned (OpenSpec.ofChange asmMaySpec)

/-- ITS FALSE NEIGHBOUR: 'it returns false'. Refute it at one input. -/
def asmMayWrong : ChangeSpec := { name := "asmMay", fn := fun _ => fun
  | [d] => { results := [.lit (.bool false)], args := [d] }
  | _ => none }
def AsmMayWrongFalsely : Prop := asmMayRow.holds Tryd.pinned (OpenSpec.ofChange asmMayWrong)

/-- 'cotterlaw10.AsmUnnamed': WHATEVER THE INPUT: true; the input reads as it did. -/
def asmUnnamedSpec : ChangeSpec := { name := "asmUnnamed", fn := fun _ => fun
  | [d1, d2, d3] => { results := [.lit (.bool true)], args := [d1, d2, d3] }
  | _ => none }
def asmUnnamedRow : OpenClaim := { program := "ytbhinjhjjgcalaadoor", sum := "da059f96e1283a24a2e44269f17daa4d3060ac96e2d0f693d6b72bac24451a39", func := "cotter/cotterlaw10.AsmUnnamed", spec := "asmUnnamed", inPlace := ["internal/bytealg.IndexByteString", "internal/bytealg.IndexString"], unfollowed := true, recurses := true, named := ["unicode/utf8.first", "unicode/utf8.acceptRanges", "internal/bytealg.MaxLen", "cotter/asmtext.lines", "strconv.ErrSyntax", "strconv.ErrRange", "internal/strconv.uint64pow10", "math/bits.deBruijn32tab", "math/bits.deBruijn64tab", "cotter/ins.shapes"], apart := false, laid := [("math/bits.deBruijn32tab", laid_math_bits_deBruijn32tab), ("math/bits.deBruijn64tab", laid_math_bits_deBruijn64tab), ("internal/strconv.uint64pow10", laid_internal_strconv_uint64pow10), ("unicode/utf8.acceptRanges", laid_unicode_utf8_acceptRanges), ("cotter/ins.shapes", laid_cotter_ins_shapes), ("strconv.ErrRange", laid_strconv_ErrRange), ("strconv.ErrSyntax", laid_strconv_ErrSyntax), ("cotter/asmtext.lines", laid_cotter_asmtext_lines), ("unicode/utf8.first", laid_unicode_utf8_first)] }
def AsmUnnamedSaid : Prop := asmUnnamedRow.holds Tryd.pinned (OpenSpec.ofChange asmUnnamedSpec)

/-- ITS FALSE NEIGHBOUR: 'it returns false'. Refute it at one input. -/
def asmUnnamedWrong : ChangeSpec := { name := "asmUnnamed", fn := fun _ => fun
  | [d1, d2, d3] => { results := [.lit (.bool false)], args := [d1, d2, d3] }
  | _ => none }
def AsmUnnamedWrongFalsely : Prop := asmUnnamedRow.holds Tryd.pinned (OpenSpec.ofChange asmUnnamedWrong)

/-- 'cotterlaw10.AsmNames': WHATEVER THE INPUT: true; the input reads as it did. -/
def asmNamesSpec : ChangeSpec := { name := "asmNames", fn := fun _ => fun
  | [d1, d2, d3] => { results := [.lit (.bool true)], args := [d1, d2, d3] }
  | _ => none }
def asmNamesRow : OpenClaim := { program := "ytbhinjhjjgcalaadoor", sum := "da059f96e1283a24a2e44269f17daa4d3060ac96e2d0f693d6b72bac24451a39", func := "cotter/cotterlaw10.AsmNames", spec := "asmNames", inPlace := ["internal/bytealg.IndexByteString", "internal/bytealg.IndexString"], unfollowed := true, recurses := true, named := ["unicode/utf8.first", "unicode/utf8.acceptRanges", "internal/bytealg.MaxLen", "cotter/asmtext.lines", "strconv.ErrSyntax", "strconv.ErrRange", "internal/strconv.uint64pow10", "math/bits.deBruijn32tab", "math/bits.deBruijn64tab", "cotter/ins.shapes"], apart := false, laid := [("math/bits.deBruijn32tab", laid_math_bits_deBruijn32tab), ("math/bits.deBruijn64tab", laid_math_bits_deBruijn64tab), ("internal/strconv.uint64pow10", laid_internal_strconv_uint64pow10), ("unicode/utf8.acceptRanges", laid_unicode_utf8_acceptRanges), ("cotter/ins.shapes", laid_cotter_ins_shapes), ("strconv.ErrRange", laid_strconv_ErrRange), ("strconv.ErrSyntax", laid_strconv_ErrSyntax), ("cotter/asmtext.lines", laid_cotter_asmtext_lines), ("unicode/utf8.first", laid_unicode_utf8_first)] }
def AsmNamesSaid : Prop := asmNamesRow.holds Tryd.pinned (OpenSpec.ofChange asmNamesSpec)

/-- ITS FALSE NEIGHBOUR: 'it returns false'. Refute it at one input. -/
def asmNamesWrong : ChangeSpec := { name := "asmNames", fn := fun _ => fun
  | [d1, d2, d3] => { results := [.lit (.bool false)], args := [d1, d2, d3] }
  | _ => none }
def AsmNamesWrongFalsely : Prop := asmNamesRow.holds Tryd.pinned (OpenSpec.ofChange asmNamesWrong)

/-- 'cotterlaw10.AsmShort': WHATEVER THE INPUT: true; the input reads as it did. -/
def asmShortSpec : ChangeSpec := { name := "asmShort", fn := fun _ => fun
  | [d] => { results := [.lit (.bool true)], args := [d] }
  | _ => none }
def asmShortRow : OpenClaim := { program := "ytbhinjhjjgcalaadoor", sum := "da059f96e1283a24a2e44269f17daa4d3060ac96e2d0f693d6b72bac24451a39", func := "cotter/cotterlaw10.AsmShort", spec := "asmShort", inPlace := ["internal/bytealg.IndexByteString", "internal/bytealg.IndexString"], unfollowed := true, recurses := true, named := ["unicode/utf8.first", "unicode/utf8.acceptRanges", "internal/bytealg.MaxLen", "cotter/asmtext.lines", "strconv.ErrSyntax", "strconv.ErrRange", "internal/strconv.uint64pow10", "math/bits.deBruijn32tab", "math/bits.deBruijn64tab", "cotter/ins.shapes"], apart := false, laid := [("math/bits.deBruijn32tab", laid_math_bits_deBruijn32tab), ("math/bits.deBruijn64tab", laid_math_bits_deBruijn64tab), ("internal/strconv.uint64pow10", laid_internal_strconv_uint64pow10), ("unicode/utf8.acceptRanges", laid_unicode_utf8_acceptRanges), ("cotter/ins.shapes", laid_cotter_ins_shapes), ("strconv.ErrRange", laid_strconv_ErrRange), ("strconv.ErrSyntax", laid_strconv_ErrSyntax), ("cotter/asmtext.lines", laid_cotter_asmtext_lines), ("unicode/utf8.first", laid_unicode_utf8_first)] }
def AsmShortSaid : Prop := asmShortRow.holds Tryd.pinned (OpenSpec.ofChange asmShortSpec)

/-- ITS FALSE NEIGHBOUR: 'it returns false'. Refute it at one input. -/
def asmShortWrong : ChangeSpec := { name := "asmShort", fn := fun _ => fun
  | [d] => { results := [.lit (.bool false)], args := [d] }
  | _ => none }
def AsmShortWrongFalsely : Prop := asmShortRow.holds Tryd.pinned (OpenSpec.ofChange asmShortWrong)

/- THE SECOND FORM. 'bulk': how many values and letters a reading holds, each counted each time it is reached (what is shared counts as often as it is met; a slice's spare places count too). A statement '..UptoSaid' is the law's where the arguments, and the package variables that the reading takes, are together of bulk at most 1048576: NARROWER than '..Said'. Prove '..Said' where nothing that the law and all that it calls make is longer than what came in: it says more and counts as full. Else prove '..UptoSaid'. A law counts once. -/
mutual
def uptoBulk {H : Type} : DataW H → Nat
  | .lit (.string bytes) => bytes.length + 1
  | .lit _ => 1
  | .nil => 1
  | .ptr d => uptoBulk d + 1
  | .slice elems spare => uptoBulkAll elems + uptoBulkAll spare + 1
  | .agg parts => uptoBulkAll parts + 1
  | .iface _ d => uptoBulk d + 1
  | .map entries => uptoBulkEntries entries + 1
  | .held _ => 1
def uptoBulkAll {H : Type} : List (DataW H) → Nat
  | [] => 0
  | d :: r => uptoBulk d + uptoBulkAll r
def uptoBulkEntries {H : Type} : List (Lit × DataW H) → Nat
  | [] => 0
  | x :: r => uptoBulkEntry x + uptoBulkEntries r
def uptoBulkEntry {H : Type} : Lit × DataW H → Nat
  | (.string bytes, d) => bytes.length + uptoBulk d + 1
  | (_, d) => uptoBulk d + 1
 end
def uptoSmall : (H : Type) → List (DataW H) → Bool := fun _ ds => decide (uptoBulkAll ds ≤ 1048576)
def OpenSpec.upto (s : _root_.Go.ChangeSpec) : _root_.Go.OpenSpec := { _root_.Go.OpenSpec.ofChange s with cond := some uptoSmall }

/-- 'cotterlaw09.AsmtextReads', WHERE WHAT IT READS IS OF BULK AT MOST 1048576: true; the input reads as it did. -/
def asmtextReadsUptoRow : OpenClaim := { program := "ytbhinjhjjgcalaadoor", sum := "da059f96e1283a24a2e44269f17daa4d3060ac96e2d0f693d6b72bac24451a39", func := "cotter/cotterlaw09.AsmtextReads", spec := "asmtextReads", inPlace := ["internal/bytealg.IndexByteString", "internal/bytealg.IndexString", "internal/abi.NoEscape", "internal/bytealg.MakeNoZero"], unfollowed := true, recurses := true, named := ["unicode/utf8.first", "unicode/utf8.acceptRanges", "internal/bytealg.MaxLen", "cotter/asmtext.lines", "strconv.ErrSyntax", "strconv.ErrRange", "internal/strconv.uint64pow10", "math/bits.deBruijn32tab", "math/bits.deBruijn64tab"], apart := false, laid := [("math/bits.deBruijn32tab", laid_math_bits_deBruijn32tab), ("math/bits.deBruijn64tab", laid_math_bits_deBruijn64tab), ("internal/strconv.uint64pow10", laid_internal_strconv_uint64pow10), ("unicode/utf8.acceptRanges", laid_unicode_utf8_acceptRanges), ("strconv.ErrRange", laid_strconv_ErrRange), ("strconv.ErrSyntax", laid_strconv_ErrSyntax), ("cotter/asmtext.lines", laid_cotter_asmtext_lines), ("unicode/utf8.first", laid_unicode_utf8_first)], narrowed := true }
def AsmtextReadsUptoSaid : Prop := asmtextReadsUptoRow.holds Tryd.pinned (OpenSpec.upto asmtextReadsSpec)

/-- 'cotterlaw09.AsmtextPrints', WHERE WHAT IT READS IS OF BULK AT MOST 1048576: true; the input reads as it did. -/
def asmtextPrintsUptoRow : OpenClaim := { program := "ytbhinjhjjgcalaadoor", sum := "da059f96e1283a24a2e44269f17daa4d3060ac96e2d0f693d6b72bac24451a39", func := "cotter/cotterlaw09.AsmtextPrints", spec := "asmtextPrints", inPlace := ["internal/bytealg.IndexByteString", "internal/bytealg.IndexString", "internal/abi.NoEscape", "internal/bytealg.MakeNoZero"], unfollowed := true, recurses := true, named := ["unicode/utf8.first", "unicode/utf8.acceptRanges", "internal/bytealg.MaxLen", "cotter/asmtext.lines", "strconv.ErrSyntax", "strconv.ErrRange", "internal/strconv.uint64pow10", "math/bits.deBruijn32tab", "math/bits.deBruijn64tab"], apart := false, laid := [("math/bits.deBruijn32tab", laid_math_bits_deBruijn32tab), ("math/bits.deBruijn64tab", laid_math_bits_deBruijn64tab), ("internal/strconv.uint64pow10", laid_internal_strconv_uint64pow10), ("unicode/utf8.acceptRanges", laid_unicode_utf8_acceptRanges), ("strconv.ErrRange", laid_strconv_ErrRange), ("strconv.ErrSyntax", laid_strconv_ErrSyntax), ("cotter/asmtext.lines", laid_cotter_asmtext_lines), ("unicode/utf8.first", laid_unicode_utf8_first)], narrowed := true }
def AsmtextPrintsUptoSaid : Prop := asmtextPrintsUptoRow.holds Tryd.pinned (OpenSpec.upto asmtextPrintsSpec)

/-- 'cotterlaw09.AsmtextBack', WHERE WHAT IT READS IS OF BULK AT MOST 1048576: true; the input reads as it did. -/
def asmtextBackUptoRow : OpenClaim := { program := "ytbhinjhjjgcalaadoor", sum := "da059f96e1283a24a2e44269f17daa4d3060ac96e2d0f693d6b72bac24451a39", func := "cotter/cotterlaw09.AsmtextBack", spec := "asmtextBack", inPlace := ["internal/bytealg.IndexByteString", "internal/bytealg.IndexString", "internal/abi.NoEscape", "internal/bytealg.MakeNoZero"], unfollowed := true, recurses := true, named := ["unicode/utf8.first", "unicode/utf8.acceptRanges", "internal/bytealg.MaxLen", "cotter/asmtext.lines", "strconv.ErrSyntax", "strconv.ErrRange", "internal/strconv.uint64pow10", "math/bits.deBruijn32tab", "math/bits.deBruijn64tab"], apart := false, laid := [("math/bits.deBruijn32tab", laid_math_bits_deBruijn32tab), ("math/bits.deBruijn64tab", laid_math_bits_deBruijn64tab), ("internal/strconv.uint64pow10", laid_internal_strconv_uint64pow10), ("unicode/utf8.acceptRanges", laid_unicode_utf8_acceptRanges), ("strconv.ErrRange", laid_strconv_ErrRange), ("strconv.ErrSyntax", laid_strconv_ErrSyntax), ("cotter/asmtext.lines", laid_cotter_asmtext_lines), ("unicode/utf8.first", laid_unicode_utf8_first)], narrowed := true }
def AsmtextBackUptoSaid : Prop := asmtextBackUptoRow.holds Tryd.pinned (OpenSpec.upto asmtextBackSpec)

/-- 'cotterlaw09.AsmtextJoined', WHERE WHAT IT READS IS OF BULK AT MOST 1048576: true; the input reads as it did. -/
def asmtextJoinedUptoRow : OpenClaim := { program := "ytbhinjhjjgcalaadoor", sum := "da059f96e1283a24a2e44269f17daa4d3060ac96e2d0f693d6b72bac24451a39", func := "cotter/cotterlaw09.AsmtextJoined", spec := "asmtextJoined", inPlace := ["internal/bytealg.IndexByteString", "internal/bytealg.IndexString", "internal/abi.NoEscape", "internal/bytealg.MakeNoZero"], unfollowed := true, recurses := true, named := ["unicode/utf8.first", "unicode/utf8.acceptRanges", "internal/bytealg.MaxLen", "cotter/asmtext.lines", "strconv.ErrSyntax", "strconv.ErrRange", "internal/strconv.uint64pow10", "math/bits.deBruijn32tab", "math/bits.deBruijn64tab"], apart := false, laid := [("math/bits.deBruijn32tab", laid_math_bits_deBruijn32tab), ("math/bits.deBruijn64tab", laid_math_bits_deBruijn64tab), ("internal/strconv.uint64pow10", laid_internal_strconv_uint64pow10), ("unicode/utf8.acceptRanges", laid_unicode_utf8_acceptRanges), ("strconv.ErrRange", laid_strconv_ErrRange), ("strconv.ErrSyntax", laid_strconv_ErrSyntax), ("cotter/asmtext.lines", laid_cotter_asmtext_lines), ("unicode/utf8.first", laid_unicode_utf8_first)], narrowed := true }
def AsmtextJoinedUptoSaid : Prop := asmtextJoinedUptoRow.holds Tryd.pinned (OpenSpec.upto asmtextJoinedSpec)

/-- 'cotterlaw09.AsmtextNotes', WHERE WHAT IT READS IS OF BULK AT MOST 1048576: true; the input reads as it did. -/
def asmtextNotesUptoRow : OpenClaim := { program := "ytbhinjhjjgcalaadoor", sum := "da059f96e1283a24a2e44269f17daa4d3060ac96e2d0f693d6b72bac24451a39", func := "cotter/cotterlaw09.AsmtextNotes", spec := "asmtextNotes", inPlace := ["internal/bytealg.IndexByteString", "internal/bytealg.IndexString", "internal/abi.NoEscape", "internal/bytealg.MakeNoZero"], unfollowed := true, recurses := true, named := ["unicode/utf8.first", "unicode/utf8.acceptRanges", "internal/bytealg.MaxLen", "cotter/asmtext.lines", "strconv.ErrSyntax", "strconv.ErrRange", "internal/strconv.uint64pow10", "math/bits.deBruijn32tab", "math/bits.deBruijn64tab"], apart := false, laid := [("math/bits.deBruijn32tab", laid_math_bits_deBruijn32tab), ("math/bits.deBruijn64tab", laid_math_bits_deBruijn64tab), ("internal/strconv.uint64pow10", laid_internal_strconv_uint64pow10), ("unicode/utf8.acceptRanges", laid_unicode_utf8_acceptRanges), ("strconv.ErrRange", laid_strconv_ErrRange), ("strconv.ErrSyntax", laid_strconv_ErrSyntax), ("cotter/asmtext.lines", laid_cotter_asmtext_lines), ("unicode/utf8.first", laid_unicode_utf8_first)], narrowed := true }
def AsmtextNotesUptoSaid : Prop := asmtextNotesUptoRow.holds Tryd.pinned (OpenSpec.upto asmtextNotesSpec)

/-- 'cotterlaw09.AsmtextApart', WHERE WHAT IT READS IS OF BULK AT MOST 1048576: true; the input reads as it did. -/
def asmtextApartUptoRow : OpenClaim := { program := "ytbhinjhjjgcalaadoor", sum := "da059f96e1283a24a2e44269f17daa4d3060ac96e2d0f693d6b72bac24451a39", func := "cotter/cotterlaw09.AsmtextApart", spec := "asmtextApart", inPlace := ["internal/bytealg.IndexByteString", "internal/bytealg.IndexString", "internal/abi.NoEscape", "internal/bytealg.MakeNoZero"], unfollowed := true, recurses := true, named := ["unicode/utf8.first", "unicode/utf8.acceptRanges", "internal/bytealg.MaxLen", "cotter/asmtext.lines", "strconv.ErrSyntax", "strconv.ErrRange", "internal/strconv.uint64pow10", "math/bits.deBruijn32tab", "math/bits.deBruijn64tab"], apart := false, laid := [("math/bits.deBruijn32tab", laid_math_bits_deBruijn32tab), ("math/bits.deBruijn64tab", laid_math_bits_deBruijn64tab), ("internal/strconv.uint64pow10", laid_internal_strconv_uint64pow10), ("unicode/utf8.acceptRanges", laid_unicode_utf8_acceptRanges), ("strconv.ErrRange", laid_strconv_ErrRange), ("strconv.ErrSyntax", laid_strconv_ErrSyntax), ("cotter/asmtext.lines", laid_cotter_asmtext_lines), ("unicode/utf8.first", laid_unicode_utf8_first)], narrowed := true }
def AsmtextApartUptoSaid : Prop := asmtextApartUptoRow.holds Tryd.pinned (OpenSpec.upto asmtextApartSpec)

/-- 'cotterlaw10.AsmMay', WHERE WHAT IT READS IS OF BULK AT MOST 1048576: true; the input reads as it did. -/
def asmMayUptoRow : OpenClaim := { program := "ytbhinjhjjgcalaadoor", sum := "da059f96e1283a24a2e44269f17daa4d3060ac96e2d0f693d6b72bac24451a39", func := "cotter/cotterlaw10.AsmMay", spec := "asmMay", inPlace := ["internal/bytealg.IndexByteString", "internal/bytealg.IndexString"], unfollowed := true, recurses := true, named := ["unicode/utf8.first", "unicode/utf8.acceptRanges", "internal/bytealg.MaxLen", "cotter/asmtext.lines", "strconv.ErrSyntax", "strconv.ErrRange", "internal/strconv.uint64pow10", "math/bits.deBruijn32tab", "math/bits.deBruijn64tab", "cotter/ins.shapes"], apart := false, laid := [("math/bits.deBruijn32tab", laid_math_bits_deBruijn32tab), ("math/bits.deBruijn64tab", laid_math_bits_deBruijn64tab), ("internal/strconv.uint64pow10", laid_internal_strconv_uint64pow10), ("unicode/utf8.acceptRanges", laid_unicode_utf8_acceptRanges), ("cotter/ins.shapes", laid_cotter_ins_shapes), ("strconv.ErrRange", laid_strconv_ErrRange), ("strconv.ErrSyntax", laid_strconv_ErrSyntax), ("cotter/asmtext.lines", laid_cotter_asmtext_lines), ("unicode/utf8.first", laid_unicode_utf8_first)], narrowed := true }
def AsmMayUptoSaid : Prop := asmMayUptoRow.holds Tryd.pinned (OpenSpec.upto asmMaySpec)

/-- 'cotterlaw10.AsmUnnamed', WHERE WHAT IT READS IS OF BULK AT MOST 1048576: true; the input reads as it did. -/
def asmUnnamedUptoRow : OpenClaim := { program := "ytbhinjhjjgcalaadoor", sum := "da059f96e1283a24a2e44269f17daa4d3060ac96e2d0f693d6b72bac24451a39", func := "cotter/cotterlaw10.AsmUnnamed", spec := "asmUnnamed", inPlace := ["internal/bytealg.IndexByteString", "internal/bytealg.IndexString"], unfollowed := true, recurses := true, named := ["unicode/utf8.first", "unicode/utf8.acceptRanges", "internal/bytealg.MaxLen", "cotter/asmtext.lines", "strconv.ErrSyntax", "strconv.ErrRange", "internal/strconv.uint64pow10", "math/bits.deBruijn32tab", "math/bits.deBruijn64tab", "cotter/ins.shapes"], apart := false, laid := [("math/bits.deBruijn32tab", laid_math_bits_deBruijn32tab), ("math/bits.deBruijn64tab", laid_math_bits_deBruijn64tab), ("internal/strconv.uint64pow10", laid_internal_strconv_uint64pow10), ("unicode/utf8.acceptRanges", laid_unicode_utf8_acceptRanges), ("cotter/ins.shapes", laid_cotter_ins_shapes), ("strconv.ErrRange", laid_strconv_ErrRange), ("strconv.ErrSyntax", laid_strconv_ErrSyntax), ("cotter/asmtext.lines", laid_cotter_asmtext_lines), ("unicode/utf8.first", laid_unicode_utf8_first)], narrowed := true }
def AsmUnnamedUptoSaid : Prop := asmUnnamedUptoRow.holds Tryd.pinned (OpenSpec.upto asmUnnamedSpec)

/-- 'cotterlaw10.AsmNames', WHERE WHAT IT READS IS OF BULK AT MOST 1048576: true; the input reads as it did. -/
def asmNamesUptoRow : OpenClaim := { program := "ytbhinjhjjgcalaadoor", sum := "da059f96e1283a24a2e44269f17daa4d3060ac96e2d0f693d6b72bac24451a39", func := "cotter/cotterlaw10.AsmNames", spec := "asmNames", inPlace := ["internal/bytealg.IndexByteString", "internal/bytealg.IndexString"], unfollowed := true, recurses := true, named := ["unicode/utf8.first", "unicode/utf8.acceptRanges", "internal/bytealg.MaxLen", "cotter/asmtext.lines", "strconv.ErrSyntax", "strconv.ErrRange", "internal/strconv.uint64pow10", "math/bits.deBruijn32tab", "math/bits.deBruijn64tab", "cotter/ins.shapes"], apart := false, laid := [("math/bits.deBruijn32tab", laid_math_bits_deBruijn32tab), ("math/bits.deBruijn64tab", laid_math_bits_deBruijn64tab), ("internal/strconv.uint64pow10", laid_internal_strconv_uint64pow10), ("unicode/utf8.acceptRanges", laid_unicode_utf8_acceptRanges), ("cotter/ins.shapes", laid_cotter_ins_shapes), ("strconv.ErrRange", laid_strconv_ErrRange), ("strconv.ErrSyntax", laid_strconv_ErrSyntax), ("cotter/asmtext.lines", laid_cotter_asmtext_lines), ("unicode/utf8.first", laid_unicode_utf8_first)], narrowed := true }
def AsmNamesUptoSaid : Prop := asmNamesUptoRow.holds Tryd.pinned (OpenSpec.upto asmNamesSpec)

/-- 'cotterlaw10.AsmShort', WHERE WHAT IT READS IS OF BULK AT MOST 1048576: true; the input reads as it did. -/
def asmShortUptoRow : OpenClaim := { program := "ytbhinjhjjgcalaadoor", sum := "da059f96e1283a24a2e44269f17daa4d3060ac96e2d0f693d6b72bac24451a39", func := "cotter/cotterlaw10.AsmShort", spec := "asmShort", inPlace := ["internal/bytealg.IndexByteString", "internal/bytealg.IndexString"], unfollowed := true, recurses := true, named := ["unicode/utf8.first", "unicode/utf8.acceptRanges", "internal/bytealg.MaxLen", "cotter/asmtext.lines", "strconv.ErrSyntax", "strconv.ErrRange", "internal/strconv.uint64pow10", "math/bits.deBruijn32tab", "math/bits.deBruijn64tab", "cotter/ins.shapes"], apart := false, laid := [("math/bits.deBruijn32tab", laid_math_bits_deBruijn32tab), ("math/bits.deBruijn64tab", laid_math_bits_deBruijn64tab), ("internal/strconv.uint64pow10", laid_internal_strconv_uint64pow10), ("unicode/utf8.acceptRanges", laid_unicode_utf8_acceptRanges), ("cotter/ins.shapes", laid_cotter_ins_shapes), ("strconv.ErrRange", laid_strconv_ErrRange), ("strconv.ErrSyntax", laid_strconv_ErrSyntax), ("cotter/asmtext.lines", laid_cotter_asmtext_lines), ("unicode/utf8.first", laid_unicode_utf8_first)], narrowed := true }
def AsmShortUptoSaid : Prop := asmShortUptoRow.holds Tryd.pinned (OpenSpec.upto asmShortSpec)

end Rows
end Go.Proofs.YtbhinjhjjgcalaaDoor
