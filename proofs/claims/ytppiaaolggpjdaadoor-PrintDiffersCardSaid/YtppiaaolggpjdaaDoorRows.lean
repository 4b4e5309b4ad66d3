/-
  NARROWER THAN 'FOR EVERY INPUT', by the rows' own cells (each row's printed sentence says how): SyntaxExprs: loops, laid · ScopeTypes: loops, laid · ValueForms: laid · ValueCompares: laid · TokenPlaces: laid · TokenTexts: laid · PrintDiffers: laid.
  DERIVED. THE GIVEN ROWS OF THIS SEAT. 7 by the template 'for every input the law returns true; each argument reads behind the call as it read before'; 0 by the template 'total and deterministic' (their statements: YtppiaaolggpjdaaDoorTotals.lean).
  GIVEN WITH THE SEED: the statements are not yours to turn. If you find one false, say at which input.
  Laid BY PROGRAM, IN A SANDBOX (cutbox-rows.mjs): the forced cells as the released guide's own fill.sh prints them over the translation fc0b7566f8522ec4… (all of the seat's roots in one cut). By AI agents, Wed Nov 11 2026. No macro, syntax, notation, axiom, sorry.
-/
import Derived.Test.YtppiaaolggpjdaaDoorChecked
import GoSem.PinnedTables
import GoSem.Claim
import GoSem.ClaimJoined
import GoSem.ClaimMapViews
import Derived.JoinedTies
import Derived.KernelRfl
namespace Go.Proofs.YtppiaaolggpjdaaDoor
/- THE CELL 'sum', in the pinned program and in every row, IS THE sha256 OF THE DUMP (.gsa) THAT YtppiaaolggpjdaaDoorProg.lean LOADS. Nothing in Lean hashes anything: it is a label: what it is worth is what the hold of that sum in a sandbox is worth. -/
noncomputable def Tryd.pinned : Pinned := { name := "ytppiaaolggpjdaadoor", sum := "fc0b7566f8522ec49c24c8803b905fdd77bf8e311262cabfc7765b4a7df36dba", checked := Tryd.checked }
namespace Rows
def none {H : Type} : Left H := { results := [], args := [] }

/- WHAT THE LISTED PACKAGE-LEVEL VARIABLES READ AS WHEN THE CALL BEGINS. Each datum BY PROGRAM (the guide's laid-datum.mjs) off the statement by which the dump's own 'gosem.cut.vars' lays the variable. In a bare row this is a premise. The card (YtppiaaolggpjdaaDoorCards.lean) ties it to the program's text. -/
def laid_triggerstore_triggerstoreworld_words {H : Type} : DataW H := .agg [.lit (.string []), .lit (.string [97]), .lit (.string [98]), .lit (.string [105, 116, 39, 115]), .lit (.string [90, 32, 122]), .lit (.string [126])]
def laid_triggerstore_triggerstoreworld_names {H : Type} : DataW H := .agg [.lit (.string [105, 100]), .lit (.string [110]), .lit (.string [109]), .lit (.string [98]), .lit (.string [115]), .lit (.string [120]), .lit (.string [97, 49, 95]), .lit (.string [97, 98, 99, 100, 101, 102, 103, 104, 105, 106, 107, 108])]
def laid_math_bits_deBruijn32tab {H : Type} : DataW H := .agg [.lit (.int .u8 0), .lit (.int .u8 1), .lit (.int .u8 28), .lit (.int .u8 2), .lit (.int .u8 29), .lit (.int .u8 14), .lit (.int .u8 24), .lit (.int .u8 3), .lit (.int .u8 30), .lit (.int .u8 22), .lit (.int .u8 20), .lit (.int .u8 15), .lit (.int .u8 25), .lit (.int .u8 17), .lit (.int .u8 4), .lit (.int .u8 8), .lit (.int .u8 31), .lit (.int .u8 27), .lit (.int .u8 13), .lit (.int .u8 23), .lit (.int .u8 21), .lit (.int .u8 19), .lit (.int .u8 16), .lit (.int .u8 7), .lit (.int .u8 26), .lit (.int .u8 12), .lit (.int .u8 18), .lit (.int .u8 6), .lit (.int .u8 11), .lit (.int .u8 5), .lit (.int .u8 10), .lit (.int .u8 9)]
def laid_math_bits_deBruijn64tab {H : Type} : DataW H := .agg [.lit (.int .u8 0), .lit (.int .u8 1), .lit (.int .u8 56), .lit (.int .u8 2), .lit (.int .u8 57), .lit (.int .u8 49), .lit (.int .u8 28), .lit (.int .u8 3), .lit (.int .u8 61), .lit (.int .u8 58), .lit (.int .u8 42), .lit (.int .u8 50), .lit (.int .u8 38), .lit (.int .u8 29), .lit (.int .u8 17), .lit (.int .u8 4), .lit (.int .u8 62), .lit (.int .u8 47), .lit (.int .u8 59), .lit (.int .u8 36), .lit (.int .u8 45), .lit (.int .u8 43), .lit (.int .u8 51), .lit (.int .u8 22), .lit (.int .u8 53), .lit (.int .u8 39), .lit (.int .u8 33), .lit (.int .u8 30), .lit (.int .u8 24), .lit (.int .u8 18), .lit (.int .u8 12), .lit (.int .u8 5), .lit (.int .u8 63), .lit (.int .u8 55), .lit (.int .u8 48), .lit (.int .u8 27), .lit (.int .u8 60), .lit (.int .u8 41), .lit (.int .u8 37), .lit (.int .u8 16), .lit (.int .u8 46), .lit (.int .u8 35), .lit (.int .u8 44), .lit (.int .u8 21), .lit (.int .u8 52), .lit (.int .u8 32), .lit (.int .u8 23), .lit (.int .u8 11), .lit (.int .u8 54), .lit (.int .u8 26), .lit (.int .u8 40), .lit (.int .u8 15), .lit (.int .u8 34), .lit (.int .u8 20), .lit (.int .u8 31), .lit (.int .u8 10), .lit (.int .u8 25), .lit (.int .u8 14), .lit (.int .u8 19), .lit (.int .u8 9), .lit (.int .u8 13), .lit (.int .u8 8), .lit (.int .u8 7), .lit (.int .u8 6)]
def laid_internal_strconv_uint64pow10 {H : Type} : DataW H := .agg [.lit (.int .u64 1), .lit (.int .u64 10), .lit (.int .u64 100), .lit (.int .u64 1000), .lit (.int .u64 10000), .lit (.int .u64 100000), .lit (.int .u64 1000000), .lit (.int .u64 10000000), .lit (.int .u64 100000000), .lit (.int .u64 1000000000), .lit (.int .u64 10000000000), .lit (.int .u64 100000000000), .lit (.int .u64 1000000000000), .lit (.int .u64 10000000000000), .lit (.int .u64 100000000000000), .lit (.int .u64 1000000000000000), .lit (.int .u64 10000000000000000), .lit (.int .u64 100000000000000000), .lit (.int .u64 1000000000000000000), .lit (.int .u64 10000000000000000000)]
def laid_unicode_utf8_acceptRanges {H : Type} : DataW H := .agg [.agg [.lit (.int .u8 128), .lit (.int .u8 191)], .agg [.lit (.int .u8 160), .lit (.int .u8 191)], .agg [.lit (.int .u8 128), .lit (.int .u8 159)], .agg [.lit (.int .u8 144), .lit (.int .u8 191)], .agg [.lit (.int .u8 128), .lit (.int .u8 143)], .agg [.lit (.int .u8 0), .lit (.int .u8 0)], .agg [.lit (.int .u8 0), .lit (.int .u8 0)], .agg [.lit (.int .u8 0), .lit (.int .u8 0)], .agg [.lit (.int .u8 0), .lit (.int .u8 0)], .agg [.lit (.int .u8 0), .lit (.int .u8 0)], .agg [.lit (.int .u8 0), .lit (.int .u8 0)], .agg [.lit (.int .u8 0), .lit (.int .u8 0)], .agg [.lit (.int .u8 0), .lit (.int .u8 0)], .agg [.lit (.int .u8 0), .lit (.int .u8 0)], .agg [.lit (.int .u8 0), .lit (.int .u8 0)], .agg [.lit (.int .u8 0), .lit (.int .u8 0)]]
/-- One of Go's own tables, pinned by name: the form's constant. -/
def laid_unicode_utf8_first : DataW Unit := Go.Pinned.utf8First
def laid_strconv_ErrRange {H : Type} : DataW H := .iface "*errors.errorString" (.ptr (.agg [.lit (.string [118, 97, 108, 117, 101, 32, 111, 117, 116, 32, 111, 102, 32, 114, 97, 110, 103, 101])]))
def laid_strconv_ErrSyntax {H : Type} : DataW H := .iface "*errors.errorString" (.ptr (.agg [.lit (.string [105, 110, 118, 97, 108, 105, 100, 32, 115, 121, 110, 116, 97, 120])]))
def laid_triggerstore_triggerstorelaw10_bits {H : Type} : DataW H := .agg [.lit (.string [97]), .lit (.string [48]), .lit (.string [49, 50]), .lit (.string [48, 48]), .lit (.string [57, 50, 50, 51, 51, 55, 50, 48, 51, 54, 56, 53, 52, 55, 55, 53, 56, 48, 55]), .lit (.string [57, 50, 50, 51, 51, 55, 50, 48, 51, 54, 56, 53, 52, 55, 55, 53, 56, 48, 56]), .lit (.string [39]), .lit (.string [39, 39]), .lit (.string [60]), .lit (.string [62]), .lit (.string [61]), .lit (.string [83, 69, 76, 69, 67, 84]), .lit (.string [115, 101, 108, 101, 99, 116]), .lit (.string [32]), .lit (.string [10]), .lit (.string [120, 95, 57]), .lit (.string [45]), .lit (.string [40]), .lit (.string [66]), .lit (.string [46])]

/-- 'triggerstorelaw11.SyntaxExprs': WHATEVER THE INPUT: true; the input reads as it did. -/
def syntaxExprsSpec : ChangeSpec := { name := "syntaxExprs", fn := fun _ => fun
  | [d1, d2] => { results := [.lit (.bool true)], args := [d1, d2] }
  | _ => none }
def syntaxExprsRow : OpenClaim := { program := "ytppiaaolggpjdaadoor", sum := "fc0b7566f8522ec49c24c8803b905fdd77bf8e311262cabfc7765b4a7df36dba", func := "triggerstore/triggerstorelaw11.SyntaxExprs", spec := "syntaxExprs", unfollowed := true, recurses := true, named := ["triggerstore/triggerstoreworld.names", "triggerstore/triggerstoreworld.words"], loops := true, apart := false, laid := [("triggerstore/triggerstoreworld.words", laid_triggerstore_triggerstoreworld_words), ("triggerstore/triggerstoreworld.names", laid_triggerstore_triggerstoreworld_names)] }
def SyntaxExprsSaid : Prop := syntaxExprsRow.holds Tryd.pinned (OpenSpec.ofChange syntaxExprsSpec)

/-- ITS FALSE NEIGHBOUR: 'it returns false'. Refute it at one input. -/
def syntaxExprsWrong : ChangeSpec := { name := "syntaxExprs", fn := fun _ => fun
  | [d1, d2] => { results := [.lit (.bool false)], args := [d1, d2] }
  | _ => none }
def SyntaxExprsWrongFalsely : Prop := syntaxExprsRow.holds Tryd.pinned (OpenSpec.ofChange syntaxExprsWrong)

/-- 'triggerstorelaw14.ScopeTypes': WHATEVER THE INPUT: true; the input reads as it did. -/
def scopeTypesSpec : ChangeSpec := { name := "scopeTypes", fn := fun _ => fun
  | [d1, d2, d3] => { results := [.lit (.bool true)], args := [d1, d2, d3] }
  | _ => none }
def scopeTypesRow : OpenClaim := { program := "ytppiaaolggpjdaadoor", sum := "fc0b7566f8522ec49c24c8803b905fdd77bf8e311262cabfc7765b4a7df36dba", func := "triggerstore/triggerstorelaw14.ScopeTypes", spec := "scopeTypes", unfollowed := true, recurses := true, named := ["triggerstore/triggerstoreworld.words", "triggerstore/triggerstoreworld.names"], loops := true, apart := false, laid := [("triggerstore/triggerstoreworld.words", laid_triggerstore_triggerstoreworld_words), ("triggerstore/triggerstoreworld.names", laid_triggerstore_triggerstoreworld_names)] }
def ScopeTypesSaid : Prop := scopeTypesRow.holds Tryd.pinned (OpenSpec.ofChange scopeTypesSpec)

/-- ITS FALSE NEIGHBOUR: 'it returns false'. Refute it at one input. -/
def scopeTypesWrong : ChangeSpec := { name := "scopeTypes", fn := fun _ => fun
  | [d1, d2, d3] => { results := [.lit (.bool false)], args := [d1, d2, d3] }
  | _ => none }
def ScopeTypesWrongFalsely : Prop := scopeTypesRow.holds Tryd.pinned (OpenSpec.ofChange scopeTypesWrong)

/-- 'triggerstorelaw1.ValueForms': WHATEVER THE INPUT: true; the input reads as it did. -/
def valueFormsSpec : ChangeSpec := { name := "valueForms", fn := fun _ => fun
  | [d1, d2, d3, d4] => { results := [.lit (.bool true)], args := [d1, d2, d3, d4] }
  | _ => none }
def valueFormsRow : OpenClaim := { program := "ytppiaaolggpjdaadoor", sum := "fc0b7566f8522ec49c24c8803b905fdd77bf8e311262cabfc7765b4a7df36dba", func := "triggerstore/triggerstorelaw1.ValueForms", spec := "valueForms", inPlace := ["internal/bytealg.CountString", "internal/bytealg.IndexByteString", "internal/bytealg.IndexString", "internal/abi.NoEscape", "internal/bytealg.MakeNoZero"], named := ["triggerstore/triggerstoreworld.words", "internal/strconv.uint64pow10", "math/bits.deBruijn32tab", "math/bits.deBruijn64tab", "internal/bytealg.MaxLen", "unicode/utf8.first", "unicode/utf8.acceptRanges"], apart := false, laid := [("math/bits.deBruijn32tab", laid_math_bits_deBruijn32tab), ("math/bits.deBruijn64tab", laid_math_bits_deBruijn64tab), ("internal/strconv.uint64pow10", laid_internal_strconv_uint64pow10), ("unicode/utf8.acceptRanges", laid_unicode_utf8_acceptRanges), ("triggerstore/triggerstoreworld.words", laid_triggerstore_triggerstoreworld_words), ("unicode/utf8.first", laid_unicode_utf8_first)] }
def ValueFormsSaid : Prop := valueFormsRow.holds Tryd.pinned (OpenSpec.ofChange valueFormsSpec)

/-- ITS FALSE NEIGHBOUR: 'it returns false'. Refute it at one input. -/
def valueFormsWrong : ChangeSpec := { name := "valueForms", fn := fun _ => fun
  | [d1, d2, d3, d4] => { results := [.lit (.bool false)], args := [d1, d2, d3, d4] }
  | _ => none }
def ValueFormsWrongFalsely : Prop := valueFormsRow.holds Tryd.pinned (OpenSpec.ofChange valueFormsWrong)

/-- 'triggerstorelaw1.ValueCompares': WHATEVER THE INPUT: true; the input reads as it did. -/
def valueComparesSpec : ChangeSpec := { name := "valueCompares", fn := fun _ => fun
  | [d1, d2, d3, d4, d5] => { results := [.lit (.bool true)], args := [d1, d2, d3, d4, d5] }
  | _ => none }
def valueComparesRow : OpenClaim := { program := "ytppiaaolggpjdaadoor", sum := "fc0b7566f8522ec49c24c8803b905fdd77bf8e311262cabfc7765b4a7df36dba", func := "triggerstore/triggerstorelaw1.ValueCompares", spec := "valueCompares", inPlace := ["internal/bytealg.abigen_runtime_cmpstring", "internal/bytealg.CountString", "internal/bytealg.IndexByteString", "internal/bytealg.IndexString", "internal/abi.NoEscape", "internal/bytealg.MakeNoZero"], named := ["triggerstore/triggerstoreworld.words", "internal/strconv.uint64pow10", "math/bits.deBruijn32tab", "math/bits.deBruijn64tab", "internal/bytealg.MaxLen", "unicode/utf8.first", "unicode/utf8.acceptRanges"], apart := false, laid := [("math/bits.deBruijn32tab", laid_math_bits_deBruijn32tab), ("math/bits.deBruijn64tab", laid_math_bits_deBruijn64tab), ("internal/strconv.uint64pow10", laid_internal_strconv_uint64pow10), ("unicode/utf8.acceptRanges", laid_unicode_utf8_acceptRanges), ("triggerstore/triggerstoreworld.words", laid_triggerstore_triggerstoreworld_words), ("unicode/utf8.first", laid_unicode_utf8_first)] }
def ValueComparesSaid : Prop := valueComparesRow.holds Tryd.pinned (OpenSpec.ofChange valueComparesSpec)

/-- ITS FALSE NEIGHBOUR: 'it returns false'. Refute it at one input. -/
def valueComparesWrong : ChangeSpec := { name := "valueCompares", fn := fun _ => fun
  | [d1, d2, d3, d4, d5] => { results := [.lit (.bool false)], args := [d1, d2, d3, d4, d5] }
  | _ => none }
def ValueComparesWrongFalsely : Prop := valueComparesRow.holds Tryd.pinned (OpenSpec.ofChange valueComparesWrong)

/-- 'triggerstorelaw10.TokenPlaces': WHATEVER THE INPUT: true; the input reads as it did. -/
def tokenPlacesSpec : ChangeSpec := { name := "tokenPlaces", fn := fun _ => fun
  | [d1, d2] => { results := [.lit (.bool true)], args := [d1, d2] }
  | _ => none }
def tokenPlacesRow : OpenClaim := { program := "ytppiaaolggpjdaadoor", sum := "fc0b7566f8522ec49c24c8803b905fdd77bf8e311262cabfc7765b4a7df36dba", func := "triggerstore/triggerstorelaw10.TokenPlaces", spec := "tokenPlaces", inPlace := ["internal/abi.NoEscape", "internal/bytealg.IndexByteString"], named := ["triggerstore/triggerstorelaw10.bits", "strconv.ErrSyntax", "strconv.ErrRange", "internal/strconv.uint64pow10", "math/bits.deBruijn32tab", "math/bits.deBruijn64tab"], apart := false, laid := [("math/bits.deBruijn32tab", laid_math_bits_deBruijn32tab), ("math/bits.deBruijn64tab", laid_math_bits_deBruijn64tab), ("internal/strconv.uint64pow10", laid_internal_strconv_uint64pow10), ("strconv.ErrRange", laid_strconv_ErrRange), ("strconv.ErrSyntax", laid_strconv_ErrSyntax), ("triggerstore/triggerstorelaw10.bits", laid_triggerstore_triggerstorelaw10_bits)] }
def TokenPlacesSaid : Prop := tokenPlacesRow.holds Tryd.pinned (OpenSpec.ofChange tokenPlacesSpec)

/-- ITS FALSE NEIGHBOUR: 'it returns false'. Refute it at one input. -/
def tokenPlacesWrong : ChangeSpec := { name := "tokenPlaces", fn := fun _ => fun
  | [d1, d2] => { results := [.lit (.bool false)], args := [d1, d2] }
  | _ => none }
def TokenPlacesWrongFalsely : Prop := tokenPlacesRow.holds Tryd.pinned (OpenSpec.ofChange tokenPlacesWrong)

/-- 'triggerstorelaw10.TokenTexts': WHATEVER THE INPUT: true; the input reads as it did. -/
def tokenTextsSpec : ChangeSpec := { name := "tokenTexts", fn := fun _ => fun
  | [d1, d2] => { results := [.lit (.bool true)], args := [d1, d2] }
  | _ => none }
def tokenTextsRow : OpenClaim := { program := "ytppiaaolggpjdaadoor", sum := "fc0b7566f8522ec49c24c8803b905fdd77bf8e311262cabfc7765b4a7df36dba", func := "triggerstore/triggerstorelaw10.TokenTexts", spec := "tokenTexts", inPlace := ["internal/bytealg.CountString", "internal/bytealg.IndexByteString", "internal/bytealg.IndexString", "internal/abi.NoEscape", "internal/bytealg.MakeNoZero"], named := ["internal/strconv.uint64pow10", "math/bits.deBruijn32tab", "math/bits.deBruijn64tab", "internal/bytealg.MaxLen", "unicode/utf8.first", "unicode/utf8.acceptRanges", "strconv.ErrSyntax", "strconv.ErrRange"], apart := false, laid := [("math/bits.deBruijn32tab", laid_math_bits_deBruijn32tab), ("math/bits.deBruijn64tab", laid_math_bits_deBruijn64tab), ("internal/strconv.uint64pow10", laid_internal_strconv_uint64pow10), ("unicode/utf8.acceptRanges", laid_unicode_utf8_acceptRanges), ("strconv.ErrRange", laid_strconv_ErrRange), ("strconv.ErrSyntax", laid_strconv_ErrSyntax), ("unicode/utf8.first", laid_unicode_utf8_first)] }
def TokenTextsSaid : Prop := tokenTextsRow.holds Tryd.pinned (OpenSpec.ofChange tokenTextsSpec)

/-- ITS FALSE NEIGHBOUR: 'it returns false'. Refute it at one input. -/
def tokenTextsWrong : ChangeSpec := { name := "tokenTexts", fn := fun _ => fun
  | [d1, d2] => { results := [.lit (.bool false)], args := [d1, d2] }
  | _ => none }
def TokenTextsWrongFalsely : Prop := tokenTextsRow.holds Tryd.pinned (OpenSpec.ofChange tokenTextsWrong)

/-- 'triggerstorelaw12.PrintDiffers': WHATEVER THE INPUT: true; the input reads as it did. -/
def printDiffersSpec : ChangeSpec := { name := "printDiffers", fn := fun _ => fun
  | [d] => { results := [.lit (.bool true)], args := [d] }
  | _ => none }
def printDiffersRow : OpenClaim := { program := "ytppiaaolggpjdaadoor", sum := "fc0b7566f8522ec49c24c8803b905fdd77bf8e311262cabfc7765b4a7df36dba", func := "triggerstore/triggerstorelaw12.PrintDiffers", spec := "printDiffers", inPlace := ["internal/bytealg.CountString", "internal/bytealg.IndexByteString", "internal/bytealg.IndexString", "internal/abi.NoEscape", "internal/bytealg.MakeNoZero"], unfollowed := true, recurses := true, named := ["triggerstore/triggerstoreworld.names", "triggerstore/triggerstoreworld.words", "internal/strconv.uint64pow10", "math/bits.deBruijn32tab", "math/bits.deBruijn64tab", "internal/bytealg.MaxLen", "unicode/utf8.first", "unicode/utf8.acceptRanges"], apart := false, laid := [("math/bits.deBruijn32tab", laid_math_bits_deBruijn32tab), ("math/bits.deBruijn64tab", laid_math_bits_deBruijn64tab), ("internal/strconv.uint64pow10", laid_internal_strconv_uint64pow10), ("unicode/utf8.acceptRanges", laid_unicode_utf8_acceptRanges), ("triggerstore/triggerstoreworld.words", laid_triggerstore_triggerstoreworld_words), ("triggerstore/triggerstoreworld.names", laid_triggerstore_triggerstoreworld_names), ("unicode/utf8.first", laid_unicode_utf8_first)] }
def PrintDiffersSaid : Prop := printDiffersRow.holds Tryd.pinned (OpenSpec.ofChange printDiffersSpec)

/-- ITS FALSE NEIGHBOUR: 'it returns false'. Refute it at one input. -/
def printDiffersWrong : ChangeSpec := { name := "printDiffers", fn := fun _ => fun
  | [d] => { results := [.lit (.bool false)], args := [d] }
  | _ => none }
def PrintDiffersWrongFalsely : Prop := printDiffersRow.holds Tryd.pinned (OpenSpec.ofChange printDiffersWrong)

/- THE SECOND FORM. 'bulk': how many values and letters a reading holds, each counted each time it is reached (what is shared counts as often as it is met; a slice's spare places count too). A statement '..UptoSaid' is the law's where the arguments, and the package variables that the reading takes, are together of bulk at most 1048576: NARROWER than '..Said'. Prove '..Said' where nothing that the law and all that it calls make is longer than what came in: it says more and counts as full. Else prove '..UptoSaid'. A law counts once. -/
mutual
def uptoBulk {H : Type} : DataW H → Nat
  | .lit (.string bytes) => bytes.length + 1
  | .lit _ => 1
  | .nil => 1
  | .ptr d => uptoBulk d + 1
  | .slice elems spare => uptoBulkAll elems + uptoBulkAll spare + 1
  | .agg parts => uptoBulkAll parts + 1
  | .iface _ d => uptoBulk d + 1
  | .map entries => uptoBulkEntries entries + 1
  | .held _ => 1
def uptoBulkAll {H : Type} : List (DataW H) → Nat
  | [] => 0
  | d :: r => uptoBulk d + uptoBulkAll r
def uptoBulkEntries {H : Type} : List (Lit × DataW H) → Nat
  | [] => 0
  | x :: r => uptoBulkEntry x + uptoBulkEntries r
def uptoBulkEntry {H : Type} : Lit × DataW H → Nat
  | (.string bytes, d) => bytes.length + uptoBulk d + 1
  | (_, d) => uptoBulk d + 1
 end
def uptoSmall : (H : Type) → List (DataW H) → Bool := fun _ ds => decide (uptoBulkAll ds ≤ 1048576)
def OpenSpec.upto (s : _root_.Go.ChangeSpec) : _root_.Go.OpenSpec := { _root_.Go.OpenSpec.ofChange s with cond := some uptoSmall }

/-- 'triggerstorelaw11.SyntaxExprs', WHERE WHAT IT READS IS OF BULK AT MOST 1048576: true; the input reads as it did. -/
def syntaxExprsUptoRow : OpenClaim := { program := "ytppiaaolggpjdaadoor", sum := "fc0b7566f8522ec49c24c8803b905fdd77bf8e311262cabfc7765b4a7df36dba", func := "triggerstore/triggerstorelaw11.SyntaxExprs", spec := "syntaxExprs", unfollowed := true, recurses := true, named := ["triggerstore/triggerstoreworld.names", "triggerstore/triggerstoreworld.words"], loops := true, apart := false, laid := [("triggerstore/triggerstoreworld.words", laid_triggerstore_triggerstoreworld_words), ("triggerstore/triggerstoreworld.names", laid_triggerstore_triggerstoreworld_names)], narrowed := true }
def SyntaxExprsUptoSaid : Prop := syntaxExprsUptoRow.holds Tryd.pinned (OpenSpec.upto syntaxExprsSpec)

/-- 'triggerstorelaw14.ScopeTypes', WHERE WHAT IT READS IS OF BULK AT MOST 1048576: true; the input reads as it did. -/
def scopeTypesUptoRow : OpenClaim := { program := "ytppiaaolggpjdaadoor", sum := "fc0b7566f8522ec49c24c8803b905fdd77bf8e311262cabfc7765b4a7df36dba", func := "triggerstore/triggerstorelaw14.ScopeTypes", spec := "scopeTypes", unfollowed := true, recurses := true, named := ["triggerstore/triggerstoreworld.words", "triggerstore/triggerstoreworld.names"], loops := true, apart := false, laid := [("triggerstore/triggerstoreworld.words", laid_triggerstore_triggerstoreworld_words), ("triggerstore/triggerstoreworld.names", laid_triggerstore_triggerstoreworld_names)], narrowed := true }
def ScopeTypesUptoSaid : Prop := scopeTypesUptoRow.holds Tryd.pinned (OpenSpec.upto scopeTypesSpec)

/-- 'triggerstorelaw1.ValueForms', WHERE WHAT IT READS IS OF BULK AT MOST 1048576: true; the input reads as it did. -/
def valueFormsUptoRow : OpenClaim := { program := "ytppiaaolggpjdaadoor", sum := "fc0b7566f8522ec49c24c8803b905fdd77bf8e311262cabfc7765b4a7df36dba", func := "triggerstore/triggerstorelaw1.ValueForms", spec := "valueForms", inPlace := ["internal/bytealg.CountString", "internal/bytealg.IndexByteString", "internal/bytealg.IndexString", "internal/abi.NoEscape", "internal/bytealg.MakeNoZero"], named := ["triggerstore/triggerstoreworld.words", "internal/strconv.uint64pow10", "math/bits.deBruijn32tab", "math/bits.deBruijn64tab", "internal/bytealg.MaxLen", "unicode/utf8.first", "unicode/utf8.acceptRanges"], apart := false, laid := [("math/bits.deBruijn32tab", laid_math_bits_deBruijn32tab), ("math/bits.deBruijn64tab", laid_math_bits_deBruijn64tab), ("internal/strconv.uint64pow10", laid_internal_strconv_uint64pow10), ("unicode/utf8.acceptRanges", laid_unicode_utf8_acceptRanges), ("triggerstore/triggerstoreworld.words", laid_triggerstore_triggerstoreworld_words), ("unicode/utf8.first", laid_unicode_utf8_first)], narrowed := true }
def ValueFormsUptoSaid : Prop := valueFormsUptoRow.holds Tryd.pinned (OpenSpec.upto valueFormsSpec)

/-- 'triggerstorelaw1.ValueCompares', WHERE WHAT IT READS IS OF BULK AT MOST 1048576: true; the input reads as it did. -/
def valueComparesUptoRow : OpenClaim := { program := "ytppiaaolggpjdaadoor", sum := "fc0b7566f8522ec49c24c8803b905fdd77bf8e311262cabfc7765b4a7df36dba", func := "triggerstore/triggerstorelaw1.ValueCompares", spec := "valueCompares", inPlace := ["internal/bytealg.abigen_runtime_cmpstring", "internal/bytealg.CountString", "internal/bytealg.IndexByteString", "internal/bytealg.IndexString", "internal/abi.NoEscape", "internal/bytealg.MakeNoZero"], named := ["triggerstore/triggerstoreworld.words", "internal/strconv.uint64pow10", "math/bits.deBruijn32tab", "math/bits.deBruijn64tab", "internal/bytealg.MaxLen", "unicode/utf8.first", "unicode/utf8.acceptRanges"], apart := false, laid := [("math/bits.deBruijn32tab", laid_math_bits_deBruijn32tab), ("math/bits.deBruijn64tab", laid_math_bits_deBruijn64tab), ("internal/strconv.uint64pow10", laid_internal_strconv_uint64pow10), ("unicode/utf8.acceptRanges", laid_unicode_utf8_acceptRanges), ("triggerstore/triggerstoreworld.words", laid_triggerstore_triggerstoreworld_words), ("unicode/utf8.first", laid_unicode_utf8_first)], narrowed := true }
def ValueComparesUptoSaid : Prop := valueComparesUptoRow.holds Tryd.pinned (OpenSpec.upto valueComparesSpec)

/-- 'triggerstorelaw10.TokenPlaces', WHERE WHAT IT READS IS OF BULK AT MOST 1048576: true; the input reads as it did. -/
def tokenPlacesUptoRow : OpenClaim := { program := "ytppiaaolggpjdaadoor", sum := "fc0b7566f8522ec49c24c8803b905fdd77bf8e311262cabfc7765b4a7df36dba", func := "triggerstore/triggerstorelaw10.TokenPlaces", spec := "tokenPlaces", inPlace := ["internal/abi.NoEscape", "internal/bytealg.IndexByteString"], named := ["triggerstore/triggerstorelaw10.bits", "strconv.ErrSyntax", "strconv.ErrRange", "internal/strconv.uint64pow10", "math/bits.deBruijn32tab", "math/bits.deBruijn64tab"], apart := false, laid := [("math/bits.deBruijn32tab", laid_math_bits_deBruijn32tab), ("math/bits.deBruijn64tab", laid_math_bits_deBruijn64tab), ("internal/strconv.uint64pow10", laid_internal_strconv_uint64pow10), ("strconv.ErrRange", laid_strconv_ErrRange), ("strconv.ErrSyntax", laid_strconv_ErrSyntax), ("triggerstore/triggerstorelaw10.bits", laid_triggerstore_triggerstorelaw10_bits)], narrowed := true }
def TokenPlacesUptoSaid : Prop := tokenPlacesUptoRow.holds Tryd.pinned (OpenSpec.upto tokenPlacesSpec)

/-- 'triggerstorelaw10.TokenTexts', WHERE WHAT IT READS IS OF BULK AT MOST 1048576: true; the input reads as it did. -/
def tokenTextsUptoRow : OpenClaim := { program := "ytppiaaolggpjdaadoor", sum := "fc0b7566f8522ec49c24c8803b905fdd77bf8e311262cabfc7765b4a7df36dba", func := "triggerstore/triggerstorelaw10.TokenTexts", spec := "tokenTexts", inPlace := ["internal/bytealg.CountString", "internal/bytealg.IndexByteString", "internal/bytealg.IndexString", "internal/abi.NoEscape", "internal/bytealg.MakeNoZero"], named := ["internal/strconv.uint64pow10", "math/bits.deBruijn32tab", "math/bits.deBruijn64tab", "internal/bytealg.MaxLen", "unicode/utf8.first", "unicode/utf8.acceptRanges", "strconv.ErrSyntax", "strconv.ErrRange"], apart := false, laid := [("math/bits.deBruijn32tab", laid_math_bits_deBruijn32tab), ("math/bits.deBruijn64tab", laid_math_bits_deBruijn64tab), ("internal/strconv.uint64pow10", laid_internal_strconv_uint64pow10), ("unicode/utf8.acceptRanges", laid_unicode_utf8_acceptRanges), ("strconv.ErrRange", laid_strconv_ErrRange), ("strconv.ErrSyntax", laid_strconv_ErrSyntax), ("unicode/utf8.first", laid_unicode_utf8_first)], narrowed := true }
def TokenTextsUptoSaid : Prop := tokenTextsUptoRow.holds Tryd.pinned (OpenSpec.upto tokenTextsSpec)

/-- 'triggerstorelaw12.PrintDiffers', WHERE WHAT IT READS IS OF BULK AT MOST 1048576: true; the input reads as it did. -/
def printDiffersUptoRow : OpenClaim := { program := "ytppiaaolggpjdaadoor", sum := "fc0b7566f8522ec49c24c8803b905fdd77bf8e311262cabfc7765b4a7df36dba", func := "triggerstore/triggerstorelaw12.PrintDiffers", spec := "printDiffers", inPlace := ["internal/bytealg.CountString", "internal/bytealg.IndexByteString", "internal/bytealg.IndexString", "internal/abi.NoEscape", "internal/bytealg.MakeNoZero"], unfollowed := true, recurses := true, named := ["triggerstore/triggerstoreworld.names", "triggerstore/triggerstoreworld.words", "internal/strconv.uint64pow10", "math/bits.deBruijn32tab", "math/bits.deBruijn64tab", "internal/bytealg.MaxLen", "unicode/utf8.first", "unicode/utf8.acceptRanges"], apart := false, laid := [("math/bits.deBruijn32tab", laid_math_bits_deBruijn32tab), ("math/bits.deBruijn64tab", laid_math_bits_deBruijn64tab), ("internal/strconv.uint64pow10", laid_internal_strconv_uint64pow10), ("unicode/utf8.acceptRanges", laid_unicode_utf8_acceptRanges), ("triggerstore/triggerstoreworld.words", laid_triggerstore_triggerstoreworld_words), ("triggerstore/triggerstoreworld.names", laid_triggerstore_triggerstoreworld_names), ("unicode/utf8.first", laid_unicode_utf8_first)], narrowed := true }
def PrintDiffersUptoSaid : Prop := printDiffersUptoRow.holds Tryd.pinned (OpenSpec.upto printDiffersSpec)

end Rows
end Go.Proofs.YtppiaaolggpjdaaDoor
