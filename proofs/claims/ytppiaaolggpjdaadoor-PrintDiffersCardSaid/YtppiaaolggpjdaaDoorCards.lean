/-
  DERIVED. GIVEN WITH THE SEED: THE CARDS: each row of YtppiaaolggpjdaaDoorRows.lean that lists a variable, with what it lists TIED to the program's text (the seventh form; the later family's looks); each row that meets fmt, with fmt's text TOLD by the authors' own Lean function (tested against real Go, not proved from fmt's source: count such statements apart). THE CARD IS WHAT COUNTS. Prove the row's statement (the work); the ties are given (YtppiaaolggpjdaaDoorTie.lean); close each card by the builder's one call (the guide's Derived/Test/ToyasCard.lean, 'card_holds'). Laid BY PROGRAM, IN A SANDBOX (cutbox-door.mjs). By AI agents, Wed Nov 11 2026. No macro, syntax, notation, axiom, sorry.
-/
import Derived.Test.YtppiaaolggpjdaaDoorRows
import GoSem.ClaimSeven
namespace Go.Proofs.YtppiaaolggpjdaaDoor
namespace Rows

/-- THE TIED CARD OF 'triggerstorelaw11.SyntaxExprs'. -/
def syntaxExprsCard : Claim7 := { stood := { row := syntaxExprsRow, standIns := [], harness := (true, "60a13f1cacd9aafc68226727613dcf22b36537ac592cd5aac714f1ac86a20d4b"), looks := true }, kinds := [], alts := [], laidByText := true, laidKinds := [.data, .data], laidTests := true, laidLooks := .later }
def SyntaxExprsCardSaid : Prop := Claim7.holds Tryd.pinned (.plain (OpenSpec.ofChange syntaxExprsSpec)) syntaxExprsCard

/-- THE TIED CARD OF 'triggerstorelaw14.ScopeTypes'. -/
def scopeTypesCard : Claim7 := { stood := { row := scopeTypesRow, standIns := [], harness := (true, "60a13f1cacd9aafc68226727613dcf22b36537ac592cd5aac714f1ac86a20d4b"), looks := true }, kinds := [], alts := [], laidByText := true, laidKinds := [.data, .data], laidTests := true, laidLooks := .later }
def ScopeTypesCardSaid : Prop := Claim7.holds Tryd.pinned (.plain (OpenSpec.ofChange scopeTypesSpec)) scopeTypesCard

/-- THE TIED CARD OF 'triggerstorelaw1.ValueForms'. -/
def valueFormsCard : Claim7 := { stood := { row := valueFormsRow, standIns := [], harness := (true, "60a13f1cacd9aafc68226727613dcf22b36537ac592cd5aac714f1ac86a20d4b"), looks := true }, kinds := [], alts := [], laidByText := true, laidKinds := [.data, .data, .data, .data, .data, .pinned], laidTests := true, laidLooks := .later }
def ValueFormsCardSaid : Prop := Claim7.holds Tryd.pinned (.plain (OpenSpec.ofChange valueFormsSpec)) valueFormsCard

/-- THE TIED CARD OF 'triggerstorelaw1.ValueCompares'. -/
def valueComparesCard : Claim7 := { stood := { row := valueComparesRow, standIns := [], harness := (true, "60a13f1cacd9aafc68226727613dcf22b36537ac592cd5aac714f1ac86a20d4b"), looks := true }, kinds := [], alts := [], laidByText := true, laidKinds := [.data, .data, .data, .data, .data, .pinned], laidTests := true, laidLooks := .later }
def ValueComparesCardSaid : Prop := Claim7.holds Tryd.pinned (.plain (OpenSpec.ofChange valueComparesSpec)) valueComparesCard

/-- THE TIED CARD OF 'triggerstorelaw10.TokenPlaces'. -/
def tokenPlacesCard : Claim7 := { stood := { row := tokenPlacesRow, standIns := [], harness := (true, "60a13f1cacd9aafc68226727613dcf22b36537ac592cd5aac714f1ac86a20d4b"), looks := true }, kinds := [], alts := [], laidByText := true, laidKinds := [.data, .data, .data, .sentinel, .sentinel, .data], laidTests := true, laidLooks := .later }
def TokenPlacesCardSaid : Prop := Claim7.holds Tryd.pinned (.plain (OpenSpec.ofChange tokenPlacesSpec)) tokenPlacesCard

/-- THE TIED CARD OF 'triggerstorelaw10.TokenTexts'. -/
def tokenTextsCard : Claim7 := { stood := { row := tokenTextsRow, standIns := [], harness := (true, "60a13f1cacd9aafc68226727613dcf22b36537ac592cd5aac714f1ac86a20d4b"), looks := true }, kinds := [], alts := [], laidByText := true, laidKinds := [.data, .data, .data, .data, .sentinel, .sentinel, .pinned], laidTests := true, laidLooks := .later }
def TokenTextsCardSaid : Prop := Claim7.holds Tryd.pinned (.plain (OpenSpec.ofChange tokenTextsSpec)) tokenTextsCard

/-- THE TIED CARD OF 'triggerstorelaw12.PrintDiffers'. -/
def printDiffersCard : Claim7 := { stood := { row := printDiffersRow, standIns := [], harness := (true, "60a13f1cacd9aafc68226727613dcf22b36537ac592cd5aac714f1ac86a20d4b"), looks := true }, kinds := [], alts := [], laidByText := true, laidKinds := [.data, .data, .data, .data, .data, .data, .pinned], laidTests := true, laidLooks := .later }
def PrintDiffersCardSaid : Prop := Claim7.holds Tryd.pinned (.plain (OpenSpec.ofChange printDiffersSpec)) printDiffersCard

/-- THE SECOND FORM's CARD OF 'triggerstorelaw11.SyntaxExprs'. -/
def syntaxExprsUptoCard : Claim7 := { stood := { row := syntaxExprsUptoRow, standIns := [], harness := (true, "60a13f1cacd9aafc68226727613dcf22b36537ac592cd5aac714f1ac86a20d4b"), looks := true }, kinds := [], alts := [], laidByText := true, laidKinds := [.data, .data], laidTests := true, laidLooks := .later }
def SyntaxExprsUptoCardSaid : Prop := Claim7.holds Tryd.pinned (.plain (OpenSpec.upto syntaxExprsSpec)) syntaxExprsUptoCard

/-- THE SECOND FORM's CARD OF 'triggerstorelaw14.ScopeTypes'. -/
def scopeTypesUptoCard : Claim7 := { stood := { row := scopeTypesUptoRow, standIns := [], harness := (true, "60a13f1cacd9aafc68226727613dcf22b36537ac592cd5aac714f1ac86a20d4b"), looks := true }, kinds := [], alts := [], laidByText := true, laidKinds := [.data, .data], laidTests := true, laidLooks := .later }
def ScopeTypesUptoCardSaid : Prop := Claim7.holds Tryd.pinned (.plain (OpenSpec.upto scopeTypesSpec)) scopeTypesUptoCard

/-- THE SECOND FORM's CARD OF 'triggerstorelaw1.ValueForms'. -/
def valueFormsUptoCard : Claim7 := { stood := { row := valueFormsUptoRow, standIns := [], harness := (true, "60a13f1cacd9aafc68226727613dcf22b36537ac592cd5aac714f1ac86a20d4b"), looks := true }, kinds := [], alts := [], laidByText := true, laidKinds := [.data, .data, .data, .data, .data, .pinned], laidTests := true, laidLooks := .later }
def ValueFormsUptoCardSaid : Prop := Claim7.holds Tryd.pinned (.plain (OpenSpec.upto valueFormsSpec)) valueFormsUptoCard

/-- THE SECOND FORM's CARD OF 'triggerstorelaw1.ValueCompares'. -/
def valueComparesUptoCard : Claim7 := { stood := { row := valueComparesUptoRow, standIns := [], harness := (true, "60a13f1cacd9aafc68226727613dcf22b36537ac592cd5aac714f1ac86a20d4b"), looks := true }, kinds := [], alts := [], laidByText := true, laidKinds := [.data, .data, .data, .data, .data, .pinned], laidTests := true, laidLooks := .later }
def ValueComparesUptoCardSaid : Prop := Claim7.holds Tryd.pinned (.plain (OpenSpec.upto valueComparesSpec)) valueComparesUptoCard

/-- THE SECOND FORM's CARD OF 'triggerstorelaw10.TokenPlaces'. -/
def tokenPlacesUptoCard : Claim7 := { stood := { row := tokenPlacesUptoRow, standIns := [], harness := (true, "60a13f1cacd9aafc68226727613dcf22b36537ac592cd5aac714f1ac86a20d4b"), looks := true }, kinds := [], alts := [], laidByText := true, laidKinds := [.data, .data, .data, .sentinel, .sentinel, .data], laidTests := true, laidLooks := .later }
def TokenPlacesUptoCardSaid : Prop := Claim7.holds Tryd.pinned (.plain (OpenSpec.upto tokenPlacesSpec)) tokenPlacesUptoCard

/-- THE SECOND FORM's CARD OF 'triggerstorelaw10.TokenTexts'. -/
def tokenTextsUptoCard : Claim7 := { stood := { row := tokenTextsUptoRow, standIns := [], harness := (true, "60a13f1cacd9aafc68226727613dcf22b36537ac592cd5aac714f1ac86a20d4b"), looks := true }, kinds := [], alts := [], laidByText := true, laidKinds := [.data, .data, .data, .data, .sentinel, .sentinel, .pinned], laidTests := true, laidLooks := .later }
def TokenTextsUptoCardSaid : Prop := Claim7.holds Tryd.pinned (.plain (OpenSpec.upto tokenTextsSpec)) tokenTextsUptoCard

/-- THE SECOND FORM's CARD OF 'triggerstorelaw12.PrintDiffers'. -/
def printDiffersUptoCard : Claim7 := { stood := { row := printDiffersUptoRow, standIns := [], harness := (true, "60a13f1cacd9aafc68226727613dcf22b36537ac592cd5aac714f1ac86a20d4b"), looks := true }, kinds := [], alts := [], laidByText := true, laidKinds := [.data, .data, .data, .data, .data, .data, .pinned], laidTests := true, laidLooks := .later }
def PrintDiffersUptoCardSaid : Prop := Claim7.holds Tryd.pinned (.plain (OpenSpec.upto printDiffersSpec)) printDiffersUptoCard
end Rows
end Go.Proofs.YtppiaaolggpjdaaDoor
