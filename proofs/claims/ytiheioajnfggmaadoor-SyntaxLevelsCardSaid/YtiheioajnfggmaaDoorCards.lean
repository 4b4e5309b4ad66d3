/-
  DERIVED. GIVEN WITH THE SEED: THE CARDS: each row of YtiheioajnfggmaaDoorRows.lean that lists a variable, with what it lists TIED to the program's text (the seventh form; the later family's looks); each row that meets fmt, with fmt's text TOLD by the authors' own Lean function (tested against real Go, not proved from fmt's source: count such statements apart). THE CARD IS WHAT COUNTS. Prove the row's statement (the work); the ties are given (YtiheioajnfggmaaDoorTie.lean); close each card by the builder's one call (the guide's Derived/Test/ToyasCard.lean, 'card_holds'). Laid BY PROGRAM, IN A SANDBOX (cutbox-door.mjs). By AI agents, Wed Nov 11 2026. No macro, syntax, notation, axiom, sorry.
-/
import Derived.Test.YtiheioajnfggmaaDoorRows
import GoSem.ClaimSeven
namespace Go.Proofs.YtiheioajnfggmaaDoor
namespace Rows

/-- THE TIED CARD OF 'triggerstorelaw14.ScopeInner'. -/
def scopeInnerCard : Claim7 := { stood := { row := scopeInnerRow, standIns := [], harness := (true, "b5bc6c30d9ea0058ef4ab6d374c10d90185d7522846aad800f840762bf501e6c"), looks := false }, kinds := [], alts := [], laidByText := true, laidKinds := [.data], laidTests := true, laidLooks := .later }
def ScopeInnerCardSaid : Prop := Claim7.holds Tryd.pinned (.plain (OpenSpec.ofChange scopeInnerSpec)) scopeInnerCard

/-- THE TIED CARD OF 'triggerstorelaw14.ScopeMakes'. -/
def scopeMakesCard : Claim7 := { stood := { row := scopeMakesRow, standIns := [], harness := (true, "b5bc6c30d9ea0058ef4ab6d374c10d90185d7522846aad800f840762bf501e6c"), looks := false }, kinds := [], alts := [], laidByText := true, laidKinds := [.data], laidTests := true, laidLooks := .later }
def ScopeMakesCardSaid : Prop := Claim7.holds Tryd.pinned (.plain (OpenSpec.ofChange scopeMakesSpec)) scopeMakesCard

/-- THE TIED CARD OF 'triggerstorelaw14.ScopeResolves'. -/
def scopeResolvesCard : Claim7 := { stood := { row := scopeResolvesRow, standIns := [], harness := (true, "b5bc6c30d9ea0058ef4ab6d374c10d90185d7522846aad800f840762bf501e6c"), looks := false }, kinds := [], alts := [], laidByText := true, laidKinds := [.data], laidTests := true, laidLooks := .later }
def ScopeResolvesCardSaid : Prop := Claim7.holds Tryd.pinned (.plain (OpenSpec.ofChange scopeResolvesSpec)) scopeResolvesCard

/-- THE TIED CARD OF 'triggerstorelaw11.SyntaxExprs'. -/
def syntaxExprsCard : Claim7 := { stood := { row := syntaxExprsRow, standIns := [], harness := (true, "b5bc6c30d9ea0058ef4ab6d374c10d90185d7522846aad800f840762bf501e6c"), looks := false }, kinds := [], alts := [], laidByText := true, laidKinds := [.data, .data], laidTests := true, laidLooks := .later }
def SyntaxExprsCardSaid : Prop := Claim7.holds Tryd.pinned (.plain (OpenSpec.ofChange syntaxExprsSpec)) syntaxExprsCard

/-- THE TIED CARD OF 'triggerstorelaw11.SyntaxLevels'. -/
def syntaxLevelsCard : Claim7 := { stood := { row := syntaxLevelsRow, standIns := [], harness := (true, "b5bc6c30d9ea0058ef4ab6d374c10d90185d7522846aad800f840762bf501e6c"), looks := false }, kinds := [], alts := [], laidByText := true, laidKinds := [.data, .data], laidTests := true, laidLooks := .later }
def SyntaxLevelsCardSaid : Prop := Claim7.holds Tryd.pinned (.plain (OpenSpec.ofChange syntaxLevelsSpec)) syntaxLevelsCard

/-- THE TIED CARD OF 'triggerstorelaw14.ScopeTypes'. -/
def scopeTypesCard : Claim7 := { stood := { row := scopeTypesRow, standIns := [], harness := (true, "b5bc6c30d9ea0058ef4ab6d374c10d90185d7522846aad800f840762bf501e6c"), looks := false }, kinds := [], alts := [], laidByText := true, laidKinds := [.data, .data], laidTests := true, laidLooks := .later }
def ScopeTypesCardSaid : Prop := Claim7.holds Tryd.pinned (.plain (OpenSpec.ofChange scopeTypesSpec)) scopeTypesCard

/-- THE TIED CARD OF 'triggerstorelaw1.ValueForms'. -/
def valueFormsCard : Claim7 := { stood := { row := valueFormsRow, standIns := [], harness := (true, "b5bc6c30d9ea0058ef4ab6d374c10d90185d7522846aad800f840762bf501e6c"), looks := false }, kinds := [], alts := [], laidByText := true, laidKinds := [.data, .data, .data, .data, .data, .pinned], laidTests := true, laidLooks := .later }
def ValueFormsCardSaid : Prop := Claim7.holds Tryd.pinned (.plain (OpenSpec.ofChange valueFormsSpec)) valueFormsCard

/-- THE TIED CARD OF 'triggerstorelaw1.ValueOrders'. -/
def valueOrdersCard : Claim7 := { stood := { row := valueOrdersRow, standIns := [], harness := (true, "b5bc6c30d9ea0058ef4ab6d374c10d90185d7522846aad800f840762bf501e6c"), looks := false }, kinds := [], alts := [], laidByText := true, laidKinds := [.data, .data, .data, .data, .data, .pinned], laidTests := true, laidLooks := .later }
def ValueOrdersCardSaid : Prop := Claim7.holds Tryd.pinned (.plain (OpenSpec.ofChange valueOrdersSpec)) valueOrdersCard

/-- THE TIED CARD OF 'triggerstorelaw1.ValueFormats'. -/
def valueFormatsCard : Claim7 := { stood := { row := valueFormatsRow, standIns := [], harness := (true, "b5bc6c30d9ea0058ef4ab6d374c10d90185d7522846aad800f840762bf501e6c"), looks := false }, kinds := [], alts := [], laidByText := true, laidKinds := [.data, .data, .data, .data, .data, .pinned], laidTests := true, laidLooks := .later }
def ValueFormatsCardSaid : Prop := Claim7.holds Tryd.pinned (.plain (OpenSpec.ofChange valueFormatsSpec)) valueFormatsCard

/-- THE TIED CARD OF 'triggerstorelaw1.ValueRows'. -/
def valueRowsCard : Claim7 := { stood := { row := valueRowsRow, standIns := [], harness := (true, "b5bc6c30d9ea0058ef4ab6d374c10d90185d7522846aad800f840762bf501e6c"), looks := false }, kinds := [], alts := [], laidByText := true, laidKinds := [.data, .data, .data, .data, .data, .pinned], laidTests := true, laidLooks := .later }
def ValueRowsCardSaid : Prop := Claim7.holds Tryd.pinned (.plain (OpenSpec.ofChange valueRowsSpec)) valueRowsCard

/-- THE TIED CARD OF 'triggerstorelaw1.ValueCompares'. -/
def valueComparesCard : Claim7 := { stood := { row := valueComparesRow, standIns := [], harness := (true, "b5bc6c30d9ea0058ef4ab6d374c10d90185d7522846aad800f840762bf501e6c"), looks := false }, kinds := [], alts := [], laidByText := true, laidKinds := [.data, .data, .data, .data, .data, .pinned], laidTests := true, laidLooks := .later }
def ValueComparesCardSaid : Prop := Claim7.holds Tryd.pinned (.plain (OpenSpec.ofChange valueComparesSpec)) valueComparesCard

/-- THE SECOND FORM's CARD OF 'triggerstorelaw14.ScopeInner'. -/
def scopeInnerUptoCard : Claim7 := { stood := { row := scopeInnerUptoRow, standIns := [], harness := (true, "b5bc6c30d9ea0058ef4ab6d374c10d90185d7522846aad800f840762bf501e6c"), looks := false }, kinds := [], alts := [], laidByText := true, laidKinds := [.data], laidTests := true, laidLooks := .later }
def ScopeInnerUptoCardSaid : Prop := Claim7.holds Tryd.pinned (.plain (OpenSpec.upto scopeInnerSpec)) scopeInnerUptoCard

/-- THE SECOND FORM's CARD OF 'triggerstorelaw14.ScopeMakes'. -/
def scopeMakesUptoCard : Claim7 := { stood := { row := scopeMakesUptoRow, standIns := [], harness := (true, "b5bc6c30d9ea0058ef4ab6d374c10d90185d7522846aad800f840762bf501e6c"), looks := false }, kinds := [], alts := [], laidByText := true, laidKinds := [.data], laidTests := true, laidLooks := .later }
def ScopeMakesUptoCardSaid : Prop := Claim7.holds Tryd.pinned (.plain (OpenSpec.upto scopeMakesSpec)) scopeMakesUptoCard

/-- THE SECOND FORM's CARD OF 'triggerstorelaw14.ScopeResolves'. -/
def scopeResolvesUptoCard : Claim7 := { stood := { row := scopeResolvesUptoRow, standIns := [], harness := (true, "b5bc6c30d9ea0058ef4ab6d374c10d90185d7522846aad800f840762bf501e6c"), looks := false }, kinds := [], alts := [], laidByText := true, laidKinds := [.data], laidTests := true, laidLooks := .later }
def ScopeResolvesUptoCardSaid : Prop := Claim7.holds Tryd.pinned (.plain (OpenSpec.upto scopeResolvesSpec)) scopeResolvesUptoCard

/-- THE SECOND FORM's CARD OF 'triggerstorelaw11.SyntaxExprs'. -/
def syntaxExprsUptoCard : Claim7 := { stood := { row := syntaxExprsUptoRow, standIns := [], harness := (true, "b5bc6c30d9ea0058ef4ab6d374c10d90185d7522846aad800f840762bf501e6c"), looks := false }, kinds := [], alts := [], laidByText := true, laidKinds := [.data, .data], laidTests := true, laidLooks := .later }
def SyntaxExprsUptoCardSaid : Prop := Claim7.holds Tryd.pinned (.plain (OpenSpec.upto syntaxExprsSpec)) syntaxExprsUptoCard

/-- THE SECOND FORM's CARD OF 'triggerstorelaw11.SyntaxLevels'. -/
def syntaxLevelsUptoCard : Claim7 := { stood := { row := syntaxLevelsUptoRow, standIns := [], harness := (true, "b5bc6c30d9ea0058ef4ab6d374c10d90185d7522846aad800f840762bf501e6c"), looks := false }, kinds := [], alts := [], laidByText := true, laidKinds := [.data, .data], laidTests := true, laidLooks := .later }
def SyntaxLevelsUptoCardSaid : Prop := Claim7.holds Tryd.pinned (.plain (OpenSpec.upto syntaxLevelsSpec)) syntaxLevelsUptoCard

/-- THE SECOND FORM's CARD OF 'triggerstorelaw14.ScopeTypes'. -/
def scopeTypesUptoCard : Claim7 := { stood := { row := scopeTypesUptoRow, standIns := [], harness := (true, "b5bc6c30d9ea0058ef4ab6d374c10d90185d7522846aad800f840762bf501e6c"), looks := false }, kinds := [], alts := [], laidByText := true, laidKinds := [.data, .data], laidTests := true, laidLooks := .later }
def ScopeTypesUptoCardSaid : Prop := Claim7.holds Tryd.pinned (.plain (OpenSpec.upto scopeTypesSpec)) scopeTypesUptoCard

/-- THE SECOND FORM's CARD OF 'triggerstorelaw1.ValueForms'. -/
def valueFormsUptoCard : Claim7 := { stood := { row := valueFormsUptoRow, standIns := [], harness := (true, "b5bc6c30d9ea0058ef4ab6d374c10d90185d7522846aad800f840762bf501e6c"), looks := false }, kinds := [], alts := [], laidByText := true, laidKinds := [.data, .data, .data, .data, .data, .pinned], laidTests := true, laidLooks := .later }
def ValueFormsUptoCardSaid : Prop := Claim7.holds Tryd.pinned (.plain (OpenSpec.upto valueFormsSpec)) valueFormsUptoCard

/-- THE SECOND FORM's CARD OF 'triggerstorelaw1.ValueOrders'. -/
def valueOrdersUptoCard : Claim7 := { stood := { row := valueOrdersUptoRow, standIns := [], harness := (true, "b5bc6c30d9ea0058ef4ab6d374c10d90185d7522846aad800f840762bf501e6c"), looks := false }, kinds := [], alts := [], laidByText := true, laidKinds := [.data, .data, .data, .data, .data, .pinned], laidTests := true, laidLooks := .later }
def ValueOrdersUptoCardSaid : Prop := Claim7.holds Tryd.pinned (.plain (OpenSpec.upto valueOrdersSpec)) valueOrdersUptoCard

/-- THE SECOND FORM's CARD OF 'triggerstorelaw1.ValueFormats'. -/
def valueFormatsUptoCard : Claim7 := { stood := { row := valueFormatsUptoRow, standIns := [], harness := (true, "b5bc6c30d9ea0058ef4ab6d374c10d90185d7522846aad800f840762bf501e6c"), looks := false }, kinds := [], alts := [], laidByText := true, laidKinds := [.data, .data, .data, .data, .data, .pinned], laidTests := true, laidLooks := .later }
def ValueFormatsUptoCardSaid : Prop := Claim7.holds Tryd.pinned (.plain (OpenSpec.upto valueFormatsSpec)) valueFormatsUptoCard

/-- THE SECOND FORM's CARD OF 'triggerstorelaw1.ValueRows'. -/
def valueRowsUptoCard : Claim7 := { stood := { row := valueRowsUptoRow, standIns := [], harness := (true, "b5bc6c30d9ea0058ef4ab6d374c10d90185d7522846aad800f840762bf501e6c"), looks := false }, kinds := [], alts := [], laidByText := true, laidKinds := [.data, .data, .data, .data, .data, .pinned], laidTests := true, laidLooks := .later }
def ValueRowsUptoCardSaid : Prop := Claim7.holds Tryd.pinned (.plain (OpenSpec.upto valueRowsSpec)) valueRowsUptoCard

/-- THE SECOND FORM's CARD OF 'triggerstorelaw1.ValueCompares'. -/
def valueComparesUptoCard : Claim7 := { stood := { row := valueComparesUptoRow, standIns := [], harness := (true, "b5bc6c30d9ea0058ef4ab6d374c10d90185d7522846aad800f840762bf501e6c"), looks := false }, kinds := [], alts := [], laidByText := true, laidKinds := [.data, .data, .data, .data, .data, .pinned], laidTests := true, laidLooks := .later }
def ValueComparesUptoCardSaid : Prop := Claim7.holds Tryd.pinned (.plain (OpenSpec.upto valueComparesSpec)) valueComparesUptoCard
end Rows
end Go.Proofs.YtiheioajnfggmaaDoor
