/-
  DERIVED. GIVEN WITH THE SEED: THE CARDS: each row of YthcpacadjnpacaaDoorRows.lean that lists a variable, with what it lists TIED to the program's text (the seventh form; the later family's looks); each row that meets fmt, with fmt's text TOLD by the authors' own Lean function (tested against real Go, not proved from fmt's source: count such statements apart). THE CARD IS WHAT COUNTS. Prove the row's statement (the work); the ties are given (YthcpacadjnpacaaDoorTie.lean); close each card by the builder's one call (the guide's Derived/Test/ToyasCard.lean, 'card_holds'). Laid BY PROGRAM, IN A SANDBOX (cutbox-door.mjs). By AI agents, Wed Nov 11 2026. No macro, syntax, notation, axiom, sorry.
-/
import Derived.Test.YthcpacadjnpacaaDoorRows
import GoSem.ClaimSeven
namespace Go.Proofs.YthcpacadjnpacaaDoor
namespace Rows

/-- THE TIED CARD OF 'triggerstorelaw11.SyntaxExprs'. -/
def syntaxExprsCard : Claim7 := { stood := { row := syntaxExprsRow, standIns := [], harness := (true, "489f9b9de0a4b8324c7765e00ee0f2ab898b2b36758222deb6cbbbf7c06df55a"), looks := false }, kinds := [], alts := [], laidByText := true, laidKinds := [.data, .data], laidTests := true, laidLooks := .later }
def SyntaxExprsCardSaid : Prop := Claim7.holds Tryd.pinned (.plain (OpenSpec.ofChange syntaxExprsSpec)) syntaxExprsCard

/-- THE TIED CARD OF 'triggerstorelaw14.ScopeTypes'. -/
def scopeTypesCard : Claim7 := { stood := { row := scopeTypesRow, standIns := [], harness := (true, "489f9b9de0a4b8324c7765e00ee0f2ab898b2b36758222deb6cbbbf7c06df55a"), looks := false }, kinds := [], alts := [], laidByText := true, laidKinds := [.data, .data], laidTests := true, laidLooks := .later }
def ScopeTypesCardSaid : Prop := Claim7.holds Tryd.pinned (.plain (OpenSpec.ofChange scopeTypesSpec)) scopeTypesCard

/-- THE TIED CARD OF 'triggerstorelaw1.ValueForms'. -/
def valueFormsCard : Claim7 := { stood := { row := valueFormsRow, standIns := [], harness := (true, "489f9b9de0a4b8324c7765e00ee0f2ab898b2b36758222deb6cbbbf7c06df55a"), looks := false }, kinds := [], alts := [], laidByText := true, laidKinds := [.data, .data, .data, .data, .data, .pinned], laidTests := true, laidLooks := .later }
def ValueFormsCardSaid : Prop := Claim7.holds Tryd.pinned (.plain (OpenSpec.ofChange valueFormsSpec)) valueFormsCard

/-- THE TIED CARD OF 'triggerstorelaw1.ValueCompares'. -/
def valueComparesCard : Claim7 := { stood := { row := valueComparesRow, standIns := [], harness := (true, "489f9b9de0a4b8324c7765e00ee0f2ab898b2b36758222deb6cbbbf7c06df55a"), looks := false }, kinds := [], alts := [], laidByText := true, laidKinds := [.data, .data, .data, .data, .data, .pinned], laidTests := true, laidLooks := .later }
def ValueComparesCardSaid : Prop := Claim7.holds Tryd.pinned (.plain (OpenSpec.ofChange valueComparesSpec)) valueComparesCard

/-- THE SECOND FORM's CARD OF 'triggerstorelaw11.SyntaxExprs'. -/
def syntaxExprsUptoCard : Claim7 := { stood := { row := syntaxExprsUptoRow, standIns := [], harness := (true, "489f9b9de0a4b8324c7765e00ee0f2ab898b2b36758222deb6cbbbf7c06df55a"), looks := false }, kinds := [], alts := [], laidByText := true, laidKinds := [.data, .data], laidTests := true, laidLooks := .later }
def SyntaxExprsUptoCardSaid : Prop := Claim7.holds Tryd.pinned (.plain (OpenSpec.upto syntaxExprsSpec)) syntaxExprsUptoCard

/-- THE SECOND FORM's CARD OF 'triggerstorelaw14.ScopeTypes'. -/
def scopeTypesUptoCard : Claim7 := { stood := { row := scopeTypesUptoRow, standIns := [], harness := (true, "489f9b9de0a4b8324c7765e00ee0f2ab898b2b36758222deb6cbbbf7c06df55a"), looks := false }, kinds := [], alts := [], laidByText := true, laidKinds := [.data, .data], laidTests := true, laidLooks := .later }
def ScopeTypesUptoCardSaid : Prop := Claim7.holds Tryd.pinned (.plain (OpenSpec.upto scopeTypesSpec)) scopeTypesUptoCard

/-- THE SECOND FORM's CARD OF 'triggerstorelaw1.ValueForms'. -/
def valueFormsUptoCard : Claim7 := { stood := { row := valueFormsUptoRow, standIns := [], harness := (true, "489f9b9de0a4b8324c7765e00ee0f2ab898b2b36758222deb6cbbbf7c06df55a"), looks := false }, kinds := [], alts := [], laidByText := true, laidKinds := [.data, .data, .data, .data, .data, .pinned], laidTests := true, laidLooks := .later }
def ValueFormsUptoCardSaid : Prop := Claim7.holds Tryd.pinned (.plain (OpenSpec.upto valueFormsSpec)) valueFormsUptoCard

/-- THE SECOND FORM's CARD OF 'triggerstorelaw1.ValueCompares'. -/
def valueComparesUptoCard : Claim7 := { stood := { row := valueComparesUptoRow, standIns := [], harness := (true, "489f9b9de0a4b8324c7765e00ee0f2ab898b2b36758222deb6cbbbf7c06df55a"), looks := false }, kinds := [], alts := [], laidByText := true, laidKinds := [.data, .data, .data, .data, .data, .pinned], laidTests := true, laidLooks := .later }
def ValueComparesUptoCardSaid : Prop := Claim7.holds Tryd.pinned (.plain (OpenSpec.upto valueComparesSpec)) valueComparesUptoCard
end Rows
end Go.Proofs.YthcpacadjnpacaaDoor
