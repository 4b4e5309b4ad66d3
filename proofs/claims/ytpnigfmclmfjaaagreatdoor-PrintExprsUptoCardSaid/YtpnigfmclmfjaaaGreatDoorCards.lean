/-
  DERIVED. GIVEN WITH THE SEED: THE CARDS: each row of YtpnigfmclmfjaaaGreatDoorRows.lean that lists a variable, with what it lists TIED to the program's text (the seventh form; the later family's looks); each row that meets fmt, with fmt's text TOLD by the authors' own Lean function (tested against real Go, not proved from fmt's source: count such statements apart). THE CARD IS WHAT COUNTS. Prove the row's statement (the work); the ties are given (YtpnigfmclmfjaaaGreatDoorTie.lean); close each card by the builder's one call (the guide's Derived/Test/ToyasCard.lean, 'card_holds'). Laid BY PROGRAM, IN A SANDBOX (cutbox-door.mjs). By AI agents, Wed Nov 11 2026. No macro, syntax, notation, axiom, sorry.
-/
import Derived.Test.YtpnigfmclmfjaaaGreatDoorRows
import GoSem.ClaimSeven
namespace Go.Proofs.YtpnigfmclmfjaaaGreatDoor
namespace Rows

/-- THE TIED CARD OF 'triggerstorelaw11.SyntaxStatements'. -/
def syntaxStatementsCard : Claim7 := { stood := { row := syntaxStatementsRow, standIns := [], harness := (true, "8ed5ca81c0292cc9c5842a29f2624a582047b2f79613806cc7ae8f8d153d53e9"), looks := true }, kinds := [], alts := [], laidByText := true, laidKinds := [.data, .data, .data], laidTests := true, laidLooks := .later }
def SyntaxStatementsCardSaid : Prop := Claim7.holds Tryz.pinned (.plain (OpenSpec.ofChange syntaxStatementsSpec)) syntaxStatementsCard

/-- THE TIED CARD OF 'triggerstorelaw12.PrintExprs'. -/
def printExprsCard : Claim7 := { stood := { row := printExprsRow, standIns := [], harness := (true, "8ed5ca81c0292cc9c5842a29f2624a582047b2f79613806cc7ae8f8d153d53e9"), looks := true }, kinds := [], alts := [], laidByText := true, laidKinds := [.data, .data, .data, .data, .data, .data, .data, .pinned], laidTests := true, laidLooks := .later }
def PrintExprsCardSaid : Prop := Claim7.holds Tryz.pinned (.plain (OpenSpec.ofChange printExprsSpec)) printExprsCard

/-- THE TIED CARD OF 'triggerstorelaw10.TokenAgain'. -/
def tokenAgainCard : Claim7 := { stood := { row := tokenAgainRow, standIns := [], harness := (true, "8ed5ca81c0292cc9c5842a29f2624a582047b2f79613806cc7ae8f8d153d53e9"), looks := true }, kinds := [], alts := [], laidByText := true, laidKinds := [.data, .data, .data, .data, .sentinel, .sentinel, .data, .data, .data, .data, .data, .data, .pinned], laidTests := true, laidLooks := .later }
def TokenAgainCardSaid : Prop := Claim7.holds Tryz.pinned (.plain (OpenSpec.ofChange tokenAgainSpec)) tokenAgainCard

/-- THE TIED CARD OF 'triggerstorelaw10.TokenReads'. -/
def tokenReadsCard : Claim7 := { stood := { row := tokenReadsRow, standIns := [], harness := (true, "8ed5ca81c0292cc9c5842a29f2624a582047b2f79613806cc7ae8f8d153d53e9"), looks := true }, kinds := [], alts := [], laidByText := true, laidKinds := [.data, .data, .data, .data, .sentinel, .sentinel, .data, .data, .data, .data, .data, .data, .data, .pinned], laidTests := true, laidLooks := .later }
def TokenReadsCardSaid : Prop := Claim7.holds Tryz.pinned (.plain (OpenSpec.ofChange tokenReadsSpec)) tokenReadsCard

/-- THE TIED CARD OF 'triggerstorelaw12.PrintStatements'. -/
def printStatementsCard : Claim7 := { stood := { row := printStatementsRow, standIns := [], harness := (true, "8ed5ca81c0292cc9c5842a29f2624a582047b2f79613806cc7ae8f8d153d53e9"), looks := true }, kinds := [], alts := [], laidByText := true, laidKinds := [.data, .data, .data, .data, .data, .data, .data, .data, .data, .data, .pinned], laidTests := true, laidLooks := .later }
def PrintStatementsCardSaid : Prop := Claim7.holds Tryz.pinned (.plain (OpenSpec.ofChange printStatementsSpec)) printStatementsCard

/-- THE TIED CARD OF 'triggerstorelaw12.PrintTokens'. -/
def printTokensCard : Claim7 := { stood := { row := printTokensRow, standIns := [], harness := (true, "8ed5ca81c0292cc9c5842a29f2624a582047b2f79613806cc7ae8f8d153d53e9"), looks := true }, kinds := [], alts := [], laidByText := true, laidKinds := [.data, .data, .data, .data, .data, .data, .data, .pinned], laidTests := true, laidLooks := .later }
def PrintTokensCardSaid : Prop := Claim7.holds Tryz.pinned (.plain (OpenSpec.ofChange printTokensSpec)) printTokensCard

/-- THE TIED CARD OF 'triggerstorelaw13.ParseLevels'. -/
def parseLevelsCard : Claim7 := { stood := { row := parseLevelsRow, standIns := [], harness := (true, "8ed5ca81c0292cc9c5842a29f2624a582047b2f79613806cc7ae8f8d153d53e9"), looks := true }, kinds := [], alts := [], laidByText := true, laidKinds := [.data, .data, .data, .sentinel, .sentinel], laidTests := true, laidLooks := .later }
def ParseLevelsCardSaid : Prop := Claim7.holds Tryz.pinned (.plain (OpenSpec.ofChange parseLevelsSpec)) parseLevelsCard

/-- THE TIED CARD OF 'triggerstorelaw13.ParseBack'. -/
def parseBackCard : Claim7 := { stood := { row := parseBackRow, standIns := [], harness := (true, "8ed5ca81c0292cc9c5842a29f2624a582047b2f79613806cc7ae8f8d153d53e9"), looks := true }, kinds := [], alts := [], laidByText := true, laidKinds := [.data, .data, .data, .data, .sentinel, .sentinel, .data, .data, .data, .data, .data, .data, .pinned], laidTests := true, laidLooks := .later }
def ParseBackCardSaid : Prop := Claim7.holds Tryz.pinned (.plain (OpenSpec.ofChange parseBackSpec)) parseBackCard

/-- THE SECOND FORM's CARD OF 'triggerstorelaw11.SyntaxStatements'. -/
def syntaxStatementsUptoCard : Claim7 := { stood := { row := syntaxStatementsUptoRow, standIns := [], harness := (true, "8ed5ca81c0292cc9c5842a29f2624a582047b2f79613806cc7ae8f8d153d53e9"), looks := true }, kinds := [], alts := [], laidByText := true, laidKinds := [.data, .data, .data], laidTests := true, laidLooks := .later }
def SyntaxStatementsUptoCardSaid : Prop := Claim7.holds Tryz.pinned (.plain (OpenSpec.upto syntaxStatementsSpec)) syntaxStatementsUptoCard

/-- THE SECOND FORM's CARD OF 'triggerstorelaw12.PrintExprs'. -/
def printExprsUptoCard : Claim7 := { stood := { row := printExprsUptoRow, standIns := [], harness := (true, "8ed5ca81c0292cc9c5842a29f2624a582047b2f79613806cc7ae8f8d153d53e9"), looks := true }, kinds := [], alts := [], laidByText := true, laidKinds := [.data, .data, .data, .data, .data, .data, .data, .pinned], laidTests := true, laidLooks := .later }
def PrintExprsUptoCardSaid : Prop := Claim7.holds Tryz.pinned (.plain (OpenSpec.upto printExprsSpec)) printExprsUptoCard

/-- THE SECOND FORM's CARD OF 'triggerstorelaw10.TokenAgain'. -/
def tokenAgainUptoCard : Claim7 := { stood := { row := tokenAgainUptoRow, standIns := [], harness := (true, "8ed5ca81c0292cc9c5842a29f2624a582047b2f79613806cc7ae8f8d153d53e9"), looks := true }, kinds := [], alts := [], laidByText := true, laidKinds := [.data, .data, .data, .data, .sentinel, .sentinel, .data, .data, .data, .data, .data, .data, .pinned], laidTests := true, laidLooks := .later }
def TokenAgainUptoCardSaid : Prop := Claim7.holds Tryz.pinned (.plain (OpenSpec.upto tokenAgainSpec)) tokenAgainUptoCard

/-- THE SECOND FORM's CARD OF 'triggerstorelaw10.TokenReads'. -/
def tokenReadsUptoCard : Claim7 := { stood := { row := tokenReadsUptoRow, standIns := [], harness := (true, "8ed5ca81c0292cc9c5842a29f2624a582047b2f79613806cc7ae8f8d153d53e9"), looks := true }, kinds := [], alts := [], laidByText := true, laidKinds := [.data, .data, .data, .data, .sentinel, .sentinel, .data, .data, .data, .data, .data, .data, .data, .pinned], laidTests := true, laidLooks := .later }
def TokenReadsUptoCardSaid : Prop := Claim7.holds Tryz.pinned (.plain (OpenSpec.upto tokenReadsSpec)) tokenReadsUptoCard

/-- THE SECOND FORM's CARD OF 'triggerstorelaw12.PrintStatements'. -/
def printStatementsUptoCard : Claim7 := { stood := { row := printStatementsUptoRow, standIns := [], harness := (true, "8ed5ca81c0292cc9c5842a29f2624a582047b2f79613806cc7ae8f8d153d53e9"), looks := true }, kinds := [], alts := [], laidByText := true, laidKinds := [.data, .data, .data, .data, .data, .data, .data, .data, .data, .data, .pinned], laidTests := true, laidLooks := .later }
def PrintStatementsUptoCardSaid : Prop := Claim7.holds Tryz.pinned (.plain (OpenSpec.upto printStatementsSpec)) printStatementsUptoCard

/-- THE SECOND FORM's CARD OF 'triggerstorelaw12.PrintTokens'. -/
def printTokensUptoCard : Claim7 := { stood := { row := printTokensUptoRow, standIns := [], harness := (true, "8ed5ca81c0292cc9c5842a29f2624a582047b2f79613806cc7ae8f8d153d53e9"), looks := true }, kinds := [], alts := [], laidByText := true, laidKinds := [.data, .data, .data, .data, .data, .data, .data, .pinned], laidTests := true, laidLooks := .later }
def PrintTokensUptoCardSaid : Prop := Claim7.holds Tryz.pinned (.plain (OpenSpec.upto printTokensSpec)) printTokensUptoCard

/-- THE SECOND FORM's CARD OF 'triggerstorelaw13.ParseLevels'. -/
def parseLevelsUptoCard : Claim7 := { stood := { row := parseLevelsUptoRow, standIns := [], harness := (true, "8ed5ca81c0292cc9c5842a29f2624a582047b2f79613806cc7ae8f8d153d53e9"), looks := true }, kinds := [], alts := [], laidByText := true, laidKinds := [.data, .data, .data, .sentinel, .sentinel], laidTests := true, laidLooks := .later }
def ParseLevelsUptoCardSaid : Prop := Claim7.holds Tryz.pinned (.plain (OpenSpec.upto parseLevelsSpec)) parseLevelsUptoCard

/-- THE SECOND FORM's CARD OF 'triggerstorelaw13.ParseBack'. -/
def parseBackUptoCard : Claim7 := { stood := { row := parseBackUptoRow, standIns := [], harness := (true, "8ed5ca81c0292cc9c5842a29f2624a582047b2f79613806cc7ae8f8d153d53e9"), looks := true }, kinds := [], alts := [], laidByText := true, laidKinds := [.data, .data, .data, .data, .sentinel, .sentinel, .data, .data, .data, .data, .data, .data, .pinned], laidTests := true, laidLooks := .later }
def ParseBackUptoCardSaid : Prop := Claim7.holds Tryz.pinned (.plain (OpenSpec.upto parseBackSpec)) parseBackUptoCard
end Rows
end Go.Proofs.YtpnigfmclmfjaaaGreatDoor
