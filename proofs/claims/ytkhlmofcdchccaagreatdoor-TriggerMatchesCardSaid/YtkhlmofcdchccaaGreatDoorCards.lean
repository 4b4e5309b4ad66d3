/-
  DERIVED. GIVEN WITH THE SEED: THE CARDS: each row of YtkhlmofcdchccaaGreatDoorRows.lean that lists a variable, with what it lists TIED to the program's text (the seventh form; the later family's looks); each row that meets fmt, with fmt's text TOLD by the authors' own Lean function (tested against real Go, not proved from fmt's source: count such statements apart). THE CARD IS WHAT COUNTS. Prove the row's statement (the work); the ties are given (YtkhlmofcdchccaaGreatDoorTie.lean); close each card by the builder's one call (the guide's Derived/Test/ToyasCard.lean, 'card_holds'). Laid BY PROGRAM, IN A SANDBOX (cutbox-door.mjs). By AI agents, Wed Nov 11 2026. No macro, syntax, notation, axiom, sorry.
-/
import Derived.Test.YtkhlmofcdchccaaGreatDoorRows
import GoSem.ClaimSeven
namespace Go.Proofs.YtkhlmofcdchccaaGreatDoor
namespace Rows

/-- THE TIED CARD OF 'triggerstorelaw13.ParseLevels'. -/
def parseLevelsCard : Claim7 := { stood := { row := parseLevelsRow, standIns := [], harness := (true, "0894dd457a03ca7568b80a1dc8aba87c26c8515fa9c5d8f49fc82d0106d12346"), looks := true }, kinds := [], alts := [], laidByText := true, laidKinds := [.data, .data, .data, .sentinel, .sentinel], laidTests := true, laidLooks := .later }
def ParseLevelsCardSaid : Prop := Claim7.holds Tryz.pinned (.plain (OpenSpec.ofChange parseLevelsSpec)) parseLevelsCard

/-- THE TIED CARD OF 'triggerstorelaw17.TriggerMatches'. -/
def triggerMatchesCard : Claim7 := { stood := { row := triggerMatchesRow, standIns := [], harness := (true, "0894dd457a03ca7568b80a1dc8aba87c26c8515fa9c5d8f49fc82d0106d12346"), looks := true }, kinds := [], alts := [], laidByText := true, laidKinds := [.data], laidTests := true, laidLooks := .later }
def TriggerMatchesCardSaid : Prop := Claim7.holds Tryz.pinned (.plain (OpenSpec.ofChange triggerMatchesSpec)) triggerMatchesCard

/-- THE SECOND FORM's CARD OF 'triggerstorelaw13.ParseLevels'. -/
def parseLevelsUptoCard : Claim7 := { stood := { row := parseLevelsUptoRow, standIns := [], harness := (true, "0894dd457a03ca7568b80a1dc8aba87c26c8515fa9c5d8f49fc82d0106d12346"), looks := true }, kinds := [], alts := [], laidByText := true, laidKinds := [.data, .data, .data, .sentinel, .sentinel], laidTests := true, laidLooks := .later }
def ParseLevelsUptoCardSaid : Prop := Claim7.holds Tryz.pinned (.plain (OpenSpec.upto parseLevelsSpec)) parseLevelsUptoCard

/-- THE SECOND FORM's CARD OF 'triggerstorelaw17.TriggerMatches'. -/
def triggerMatchesUptoCard : Claim7 := { stood := { row := triggerMatchesUptoRow, standIns := [], harness := (true, "0894dd457a03ca7568b80a1dc8aba87c26c8515fa9c5d8f49fc82d0106d12346"), looks := true }, kinds := [], alts := [], laidByText := true, laidKinds := [.data], laidTests := true, laidLooks := .later }
def TriggerMatchesUptoCardSaid : Prop := Claim7.holds Tryz.pinned (.plain (OpenSpec.upto triggerMatchesSpec)) triggerMatchesUptoCard
end Rows
end Go.Proofs.YtkhlmofcdchccaaGreatDoor
