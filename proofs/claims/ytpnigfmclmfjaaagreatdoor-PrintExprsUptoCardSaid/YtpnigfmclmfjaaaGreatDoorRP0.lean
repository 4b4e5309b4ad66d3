/- What a row's list gives of the reference's operators, and a world for the witnesses of the laws on printing. -/
import Derived.Test.YtpnigfmclmfjaaaGreatDoorRL2
import Derived.Test.YtpnigfmclmfjaaaGreatDoorKY1
namespace Go.Proofs.YtpnigfmclmfjaaaGreatDoor
open Go.RowKit

theorem gOps : Tryz.prog.globalNamed "triggerstore/triggerstoreref12.operators" = some 3 := by kernel_rfl
theorem tOps : (Tryz.prog.globals[3]?).map (·.type) = some 208 := by kernel_rfl
theorem ops_of {W : World} {rest : List (String × DataW Unit)} (h : laidMet Tryz.prog (("triggerstore/triggerstoreref12.operators", Rows.laid_triggerstore_triggerstoreref12_operators) :: rest) W) : OpsR W := by
  have hh := strs_of_head (ss := opL) gOps tOps Tryz.underlying208 Tryz.underlying9 cStr rfl h
  intro i hi
  have hl : i < opL.length := hi
  have h1 : opL[i]? = some (opL.getD i []) := by rw [List.getD_eq_getElem?_getD, List.getElem?_eq_getElem hl]; rfl
  exact hh i _ h1
noncomputable def laidPr (os : Os) : World := { laidAll os with heap := (laidAll os).heap.modify 3 (setTab (litCells Rows.laid_triggerstore_triggerstoreref12_operators)) }
end Go.Proofs.YtpnigfmclmfjaaaGreatDoor
