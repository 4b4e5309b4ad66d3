/- Conditions from the tape: the contract of condition, over a contract of Expr. -/
import Derived.Test.YtkhlmofcdchccaaGreatDoorKD2
namespace Go.Proofs.YtkhlmofcdchccaaGreatDoor
open Go.RowKit

end Go.Proofs.YtkhlmofcdchccaaGreatDoor
