/- Arguments that are slices of structs, as rows in memory; and what the form's own reach says of them. No program is named here. Raw arguments of this program's types: columns, frames, tables, values. -/
import Derived.Test.YtkhlmofcdchccaaGreatDoorKB
import Derived.Test.YtkhlmofcdchccaaGreatDoorKC3
import Derived.Deep.Fields
import Derived.SizedLaws
import Derived.ChangeShapes
import Derived.OpenShut
namespace Go.Proofs.YtkhlmofcdchccaaGreatDoor
open Go.RowKit

section
variable {H : Type} {enc : TypeId × Value → H} {P : Program} {W : World} {t e : TypeId} {size : Nat} {v : Value} {d : DataW H}

end

end Go.Proofs.YtkhlmofcdchccaaGreatDoor

namespace Go.Proofs.YtkhlmofcdchccaaGreatDoor
open Go.RowKit

section
variable {H : Type} {enc : TypeId × Value → H} {W : World} {d : DataW H} {cs : List Value} {v : Value}

/-- A value whose text is no longer than any text. -/
def ValOk (v : Val) : Prop := v.text.size ≤ maxLen ∧ -9223372036854775808 ≤ v.int ∧ v.int ≤ 9223372036854775807 ∧ -9223372036854775808 ≤ v.kind ∧ v.kind ≤ 9223372036854775807

end

end Go.Proofs.YtkhlmofcdchccaaGreatDoor
