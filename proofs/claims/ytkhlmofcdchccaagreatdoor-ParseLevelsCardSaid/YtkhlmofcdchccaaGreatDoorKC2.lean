/- Types that fit: contracts of fits, all and operation. A frame more: contract of scope.inside. Tables found: contracts of scope.Source. Frames of a row trigger: contracts of the reference's Frames and of the statement's frames. The frames of the statements on names and types: the contract of frames. -/
import Derived.Test.YtkhlmofcdchccaaGreatDoorKC1
import Derived.Test.YtkhlmofcdchccaaGreatDoorKB
import Derived.Deep.RegionHeld3
import Derived.Deep.AppendLies
namespace Go.Proofs.YtkhlmofcdchccaaGreatDoor
open Go.RowKit

def IntsR (M : Nat → Prop) (w : World) (v : Value) (l : List Int) : Prop := RowsR M w 1 IntR v l
theorem IntsR.keep {M : Nat → Prop} {w w' : World} {v : Value} {l : List Int} (h : IntsR M w v l) (k : Keep M w w') : IntsR M w' v l := RowsR.map h k fun _ _ _ h => h

section
variable {M : Nat → Prop} (k o : Int) (no : Bool) (vk vi : Int) (vt t nm : ByteArray) (va vs v : Value) (l : List Int) (w : World)

end

end Go.Proofs.YtkhlmofcdchccaaGreatDoor

namespace Go.Proofs.YtkhlmofcdchccaaGreatDoor
open Go.RowKit

def NoM : Nat → Prop := fun _ => False
end Go.Proofs.YtkhlmofcdchccaaGreatDoor

namespace Go.Proofs.YtkhlmofcdchccaaGreatDoor
open Go.RowKit

end Go.Proofs.YtkhlmofcdchccaaGreatDoor

namespace Go.Proofs.YtkhlmofcdchccaaGreatDoor
open Go.RowKit

section
variable (n1 n2 : ByteArray) (bf : Bool) (o1 o2 o3 o4 o5 o6 : Option Addr) (l1 l2 l3 l4 l5 l6 c1 c2 c3 c4 c5 c6 : Nat) (s : ByteArray) (vc : Value) (cols : List Col) (w : World) (hc : ColsR NoM w vc cols) (hN : cols.length ≤ 1000000)

include hc hN in
end

end Go.Proofs.YtkhlmofcdchccaaGreatDoor

namespace Go.Proofs.YtkhlmofcdchccaaGreatDoor
open Go.RowKit

end Go.Proofs.YtkhlmofcdchccaaGreatDoor
