/- Levels and precedences of expressions, over plain trees. No program is named here. Precedences: contracts of Precedence and Least. The contract of Least. Levels: contracts of greatest, levelsOfQuery and LevelsOf. Levels of an expression with a query: contract of levelsOfQuery. The expressions that AnyExpr makes, as plain trees, and their levels. Levels of an expression: the contract of LevelsOf, for every expression. -/
import Derived.Test.YtkhlmofcdchccaaGreatDoorKB
import Derived.Test.YtkhlmofcdchccaaGreatDoorKV3
import Derived.Test.YtkhlmofcdchccaaGreatDoorKC4
import Derived.Test.YtkhlmofcdchccaaGreatDoorKD1
import Derived.Test.YtkhlmofcdchccaaGreatDoorKD2
namespace Go.Proofs.YtkhlmofcdchccaaGreatDoor
open Go.RowKit


end Go.Proofs.YtkhlmofcdchccaaGreatDoor

namespace Go.Proofs.YtkhlmofcdchccaaGreatDoor
open Go.RowKit

end Go.Proofs.YtkhlmofcdchccaaGreatDoor

namespace Go.Proofs.YtkhlmofcdchccaaGreatDoor
open Go.RowKit

end Go.Proofs.YtkhlmofcdchccaaGreatDoor

namespace Go.Proofs.YtkhlmofcdchccaaGreatDoor
open Go.RowKit

end Go.Proofs.YtkhlmofcdchccaaGreatDoor

namespace Go.Proofs.YtkhlmofcdchccaaGreatDoor
open Go.RowKit

end Go.Proofs.YtkhlmofcdchccaaGreatDoor

namespace Go.Proofs.YtkhlmofcdchccaaGreatDoor
open Go.RowKit

def qualL : List ByteArray := [es, bs [78, 69, 87], bs [79, 76, 68], bs [73, 78, 83, 69, 82, 84, 69, 68], bs [116], bs [117]]
def fromL : List ByteArray := [bs [116], bs [117], bs [108, 111, 103], bs [73, 78, 83, 69, 82, 84, 69, 68], bs [68, 69, 76, 69, 84, 69, 68]]

/-- What AnyExpr makes at a depth. -/
inductive AnyX : Nat → Ex → Prop
  | col (n : Nat) (q : ByteArray) (i : Nat) (hq : q ∈ qualL) (hi : i < 8) : AnyX n (colX q (nameAt i))
  | lit (n : Nat) (v : Val) (hv : ValidVal v) (h0 : v.kind = 1 → 0 ≤ v.int) : AnyX n (litX v)
  | ops (n : Nat) (k o : Int) (no : Bool) (args : List Ex) (hk : OpShape k o no args.length) (ha : ∀ x ∈ args, AnyX n x) : AnyX (n + 1) (opX k o no args [])
  | sub (n : Nat) (k : Int) (f : ByteArray) (items whr : List Ex) (hf : f ∈ fromL) (hi : ((k = 8 ∨ k = 9) ∧ items = []) ∨ ((k = 10 ∨ k = 11 ∨ k = 12) ∧ items.length = 1)) (hw : whr.length ≤ 1) (h1 : ∀ x ∈ items, AnyX n x) (h2 : ∀ x ∈ whr, AnyX n x) :
      AnyX (n + 1) (opX k 0 false [] [.mk (k == 8) items f whr])

theorem AnyX.up {n m : Nat} {e : Ex} (h : AnyX n e) (hm : n ≤ m) : AnyX m e := by
  induction h generalizing m with
  | col n q i hq hi => exact .col m q i hq hi
  | lit n v hv h0 => exact .lit m v hv h0
  | ops n k o no args hk ha ih =>
    obtain ⟨m, rfl⟩ : ∃ j, m = j + 1 := ⟨m - 1, by omega⟩
    exact .ops m k o no args hk fun x hx => ih x hx (by omega)
  | sub n k f items whr hf hi hw h1 h2 ih1 ih2 =>
    obtain ⟨m, rfl⟩ : ∃ j, m = j + 1 := ⟨m - 1, by omega⟩
    exact .sub m k f items whr hf hi hw (fun x hx => ih1 x hx (by omega)) fun x hx => ih2 x hx (by omega)
end Go.Proofs.YtkhlmofcdchccaaGreatDoor

namespace Go.Proofs.YtkhlmofcdchccaaGreatDoor
open Go.RowKit

section
variable (o : Int) (no : Bool) (vk vi : Int) (tx t nm : ByteArray) (va vs : Value) (w : World)

end

end Go.Proofs.YtkhlmofcdchccaaGreatDoor
