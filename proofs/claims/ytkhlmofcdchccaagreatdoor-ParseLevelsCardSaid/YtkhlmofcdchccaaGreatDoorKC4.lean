/- Types of expressions: the contract of scope.Type, for every expression. The contract of scope.Type, for every expression, joined. What a schema of any kind leaves in memory. The sanity check of the statements of chapter 14: the contract of known. What ScopeInner needs: an append at a step of a drawn region, and plain laws on resolving in one more frame. append(s, x...) at a step of a drawn region, whatever x. No program is named here. Expressions that are made with a type have this type or that of NULL: the plain law, without any program. -/
import Derived.Test.YtkhlmofcdchccaaGreatDoorKC3
import Derived.Test.YtkhlmofcdchccaaGreatDoorKC2
import Derived.Test.YtkhlmofcdchccaaGreatDoorKC1
import Derived.Deep.RegionHeld3
import Derived.Deep.DeepCutAuto
import Derived.Deep.AppendLies
namespace Go.Proofs.YtkhlmofcdchccaaGreatDoor
open Go.RowKit

section
variable (ts : List Sch) (k o : Int) (no : Bool) (vk vi : Int) (vt t nm : ByteArray) (a sa : Option Addr) (args : List Ex) (an ac sn sc : Nat) (fs : List Frm) (vf vtb : Value) (w : World) (r : Bool)
  (hfm : ∀ w', Below w.heap.size w w' → Calls Tryz.prog 180 #[.agg #[.int .i64 k, .int .i64 o, .bool no, .int .i64 vk, .int .i64 vi, .string vt, .string t, .string nm, .slice a an ac, .slice sa sn sc]] w' (RetBel (.bool r) w'))

set_option maxHeartbeats 1000000 in
include hfm in
set_option maxHeartbeats 1000000 in
include hfm in
set_option maxHeartbeats 1000000 in
include hfm in
set_option maxHeartbeats 1000000 in
include hfm in
set_option maxHeartbeats 1000000 in
include hfm in
end

end Go.Proofs.YtkhlmofcdchccaaGreatDoor

namespace Go.Proofs.YtkhlmofcdchccaaGreatDoor
open Go.RowKit

end Go.Proofs.YtkhlmofcdchccaaGreatDoor

namespace Go.Proofs.YtkhlmofcdchccaaGreatDoor
open Go.RowKit

theorem kcell {T : Nat} {w w' : World} (k : Keep (At T) w w') : (∀ b o, b < w.heap.size → b ≠ T → w'.cell? ⟨b, o, none⟩ = w.cell? ⟨b, o, none⟩) ∧ (∀ b o, b < w.heap.size → b ≠ T → w'.frozen? ⟨b, o, none⟩ = w.frozen? ⟨b, o, none⟩) :=
  ⟨fun _ _ h hT => k.cell h hT, fun b _ h hT => World.frozen?_of_block (k.block b h hT)⟩

theorem kcell1 {T : Nat} {w w' : World} (k : Keep (At T) w w') {b o : Nat} {x : Value} (h : w.cell? ⟨b, o, none⟩ = some x) (hT : b ≠ T) : w'.cell? ⟨b, o, none⟩ = some x :=
  (k.cell (World.block_lt_of_cell? _ _ h) hT).trans h

end Go.Proofs.YtkhlmofcdchccaaGreatDoor

namespace Go.Proofs.YtkhlmofcdchccaaGreatDoor
open Go.RowKit

end Go.Proofs.YtkhlmofcdchccaaGreatDoor

namespace Go.Proofs.YtkhlmofcdchccaaGreatDoor
open Go.RowKit

end Go.Proofs.YtkhlmofcdchccaaGreatDoor

namespace Go.Proofs.YtkhlmofcdchccaaGreatDoor
open Go.RowKit

end Go.Proofs.YtkhlmofcdchccaaGreatDoor

namespace Go.Proofs.YtkhlmofcdchccaaGreatDoor

/-- Its type is the one that was asked for, or that of NULL. -/
def Made (ts : List Sch) (fs : List Frm) (want : Int) (e : Ex) : Prop := (typeP ts e fs).2 = 0 ∧ ((typeP ts e fs).1 = 0 ∨ (typeP ts e fs).1 = want)

def opX (k o : Int) (no : Bool) (args : List Ex) (sub : List Qu) : Ex := .mk k o no val0 es es args sub
/-- Kinds with arguments. -/
def OpShape (k o : Int) (no : Bool) (n : Nat) : Prop :=
  ((k = 3 ∨ k = 4) ∧ o = 0 ∧ no = false ∧ n = 1) ∨ (k = 6 ∧ o = 0 ∧ n = 1) ∨ (k = 5 ∧ 1 ≤ o ∧ o ≤ 13 ∧ no = false ∧ n = 2) ∨ (k = 7 ∧ o = 0 ∧ no = false ∧ n = 3)

def numX (n : Int) : Ex := if n < 0 then negX (litX ⟨1, -n, es⟩) else litX ⟨1, n, es⟩

/-- Frames and tables that go by their names: what has the same name has the same columns, all different. -/
def Named (look : List UInt8 → List Col) (fs : List Frm) (ss : List Sch) : Prop :=
  (∀ f ∈ fs, f.cols = look f.name.toList ∧ f.name.toList ≠ []) ∧ (∀ s ∈ ss, s.cols = look s.name.toList ∧ s.name.toList ≠ []) ∧ (∀ (n : List UInt8) (i j : Nat) (a b : Col), (look n)[i]? = some a → (look n)[j]? = some b → a.name.toList = b.name.toList → i = j)

theorem Named.sub {look : List UInt8 → List Col} {fs fs' : List Frm} {ss ss' : List Sch} (h : Named look fs ss) (h1 : ∀ f ∈ fs', f ∈ fs) (h2 : ∀ s ∈ ss', s ∈ ss) : Named look fs' ss' :=
  ⟨fun f hf => h.1 f (h1 f hf), fun s hs => h.2.1 s (h2 s hs), h.2.2⟩

end Go.Proofs.YtkhlmofcdchccaaGreatDoor
