/- Expressions with the parts that their kinds have: contract of scope.Formed. Conditions and expressions with a query, over a contract of Type: contracts of scope.Condition and scope.aggregate. Expressions with a query, over a contract of Type: the contract of scope.aggregate. Expressions with a query of one item: the rest of the contract of scope.aggregate. Types of expressions: the contract of scope.Type, for every expression. -/
import Derived.Test.YtkhlmofcdchccaaGreatDoorKC2
namespace Go.Proofs.YtkhlmofcdchccaaGreatDoor
open Go.RowKit

section
variable (o : Int) (no : Bool) (vk vi : Int) (vt t nm : ByteArray) (a s : Option Addr) (n m ac sc : Nat) (w : World)
end

end Go.Proofs.YtkhlmofcdchccaaGreatDoor

namespace Go.Proofs.YtkhlmofcdchccaaGreatDoor
open Go.RowKit

theorem CellsAt.c10 {w : World} {b o : Nat} {a0 a1 a2 a3 a4 a5 a6 a7 a8 a9 : Value} (h : CellsAt w b o [a0, a1, a2, a3, a4, a5, a6, a7, a8, a9]) :
    w.cell? ⟨b, o, none⟩ = some a0 ∧ w.cell? ⟨b, o + 1, none⟩ = some a1 ∧ w.cell? ⟨b, o + 2, none⟩ = some a2 ∧ w.cell? ⟨b, o + 3, none⟩ = some a3 ∧ w.cell? ⟨b, o + 4, none⟩ = some a4 ∧
    w.cell? ⟨b, o + 5, none⟩ = some a5 ∧ w.cell? ⟨b, o + 6, none⟩ = some a6 ∧ w.cell? ⟨b, o + 7, none⟩ = some a7 ∧ w.cell? ⟨b, o + 8, none⟩ = some a8 ∧ w.cell? ⟨b, o + 9, none⟩ = some a9 :=
  ⟨h 0 _ rfl, h 1 _ rfl, h 2 _ rfl, h 3 _ rfl, h 4 _ rfl, h 5 _ rfl, h 6 _ rfl, h 7 _ rfl, h 8 _ rfl, h 9 _ rfl⟩

def ColsSmall (ts : List Sch) : Prop := ∀ s ∈ ts, s.cols.length * 32 ≤ 140737488355328

end Go.Proofs.YtkhlmofcdchccaaGreatDoor

namespace Go.Proofs.YtkhlmofcdchccaaGreatDoor
open Go.RowKit

/-- Some cells, each a block, a place and a value. -/
def Cells (W : World) (L : List (Nat × Nat × Value)) : Prop := ∀ p ∈ L, W.cell? ⟨p.1, p.2.1, none⟩ = some p.2.2
theorem Cells.nil (W : World) : Cells W [] := fun _ h => by cases h
theorem Cells.cons {W : World} {b o : Nat} {v : Value} {L : List (Nat × Nat × Value)} (h : W.cell? ⟨b, o, none⟩ = some v) (hl : Cells W L) : Cells W ((b, o, v) :: L) := by
  intro p hp
  rcases List.mem_cons.1 hp with rfl | hp
  · exact h
  · exact hl p hp
theorem Cells.bel {W W' : World} {L : List (Nat × Nat × Value)} (h : Cells W L) (hb : Below W.heap.size W W') : Cells W' L := fun p hp => by
  have := h p hp
  exact (hb.cell (World.block_lt_of_cell? _ _ this)).trans this
theorem Cells.alloc {W : World} {L : List (Nat × Nat × Value)} (h : Cells W L) (o : Obj) : Cells (W.alloc o) L := h.bel ((Below.refl _ _).alloc (Nat.le_refl _) o)
section
variable (ts : List Sch) (k o : Int) (no : Bool) (vk vi : Int) (vt t nm : ByteArray) (a sa : Option Addr) (an ac : Nat) (sc sb so : Nat) (star : Bool) (frm : ByteArray) (ia wa : Option Addr) (ic wc : Nat) (items whr : List Ex) (fs : List Frm) (vf vtb : Value) (w : World)
  (hsb : sb < w.heap.size) (q0 : w.cell? ⟨sb, so, none⟩ = some (.bool star)) (q1 : w.cell? ⟨sb, so + 1, none⟩ = some (.slice ia items.length ic)) (q2 : w.cell? ⟨sb, so + 2, none⟩ = some (.string frm)) (q3 : w.cell? ⟨sb, so + 3, none⟩ = some (.slice wa whr.length wc))
  (hts : TblsR NoM w vtb ts) (hsm : ColsSmall ts)

include hsb q0 q1 q2 q3 hts in
include hsb q0 q1 q2 q3 hts hsm in
end

end Go.Proofs.YtkhlmofcdchccaaGreatDoor

namespace Go.Proofs.YtkhlmofcdchccaaGreatDoor
open Go.RowKit

section
variable (ts : List Sch) (k o : Int) (no : Bool) (vk vi : Int) (vt t nm : ByteArray) (a sa : Option Addr) (an ac : Nat) (sc sb so : Nat) (star : Bool) (frm : ByteArray) (ib io : Nat) (wa : Option Addr) (ic wc : Nat) (x : Ex) (whr : List Ex) (fs : List Frm) (vf vtb : Value) (w : World)
  (hsb : sb < w.heap.size) (q0 : w.cell? ⟨sb, so, none⟩ = some (.bool star)) (q1 : w.cell? ⟨sb, so + 1, none⟩ = some (.slice (some ⟨ib, io, none⟩) 1 ic)) (q2 : w.cell? ⟨sb, so + 2, none⟩ = some (.string frm)) (q3 : w.cell? ⟨sb, so + 3, none⟩ = some (.slice wa whr.length wc))
  (hts : TblsR NoM w vtb ts) (hsm : ColsSmall ts)

include hsb q0 q1 q2 q3 hts hsm in
end

end Go.Proofs.YtkhlmofcdchccaaGreatDoor

namespace Go.Proofs.YtkhlmofcdchccaaGreatDoor
open Go.RowKit

end Go.Proofs.YtkhlmofcdchccaaGreatDoor
