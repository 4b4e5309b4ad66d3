/- Values that are mostly not valid: the contract of Odd. Lists of values in memory, and the calls that give one value. -/
import Derived.Test.YtkhlmofcdchccaaGreatDoorKV2b
import Derived.Test.YtkhlmofcdchccaaGreatDoorKV2
import Derived.Test.YtkhlmofcdchccaaGreatDoorKD1
import Derived.Deep.RegionHeld3
import Derived.Maps.RangeWalk
import Derived.Deep.CutBlock
namespace Go.Proofs.YtkhlmofcdchccaaGreatDoor
open Go.RowKit

/-- The result's cells and those of v, behind tape calls. -/
def OL (T : Nat) (w wi : World) (S : Nat) (x : Val) : Prop :=
  TapeOk T wi ∧ Keep (At T) w wi ∧ wi.heap[w.heap.size]? = some (.cells #[.int .i64 0, .int .i64 0, .string ⟨#[]⟩] 26 (0, 0)) ∧ wi.heap[S]? = some (.cells #[.int .i64 x.kind, .int .i64 x.int, .string x.text] 26 (0, 0)) ∧ w.heap.size < S

section
variable {T S : Nat} {w wi wj : World} {x : Val}
theorem OL.step (h : OL T w wi S x) (hT : T < w.heap.size) (ht : TapeOk T wj) (hk : Keep (At T) wi wj) : OL T w wj S x :=
  ⟨ht, h.2.1.trans hk, (hk.block _ (Array.getElem?_eq_some_iff.1 h.2.2.1).1 fun h => by unfold At at h; omega).trans h.2.2.1, (hk.block _ (Array.getElem?_eq_some_iff.1 h.2.2.2.1).1 fun hh => by have := h.2.2.2.2; unfold At at hh; omega).trans h.2.2.2.1, h.2.2.2.2⟩
theorem OL.drew (h : OL T w wi S x) : OL T w wi.drew S x := ⟨h.1, h.2.1.drew, h.2.2.1, h.2.2.2.1, h.2.2.2.2⟩
theorem OL.alloc (h : OL T w wi S x) (hT : T < w.heap.size) (o : Obj) : OL T w (wi.alloc o) S x := h.step hT (h.1.alloc o) ((Keep.refl _ _).alloc o)
theorem OL.cells (h : OL T w wi S x) : wi.cell? ⟨S, 0, none⟩ = some (.int .i64 x.kind) ∧ wi.cell? ⟨S, 1, none⟩ = some (.int .i64 x.int) ∧ wi.cell? ⟨S, 2, none⟩ = some (.string x.text) ∧ (∀ i, wi.frozen? ⟨S, i, none⟩ = false) ∧ S < wi.heap.size := blk3 h.2.2.2.1
end

end Go.Proofs.YtkhlmofcdchccaaGreatDoor

namespace Go.Proofs.YtkhlmofcdchccaaGreatDoor
open Go.RowKit

theorem IntsAt.bel {w w' : World} {v : Value} (h : IntsAt w v) (k : Below w.heap.size w w') : IntsAt w' v := by
  obtain ⟨a, n, cap, rfl, h1, h2, h3⟩ := h
  refine ⟨a, n, cap, rfl, h1, h2, ?_⟩
  rcases h3 with h3 | ⟨b, o, rfl, hb, hi⟩
  · exact .inl h3
  · refine .inr ⟨b, o, rfl, Nat.lt_of_lt_of_le hb k.size, fun i hi' => ?_⟩
    obtain ⟨z, hz⟩ := hi i hi'
    exact ⟨z, (k.cell (p := ⟨b, o + i, none⟩) hb).trans hz⟩

/-- The cells of a value at an offset. -/
def ValAt (w : World) (b o : Nat) (x : Val) : Prop := w.cell? ⟨b, o, none⟩ = some (.int .i64 x.kind) ∧ w.cell? ⟨b, o + 1, none⟩ = some (.int .i64 x.int) ∧ w.cell? ⟨b, o + 2, none⟩ = some (.string x.text)
/-- A list of values lies from offset o of block b on. -/
def ListAt (w : World) (b o : Nat) (l : List Val) : Prop := b < w.heap.size ∧ ∀ (j : Nat) (x : Val), l[j]? = some x → ValAt w b (o + j * 3) x

theorem ValAt.bel {w w' : World} {b o : Nat} {x : Val} (h : ValAt w b o x) (hb : b < w.heap.size) (k : Below w.heap.size w w') : ValAt w' b o x :=
  ⟨(k.cell (p := ⟨b, o, none⟩) hb).trans h.1, (k.cell (p := ⟨b, o + 1, none⟩) hb).trans h.2.1, (k.cell (p := ⟨b, o + 2, none⟩) hb).trans h.2.2⟩
theorem ListAt.bel {w w' : World} {b o : Nat} {l : List Val} (h : ListAt w b o l) (k : Below w.heap.size w w') : ListAt w' b o l :=
  ⟨Nat.lt_of_lt_of_le h.1 k.size, fun j x hx => (h.2 j x hx).bel h.1 k⟩

end Go.Proofs.YtkhlmofcdchccaaGreatDoor
