/- Contracts of strings.Builder's WriteByte and WriteString at this translation, laid from the shelf's own. -/
import Derived.Test.YtkhlmofcdchccaaGreatDoorSp
namespace Go.Proofs.YtkhlmofcdchccaaGreatDoor
open Go.RowKit Go.Shelf

def ren167 : Go.Shelf.Ren := ⟨fun | 166 => 18 | 167 => 191 | 240 => 43 | 276 => 94 | n => n, fun | 0 => 0 | 3 => 3 | 4 => 4 | 5 => 5 | 9 => 9 | 20 => 20 | 37 => 65 | 70 => 64 | 72 => 67 | 75 => 70 | 80 => 39 | 164 => 174 | n => n, fun n => n⟩
theorem lays167 : Go.Proofs.Lays.n167 Tryz.prog ren167 := {
  mixed := by kernel_rfl
  f167 := Tryz.func191.trans (congrArg some (by kernel_rfl))
  f240 := Tryz.func43.trans (congrArg some (by kernel_rfl))
  f276 := Tryz.func94.trans (congrArg some (by kernel_rfl))
  t0 := Tryz.underlying0
  a0 := Tryz.isAgg0
  z0 := Tryz.sizeOf0
  v0 := Tryz.zeroValue0
  t4 := Tryz.underlying4
  a4 := Tryz.isAgg4
  z4 := Tryz.sizeOf4
  v4 := Tryz.zeroValue4
  t5 := Tryz.underlying5
  a5 := Tryz.isAgg5
  z5 := Tryz.sizeOf5
  v5 := Tryz.zeroValue5
  t9 := Tryz.underlying9
  a9 := Tryz.isAgg9
  z9 := Tryz.sizeOf9
  v9 := Tryz.zeroValue9
  t20 := Tryz.underlying20
  a20 := Tryz.isAgg20
  z20 := Tryz.sizeOf20
  v20 := Tryz.zeroValue20
  t37 := Tryz.underlying65
  a37 := Tryz.isAgg65
  z37 := Tryz.sizeOf65
  v37 := Tryz.zeroValue65
  t70 := Tryz.underlying64
  a70 := Tryz.isAgg64
  z70 := Tryz.sizeOf64
  v70 := Tryz.zeroValue64
  t72 := Tryz.underlying67
  a72 := Tryz.isAgg67
  z72 := Tryz.sizeOf67
  v72 := Tryz.zeroValue67
  t75 := Tryz.underlying70
  a75 := Tryz.isAgg70
  z75 := Tryz.sizeOf70
  v75 := Tryz.zeroValue70
  t164 := Tryz.underlying174
  a164 := Tryz.isAgg174
  z164 := Tryz.sizeOf174
  v164 := Tryz.zeroValue174
}
theorem extra167 : Builder.Extra Tryz.prog ren167 := { sizeBuilder := by kernel_rfl, liesBuilder := by kernel_rfl, t5 := Tryz.underlying5, a5 := Tryz.isAgg5, z5 := Tryz.sizeOf5, v5 := Tryz.zeroValue5, infoByte := by kernel_rfl, cellsByte := by kernel_rfl, sizeByte := by kernel_rfl, neB5 := by decide }

/-- A builder at block b that holds these bytes. -/
def BldR (B b : Nat) (l : List UInt8) (w : World) : Prop := Lib.IsBuilderF 67 5 B b (Lib.byteCells l) w

theorem BldR.new {B b : Nat} {w : World} (hB : B ≤ b) (h : w.heap[b]? = some (.cells #[.pointer none, .slice none 0 0] 67 (0, 0))) : BldR B b [] w :=
  .inl ⟨hB, _, h, World.ownsRowF_nil _ _ _ _, by simp [Value.ownBlock]⟩
theorem BldR.lo {B b : Nat} {l : List UInt8} {w : World} (h : BldR B b l w) : B ≤ w.heap.size := by
  rcases h with h | h <;> exact Nat.le_of_lt (Nat.lt_of_le_of_lt h.1 h.lt)
theorem ownF_keep {w w' : World} {B : Nat} {e : TypeId} {v : Value} {n : Nat} {xs : List Value} (h : w.ownsRowF B e 1 v n xs) (hb : Below w.heap.size w w') : w'.ownsRowF B e 1 v n xs := by
  obtain ⟨h1, h2⟩ := h
  refine ⟨h1, ?_⟩
  rcases h2 with h2 | ⟨g, cap, cur, fz, hv, hg, hh, rest⟩
  · exact .inl h2
  · exact .inr ⟨g, cap, cur, fz, hv, hg, by rw [hb.block g (Array.getElem?_eq_some_iff.1 hh).1]; exact hh, rest⟩
theorem BldR.bel {B b : Nat} {l : List UInt8} {w w' : World} (h : BldR B b l w) (hb : Below w.heap.size w w') : BldR B b l w' := by
  have step : ∀ p, Lib.BuilderAtF 67 5 B b p (Lib.byteCells l) w → Lib.BuilderAtF 67 5 B b p (Lib.byteCells l) w' := by
    rintro p ⟨h1, v, h2, h3, h4⟩
    exact ⟨h1, v, by rw [hb.block b (Array.getElem?_eq_some_iff.1 h2).1]; exact h2, ownF_keep h3 hb, h4⟩
  exact h.imp (step _) (step _)

theorem writeByte_b (B b : Nat) (l : List UInt8) (c : UInt8) (w : World) (h : BldR B b l w) (hl : l.length + 1 ≤ 140737488355328) :
    Calls Tryz.prog 191 #[.pointer (some ⟨b, 0, none⟩), .int .u8 (c.toNat : Int)] w fun e w' => e = .returned .nilIface ∧ BldR B b (l ++ [c]) w' ∧ Below B w w' := by
  refine (Any.Builder_WriteByte_k lays167 extra167 B b (Lib.byteCells l) (c.toNat : Int) w h (by rw [Lib.byteCells_length]; exact hl) (BldR.lo h)).mono ?_
  rintro e w' ⟨he, h1, h2, _⟩
  refine ⟨he, .inr ?_, h2⟩
  rw [Lib.byteCells, List.map_append]
  exact h1
theorem string_b (B b : Nat) (l : List UInt8) (w : World) (h : BldR B b l w) :
    Calls Tryz.prog 20 #[.pointer (some ⟨b, 0, none⟩)] w fun e w' => e = .returned (.string ⟨l.toArray⟩) ∧ BldR B b l w' ∧ Below B w w' := by
  refine (Tryz.Builder_String_any_k B b l w h (BldR.lo h)).mono ?_
  rintro e w' ⟨he, h1, h2, _⟩
  exact ⟨he, h1, h2⟩
end Go.Proofs.YtkhlmofcdchccaaGreatDoor
