/- Contracts of strings.Builder's WriteByte and WriteString at this translation, laid from the shelf's own. -/
import Derived.Test.YtppiaaolggpjdaaDoorSp
namespace Go.Proofs.YtppiaaolggpjdaaDoor
open Go.RowKit Go.Shelf

def ren166 : Go.Shelf.Ren := ⟨fun | 166 => 143 | 167 => 142 | 240 => 172 | 276 => 190 | n => n, fun | 0 => 0 | 3 => 3 | 4 => 4 | 5 => 5 | 9 => 9 | 20 => 20 | 37 => 125 | 70 => 168 | 72 => 170 | 75 => 173 | 80 => 84 | 164 => 214 | n => n, fun n => n⟩
theorem lays166 : Go.Proofs.Lays.n166 Tryd.prog ren166 := {
  mixed := by kernel_rfl
  f166 := Tryd.func143.trans (congrArg some (by kernel_rfl))
  f240 := Tryd.func172.trans (congrArg some (by kernel_rfl))
  f276 := Tryd.func190.trans (congrArg some (by kernel_rfl))
  t0 := Tryd.underlying0
  a0 := Tryd.isAgg0
  z0 := Tryd.sizeOf0
  v0 := Tryd.zeroValue0
  t3 := Tryd.underlying3
  a3 := Tryd.isAgg3
  z3 := Tryd.sizeOf3
  v3 := Tryd.zeroValue3
  t4 := Tryd.underlying4
  a4 := Tryd.isAgg4
  z4 := Tryd.sizeOf4
  v4 := Tryd.zeroValue4
  t9 := Tryd.underlying9
  a9 := Tryd.isAgg9
  z9 := Tryd.sizeOf9
  v9 := Tryd.zeroValue9
  t20 := Tryd.underlying20
  a20 := Tryd.isAgg20
  z20 := Tryd.sizeOf20
  v20 := Tryd.zeroValue20
  t37 := Tryd.underlying125
  a37 := Tryd.isAgg125
  z37 := Tryd.sizeOf125
  v37 := Tryd.zeroValue125
  t70 := Tryd.underlying168
  a70 := Tryd.isAgg168
  z70 := Tryd.sizeOf168
  v70 := Tryd.zeroValue168
  t72 := Tryd.underlying170
  a72 := Tryd.isAgg170
  z72 := Tryd.sizeOf170
  v72 := Tryd.zeroValue170
  t75 := Tryd.underlying173
  a75 := Tryd.isAgg173
  z75 := Tryd.sizeOf173
  v75 := Tryd.zeroValue173
  t164 := Tryd.underlying214
  a164 := Tryd.isAgg214
  z164 := Tryd.sizeOf214
  v164 := Tryd.zeroValue214
}
theorem extra166 : Builder.Extra Tryd.prog ren166 := { sizeBuilder := by kernel_rfl, liesBuilder := by kernel_rfl, t5 := Tryd.underlying5, a5 := Tryd.isAgg5, z5 := Tryd.sizeOf5, v5 := Tryd.zeroValue5, infoByte := by kernel_rfl, cellsByte := by kernel_rfl, sizeByte := by kernel_rfl, neB5 := by decide }
def ren167 : Go.Shelf.Ren := ⟨fun | 166 => 143 | 167 => 142 | 240 => 172 | 276 => 190 | n => n, fun | 0 => 0 | 3 => 3 | 4 => 4 | 5 => 5 | 9 => 9 | 20 => 20 | 37 => 125 | 70 => 168 | 72 => 170 | 75 => 173 | 80 => 84 | 164 => 214 | n => n, fun n => n⟩
theorem lays167 : Go.Proofs.Lays.n167 Tryd.prog ren167 := {
  mixed := by kernel_rfl
  f167 := Tryd.func142.trans (congrArg some (by kernel_rfl))
  f240 := Tryd.func172.trans (congrArg some (by kernel_rfl))
  f276 := Tryd.func190.trans (congrArg some (by kernel_rfl))
  t0 := Tryd.underlying0
  a0 := Tryd.isAgg0
  z0 := Tryd.sizeOf0
  v0 := Tryd.zeroValue0
  t4 := Tryd.underlying4
  a4 := Tryd.isAgg4
  z4 := Tryd.sizeOf4
  v4 := Tryd.zeroValue4
  t5 := Tryd.underlying5
  a5 := Tryd.isAgg5
  z5 := Tryd.sizeOf5
  v5 := Tryd.zeroValue5
  t9 := Tryd.underlying9
  a9 := Tryd.isAgg9
  z9 := Tryd.sizeOf9
  v9 := Tryd.zeroValue9
  t20 := Tryd.underlying20
  a20 := Tryd.isAgg20
  z20 := Tryd.sizeOf20
  v20 := Tryd.zeroValue20
  t37 := Tryd.underlying125
  a37 := Tryd.isAgg125
  z37 := Tryd.sizeOf125
  v37 := Tryd.zeroValue125
  t70 := Tryd.underlying168
  a70 := Tryd.isAgg168
  z70 := Tryd.sizeOf168
  v70 := Tryd.zeroValue168
  t72 := Tryd.underlying170
  a72 := Tryd.isAgg170
  z72 := Tryd.sizeOf170
  v72 := Tryd.zeroValue170
  t75 := Tryd.underlying173
  a75 := Tryd.isAgg173
  z75 := Tryd.sizeOf173
  v75 := Tryd.zeroValue173
  t164 := Tryd.underlying214
  a164 := Tryd.isAgg214
  z164 := Tryd.sizeOf214
  v164 := Tryd.zeroValue214
}
theorem extra167 : Builder.Extra Tryd.prog ren167 := { sizeBuilder := by kernel_rfl, liesBuilder := by kernel_rfl, t5 := Tryd.underlying5, a5 := Tryd.isAgg5, z5 := Tryd.sizeOf5, v5 := Tryd.zeroValue5, infoByte := by kernel_rfl, cellsByte := by kernel_rfl, sizeByte := by kernel_rfl, neB5 := by decide }

/-- A builder at block b that holds these bytes. -/
def BldR (B b : Nat) (l : List UInt8) (w : World) : Prop := Lib.IsBuilderF 170 5 B b (Lib.byteCells l) w

theorem BldR.new {B b : Nat} {w : World} (hB : B ≤ b) (h : w.heap[b]? = some (.cells #[.pointer none, .slice none 0 0] 170 (0, 0))) : BldR B b [] w :=
  .inl ⟨hB, _, h, World.ownsRowF_nil _ _ _ _, by simp [Value.ownBlock]⟩
theorem BldR.lo {B b : Nat} {l : List UInt8} {w : World} (h : BldR B b l w) : B ≤ w.heap.size := by
  rcases h with h | h <;> exact Nat.le_of_lt (Nat.lt_of_le_of_lt h.1 h.lt)
theorem ownF_keep {w w' : World} {B : Nat} {e : TypeId} {v : Value} {n : Nat} {xs : List Value} (h : w.ownsRowF B e 1 v n xs) (hb : Below w.heap.size w w') : w'.ownsRowF B e 1 v n xs := by
  obtain ⟨h1, h2⟩ := h
  refine ⟨h1, ?_⟩
  rcases h2 with h2 | ⟨g, cap, cur, fz, hv, hg, hh, rest⟩
  · exact .inl h2
  · exact .inr ⟨g, cap, cur, fz, hv, hg, by rw [hb.block g (Array.getElem?_eq_some_iff.1 hh).1]; exact hh, rest⟩
theorem BldR.bel {B b : Nat} {l : List UInt8} {w w' : World} (h : BldR B b l w) (hb : Below w.heap.size w w') : BldR B b l w' := by
  have step : ∀ p, Lib.BuilderAtF 170 5 B b p (Lib.byteCells l) w → Lib.BuilderAtF 170 5 B b p (Lib.byteCells l) w' := by
    rintro p ⟨h1, v, h2, h3, h4⟩
    exact ⟨h1, v, by rw [hb.block b (Array.getElem?_eq_some_iff.1 h2).1]; exact h2, ownF_keep h3 hb, h4⟩
  exact h.imp (step _) (step _)

theorem writeByte_b (B b : Nat) (l : List UInt8) (c : UInt8) (w : World) (h : BldR B b l w) (hl : l.length + 1 ≤ 140737488355328) :
    Calls Tryd.prog 142 #[.pointer (some ⟨b, 0, none⟩), .int .u8 (c.toNat : Int)] w fun e w' => e = .returned .nilIface ∧ BldR B b (l ++ [c]) w' ∧ Below B w w' := by
  refine (Any.Builder_WriteByte_k lays167 extra167 B b (Lib.byteCells l) (c.toNat : Int) w h (by rw [Lib.byteCells_length]; exact hl) (BldR.lo h)).mono ?_
  rintro e w' ⟨he, h1, h2, _⟩
  refine ⟨he, .inr ?_, h2⟩
  rw [Lib.byteCells, List.map_append]
  exact h1
theorem writeString_b (B b : Nat) (l : List UInt8) (s : ByteArray) (w : World) (h : BldR B b l w) (hl : l.length + s.size ≤ 140737488355328) :
    Calls Tryd.prog 143 #[.pointer (some ⟨b, 0, none⟩), .string s] w fun e w' => e = .returned (.tuple #[.int .i64 s.size, .nilIface]) ∧ BldR B b (l ++ s.data.toList) w' ∧ Below B w w' := by
  refine (Any.Builder_WriteString_k lays166 extra166 B b (Lib.byteCells l) s w h (by rw [Lib.byteCells_length]; exact hl) (BldR.lo h)).mono ?_
  rintro e w' ⟨he, h1, h2, _⟩
  refine ⟨he, .inr ?_, h2⟩
  rw [Lib.byteCells, List.map_append]
  exact h1
theorem string_b (B b : Nat) (l : List UInt8) (w : World) (h : BldR B b l w) :
    Calls Tryd.prog 144 #[.pointer (some ⟨b, 0, none⟩)] w fun e w' => e = .returned (.string ⟨l.toArray⟩) ∧ BldR B b l w' ∧ Below B w w' := by
  refine (Tryd.Builder_String_any_k B b l w h (BldR.lo h)).mono ?_
  rintro e w' ⟨he, h1, h2, _⟩
  exact ⟨he, h1, h2⟩
end Go.Proofs.YtppiaaolggpjdaaDoor
