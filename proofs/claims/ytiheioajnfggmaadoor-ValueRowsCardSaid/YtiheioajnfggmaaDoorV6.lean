/- Lists of values in memory, and the calls that give one value. -/
import Derived.Test.YtiheioajnfggmaaDoorV5
import Derived.Test.YtiheioajnfggmaaDoorV7
import Derived.Test.YtiheioajnfggmaaDoorC21
namespace Go.Proofs.YtiheioajnfggmaaDoor
open Go.RowKit

theorem IntsAt.bel {w w' : World} {v : Value} (h : IntsAt w v) (k : Below w.heap.size w w') : IntsAt w' v := by
  obtain ⟨a, n, cap, rfl, h1, h2, h3⟩ := h
  refine ⟨a, n, cap, rfl, h1, h2, ?_⟩
  rcases h3 with h3 | ⟨b, o, rfl, hb, hi⟩
  · exact .inl h3
  · refine .inr ⟨b, o, rfl, Nat.lt_of_lt_of_le hb k.size, fun i hi' => ?_⟩
    obtain ⟨z, hz⟩ := hi i hi'
    exact ⟨z, (k.cell (p := ⟨b, o + i, none⟩) hb).trans hz⟩

def Val3 (v : Value) (_ : World) : Prop := ∃ (k n : Int) (s : ByteArray), v = .agg #[.int .i64 k, .int .i64 n, .string s]
theorem value_t (T : Nat) (w : World) (ht : TapeOk T w) (hn : WordsOk T w) : Calls Tryd.prog 42 #[.pointer (some ⟨T, 0, none⟩)] w (Gives T w Val3) :=
  (value_any T w ht hn).mono fun _ _ ⟨v, he, ⟨x, hx, _⟩, h1, h2⟩ => ⟨v, he, ⟨x.kind, x.int, x.text, hx⟩, h1, h2⟩
theorem odd_t (T : Nat) (w : World) (ht : TapeOk T w) (hn : WordsOk T w) : Calls Tryd.prog 43 #[.pointer (some ⟨T, 0, none⟩)] w (Gives T w Val3) :=
  (odd_any T w ht hn).mono fun _ _ ⟨v, he, ⟨x, hx, _⟩, h1, h2⟩ => ⟨v, he, ⟨x.kind, x.int, x.text, hx⟩, h1, h2⟩

/-- The cells of a value at an offset. -/
def ValAt (w : World) (b o : Nat) (x : Val) : Prop := w.cell? ⟨b, o, none⟩ = some (.int .i64 x.kind) ∧ w.cell? ⟨b, o + 1, none⟩ = some (.int .i64 x.int) ∧ w.cell? ⟨b, o + 2, none⟩ = some (.string x.text)
/-- A list of values lies from offset o of block b on. -/
def ListAt (w : World) (b o : Nat) (l : List Val) : Prop := b < w.heap.size ∧ ∀ (j : Nat) (x : Val), l[j]? = some x → ValAt w b (o + j * 3) x

theorem ValAt.bel {w w' : World} {b o : Nat} {x : Val} (h : ValAt w b o x) (hb : b < w.heap.size) (k : Below w.heap.size w w') : ValAt w' b o x :=
  ⟨(k.cell (p := ⟨b, o, none⟩) hb).trans h.1, (k.cell (p := ⟨b, o + 1, none⟩) hb).trans h.2.1, (k.cell (p := ⟨b, o + 2, none⟩) hb).trans h.2.2⟩
theorem ListAt.bel {w w' : World} {b o : Nat} {l : List Val} (h : ListAt w b o l) (k : Below w.heap.size w w') : ListAt w' b o l :=
  ⟨Nat.lt_of_lt_of_le h.1 k.size, fun j x hx => (h.2 j x hx).bel h.1 k⟩

theorem list_new {w : World} {arr : Array Value} {e : TypeId} (l : List Val) (ha : arr.toList = (l.map valCells).flatten) : ListAt (w.alloc (.cells arr e)) w.heap.size 0 l := by
  refine ⟨by simp, fun j x hx => ?_⟩
  have hf := flatten_at (size := 3) (l.map valCells) (fun cs h => by
    obtain ⟨y, _, rfl⟩ := List.mem_map.1 h
    rfl) j (valCells x) (by simp [hx])
  rw [← ha] at hf
  have h0 := hf 0 _ rfl
  have h1 := hf 1 _ rfl
  have h2 := hf 2 _ rfl
  simp only [Array.getElem?_toList] at h0 h1 h2
  refine ⟨?_, ?_, ?_⟩
  · simpa using h0
  · simpa using h1
  · simpa using h2

theorem blk_val {w : World} {S : Nat} {x : Val} {e : TypeId} (h : w.heap[S]? = some (.cells #[.int .i64 x.kind, .int .i64 x.int, .string x.text] e (0, 0))) : ValAt w S 0 x := by
  obtain ⟨h1, h2, h3, _⟩ := blk3 h
  exact ⟨h1, h2, h3⟩

/-- A value that has just been made. -/
theorem val_new {w W : World} {k n : Int} {s : ByteArray} {e : TypeId} (h : w.alloc (.cells #[.int .i64 k, .int .i64 n, .string s] e) = W) : ValAt W w.heap.size 0 ⟨k, n, s⟩ ∧ w.heap.size < W.heap.size ∧ Below w.heap.size w W := by
  subst h
  exact ⟨blk_val (heap_alloc_new w _), by simp, (Below.refl _ _).alloc (Nat.le_refl _) _⟩

theorem ne_cases {k n : Int} {s : ByteArray} {k' n' : Int} {s' : ByteArray} : (k == k') = false ∨ (k = k' ∧ (n == n') = false) ∨ (k = k' ∧ n = n' ∧ (s.toList == s'.toList) = false) ∨ (k = k' ∧ n = n' ∧ s = s') := by
  by_cases h1 : k = k'
  · by_cases h2 : n = n'
    · by_cases h3 : s.toList = s'.toList
      · exact .inr (.inr (.inr ⟨h1, h2, bytes_ext (by rw [← ByteArray.toList_eq, ← ByteArray.toList_eq]; exact h3)⟩))
      · exact .inr (.inr (.inl ⟨h1, h2, by simpa using h3⟩))
    · exact .inr (.inl ⟨h1, by simpa using h2⟩)
  · exact .inl (by simpa using h1)
end Go.Proofs.YtiheioajnfggmaaDoor
