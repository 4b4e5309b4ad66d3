/- Values that are mostly not valid: the contract of Odd. Lists of values in memory, and the calls that give one value. -/
import Derived.Test.YtpnigfmclmfjaaaGreatDoorKV2b
import Derived.Test.YtpnigfmclmfjaaaGreatDoorKV2
import Derived.Test.YtpnigfmclmfjaaaGreatDoorKD1
import Derived.Deep.RegionHeld3
import Derived.Maps.RangeWalk
import Derived.Deep.CutBlock
namespace Go.Proofs.YtpnigfmclmfjaaaGreatDoor
open Go.RowKit

/-- The result's cells and those of v, behind tape calls. -/
def OL (T : Nat) (w wi : World) (S : Nat) (x : Val) : Prop :=
  TapeOk T wi ∧ Keep (At T) w wi ∧ wi.heap[w.heap.size]? = some (.cells #[.int .i64 0, .int .i64 0, .string ⟨#[]⟩] 55 (0, 0)) ∧ wi.heap[S]? = some (.cells #[.int .i64 x.kind, .int .i64 x.int, .string x.text] 55 (0, 0)) ∧ w.heap.size < S

section
variable {T S : Nat} {w wi wj : World} {x : Val}
theorem OL.step (h : OL T w wi S x) (hT : T < w.heap.size) (ht : TapeOk T wj) (hk : Keep (At T) wi wj) : OL T w wj S x :=
  ⟨ht, h.2.1.trans hk, (hk.block _ (Array.getElem?_eq_some_iff.1 h.2.2.1).1 fun h => by unfold At at h; omega).trans h.2.2.1, (hk.block _ (Array.getElem?_eq_some_iff.1 h.2.2.2.1).1 fun hh => by have := h.2.2.2.2; unfold At at hh; omega).trans h.2.2.2.1, h.2.2.2.2⟩
theorem OL.drew (h : OL T w wi S x) : OL T w wi.drew S x := ⟨h.1, h.2.1.drew, h.2.2.1, h.2.2.2.1, h.2.2.2.2⟩
theorem OL.alloc (h : OL T w wi S x) (hT : T < w.heap.size) (o : Obj) : OL T w (wi.alloc o) S x := h.step hT (h.1.alloc o) ((Keep.refl _ _).alloc o)
theorem OL.cells (h : OL T w wi S x) : wi.cell? ⟨S, 0, none⟩ = some (.int .i64 x.kind) ∧ wi.cell? ⟨S, 1, none⟩ = some (.int .i64 x.int) ∧ wi.cell? ⟨S, 2, none⟩ = some (.string x.text) ∧ (∀ i, wi.frozen? ⟨S, i, none⟩ = false) ∧ S < wi.heap.size := blk3 h.2.2.2.1
theorem OL.res (h : OL T w wi S x) : wi.cell? ⟨w.heap.size, 0, none⟩ = some (.int .i64 0) ∧ wi.cell? ⟨w.heap.size, 1, none⟩ = some (.int .i64 0) ∧ wi.cell? ⟨w.heap.size, 2, none⟩ = some (.string ⟨#[]⟩) ∧ (∀ i, wi.frozen? ⟨w.heap.size, i, none⟩ = false) ∧ w.heap.size < wi.heap.size := blk3 h.2.2.1
theorem OL.write (h : OL T w wi S x) (hT : T < w.heap.size) {W : World} {y : Val} (ks : Keep (At S) wi W) (hc : W.heap[S]? = some (.cells #[.int .i64 y.kind, .int .i64 y.int, .string y.text] 55 (0, 0))) : OL T w W S y :=
  ⟨h.1.keep ks fun k hk hh => by have := h.2.2.2.2; unfold At at hh; omega, h.2.1.then ks fun k hk hh => by have := h.2.2.2.2; unfold At at hh; omega, (ks.block _ (Array.getElem?_eq_some_iff.1 h.2.2.1).1 fun hh => by have := h.2.2.2.2; unfold At at hh; omega).trans h.2.2.1, hc, h.2.2.2.2⟩
end

theorem set3_0 {w : World} {S : Nat} {a b c u : Value} {e : TypeId} (h : w.heap[S]? = some (.cells #[a, b, c] e (0, 0))) : (w.setCell ⟨S, 0, none⟩ u).heap[S]? = some (.cells #[u, b, c] e (0, 0)) := by simp [World.setCell, Array.getElem?_modify, h]
theorem set3_1 {w : World} {S : Nat} {a b c u : Value} {e : TypeId} (h : w.heap[S]? = some (.cells #[a, b, c] e (0, 0))) : (w.setCell ⟨S, 1, none⟩ u).heap[S]? = some (.cells #[a, u, c] e (0, 0)) := by simp [World.setCell, Array.getElem?_modify, h]
theorem set3_2 {w : World} {S : Nat} {a b c u : Value} {e : TypeId} (h : w.heap[S]? = some (.cells #[a, b, c] e (0, 0))) : (w.setCell ⟨S, 2, none⟩ u).heap[S]? = some (.cells #[a, b, u] e (0, 0)) := by simp [World.setCell, Array.getElem?_modify, h]
theorem keep_s1 {w : World} {S i : Nat} {u : Value} : Keep (At S) w (w.setCell ⟨S, i, none⟩ u) := (Keep.refl (At S) w).setCell (p := ⟨S, i, none⟩) (fun _ => rfl) u

theorem OL.set0 {T S : Nat} {w wi : World} {x : Val} (h : OL T w wi S x) (hT : T < w.heap.size) (k : Int) : OL T w (wi.setCell ⟨S, 0, none⟩ (.int .i64 k)) S ⟨k, x.int, x.text⟩ := h.write hT keep_s1 (set3_0 h.2.2.2.1)
theorem OL.set1 {T S : Nat} {w wi : World} {x : Val} (h : OL T w wi S x) (hT : T < w.heap.size) (n : Int) : OL T w (wi.setCell ⟨S, 1, none⟩ (.int .i64 n)) S ⟨x.kind, n, x.text⟩ := h.write hT keep_s1 (set3_1 h.2.2.2.1)
theorem OL.set2 {T S : Nat} {w wi : World} {x : Val} (h : OL T w wi S x) (hT : T < w.heap.size) (s : ByteArray) : OL T w (wi.setCell ⟨S, 2, none⟩ (.string s)) S ⟨x.kind, x.int, s⟩ := h.write hT keep_s1 (set3_2 h.2.2.2.1)

theorem odd_fin {T S : Nat} {w wi : World} {x : Val} (h : OL T w wi S x) (hT : T < w.heap.size) (hx : ValOk x) : Gives T w OddQ (.returned (valOf x)) (((wi.setCell ⟨w.heap.size, 0, none⟩ (.int .i64 x.kind)).setCell ⟨w.heap.size, 1, none⟩ (.int .i64 x.int)).setCell ⟨w.heap.size, 2, none⟩ (.string x.text)) :=
  ⟨_, rfl, ⟨x, rfl, hx⟩, tape_set3 h.1 hT, keep_set3 h.2.1⟩

theorem wrap_byte (b : UInt8) : IntKind.u8.wrap (b.toNat : Int) = (b.toNat : Int) := by
  have := b.toNat_lt
  simp [IntKind.wrap, IntKind.signed, IntKind.bits]
  omega

theorem string_of_byte (W : World) (b : UInt8) : (convert 78 9 (.slice (some ⟨W.heap.size, 0, none⟩) 1 1)).run Tryz.prog (W.alloc (.cells #[.int .u8 (IntKind.u8.wrap (b.toNat : Int))] 5)) = .ok (.string ⟨#[b]⟩) (W.alloc (.cells #[.int .u8 (IntKind.u8.wrap (b.toNat : Int))] 5)) := by
  have h := run_convert_bytes_back (P := Tryz.prog) (W.alloc (.cells #[.int .u8 (IntKind.u8.wrap (b.toNat : Int))] 5)) 78 9 5 ⟨W.heap.size, 0, none⟩ 1 [b] Tryz.underlying78 Tryz.underlying5 Tryz.underlying9 ?_
  · exact h
  · intro j hj
    have hj0 : j = 0 := by simpa using hj
    subst hj0
    rw [wrap_byte]
    simp [Addr.add]

theorem byte_more {xk xn : Int} {xs : ByteArray} (b : UInt8) (h : ValOk ⟨xk, xn, xs⟩ ∧ xs.size ≤ 4) : ValOk ⟨xk, xn, xs ++ ⟨#[b]⟩⟩ := by
  obtain ⟨⟨_, h2, h3, h4, h5⟩, h6⟩ := h
  refine ⟨?_, h2, h3, h4, h5⟩
  show (xs ++ ⟨#[b]⟩).size ≤ maxLen
  rw [ByteArray.size_append]
  have : (⟨#[b]⟩ : ByteArray).size = 1 := rfl
  unfold maxLen
  omega

theorem byte_of {q : Int} (h0 : 0 ≤ q) (h1 : q < 256) : ∃ b : UInt8, q = (b.toNat : Int) := by
  refine ⟨UInt8.ofNat q.toNat, ?_⟩
  rw [UInt8.toNat_ofNat_of_lt' (by simp [UInt8.size]; omega)]
  omega

end Go.Proofs.YtpnigfmclmfjaaaGreatDoor

namespace Go.Proofs.YtpnigfmclmfjaaaGreatDoor
open Go.RowKit

theorem IntsAt.bel {w w' : World} {v : Value} (h : IntsAt w v) (k : Below w.heap.size w w') : IntsAt w' v := by
  obtain ⟨a, n, cap, rfl, h1, h2, h3⟩ := h
  refine ⟨a, n, cap, rfl, h1, h2, ?_⟩
  rcases h3 with h3 | ⟨b, o, rfl, hb, hi⟩
  · exact .inl h3
  · refine .inr ⟨b, o, rfl, Nat.lt_of_lt_of_le hb k.size, fun i hi' => ?_⟩
    obtain ⟨z, hz⟩ := hi i hi'
    exact ⟨z, (k.cell (p := ⟨b, o + i, none⟩) hb).trans hz⟩

def Val3 (v : Value) (_ : World) : Prop := ∃ (k n : Int) (s : ByteArray), v = .agg #[.int .i64 k, .int .i64 n, .string s]
theorem value_t (T : Nat) (w : World) (ht : TapeOk T w) (hn : WordsOk T w) : Calls Tryz.prog 65 #[.pointer (some ⟨T, 0, none⟩)] w (Gives T w Val3) :=
  (value_any T w ht hn).mono fun _ _ ⟨v, he, ⟨x, hx, _⟩, h1, h2⟩ => ⟨v, he, ⟨x.kind, x.int, x.text, hx⟩, h1, h2⟩
/-- The cells of a value at an offset. -/
def ValAt (w : World) (b o : Nat) (x : Val) : Prop := w.cell? ⟨b, o, none⟩ = some (.int .i64 x.kind) ∧ w.cell? ⟨b, o + 1, none⟩ = some (.int .i64 x.int) ∧ w.cell? ⟨b, o + 2, none⟩ = some (.string x.text)
/-- A list of values lies from offset o of block b on. -/
def ListAt (w : World) (b o : Nat) (l : List Val) : Prop := b < w.heap.size ∧ ∀ (j : Nat) (x : Val), l[j]? = some x → ValAt w b (o + j * 3) x

theorem ValAt.bel {w w' : World} {b o : Nat} {x : Val} (h : ValAt w b o x) (hb : b < w.heap.size) (k : Below w.heap.size w w') : ValAt w' b o x :=
  ⟨(k.cell (p := ⟨b, o, none⟩) hb).trans h.1, (k.cell (p := ⟨b, o + 1, none⟩) hb).trans h.2.1, (k.cell (p := ⟨b, o + 2, none⟩) hb).trans h.2.2⟩
theorem ListAt.bel {w w' : World} {b o : Nat} {l : List Val} (h : ListAt w b o l) (k : Below w.heap.size w w') : ListAt w' b o l :=
  ⟨Nat.lt_of_lt_of_le h.1 k.size, fun j x hx => (h.2 j x hx).bel h.1 k⟩

theorem list_new {w : World} {arr : Array Value} {e : TypeId} (l : List Val) (ha : arr.toList = (l.map valCells).flatten) : ListAt (w.alloc (.cells arr e)) w.heap.size 0 l := by
  refine ⟨by simp, fun j x hx => ?_⟩
  have hf := flatten_at (size := 3) (l.map valCells) (fun cs h => by
    obtain ⟨y, _, rfl⟩ := List.mem_map.1 h
    rfl) j (valCells x) (by simp [hx])
  rw [← ha] at hf
  have h0 := hf 0 _ rfl
  have h1 := hf 1 _ rfl
  have h2 := hf 2 _ rfl
  simp only [Array.getElem?_toList] at h0 h1 h2
  refine ⟨?_, ?_, ?_⟩
  · simpa using h0
  · simpa using h1
  · simpa using h2

theorem blk_val {w : World} {S : Nat} {x : Val} {e : TypeId} (h : w.heap[S]? = some (.cells #[.int .i64 x.kind, .int .i64 x.int, .string x.text] e (0, 0))) : ValAt w S 0 x := by
  obtain ⟨h1, h2, h3, _⟩ := blk3 h
  exact ⟨h1, h2, h3⟩

/-- A value that has just been made. -/
theorem val_new {w W : World} {k n : Int} {s : ByteArray} {e : TypeId} (h : w.alloc (.cells #[.int .i64 k, .int .i64 n, .string s] e) = W) : ValAt W w.heap.size 0 ⟨k, n, s⟩ ∧ w.heap.size < W.heap.size ∧ Below w.heap.size w W := by
  subst h
  exact ⟨blk_val (heap_alloc_new w _), by simp, (Below.refl _ _).alloc (Nat.le_refl _) _⟩

theorem ne_cases {k n : Int} {s : ByteArray} {k' n' : Int} {s' : ByteArray} : (k == k') = false ∨ (k = k' ∧ (n == n') = false) ∨ (k = k' ∧ n = n' ∧ (s.toList == s'.toList) = false) ∨ (k = k' ∧ n = n' ∧ s = s') := by
  by_cases h1 : k = k'
  · by_cases h2 : n = n'
    · by_cases h3 : s.toList = s'.toList
      · exact .inr (.inr (.inr ⟨h1, h2, bytes_ext (by rw [← ByteArray.toList_eq, ← ByteArray.toList_eq]; exact h3)⟩))
      · exact .inr (.inr (.inl ⟨h1, h2, by simpa using h3⟩))
    · exact .inr (.inl ⟨h1, by simpa using h2⟩)
  · exact .inl (by simpa using h1)
end Go.Proofs.YtpnigfmclmfjaaaGreatDoor
