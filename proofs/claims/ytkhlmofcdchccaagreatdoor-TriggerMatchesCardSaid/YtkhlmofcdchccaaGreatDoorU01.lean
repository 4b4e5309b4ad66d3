/- Plain words on memory for this seat's walks: which slices hold which rows of cells, and how that lasts while other blocks are made or one tape block is written. No program is named here. The data of this seat's walks as plain Lean types (values, columns, schemas, frames, tables, expressions, queries), and which cells hold them. No program is named here. Append as a law on lists of things: what is owned, then the rows of any slice. No program is named here. Lists that a call lets grow: what they own, and elements that lie elsewhere. No program is named here. -/
import Derived.WalkKit
import Derived.WalkSpells
import Derived.WalkLawsBesides
import Derived.Handy
import Derived.Lib.Hide
import Derived.Laws.AppendOwnNone
import Derived.Deep.AppendLies
namespace Go.Proofs.YtkhlmofcdchccaaGreatDoor
open Go.RowKit

/-- Every block that was there is as it was, but for those that M says. -/
structure Keep (M : Nat → Prop) (w w' : World) : Prop where
  os : w'.os = w.os
  tape : w'.tape = w.tape
  output : w'.output = w.output
  size : w.heap.size ≤ w'.heap.size
  block : ∀ k, k < w.heap.size → ¬ M k → w'.heap[k]? = w.heap[k]?

/-- One block alone. -/
def At (T : Nat) (k : Nat) : Prop := k = T
/-- All blocks outside [lo, hi). -/
def Out (lo hi : Nat) (k : Nat) : Prop := k < lo ∨ hi ≤ k

section
variable {M : Nat → Prop} {a b c w w' : World}
theorem Keep.refl (M : Nat → Prop) (w : World) : Keep M w w := ⟨rfl, rfl, rfl, Nat.le_refl _, fun _ _ _ => rfl⟩
theorem Keep.trans (h : Keep M a b) (k : Keep M b c) : Keep M a c :=
  ⟨k.os.trans h.os, k.tape.trans h.tape, k.output.trans h.output, Nat.le_trans h.size k.size,
    fun i hi hn => (k.block i (Nat.lt_of_lt_of_le hi h.size) hn).trans (h.block i hi hn)⟩
theorem Keep.of_below {B : Nat} (h : Below B w w') (hB : ∀ k, k < w.heap.size → B ≤ k → M k) : Keep M w w' :=
  ⟨h.os, h.tape, h.output, h.size, fun k hk hn => h.block k (Nat.lt_of_not_le fun hle => hn (hB k hk hle))⟩
theorem Keep.bel (h : Below w.heap.size w w') : Keep M w w' := .of_below h fun k h1 h2 => by omega
theorem Keep.below (h : Keep M a b) (k : Below b.heap.size b c) : Keep M a c := h.trans (.bel k)
/-- Less may have been written, from elsewhere. -/
theorem Keep.weak {M' : Nat → Prop} (h : Keep M' w w') (hM : ∀ k, k < w.heap.size → M' k → M k) : Keep M w w' :=
  ⟨h.os, h.tape, h.output, h.size, fun k hk hn => h.block k hk fun h' => hn (hM k hk h')⟩
/-- A later step may also write whatever was not there at the beginning. -/
theorem Keep.then {M' : Nat → Prop} (h : Keep M a b) (k : Keep M' b c) (hM : ∀ i, i < a.heap.size → M' i → M i) : Keep M a c :=
  ⟨k.os.trans h.os, k.tape.trans h.tape, k.output.trans h.output, Nat.le_trans h.size k.size,
    fun i hi hn => (k.block i (Nat.lt_of_lt_of_le hi h.size) fun h' => hn (hM i hi h')).trans (h.block i hi hn)⟩
theorem Keep.drew (h : Keep M a b) : Keep M a b.drew := ⟨h.os, h.tape, h.output, h.size, h.block⟩
theorem Keep.drewN (h : Keep M a b) (n : Nat) : Keep M a (b.drewN n) := ⟨h.os, h.tape, h.output, h.size, h.block⟩
theorem Keep.alloc (h : Keep M a b) (o : Obj) : Keep M a (b.alloc o) := h.below ((Below.refl _ _).alloc (Nat.le_refl _) o)
theorem Keep.setCell (h : Keep M a b) {p : Addr} (hp : p.block < a.heap.size → M p.block) (u : Value) : Keep M a (b.setCell p u) :=
  ⟨h.os, h.tape, h.output, by simpa using h.size, fun k hk hn => by
    by_cases e : k = p.block
    · subst e; exact absurd (hp hk) hn
    · rw [Below.heap_setCell _ _ _ _ e]; exact h.block k hk hn⟩
theorem Keep.grown {row : Option Nat} (h : Keep M a b) (hg : b.grownBy c row) (hr : ∀ k, row = some k → k < a.heap.size → M k) : Keep M a c :=
  ⟨hg.os.trans h.os, hg.tape.trans h.tape, hg.output.trans h.output, Nat.le_trans h.size hg.size,
    fun k hk hn => (hg.block k (Nat.lt_of_lt_of_le hk h.size) fun e => hn (hr k e.symm hk)).trans (h.block k hk hn)⟩
theorem Keep.cell (h : Keep M w w') {b o : Nat} (hb : b < w.heap.size) (hT : ¬ M b) : w'.cell? ⟨b, o, none⟩ = w.cell? ⟨b, o, none⟩ :=
  World.cell?_of_block (w := w) (h.block b hb hT)
theorem Keep.toBelow {B : Nat} (h : Keep M w w') (hB : B ≤ w.heap.size) (hT : ∀ k, k < B → ¬ M k) : Below B w w' :=
  ⟨h.os, h.tape, h.output, h.size, fun k hk => h.block k (Nat.lt_of_lt_of_le hk hB) (hT k hk)⟩
end

theorem drewN_below {B : Nat} {a w : World} (h : Below B a w) (n : Nat) : Below B a (w.drewN n) := ⟨h.os, h.tape, h.output, h.size, h.block⟩

/-- Below with the old heap's own size, in one step behind another. -/
theorem bel_trans {a b c : World} (h : Below a.heap.size a b) (k : Below b.heap.size b c) : Below a.heap.size a c := h.trans (k.mono h.size)

/-- The cells from offset o of block b on. -/
def CellsAt (w : World) (b o : Nat) (cs : List Value) : Prop := ∀ j u, cs[j]? = some u → w.cell? ⟨b, o + j, none⟩ = some u

theorem CellsAt.keep {M : Nat → Prop} {w w' : World} {b o : Nat} {cs : List Value} (h : CellsAt w b o cs) (k : Keep M w w') (hT : ¬ M b) : CellsAt w' b o cs := by
  intro j u hu
  have h1 := h j u hu
  rw [k.cell (World.block_lt_of_cell? _ _ h1) hT]
  exact h1

theorem CellsAt.c1 {w : World} {b o : Nat} {a : Value} (h : CellsAt w b o [a]) : w.cell? ⟨b, o, none⟩ = some a := h 0 _ rfl
theorem CellsAt.c2 {w : World} {b o : Nat} {a c : Value} (h : CellsAt w b o [a, c]) : w.cell? ⟨b, o, none⟩ = some a ∧ w.cell? ⟨b, o + 1, none⟩ = some c := ⟨h 0 _ rfl, h 1 _ rfl⟩
theorem CellsAt.c3 {w : World} {b o : Nat} {a c d : Value} (h : CellsAt w b o [a, c, d]) : w.cell? ⟨b, o, none⟩ = some a ∧ w.cell? ⟨b, o + 1, none⟩ = some c ∧ w.cell? ⟨b, o + 2, none⟩ = some d := ⟨h 0 _ rfl, h 1 _ rfl, h 2 _ rfl⟩
theorem CellsAt.c4 {w : World} {b o : Nat} {a c d e : Value} (h : CellsAt w b o [a, c, d, e]) : w.cell? ⟨b, o, none⟩ = some a ∧ w.cell? ⟨b, o + 1, none⟩ = some c ∧ w.cell? ⟨b, o + 2, none⟩ = some d ∧ w.cell? ⟨b, o + 3, none⟩ = some e :=
  ⟨h 0 _ rfl, h 1 _ rfl, h 2 _ rfl, h 3 _ rfl⟩

/-- The slice value v holds the rows css, each of 'size' cells; its array is not block T. (An empty slice without room may point anywhere.) -/
def SliceOf (M : Nat → Prop) (w : World) (size : Nat) (v : Value) (css : List (List Value)) : Prop :=
  ((∃ a, v = .slice a 0 0) ∧ css = []) ∨
  ∃ b o cap, v = .slice (some ⟨b, o, none⟩) css.length cap ∧ ¬ M b ∧ b < w.heap.size ∧ css.length ≤ cap ∧ cap ≤ maxLen ∧
    ∀ i cs, css[i]? = some cs → cs.length = size ∧ CellsAt w b (o + i * size) cs

theorem SliceOf.keep {M : Nat → Prop} {w w' : World} {size : Nat} {v : Value} {css : List (List Value)} (h : SliceOf M w size v css) (k : Keep M w w') : SliceOf M w' size v css := by
  rcases h with h | ⟨b, o, cap, hv, hT, hb, hl, hm, hc⟩
  · exact .inl h
  · exact .inr ⟨b, o, cap, hv, hT, Nat.lt_of_lt_of_le hb k.size, hl, hm, fun i cs hi => ⟨(hc i cs hi).1, (hc i cs hi).2.keep k hT⟩⟩

theorem SliceOf.weak {M M' : Nat → Prop} {w : World} {size : Nat} {v : Value} {css : List (List Value)} (h : SliceOf M w size v css) (hM : ∀ k, k < w.heap.size → M' k → M k) : SliceOf M' w size v css := by
  rcases h with h | ⟨b, o, cap, hv, hT, hb, hl, hm, hc⟩
  · exact .inl h
  · exact .inr ⟨b, o, cap, hv, fun h' => hT (hM b hb h'), hb, hl, hm, hc⟩

theorem SliceOf.bel {M : Nat → Prop} {w w' : World} {size : Nat} {v : Value} {css : List (List Value)} (h : SliceOf M w size v css) (k : Below w.heap.size w w') : SliceOf M w' size v css := h.keep (.bel k)

/-- What the slice's value looks like. -/
theorem SliceOf.shape {M : Nat → Prop} {w : World} {size : Nat} {v : Value} {css : List (List Value)} (h : SliceOf M w size v css) : ∃ a cap, v = .slice a css.length cap ∧ css.length ≤ maxLen := by
  rcases h with ⟨⟨a, rfl⟩, rfl⟩ | ⟨b, o, cap, hv, _, _, hl, hm, _⟩
  · exact ⟨a, 0, rfl, Nat.zero_le _⟩
  · exact ⟨_, cap, hv, by omega⟩

theorem flatten_at {size : Nat} (css : List (List Value)) (hs : ∀ cs ∈ css, cs.length = size) : ∀ (i : Nat) (cs : List Value), css[i]? = some cs → ∀ j u, cs[j]? = some u → css.flatten[i * size + j]? = some u := by
  induction css with
  | nil => intro i cs h; simp at h
  | cons c css ih =>
    intro i cs h j u hu
    have hc := hs c (List.mem_cons_self ..)
    cases i with
    | zero =>
      simp at h
      subst h
      have hj : j < c.length := (List.getElem?_eq_some_iff.1 hu).1
      simp only [List.flatten_cons, Nat.zero_mul, Nat.zero_add]
      rw [List.getElem?_append_left hj]
      exact hu
    | succ i =>
      simp only [List.getElem?_cons_succ] at h
      have := ih (fun x hx => hs x (List.mem_cons_of_mem _ hx)) i cs h j u hu
      simp only [List.flatten_cons]
      rw [List.getElem?_append_right (by rw [hc, Nat.succ_mul]; omega)]
      rw [hc, show (i + 1) * size + j - size = i * size + j from by rw [Nat.succ_mul]; omega]
      exact this

/-- A row that the call owns is such a slice. -/
theorem slice_of_own {M : Nat → Prop} {w : World} {base : Nat} {e : TypeId} {size : Nat} {v : Value} {css : List (List Value)} (h : w.ownsRow base e size v css.length css.flatten) (hs : ∀ cs ∈ css, cs.length = size) (hT : ∀ k, base ≤ k → k < w.heap.size → ¬ M k) : SliceOf M w size v css := by
  obtain ⟨_, h2⟩ := h
  rcases h2 with ⟨hv, hn⟩ | ⟨g, cap, cur, hv, hg, hh, hnc, hcm, hcs, htake⟩
  · exact .inl ⟨⟨_, hv⟩, List.eq_nil_of_length_eq_zero hn⟩
  · refine .inr ⟨g, 0, cap, hv, hT g hg (Array.getElem?_eq_some_iff.1 hh).1, (Array.getElem?_eq_some_iff.1 hh).1, hnc, hcm, fun i cs hi => ⟨hs cs (List.mem_of_getElem? hi), fun j u hu => ?_⟩⟩
    have hf := flatten_at css hs i cs hi j u hu
    rw [← htake, List.getElem?_take] at hf
    split at hf
    · rw [cell_of_row w g _ cur e (0, 0) hh]
      simpa [Nat.add_assoc] using hf
    · cases hf

/-- The rows of a list of things. -/
def RowsR {α : Type} (M : Nat → Prop) (w : World) (size : Nat) (R : α → List Value → Prop) (v : Value) (xs : List α) : Prop :=
  ∃ css, SliceOf M w size v css ∧ css.length = xs.length ∧ ∀ (i : Nat) (x : α) (cs : List Value), xs[i]? = some x → css[i]? = some cs → R x cs

theorem RowsR.map {α : Type} {M : Nat → Prop} {w w' : World} {size : Nat} {R R' : α → List Value → Prop} {v : Value} {xs : List α} (h : RowsR M w size R v xs) (k : Keep M w w') (hr : ∀ x ∈ xs, ∀ cs, R x cs → R' x cs) : RowsR M w' size R' v xs := by
  obtain ⟨css, hs, hl, hR⟩ := h
  exact ⟨css, hs.keep k, hl, fun i x cs hi hc => hr x (List.mem_of_getElem? hi) cs (hR i x cs hi hc)⟩

theorem RowsR.shape {α : Type} {M : Nat → Prop} {w : World} {size : Nat} {R : α → List Value → Prop} {v : Value} {xs : List α} (h : RowsR M w size R v xs) : ∃ a cap, v = .slice a xs.length cap ∧ xs.length ≤ maxLen := by
  obtain ⟨css, hs, hl, _⟩ := h
  rw [← hl]
  exact hs.shape

theorem RowsR.weak {α : Type} {M M' : Nat → Prop} {w : World} {size : Nat} {R R' : α → List Value → Prop} {v : Value} {xs : List α} (h : RowsR M w size R v xs) (hM : ∀ k, k < w.heap.size → M' k → M k) (hr : ∀ x ∈ xs, ∀ cs, R x cs → R' x cs) : RowsR M' w size R' v xs := by
  obtain ⟨css, hs, hl, hR⟩ := h
  exact ⟨css, hs.weak hM, hl, fun i x cs hi hc => hr x (List.mem_of_getElem? hi) cs (hR i x cs hi hc)⟩

/-- Empty, or a place whose element i lies at i times the size. -/
theorem RowsR.open {α : Type} {M : Nat → Prop} {w : World} {size : Nat} {R : α → List Value → Prop} {v : Value} {xs : List α} (h : RowsR M w size R v xs) :
    ((∃ a, v = .slice a 0 0) ∧ xs = []) ∨ ∃ b o cap, v = .slice (some ⟨b, o, none⟩) xs.length cap ∧ ¬ M b ∧ b < w.heap.size ∧ xs.length ≤ cap ∧ cap ≤ maxLen ∧
      ∀ (i : Nat) (x : α), xs[i]? = some x → ∃ cs, R x cs ∧ cs.length = size ∧ CellsAt w b (o + i * size) cs := by
  obtain ⟨css, hs, hl, hR⟩ := h
  rcases hs with ⟨hv, rfl⟩ | ⟨b, o, cap, hv, hT, hb, hlc, hm, hc⟩
  · exact .inl ⟨hv, List.eq_nil_of_length_eq_zero hl.symm⟩
  · rw [hl] at hv hlc
    refine .inr ⟨b, o, cap, hv, hT, hb, hlc, hm, fun i x hi => ?_⟩
    have hlt : i < css.length := by rw [hl]; exact (List.getElem?_eq_some_iff.1 hi).1
    have hcs := List.getElem?_eq_getElem hlt
    exact ⟨css[i], hR i x _ hi hcs, hc i _ hcs⟩

theorem RowsR.nil {α : Type} (M : Nat → Prop) (w : World) (size : Nat) (R : α → List Value → Prop) : RowsR M w size R (.slice none 0 0) ([] : List α) :=
  ⟨[], .inl ⟨⟨_, rfl⟩, rfl⟩, rfl, fun i x cs h => by simp at h⟩

theorem RowsR.mk {α : Type} {M : Nat → Prop} {w : World} {size : Nat} {R : α → List Value → Prop} {v : Value} {xs : List α} (css : List (List Value)) (hs : SliceOf M w size v css) (hl : css.length = xs.length)
    (hR : ∀ (i : Nat) (x : α) (cs : List Value), xs[i]? = some x → css[i]? = some cs → R x cs) : RowsR M w size R v xs := ⟨css, hs, hl, hR⟩

/-- A part of a slice. -/
theorem RowsR.drop {α : Type} {M : Nat → Prop} {w : World} {size : Nat} {R : α → List Value → Prop} {b o n cap : Nat} {xs : List α} (h : RowsR M w size R (.slice (some ⟨b, o, none⟩) n cap) xs) (k : Nat) (hk : k ≤ n) :
    RowsR M w size R (.slice (some ⟨b, o + k * size, none⟩) (n - k) (cap - k)) (xs.drop k) := by
  obtain ⟨css, hs, hl, hR⟩ := h
  refine ⟨css.drop k, ?_, by simp [hl], fun i x cs hi hc => hR (k + i) x cs (by simpa [List.getElem?_drop] using hi) (by simpa [List.getElem?_drop] using hc)⟩
  rcases hs with ⟨⟨a', hv⟩, h0⟩ | ⟨b', o', cap', hv, hT, hb, hlc, hm, hc⟩
  · simp only [Value.slice.injEq] at hv
    obtain ⟨_, rfl, rfl⟩ := hv
    exact .inl ⟨⟨some ⟨b, o + k * size, none⟩, by simp⟩, by simp [h0]⟩
  · simp only [Value.slice.injEq, Option.some.injEq, Addr.mk.injEq] at hv
    obtain ⟨⟨rfl, rfl, _⟩, rfl, rfl⟩ := hv
    refine .inr ⟨b, o + k * size, cap - k, by simp, hT, hb, by simp; omega, by omega, fun i cs hi => ?_⟩
    have := hc (k + i) cs (by simpa [List.getElem?_drop] using hi)
    rw [Nat.add_mul, ← Nat.add_assoc] at this
    exact this

theorem RowsR.take {α : Type} {M : Nat → Prop} {w : World} {size : Nat} {R : α → List Value → Prop} {a : Option Addr} {n cap : Nat} {xs : List α} (h : RowsR M w size R (.slice a n cap) xs) (k : Nat) (hk : k ≤ n) :
    RowsR M w size R (.slice a k cap) (xs.take k) := by
  obtain ⟨css, hs, hl, hR⟩ := h
  have hkl : k ≤ css.length := by
    rcases hs with ⟨⟨_, hv⟩, rfl⟩ | ⟨b', o', cap', hv, _⟩
    · simp at hv; omega
    · simp at hv; omega
  refine ⟨css.take k, ?_, by simp [hl], fun i x cs hi hc => ?_⟩
  · rcases hs with ⟨⟨_, hv⟩, rfl⟩ | ⟨b', o', cap', hv, hT, hb, hlc, hm, hc⟩
    · simp only [Value.slice.injEq] at hv
      obtain ⟨rfl, rfl, rfl⟩ := hv
      obtain rfl : k = 0 := by omega
      exact .inl ⟨⟨_, rfl⟩, rfl⟩
    · simp only [Value.slice.injEq] at hv
      obtain ⟨rfl, rfl, rfl⟩ := hv
      refine .inr ⟨b', o', cap, by simp [Nat.min_eq_left hkl], hT, hb, by simp; omega, hm, fun i cs hi => ?_⟩
      rw [List.getElem?_take] at hi
      split at hi
      · exact hc i cs hi
      · cases hi
  · rw [List.getElem?_take] at hi hc
    split at hi
    · rename_i hlt
      rw [if_pos hlt] at hc
      exact hR i x cs hi hc
    · cases hi

/-- A slice over a block that has just been made. -/
theorem slice_new {M : Nat → Prop} {w : World} {arr : Array Value} {e : TypeId} {size g n c : Nat} (css : List (List Value)) (hg : g = w.heap.size) (hT : ¬ M w.heap.size) (ha : arr.toList = css.flatten) (hs : ∀ cs ∈ css, cs.length = size) (hn : n = css.length) (hc : n ≤ c) (hm : c ≤ maxLen) :
    SliceOf M (w.alloc (.cells arr e)) size (.slice (some ⟨g, 0, none⟩) n c) css := by
  subst hg
  subst hn
  refine .inr ⟨w.heap.size, 0, c, rfl, hT, by simp, hc, hm, fun i cs hi => ⟨hs cs (List.mem_of_getElem? hi), fun j u hu => ?_⟩⟩
  have := flatten_at css hs i cs hi j u hu
  rw [← ha] at this
  simpa using this

theorem RowsR.new {α : Type} {M : Nat → Prop} {w : World} {arr : Array Value} {e : TypeId} {size g n c : Nat} {R : α → List Value → Prop} {xs : List α} (css : List (List Value)) (hg : g = w.heap.size) (hT : ¬ M w.heap.size) (ha : arr.toList = css.flatten) (hs : ∀ cs ∈ css, cs.length = size)
    (hn : n = css.length) (hc : n ≤ c) (hm : c ≤ maxLen) (hl : css.length = xs.length) (hR : ∀ (i : Nat) (x : α) (cs : List Value), xs[i]? = some x → css[i]? = some cs → R x cs) :
    RowsR M (w.alloc (.cells arr e)) size R (.slice (some ⟨g, 0, none⟩) n c) xs := ⟨css, slice_new css hg hT ha hs hn hc hm, hl, hR⟩

theorem bcell {W w1 : World} (hb : Below W.heap.size W w1) : (∀ b o, b < W.heap.size → w1.cell? ⟨b, o, none⟩ = W.cell? ⟨b, o, none⟩) ∧ (∀ b o, b < W.heap.size → w1.frozen? ⟨b, o, none⟩ = W.frozen? ⟨b, o, none⟩) ∧ W.heap.size ≤ w1.heap.size :=
  ⟨fun b o h => hb.cell (p := ⟨b, o, none⟩) h, fun b o h => hb.frozen (p := ⟨b, o, none⟩) h, hb.size⟩

theorem flatten_inv (size : Nat) : ∀ (css : List (List Value)), (∀ cs ∈ css, cs.length = size) → ∀ j u, css.flatten[j]? = some u → ∃ i cs r, css[i]? = some cs ∧ cs[r]? = some u ∧ j = i * size + r
  | [], _, j, u, h => by simp at h
  | c :: css, hs, j, u, h => by
    have hc := hs c (List.mem_cons_self ..)
    rw [List.flatten_cons] at h
    by_cases hj : j < c.length
    · rw [List.getElem?_append_left hj] at h
      exact ⟨0, c, j, rfl, h, by simp⟩
    · rw [List.getElem?_append_right (by omega)] at h
      obtain ⟨i, cs, r, h1, h2, h3⟩ := flatten_inv size css (fun x hx => hs x (List.mem_cons_of_mem _ hx)) _ u h
      exact ⟨i + 1, cs, r, by simpa using h1, h2, by rw [Nat.add_mul]; omega⟩

theorem flatten_length (size : Nat) : ∀ (css : List (List Value)), (∀ cs ∈ css, cs.length = size) → css.flatten.length = css.length * size
  | [], _ => by simp
  | c :: css, hs => by
    have := flatten_length size css fun x hx => hs x (List.mem_cons_of_mem _ hx)
    rw [List.flatten_cons, List.length_append, this, hs c (List.mem_cons_self ..), List.length_cons, Nat.succ_mul]
    omega

theorem flat_cells {w : World} {b o size : Nat} {css : List (List Value)} (h : ∀ i cs, css[i]? = some cs → cs.length = size ∧ CellsAt w b (o + i * size) cs) : ∀ j u, css.flatten[j]? = some u → w.cell? ((⟨b, o, none⟩ : Addr).add j) = some u := by
  intro j u hu
  obtain ⟨i, cs, r, h1, h2, rfl⟩ := flatten_inv size css (fun cs h' => let ⟨i, hi⟩ := List.mem_iff_getElem?.1 h'; (h i cs hi).1) j u hu
  rw [Addr.add_lit]
  have := (h i cs h1).2 r u h2
  rwa [Nat.add_assoc] at this

/-- The rows of a list of things in memory that the call owns, from block lo on: fit for append. -/
def RowsO {α : Type} (lo : Nat) (w : World) (e : TypeId) (size : Nat) (R : α → List Value → Prop) (v : Value) (xs : List α) : Prop :=
  ∃ css : List (List Value), w.ownsRow lo e size v css.length css.flatten ∧ css.length = xs.length ∧ (∀ cs ∈ css, cs.length = size) ∧ ∀ (i : Nat) (x : α) (cs : List Value), xs[i]? = some x → css[i]? = some cs → R x cs

theorem RowsO.nil {α : Type} (lo : Nat) (w : World) (e : TypeId) (size : Nat) (R : α → List Value → Prop) : RowsO lo w e size R (.slice none 0 0) ([] : List α) :=
  ⟨[], World.ownsRow_nil .., rfl, by simp, by simp⟩

theorem RowsO.rows {α : Type} {lo : Nat} {w : World} {e : TypeId} {size : Nat} {R : α → List Value → Prop} {v : Value} {xs : List α} {M : Nat → Prop} (h : RowsO lo w e size R v xs) (hM : ∀ k, lo ≤ k → k < w.heap.size → ¬ M k) : RowsR M w size R v xs :=
  let ⟨css, ho, hl, hs, hR⟩ := h
  ⟨css, slice_of_own ho hs hM, hl, hR⟩

theorem RowsO.shape {α : Type} {lo : Nat} {w : World} {e : TypeId} {size : Nat} {R : α → List Value → Prop} {v : Value} {xs : List α} (h : RowsO lo w e size R v xs) : ∃ a cap, v = .slice a xs.length cap ∧ xs.length ≤ maxLen :=
  (h.rows (M := fun _ => False) fun _ _ _ => id).shape

/-- Owned it stays while its block isn't written. -/
theorem RowsO.keep {α : Type} {lo : Nat} {w w' : World} {e : TypeId} {size : Nat} {R R' : α → List Value → Prop} {v : Value} {xs : List α} {M : Nat → Prop} (h : RowsO lo w e size R v xs) (k : Keep M w w') (hM : ∀ k, lo ≤ k → k < w.heap.size → ¬ M k) (hr : ∀ x ∈ xs, ∀ cs, R x cs → R' x cs) : RowsO lo w' e size R' v xs := by
  obtain ⟨css, ⟨h1, h2⟩, hl, hs, hR⟩ := h
  refine ⟨css, ⟨h1, ?_⟩, hl, hs, fun i x cs hi hc => hr x (List.mem_of_getElem? hi) cs (hR i x cs hi hc)⟩
  rcases h2 with h2 | ⟨g, cap, cur, hv, hg, hh, rest⟩
  · exact .inl h2
  · have hlt := (Array.getElem?_eq_some_iff.1 hh).1
    exact .inr ⟨g, cap, cur, hv, hg, by rw [k.block g hlt (hM g hg hlt)]; exact hh, rest⟩

/-- What a copy of a list in memory leaves. -/
def ClonePost {α : Type} (_M : Nat → Prop) (e : TypeId) (size : Nat) (R : World → α → List Value → Prop) (l : List α) (w : World) (en : Ending) (w' : World) : Prop :=
  ∃ v, en = .returned v ∧ RowsO w.heap.size w' e size (R w') v l ∧ Below w.heap.size w w'

end Go.Proofs.YtkhlmofcdchccaaGreatDoor

namespace Go.Proofs.YtkhlmofcdchccaaGreatDoor
open Go.RowKit

structure Val where
  kind : Int
  int : Int
  text : ByteArray

structure Col where
  name : ByteArray
  type : Int
  notNull : Bool
  key : Bool

structure Sch where
  name : ByteArray
  cols : List Col

structure Frm where
  name : ByteArray
  strict : Bool
  cols : List Col

mutual
inductive Ex where
  | mk (kind op : Int) (no : Bool) (val : Val) (table name : ByteArray) (args : List Ex) (sub : List Qu)
inductive Qu where
  | mk (star : Bool) (items : List Ex) (frm : ByteArray) (whr : List Ex)
end

def Ex.kind : Ex → Int | .mk k _ _ _ _ _ _ _ => k
def Ex.op : Ex → Int | .mk _ o _ _ _ _ _ _ => o
def Ex.no : Ex → Bool | .mk _ _ n _ _ _ _ _ => n
def Ex.val : Ex → Val | .mk _ _ _ v _ _ _ _ => v
def Ex.table : Ex → ByteArray | .mk _ _ _ _ t _ _ _ => t
def Ex.name : Ex → ByteArray | .mk _ _ _ _ _ n _ _ => n
def Ex.args : Ex → List Ex | .mk _ _ _ _ _ _ a _ => a
def Ex.sub : Ex → List Qu | .mk _ _ _ _ _ _ _ s => s
def Qu.star : Qu → Bool | .mk s _ _ _ => s
def Qu.items : Qu → List Ex | .mk _ i _ _ => i
def Qu.frm : Qu → ByteArray | .mk _ _ f _ => f
def Qu.whr : Qu → List Ex | .mk _ _ _ w => w

theorem Ex.eta (e : Ex) : e = .mk e.kind e.op e.no e.val e.table e.name e.args e.sub := by cases e; rfl
theorem Qu.eta (q : Qu) : q = .mk q.star q.items q.frm q.whr := by cases q; rfl

theorem Ex.ind_aux {P : Ex → Prop} (h : ∀ e : Ex, (∀ a ∈ e.args, P a) → (∀ q ∈ e.sub, (∀ x ∈ q.items, P x) ∧ (∀ x ∈ q.whr, P x)) → P e) : ∀ (n : Nat) (e : Ex), SizeOf.sizeOf e ≤ n → P e := by
  intro n
  induction n with
  | zero => intro e he; cases e; simp at he
  | succ n ih =>
    intro e he
    cases e with
    | mk k o no v t nm args sub =>
      simp only [Ex.mk.sizeOf_spec] at he
      refine h _ (fun a ha => ih a ?_) (fun q hq => ⟨fun x hx => ih x ?_, fun x hx => ih x ?_⟩)
      · have := List.sizeOf_lt_of_mem (show a ∈ args from ha); omega
      · have h1 := List.sizeOf_lt_of_mem (show q ∈ sub from hq)
        cases q with
        | mk s it f wh =>
          have h2 := List.sizeOf_lt_of_mem (show x ∈ it from hx)
          simp only [Qu.mk.sizeOf_spec] at h1
          omega
      · have h1 := List.sizeOf_lt_of_mem (show q ∈ sub from hq)
        cases q with
        | mk s it f wh =>
          have h2 := List.sizeOf_lt_of_mem (show x ∈ wh from hx)
          simp only [Qu.mk.sizeOf_spec] at h1
          omega

/-- Induction on an expression: what holds of all its arguments and of all items and conditions of its queries. -/
theorem Ex.ind {P : Ex → Prop} (h : ∀ e : Ex, (∀ a ∈ e.args, P a) → (∀ q ∈ e.sub, (∀ x ∈ q.items, P x) ∧ (∀ x ∈ q.whr, P x)) → P e) (e : Ex) : P e := Ex.ind_aux h _ e (Nat.le_refl _)

def valCells (v : Val) : List Value := [.int .i64 v.kind, .int .i64 v.int, .string v.text]
def colCells (c : Col) : List Value := [.string c.name, .int .i64 c.type, .bool c.notNull, .bool c.key]

def ColR (c : Col) (cs : List Value) : Prop := cs = colCells c
def ValR (v : Val) (cs : List Value) : Prop := cs = valCells v
def IntR (n : Int) (cs : List Value) : Prop := cs = [.int .i64 n]
def StrR (s : ByteArray) (cs : List Value) : Prop := cs = [.string s]

def ColsR (M : Nat → Prop) (w : World) (v : Value) (l : List Col) : Prop := RowsR M w 4 ColR v l
def SchR (M : Nat → Prop) (w : World) (s : Sch) (cs : List Value) : Prop := ∃ vc, cs = [.string s.name, vc] ∧ ColsR M w vc s.cols
def FrmR (M : Nat → Prop) (w : World) (f : Frm) (cs : List Value) : Prop := ∃ vc a n c, cs = [.string f.name, .bool f.strict, vc, .slice a n c] ∧ ColsR M w vc f.cols
def TblR (M : Nat → Prop) (w : World) (s : Sch) (cs : List Value) : Prop := ∃ vc n a l c, cs = [.string s.name, vc, .int .i64 n, .slice a l c] ∧ ColsR M w vc s.cols
def FrmsR (M : Nat → Prop) (w : World) (v : Value) (l : List Frm) : Prop := RowsR M w 4 (FrmR M w) v l
def TblsR (M : Nat → Prop) (w : World) (v : Value) (l : List Sch) : Prop := RowsR M w 4 (TblR M w) v l
def SchsR (M : Nat → Prop) (w : World) (v : Value) (l : List Sch) : Prop := RowsR M w 2 (SchR M w) v l

section
variable {M : Nat → Prop} {w w' : World}
theorem ColsR.keep {v : Value} {l : List Col} (h : ColsR M w v l) (k : Keep M w w') : ColsR M w' v l := RowsR.map h k fun _ _ _ h => h
theorem SchR.keep {s : Sch} {cs : List Value} (h : SchR M w s cs) (k : Keep M w w') : SchR M w' s cs := let ⟨vc, a, b⟩ := h; ⟨vc, a, b.keep k⟩
theorem FrmR.keep {s : Frm} {cs : List Value} (h : FrmR M w s cs) (k : Keep M w w') : FrmR M w' s cs := let ⟨vc, x, n, c, a, b⟩ := h; ⟨vc, x, n, c, a, b.keep k⟩
theorem TblR.keep {s : Sch} {cs : List Value} (h : TblR M w s cs) (k : Keep M w w') : TblR M w' s cs := let ⟨vc, n, x, l, c, a, b⟩ := h; ⟨vc, n, x, l, c, a, b.keep k⟩
theorem FrmsR.keep {v : Value} {l : List Frm} (h : FrmsR M w v l) (k : Keep M w w') : FrmsR M w' v l := RowsR.map h k fun _ _ _ h => h.keep k
theorem TblsR.keep {v : Value} {l : List Sch} (h : TblsR M w v l) (k : Keep M w w') : TblsR M w' v l := RowsR.map h k fun _ _ _ h => h.keep k
theorem SchsR.keep {v : Value} {l : List Sch} (h : SchsR M w v l) (k : Keep M w w') : SchsR M w' v l := RowsR.map h k fun _ _ _ h => h.keep k
end

section
variable {M M' : Nat → Prop} {w : World} (hM : ∀ k, k < w.heap.size → M' k → M k)
include hM
theorem ColsR.weak {v : Value} {l : List Col} (h : ColsR M w v l) : ColsR M' w v l := RowsR.weak h hM fun _ _ _ h => h
theorem SchR.weak {s : Sch} {cs : List Value} (h : SchR M w s cs) : SchR M' w s cs := let ⟨vc, a, b⟩ := h; ⟨vc, a, b.weak hM⟩
theorem FrmR.weak {s : Frm} {cs : List Value} (h : FrmR M w s cs) : FrmR M' w s cs := let ⟨vc, x, n, c, a, b⟩ := h; ⟨vc, x, n, c, a, b.weak hM⟩
theorem TblR.weak {s : Sch} {cs : List Value} (h : TblR M w s cs) : TblR M' w s cs := let ⟨vc, n, x, l, c, a, b⟩ := h; ⟨vc, n, x, l, c, a, b.weak hM⟩
theorem FrmsR.weak {v : Value} {l : List Frm} (h : FrmsR M w v l) : FrmsR M' w v l := RowsR.weak h hM fun _ _ _ h => h.weak hM
theorem TblsR.weak {v : Value} {l : List Sch} (h : TblsR M w v l) : TblsR M' w v l := RowsR.weak h hM fun _ _ _ h => h.weak hM
theorem SchsR.weak {v : Value} {l : List Sch} (h : SchsR M w v l) : SchsR M' w v l := RowsR.weak h hM fun _ _ _ h => h.weak hM
end

def exCells (k o : Int) (no : Bool) (v : Val) (t nm : ByteArray) (va vs : Value) : List Value :=
  [.int .i64 k, .int .i64 o, .bool no, .int .i64 v.kind, .int .i64 v.int, .string v.text, .string t, .string nm, va, vs]

mutual
def EC (M : Nat → Prop) (w : World) : Ex → List Value → Prop
  | .mk k o no v t nm args sub, cs => ∃ va vs, cs = exCells k o no v t nm va vs ∧ (∃ css, SliceOf M w 10 va css ∧ ECs M w args css) ∧ (∃ css, SliceOf M w 4 vs css ∧ QCs M w sub css)
def QC (M : Nat → Prop) (w : World) : Qu → List Value → Prop
  | .mk s items f whr, cs => ∃ vi vw, cs = [.bool s, vi, .string f, vw] ∧ (∃ css, SliceOf M w 10 vi css ∧ ECs M w items css) ∧ (∃ css, SliceOf M w 10 vw css ∧ ECs M w whr css)
def ECs (M : Nat → Prop) (w : World) : List Ex → List (List Value) → Prop
  | [], css => css = []
  | e :: es, css => ∃ c cs, css = c :: cs ∧ EC M w e c ∧ ECs M w es cs
def QCs (M : Nat → Prop) (w : World) : List Qu → List (List Value) → Prop
  | [], css => css = []
  | e :: es, css => ∃ c cs, css = c :: cs ∧ QC M w e c ∧ QCs M w es cs
end

theorem ECs_iff (M : Nat → Prop) (w : World) : ∀ (es : List Ex) (css : List (List Value)), ECs M w es css ↔ css.length = es.length ∧ ∀ (i : Nat) (x : Ex) (cs : List Value), es[i]? = some x → css[i]? = some cs → EC M w x cs
  | [], css => by simp [ECs]
  | e :: es, css => by
    constructor
    · rintro ⟨c, cs, rfl, h1, h2⟩
      obtain ⟨hl, hh⟩ := (ECs_iff M w es cs).1 h2
      refine ⟨by simp [hl], fun i x d hi hd => ?_⟩
      cases i with
      | zero => simp at hi hd; subst hi; subst hd; exact h1
      | succ i => exact hh i x d (by simpa using hi) (by simpa using hd)
    · rintro ⟨hl, hh⟩
      match css, hl with
      | c :: cs, hl =>
        refine ⟨c, cs, rfl, hh 0 e c rfl rfl, (ECs_iff M w es cs).2 ⟨by simpa using hl, fun i x d hi hd => hh (i + 1) x d (by simpa using hi) (by simpa using hd)⟩⟩

theorem QCs_iff (M : Nat → Prop) (w : World) : ∀ (es : List Qu) (css : List (List Value)), QCs M w es css ↔ css.length = es.length ∧ ∀ (i : Nat) (x : Qu) (cs : List Value), es[i]? = some x → css[i]? = some cs → QC M w x cs
  | [], css => by simp [QCs]
  | e :: es, css => by
    constructor
    · rintro ⟨c, cs, rfl, h1, h2⟩
      obtain ⟨hl, hh⟩ := (QCs_iff M w es cs).1 h2
      refine ⟨by simp [hl], fun i x d hi hd => ?_⟩
      cases i with
      | zero => simp at hi hd; subst hi; subst hd; exact h1
      | succ i => exact hh i x d (by simpa using hi) (by simpa using hd)
    · rintro ⟨hl, hh⟩
      match css, hl with
      | c :: cs, hl =>
        refine ⟨c, cs, rfl, hh 0 e c rfl rfl, (QCs_iff M w es cs).2 ⟨by simpa using hl, fun i x d hi hd => hh (i + 1) x d (by simpa using hi) (by simpa using hd)⟩⟩

def ExsR (M : Nat → Prop) (w : World) (v : Value) (l : List Ex) : Prop := RowsR M w 10 (EC M w) v l
def QusR (M : Nat → Prop) (w : World) (v : Value) (l : List Qu) : Prop := RowsR M w 4 (QC M w) v l

theorem EC_iff (M : Nat → Prop) (w : World) (e : Ex) (cs : List Value) : EC M w e cs ↔ ∃ va vs, cs = exCells e.kind e.op e.no e.val e.table e.name va vs ∧ ExsR M w va e.args ∧ QusR M w vs e.sub := by
  cases e with
  | mk k o no v t nm args sub =>
    simp only [EC, ECs_iff, QCs_iff]
    rfl

theorem QC_iff (M : Nat → Prop) (w : World) (q : Qu) (cs : List Value) : QC M w q cs ↔ ∃ vi vw, cs = [.bool q.star, vi, .string q.frm, vw] ∧ ExsR M w vi q.items ∧ ExsR M w vw q.whr := by
  cases q with
  | mk s it f wh =>
    simp only [QC, ECs_iff]
    rfl

theorem EC.keep {M : Nat → Prop} {w w' : World} (k : Keep M w w') (e : Ex) : ∀ cs, EC M w e cs → EC M w' e cs := by
  refine Ex.ind (P := fun e => ∀ cs, EC M w e cs → EC M w' e cs) (fun e ha hq cs h => ?_) e
  obtain ⟨va, vs, h1, h2, h3⟩ := (EC_iff ..).1 h
  refine (EC_iff ..).2 ⟨va, vs, h1, RowsR.map h2 k fun x hx cs hc => ha x hx cs hc, RowsR.map h3 k fun q hqm cs hc => ?_⟩
  obtain ⟨vi, vw, g1, g2, g3⟩ := (QC_iff ..).1 hc
  exact (QC_iff ..).2 ⟨vi, vw, g1, RowsR.map g2 k fun x hx cs hc => (hq q hqm).1 x hx cs hc, RowsR.map g3 k fun x hx cs hc => (hq q hqm).2 x hx cs hc⟩

theorem ExsR.keep {M : Nat → Prop} {w w' : World} {v : Value} {l : List Ex} (h : ExsR M w v l) (k : Keep M w w') : ExsR M w' v l := RowsR.map h k fun x _ cs hc => EC.keep k x cs hc

theorem QC.keep {M : Nat → Prop} {w w' : World} (k : Keep M w w') {q : Qu} {cs : List Value} (h : QC M w q cs) : QC M w' q cs := by
  obtain ⟨vi, vw, g1, g2, g3⟩ := (QC_iff ..).1 h
  exact (QC_iff ..).2 ⟨vi, vw, g1, g2.keep k, g3.keep k⟩

theorem QusR.keep {M : Nat → Prop} {w w' : World} {v : Value} {l : List Qu} (h : QusR M w v l) (k : Keep M w w') : QusR M w' v l := RowsR.map h k fun _ _ _ hc => QC.keep k hc

theorem EC.weak {M M' : Nat → Prop} {w : World} (hM : ∀ k, k < w.heap.size → M' k → M k) (e : Ex) : ∀ cs, EC M w e cs → EC M' w e cs := by
  refine Ex.ind (P := fun e => ∀ cs, EC M w e cs → EC M' w e cs) (fun e ha hq cs h => ?_) e
  obtain ⟨va, vs, h1, h2, h3⟩ := (EC_iff ..).1 h
  refine (EC_iff ..).2 ⟨va, vs, h1, RowsR.weak h2 hM fun x hx cs hc => ha x hx cs hc, RowsR.weak h3 hM fun q hqm cs hc => ?_⟩
  obtain ⟨vi, vw, g1, g2, g3⟩ := (QC_iff ..).1 hc
  exact (QC_iff ..).2 ⟨vi, vw, g1, RowsR.weak g2 hM fun x hx cs hc => (hq q hqm).1 x hx cs hc, RowsR.weak g3 hM fun x hx cs hc => (hq q hqm).2 x hx cs hc⟩

theorem ExsR.weak {M M' : Nat → Prop} {w : World} (hM : ∀ k, k < w.heap.size → M' k → M k) {v : Value} {l : List Ex} (h : ExsR M w v l) : ExsR M' w v l := RowsR.weak h hM fun x _ cs hc => EC.weak hM x cs hc

theorem QC.weak {M M' : Nat → Prop} {w : World} (hM : ∀ k, k < w.heap.size → M' k → M k) {q : Qu} {cs : List Value} (h : QC M w q cs) : QC M' w q cs := by
  obtain ⟨vi, vw, g1, g2, g3⟩ := (QC_iff ..).1 h
  exact (QC_iff ..).2 ⟨vi, vw, g1, g2.weak hM, g3.weak hM⟩

theorem QusR.weak {M M' : Nat → Prop} {w : World} (hM : ∀ k, k < w.heap.size → M' k → M k) {v : Value} {l : List Qu} (h : QusR M w v l) : QusR M' w v l := RowsR.weak h hM fun _ _ _ hc => QC.weak hM hc

theorem cols_new {M : Nat → Prop} {w : World} {arr : Array Value} {e : TypeId} {g n c : Nat} (xs : List Col) (hg : g = w.heap.size) (hT : ¬ M w.heap.size) (ha : arr.toList = (xs.map colCells).flatten) (hn : n = xs.length) (hc : n ≤ c) (hm : c ≤ maxLen) :
    ColsR M (w.alloc (.cells arr e)) (.slice (some ⟨g, 0, none⟩) n c) xs := by
  refine RowsR.new (xs.map colCells) hg hT ha (fun cs h => ?_) (by simp [hn]) hc hm (by simp) (fun i x cs hi hc => ?_)
  · obtain ⟨x, _, rfl⟩ := List.mem_map.1 h
    rfl
  · simp only [List.getElem?_map, hi, Option.map_some, Option.some.injEq] at hc
    exact hc.symm

end Go.Proofs.YtkhlmofcdchccaaGreatDoor

namespace Go.Proofs.YtkhlmofcdchccaaGreatDoor
open Go.RowKit

/-- The rows of a one-element slice that has just been built. -/
theorem rows_one {α : Type} {M : Nat → Prop} {w : World} {arr : Array Value} {e : TypeId} {size g : Nat} {R : α → List Value → Prop} (x : α) (hg : g = w.heap.size) (hT : ¬ M w.heap.size) (hs : arr.toList.length = size) (hR : R x arr.toList) :
    RowsR M (w.alloc (.cells arr e)) size R (.slice (some ⟨g, 0, none⟩) 1 1) [x] :=
  RowsR.new [arr.toList] hg hT (by simp) (by simpa using hs) rfl (Nat.le_refl _) (by unfold maxLen; omega) rfl fun i y cs hi hc => by
    match i with
    | 0 => simp at hi hc; subst hi; subst hc; exact hR
    | i + 1 => simp at hi

/-- The block that a slice's value owns. -/
def OwnB (v : Value) (k : Nat) : Prop := v.ownBlock = some k

theorem Keep.grownBy {w w' : World} {v : Value} (hg : w.grownBy w' v.ownBlock) : Keep (OwnB v) w w' :=
  (Keep.refl _ w).grown hg fun _ h _ => h

theorem RowsO.lt {α : Type} {lo : Nat} {w : World} {e : TypeId} {size : Nat} {R : α → List Value → Prop} {v : Value} {xs : List α} (h : RowsO lo w e size R v xs) {k : Nat} (hk : OwnB v k) : lo ≤ k ∧ k < w.heap.size :=
  let ⟨_, h1, _⟩ := h; h1.lt k hk

theorem RowsO.imp {α : Type} {lo : Nat} {w : World} {e : TypeId} {size : Nat} {R R' : α → List Value → Prop} {v : Value} {xs : List α} (h : RowsO lo w e size R v xs) (hr : ∀ x ∈ xs, ∀ cs, R x cs → R' x cs) : RowsO lo w e size R' v xs :=
  let ⟨css, h1, h2, h3, h4⟩ := h; ⟨css, h1, h2, h3, fun i x cs hi hc => hr x (List.mem_of_getElem? hi) cs (h4 i x cs hi hc)⟩

theorem RowsO.lower {α : Type} {lo lo' : Nat} {w : World} {e : TypeId} {size : Nat} {R : α → List Value → Prop} {v : Value} {xs : List α} (h : RowsO lo w e size R v xs) (hlo : lo' ≤ lo) : RowsO lo' w e size R v xs := by
  obtain ⟨css, ⟨g1, g2⟩, h2, h3, h4⟩ := h
  refine ⟨css, ⟨g1, ?_⟩, h2, h3, h4⟩
  rcases g2 with g2 | ⟨g, cap, cur, hv, hg, r⟩
  · exact .inl g2
  · exact .inr ⟨g, cap, cur, hv, by omega, r⟩

/-- Owned it stays, its own block alone need not be written. -/
theorem RowsO.kept {α : Type} {lo : Nat} {w w' : World} {e : TypeId} {size : Nat} {R R' : α → List Value → Prop} {v : Value} {xs : List α} {M : Nat → Prop} (h : RowsO lo w e size R v xs) (k : Keep M w w') (hM : ∀ k, OwnB v k → ¬ M k) (hr : ∀ x ∈ xs, ∀ cs, R x cs → R' x cs) : RowsO lo w' e size R' v xs := by
  obtain ⟨css, ⟨h1, h2⟩, hl, hs, hR⟩ := h
  refine ⟨css, ⟨h1, ?_⟩, hl, hs, fun i x cs hi hc => hr x (List.mem_of_getElem? hi) cs (hR i x cs hi hc)⟩
  rcases h2 with h2 | ⟨g, cap, cur, hv, hg, hh, rest⟩
  · exact .inl h2
  · have hlt := (Array.getElem?_eq_some_iff.1 hh).1
    exact .inr ⟨g, cap, cur, hv, hg, by rw [k.block g hlt (hM g (by rw [hv]; rfl))]; exact hh, rest⟩

/-- append(s, x...): s is the call's own (or nil), x any slice (or nil). -/
theorem wpList_app {P : Program} {w : World} {ops : Array Oper} {rest : List Oper} {o : Oper} {a : Act} {Q : Exit → Act → World → Prop} (hgd : o.guard = none) (s x : Operand) (t : TypeId)
    (ho : o.op = .call { callee := .builtin .append, args := #[s, x], argTypes := #[t, t] })
    (e : TypeId) (z : Value) (size bytes : Nat) (ht : P.underlying t = some (.slice e)) (hinfo : (P.info? e).map (fun i => (i.zero, i.size, i.bytes)) = some (some z, size, bytes)) (hzs : z.cells.size = size) (hsz : 0 < size)
    {α : Type} {R : α → List Value → Prop} {M : Nat → Prop} (lo : Nat) (v src : Value) (xs ys : List α) (hs : a.eval s = v) (hx : a.eval x = src) (hown : RowsO lo w e size R v xs) (hsrc : RowsR M w size R src ys)
    (h1 : ∀ y ∈ ys, ∀ cs, R y cs → ∀ u ∈ cs, u.oneCell' = true) (hN : (xs.length + ys.length) * bytes ≤ 140737488355328) (hN2 : xs.length + ys.length ≤ maxLen) (hlo : lo ≤ w.heap.size)
    (h : ∀ v' w', RowsO lo w' e size R v' (xs ++ ys) → Keep (OwnB v) w w' → (ys ≠ [] → ∀ k, OwnB v' k → OwnB v k ∨ k = w.heap.size) → wpList P ops Q rest (a.put o.dst v') w') : wpList P ops Q (o :: rest) a w := by
  obtain ⟨i0, hi0, hz0, hz1, hz2⟩ := info_parts hinfo
  obtain ⟨css, hro, hl, hcs, hR⟩ := hown
  obtain ⟨dss, hds, hdl, hRd⟩ := hsrc
  have fin : ∀ v' w', w'.ownsRow lo e size v' (css.length + dss.length) (css.flatten ++ dss.flatten) → (∀ ds ∈ dss, ds.length = size) → RowsO lo w' e size R v' (xs ++ ys) := by
    intro v' w' how hdsz
    refine ⟨css ++ dss, by simpa using how, by simp [hl, hdl], fun cs hc => ?_, fun i y cs hi hc => ?_⟩
    · rcases List.mem_append.1 hc with hc | hc
      · exact hcs cs hc
      · exact hdsz cs hc
    · by_cases hlt : i < xs.length
      · rw [List.getElem?_append_left hlt] at hi
        rw [List.getElem?_append_left (by omega)] at hc
        exact hR i y cs hi hc
      · rw [List.getElem?_append_right (by omega)] at hi
        rw [List.getElem?_append_right (by omega), hl] at hc
        exact hRd _ y cs hi hc
  rcases hds with ⟨⟨A, rfl⟩, hd0⟩ | ⟨b, of, cap, rfl, hT, hb, hlc, hm, hc⟩
  · subst hd0
    have hy0 : ys = [] := List.eq_nil_of_length_eq_zero (by simpa using hdl.symm)
    subst hy0
    rcases A with _ | ad
    · refine wpList_append_own_none hgd s x t ho lo e i0 size ht hi0 v css.length css.flatten hs hro hx (h v w (fin v w (by simpa using hro) (by simp)) (Keep.refl _ _) (fun hy => absurd rfl hy))
    · refine wpList_append_own w hgd s x t ho lo e i0 z size bytes ht hi0 hz0 hz1 hz2 hzs hsz v css.length css.flatten hs hro ad 0 0 [] hx (by simp) (by simp) (by simp) (by rw [hl]; simpa using hN2) (by rw [hl]; simpa using hN) hlo ?_
      intro v' w' how hg _
      exact h v' w' (fin v' w' (by simpa using how) (by simp)) (Keep.grownBy hg) (fun hy => absurd rfl hy)
  · have hdsz : ∀ ds ∈ dss, ds.length = size := fun ds h' => let ⟨i, hi⟩ := List.mem_iff_getElem?.1 h'; (hc i ds hi).1
    have hone : ∀ u ∈ dss.flatten, u.oneCell' = true := by
      intro u hu
      obtain ⟨ds, hds, hu⟩ := List.mem_flatten.1 hu
      obtain ⟨i, hi⟩ := List.mem_iff_getElem?.1 hds
      have hlt : i < ys.length := by rw [← hdl]; exact (List.getElem?_eq_some_iff.1 hi).1
      exact h1 _ (List.getElem_mem hlt) ds (hRd i _ ds (List.getElem?_eq_getElem hlt) hi) u hu
    by_cases hm0 : 0 < dss.length
    · refine wpList_append_lies w hgd s x t ho lo e i0 z size bytes ht hi0 hz0 hz1 hz2 hzs hsz v css.length css.flatten hs hro ⟨b, of, none⟩ dss.length cap dss.flatten hx (flatten_length size dss hdsz) (flat_cells hc) hone hm0 (by rw [hl, hdl]; exact hN2) (by rw [hl, hdl]; exact hN) hlo w.heap.size rfl ?_
      intro g cp w' how hg hat _
      exact h _ w' (fin _ w' how hdsz) (Keep.grownBy hg) fun _ k hk => by
        have hk' : g = k := by simpa [OwnB, Value.ownBlock] using hk
        subst hk'
        exact hat
    · have hd0 : dss = [] := List.eq_nil_of_length_eq_zero (by omega)
      refine wpList_append_own w hgd s x t ho lo e i0 z size bytes ht hi0 hz0 hz1 hz2 hzs hsz v css.length css.flatten hs hro ⟨b, of, none⟩ dss.length cap dss.flatten hx (flatten_length size dss hdsz) (flat_cells hc) hone (by rw [hl, hdl]; exact hN2) (by rw [hl, hdl]; exact hN) hlo ?_
      intro v' w' how hg _
      exact h v' w' (fin v' w' how hdsz) (Keep.grownBy hg) fun hy => absurd (List.eq_nil_of_length_eq_zero (by rw [← hdl, hd0]; rfl)) hy

end Go.Proofs.YtkhlmofcdchccaaGreatDoor

namespace Go.Proofs.YtkhlmofcdchccaaGreatDoor
open Go.RowKit

/-- Blocks from before, and what v owns. -/
def OldOr (s : Nat) (v : Value) (k : Nat) : Prop := k < s ∨ OwnB v k
def Old (s : Nat) (k : Nat) : Prop := k < s

/-- A reading of cells that lasts while what it avoids alone is written. -/
structure Stable {α : Type} (R : (Nat → Prop) → World → α → List Value → Prop) : Prop where
  keep : ∀ {M w w' x cs}, R M w x cs → Keep M w w' → R M w' x cs
  weak : ∀ {M M' : Nat → Prop} {w x cs}, R M w x cs → (∀ k, k < w.heap.size → M' k → M k) → R M' w x cs
  one : ∀ {M w x cs}, R M w x cs → ∀ u ∈ cs, u.oneCell' = true

theorem bel_nil {w w' : World} (h : Keep (OwnB (.slice none 0 0)) w w') : Below w.heap.size w w' := h.toBelow (Nat.le_refl _) fun k _ h => by cases h

def RowsG {α : Type} (lo : Nat) (w : World) (e : TypeId) (size : Nat) (R : (Nat → Prop) → World → α → List Value → Prop) (v : Value) (xs : List α) : Prop := RowsO lo w e size (R (OldOr lo v) w) v xs

section
variable {α : Type} {lo : Nat} {w w' : World} {e : TypeId} {size : Nat} {R : (Nat → Prop) → World → α → List Value → Prop} {v : Value} {xs : List α}

theorem RowsG.nil (lo : Nat) (w : World) (e : TypeId) (size : Nat) (R : (Nat → Prop) → World → α → List Value → Prop) : RowsG lo w e size R (.slice none 0 0) ([] : List α) := RowsO.nil ..

theorem RowsG.keep (S : Stable R) {M : Nat → Prop} (h : RowsG lo w e size R v xs) (k : Keep M w w') (hM : ∀ k, lo ≤ k → k < w.heap.size → ¬ M k) : RowsG lo w' e size R v xs :=
  RowsO.kept h k (fun b hb => hM b (h.lt hb).1 (h.lt hb).2) fun _ _ _ hc => S.keep hc (k.weak fun b hb hMb => Classical.byContradiction fun hn => hM b (Nat.le_of_not_lt fun hl => hn (.inl hl)) hb hMb)

theorem RowsG.bel (S : Stable R) (h : RowsG lo w e size R v xs) (k : Below w.heap.size w w') : RowsG lo w' e size R v xs := h.keep S (M := fun _ => False) (.bel k) fun _ _ _ => id

theorem RowsG.rows (S : Stable R) (h : RowsG lo w e size R v xs) : RowsR (Old lo) w size (R (Old lo) w) v xs :=
  (RowsO.imp h fun _ _ _ hc => S.weak hc fun _ _ hk => .inl hk).rows fun k h1 _ h2 => by unfold Old at h2; omega

theorem RowsG.shape (h : RowsG lo w e size R v xs) : ∃ a cap, v = .slice a xs.length cap ∧ xs.length ≤ maxLen := RowsO.shape h

/-- The lower bound may be lowered, where all lies above the higher. -/
theorem RowsG.of (S : Stable R) {lo' : Nat} {M : Nat → Prop} (h : RowsO lo' w e size (R M w) v xs) (hlo : lo ≤ lo') (hM : ∀ k, k < w.heap.size → OldOr lo v k → M k) : RowsG lo w e size R v xs :=
  (h.imp fun _ _ _ hc => S.weak hc hM).lower hlo

/-- The list behind an append of one thing that has just been built. -/
theorem RowsG.snoc (S : Stable R) {v' : Value} {arr : Array Value} {t : TypeId} {x : α} (h : RowsO lo w' e size (R (OldOr lo v) w) v' (xs ++ [x])) (hk : Keep (OwnB v) (w.alloc (.cells arr t)) w') (hat : ∀ k, OwnB v' k → OwnB v k ∨ k = (w.alloc (.cells arr t)).heap.size) :
    RowsG lo w' e size R v' (xs ++ [x]) := by
  have k1 : Keep (OldOr lo v) w w' := ((Keep.refl _ w).alloc _).then hk fun _ _ h => .inr h
  refine RowsO.imp h fun y _ cs hc => S.weak (S.keep (S.weak (M' := fun k => OldOr lo v k ∨ w.heap.size ≤ k) hc fun k hk hh => hh.resolve_right (by omega)) (k1.weak fun k _ h => .inl h)) fun k _ hk' => ?_
  rcases hk' with hk' | hk'
  · exact .inl (.inl hk')
  · rcases hat k hk' with h | h
    · exact .inl (.inr h)
    · exact .inr (by rw [h]; simp)

/-- append(s, T{..}): s grows by what lies in the block just built. -/
theorem wpList_appG {P : Program} {ops : Array Oper} {rest : List Oper} {o : Oper} {a : Act} {Q : Exit → Act → World → Prop} (S : Stable R) (hgd : o.guard = none) (s x : Operand) (t : TypeId)
    (ho : o.op = .call { callee := .builtin .append, args := #[s, x], argTypes := #[t, t] })
    (e : TypeId) (z : Value) (size bytes : Nat) (ht : P.underlying t = some (.slice e)) (hinfo : (P.info? e).map (fun i => (i.zero, i.size, i.bytes)) = some (some z, size, bytes)) (hzs : z.cells.size = size) (hsz : 0 < size)
    (lo : Nat) (v : Value) (b : Nat) (arr : Array Value) (xs : List α) (y : α) (hs : a.eval s = v) (hx : a.eval x = .slice (some ⟨b, 0, none⟩) 1 1) (hb : b = w.heap.size) (hown : RowsG lo w e size R v xs) (hlen : arr.toList.length = size) (hy : R (OldOr lo v) w y arr.toList)
    (hN : (xs.length + 1) * bytes ≤ 140737488355328) (hN2 : xs.length + 1 ≤ maxLen) (hlo : lo ≤ w.heap.size)
    (h : ∀ v' w', RowsG lo w' e size R v' (xs ++ [y]) → Keep (OwnB v) w w' → wpList P ops Q rest (a.put o.dst v') w') : wpList P ops Q (o :: rest) a (w.alloc (.cells arr e)) := by
  refine wpList_app hgd s x t ho e z size bytes ht hinfo hzs hsz (R := R (OldOr lo v) w) (M := fun _ => False) lo v _ xs [y] hs hx ?_ (rows_one y hb id hlen hy) (fun _ _ cs hc => S.one hc) (by simpa using hN) (by simpa using hN2) (by simp; omega) ?_
  · exact RowsO.kept hown ((Keep.refl (fun _ => False) w).alloc _) (fun _ _ => id) fun _ _ _ h => h
  · intro v' w' ho' hk hat
    exact h v' w' (RowsG.snoc S ho' hk (hat (by simp))) (((Keep.refl _ w).alloc _).trans hk)

end

end Go.Proofs.YtkhlmofcdchccaaGreatDoor
