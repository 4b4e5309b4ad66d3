/- Plain words on memory for this seat's walks: which slices hold which rows of cells, and how that lasts while other blocks are made or one tape block is written. No program is named here. -/
import Derived.WalkKit
import Derived.WalkSpells
import Derived.WalkLawsBesides
import Derived.Handy
import Derived.Lib.Hide
namespace Go.Proofs.YtiheioajnfggmaaDoor
open Go.RowKit

/-- Every block that was there is as it was, but for those that M says. -/
structure Keep (M : Nat → Prop) (w w' : World) : Prop where
  os : w'.os = w.os
  tape : w'.tape = w.tape
  output : w'.output = w.output
  size : w.heap.size ≤ w'.heap.size
  block : ∀ k, k < w.heap.size → ¬ M k → w'.heap[k]? = w.heap[k]?

/-- One block alone. -/
def At (T : Nat) (k : Nat) : Prop := k = T
/-- All blocks outside [lo, hi). -/
def Out (lo hi : Nat) (k : Nat) : Prop := k < lo ∨ hi ≤ k

section
variable {M : Nat → Prop} {a b c w w' : World}
theorem Keep.refl (M : Nat → Prop) (w : World) : Keep M w w := ⟨rfl, rfl, rfl, Nat.le_refl _, fun _ _ _ => rfl⟩
theorem Keep.trans (h : Keep M a b) (k : Keep M b c) : Keep M a c :=
  ⟨k.os.trans h.os, k.tape.trans h.tape, k.output.trans h.output, Nat.le_trans h.size k.size,
    fun i hi hn => (k.block i (Nat.lt_of_lt_of_le hi h.size) hn).trans (h.block i hi hn)⟩
theorem Keep.of_below {B : Nat} (h : Below B w w') (hB : ∀ k, k < w.heap.size → B ≤ k → M k) : Keep M w w' :=
  ⟨h.os, h.tape, h.output, h.size, fun k hk hn => h.block k (Nat.lt_of_not_le fun hle => hn (hB k hk hle))⟩
theorem Keep.bel (h : Below w.heap.size w w') : Keep M w w' := .of_below h fun k h1 h2 => by omega
theorem Keep.below (h : Keep M a b) (k : Below b.heap.size b c) : Keep M a c := h.trans (.bel k)
/-- Less may have been written, from elsewhere. -/
theorem Keep.weak {M' : Nat → Prop} (h : Keep M' w w') (hM : ∀ k, k < w.heap.size → M' k → M k) : Keep M w w' :=
  ⟨h.os, h.tape, h.output, h.size, fun k hk hn => h.block k hk fun h' => hn (hM k hk h')⟩
/-- A later step may also write whatever was not there at the beginning. -/
theorem Keep.then {M' : Nat → Prop} (h : Keep M a b) (k : Keep M' b c) (hM : ∀ i, i < a.heap.size → M' i → M i) : Keep M a c :=
  ⟨k.os.trans h.os, k.tape.trans h.tape, k.output.trans h.output, Nat.le_trans h.size k.size,
    fun i hi hn => (k.block i (Nat.lt_of_lt_of_le hi h.size) fun h' => hn (hM i hi h')).trans (h.block i hi hn)⟩
theorem Keep.drew (h : Keep M a b) : Keep M a b.drew := ⟨h.os, h.tape, h.output, h.size, h.block⟩
theorem Keep.drewN (h : Keep M a b) (n : Nat) : Keep M a (b.drewN n) := ⟨h.os, h.tape, h.output, h.size, h.block⟩
theorem Keep.alloc (h : Keep M a b) (o : Obj) : Keep M a (b.alloc o) := h.below ((Below.refl _ _).alloc (Nat.le_refl _) o)
theorem Keep.setCell (h : Keep M a b) {p : Addr} (hp : p.block < a.heap.size → M p.block) (u : Value) : Keep M a (b.setCell p u) :=
  ⟨h.os, h.tape, h.output, by simpa using h.size, fun k hk hn => by
    by_cases e : k = p.block
    · subst e; exact absurd (hp hk) hn
    · rw [Below.heap_setCell _ _ _ _ e]; exact h.block k hk hn⟩
theorem Keep.grown {row : Option Nat} (h : Keep M a b) (hg : b.grownBy c row) (hr : ∀ k, row = some k → k < a.heap.size → M k) : Keep M a c :=
  ⟨hg.os.trans h.os, hg.tape.trans h.tape, hg.output.trans h.output, Nat.le_trans h.size hg.size,
    fun k hk hn => (hg.block k (Nat.lt_of_lt_of_le hk h.size) fun e => hn (hr k e.symm hk)).trans (h.block k hk hn)⟩
theorem Keep.cell (h : Keep M w w') {b o : Nat} (hb : b < w.heap.size) (hT : ¬ M b) : w'.cell? ⟨b, o, none⟩ = w.cell? ⟨b, o, none⟩ :=
  World.cell?_of_block (w := w) (h.block b hb hT)
theorem Keep.toBelow {B : Nat} (h : Keep M w w') (hB : B ≤ w.heap.size) (hT : ∀ k, k < B → ¬ M k) : Below B w w' :=
  ⟨h.os, h.tape, h.output, h.size, fun k hk => h.block k (Nat.lt_of_lt_of_le hk hB) (hT k hk)⟩
end

theorem drewN_below {B : Nat} {a w : World} (h : Below B a w) (n : Nat) : Below B a (w.drewN n) := ⟨h.os, h.tape, h.output, h.size, h.block⟩

/-- Below with the old heap's own size, in one step behind another. -/
theorem bel_trans {a b c : World} (h : Below a.heap.size a b) (k : Below b.heap.size b c) : Below a.heap.size a c := h.trans (k.mono h.size)

/-- The cells from offset o of block b on. -/
def CellsAt (w : World) (b o : Nat) (cs : List Value) : Prop := ∀ j u, cs[j]? = some u → w.cell? ⟨b, o + j, none⟩ = some u

theorem CellsAt.keep {M : Nat → Prop} {w w' : World} {b o : Nat} {cs : List Value} (h : CellsAt w b o cs) (k : Keep M w w') (hT : ¬ M b) : CellsAt w' b o cs := by
  intro j u hu
  have h1 := h j u hu
  rw [k.cell (World.block_lt_of_cell? _ _ h1) hT]
  exact h1

theorem CellsAt.get {w : World} {b o : Nat} {cs : List Value} (h : CellsAt w b o cs) (j : Nat) (hj : j < cs.length) : w.cell? ⟨b, o + j, none⟩ = some cs[j] :=
  h j _ (List.getElem?_eq_getElem hj)

theorem CellsAt.c1 {w : World} {b o : Nat} {a : Value} (h : CellsAt w b o [a]) : w.cell? ⟨b, o, none⟩ = some a := h 0 _ rfl
theorem CellsAt.c2 {w : World} {b o : Nat} {a c : Value} (h : CellsAt w b o [a, c]) : w.cell? ⟨b, o, none⟩ = some a ∧ w.cell? ⟨b, o + 1, none⟩ = some c := ⟨h 0 _ rfl, h 1 _ rfl⟩
theorem CellsAt.c3 {w : World} {b o : Nat} {a c d : Value} (h : CellsAt w b o [a, c, d]) : w.cell? ⟨b, o, none⟩ = some a ∧ w.cell? ⟨b, o + 1, none⟩ = some c ∧ w.cell? ⟨b, o + 2, none⟩ = some d := ⟨h 0 _ rfl, h 1 _ rfl, h 2 _ rfl⟩
theorem CellsAt.c4 {w : World} {b o : Nat} {a c d e : Value} (h : CellsAt w b o [a, c, d, e]) : w.cell? ⟨b, o, none⟩ = some a ∧ w.cell? ⟨b, o + 1, none⟩ = some c ∧ w.cell? ⟨b, o + 2, none⟩ = some d ∧ w.cell? ⟨b, o + 3, none⟩ = some e :=
  ⟨h 0 _ rfl, h 1 _ rfl, h 2 _ rfl, h 3 _ rfl⟩

/-- The slice value v holds the rows css, each of 'size' cells; its array is not block T. (An empty slice without room may point anywhere.) -/
def SliceOf (M : Nat → Prop) (w : World) (size : Nat) (v : Value) (css : List (List Value)) : Prop :=
  ((∃ a, v = .slice a 0 0) ∧ css = []) ∨
  ∃ b o cap, v = .slice (some ⟨b, o, none⟩) css.length cap ∧ ¬ M b ∧ b < w.heap.size ∧ css.length ≤ cap ∧ cap ≤ maxLen ∧
    ∀ i cs, css[i]? = some cs → cs.length = size ∧ CellsAt w b (o + i * size) cs

theorem SliceOf.keep {M : Nat → Prop} {w w' : World} {size : Nat} {v : Value} {css : List (List Value)} (h : SliceOf M w size v css) (k : Keep M w w') : SliceOf M w' size v css := by
  rcases h with h | ⟨b, o, cap, hv, hT, hb, hl, hm, hc⟩
  · exact .inl h
  · exact .inr ⟨b, o, cap, hv, hT, Nat.lt_of_lt_of_le hb k.size, hl, hm, fun i cs hi => ⟨(hc i cs hi).1, (hc i cs hi).2.keep k hT⟩⟩

theorem SliceOf.weak {M M' : Nat → Prop} {w : World} {size : Nat} {v : Value} {css : List (List Value)} (h : SliceOf M w size v css) (hM : ∀ k, k < w.heap.size → M' k → M k) : SliceOf M' w size v css := by
  rcases h with h | ⟨b, o, cap, hv, hT, hb, hl, hm, hc⟩
  · exact .inl h
  · exact .inr ⟨b, o, cap, hv, fun h' => hT (hM b hb h'), hb, hl, hm, hc⟩

theorem SliceOf.bel {M : Nat → Prop} {w w' : World} {size : Nat} {v : Value} {css : List (List Value)} (h : SliceOf M w size v css) (k : Below w.heap.size w w') : SliceOf M w' size v css := h.keep (.bel k)

/-- What the slice's value looks like. -/
theorem SliceOf.shape {M : Nat → Prop} {w : World} {size : Nat} {v : Value} {css : List (List Value)} (h : SliceOf M w size v css) : ∃ a cap, v = .slice a css.length cap ∧ css.length ≤ maxLen := by
  rcases h with ⟨⟨a, rfl⟩, rfl⟩ | ⟨b, o, cap, hv, _, _, hl, hm, _⟩
  · exact ⟨a, 0, rfl, Nat.zero_le _⟩
  · exact ⟨_, cap, hv, by omega⟩

theorem flatten_at {size : Nat} (css : List (List Value)) (hs : ∀ cs ∈ css, cs.length = size) : ∀ (i : Nat) (cs : List Value), css[i]? = some cs → ∀ j u, cs[j]? = some u → css.flatten[i * size + j]? = some u := by
  induction css with
  | nil => intro i cs h; simp at h
  | cons c css ih =>
    intro i cs h j u hu
    have hc := hs c (List.mem_cons_self ..)
    cases i with
    | zero =>
      simp at h
      subst h
      have hj : j < c.length := (List.getElem?_eq_some_iff.1 hu).1
      simp only [List.flatten_cons, Nat.zero_mul, Nat.zero_add]
      rw [List.getElem?_append_left hj]
      exact hu
    | succ i =>
      simp only [List.getElem?_cons_succ] at h
      have := ih (fun x hx => hs x (List.mem_cons_of_mem _ hx)) i cs h j u hu
      simp only [List.flatten_cons]
      rw [List.getElem?_append_right (by rw [hc, Nat.succ_mul]; omega)]
      rw [hc, show (i + 1) * size + j - size = i * size + j from by rw [Nat.succ_mul]; omega]
      exact this

/-- A row that the call owns is such a slice. -/
theorem slice_of_own {M : Nat → Prop} {w : World} {base : Nat} {e : TypeId} {size : Nat} {v : Value} {css : List (List Value)} (h : w.ownsRow base e size v css.length css.flatten) (hs : ∀ cs ∈ css, cs.length = size) (hT : ∀ k, base ≤ k → k < w.heap.size → ¬ M k) : SliceOf M w size v css := by
  obtain ⟨_, h2⟩ := h
  rcases h2 with ⟨hv, hn⟩ | ⟨g, cap, cur, hv, hg, hh, hnc, hcm, hcs, htake⟩
  · exact .inl ⟨⟨_, hv⟩, List.eq_nil_of_length_eq_zero hn⟩
  · refine .inr ⟨g, 0, cap, hv, hT g hg (Array.getElem?_eq_some_iff.1 hh).1, (Array.getElem?_eq_some_iff.1 hh).1, hnc, hcm, fun i cs hi => ⟨hs cs (List.mem_of_getElem? hi), fun j u hu => ?_⟩⟩
    have hf := flatten_at css hs i cs hi j u hu
    rw [← htake, List.getElem?_take] at hf
    split at hf
    · rw [cell_of_row w g _ cur e (0, 0) hh]
      simpa [Nat.add_assoc] using hf
    · cases hf

/-- The rows of a list of things. -/
def RowsR {α : Type} (M : Nat → Prop) (w : World) (size : Nat) (R : α → List Value → Prop) (v : Value) (xs : List α) : Prop :=
  ∃ css, SliceOf M w size v css ∧ css.length = xs.length ∧ ∀ (i : Nat) (x : α) (cs : List Value), xs[i]? = some x → css[i]? = some cs → R x cs

theorem RowsR.map {α : Type} {M : Nat → Prop} {w w' : World} {size : Nat} {R R' : α → List Value → Prop} {v : Value} {xs : List α} (h : RowsR M w size R v xs) (k : Keep M w w') (hr : ∀ x ∈ xs, ∀ cs, R x cs → R' x cs) : RowsR M w' size R' v xs := by
  obtain ⟨css, hs, hl, hR⟩ := h
  exact ⟨css, hs.keep k, hl, fun i x cs hi hc => hr x (List.mem_of_getElem? hi) cs (hR i x cs hi hc)⟩

theorem RowsR.shape {α : Type} {M : Nat → Prop} {w : World} {size : Nat} {R : α → List Value → Prop} {v : Value} {xs : List α} (h : RowsR M w size R v xs) : ∃ a cap, v = .slice a xs.length cap ∧ xs.length ≤ maxLen := by
  obtain ⟨css, hs, hl, _⟩ := h
  rw [← hl]
  exact hs.shape

theorem RowsR.weak {α : Type} {M M' : Nat → Prop} {w : World} {size : Nat} {R R' : α → List Value → Prop} {v : Value} {xs : List α} (h : RowsR M w size R v xs) (hM : ∀ k, k < w.heap.size → M' k → M k) (hr : ∀ x ∈ xs, ∀ cs, R x cs → R' x cs) : RowsR M' w size R' v xs := by
  obtain ⟨css, hs, hl, hR⟩ := h
  exact ⟨css, hs.weak hM, hl, fun i x cs hi hc => hr x (List.mem_of_getElem? hi) cs (hR i x cs hi hc)⟩

/-- Empty, or a place whose element i lies at i times the size. -/
theorem RowsR.open {α : Type} {M : Nat → Prop} {w : World} {size : Nat} {R : α → List Value → Prop} {v : Value} {xs : List α} (h : RowsR M w size R v xs) :
    ((∃ a, v = .slice a 0 0) ∧ xs = []) ∨ ∃ b o cap, v = .slice (some ⟨b, o, none⟩) xs.length cap ∧ ¬ M b ∧ b < w.heap.size ∧ xs.length ≤ cap ∧ cap ≤ maxLen ∧
      ∀ (i : Nat) (x : α), xs[i]? = some x → ∃ cs, R x cs ∧ cs.length = size ∧ CellsAt w b (o + i * size) cs := by
  obtain ⟨css, hs, hl, hR⟩ := h
  rcases hs with ⟨hv, rfl⟩ | ⟨b, o, cap, hv, hT, hb, hlc, hm, hc⟩
  · exact .inl ⟨hv, List.eq_nil_of_length_eq_zero hl.symm⟩
  · rw [hl] at hv hlc
    refine .inr ⟨b, o, cap, hv, hT, hb, hlc, hm, fun i x hi => ?_⟩
    have hlt : i < css.length := by rw [hl]; exact (List.getElem?_eq_some_iff.1 hi).1
    have hcs := List.getElem?_eq_getElem hlt
    exact ⟨css[i], hR i x _ hi hcs, hc i _ hcs⟩

theorem RowsR.nil {α : Type} (M : Nat → Prop) (w : World) (size : Nat) (R : α → List Value → Prop) : RowsR M w size R (.slice none 0 0) ([] : List α) :=
  ⟨[], .inl ⟨⟨_, rfl⟩, rfl⟩, rfl, fun i x cs h => by simp at h⟩

theorem RowsR.empty {α : Type} (M : Nat → Prop) (w : World) (size : Nat) (R : α → List Value → Prop) (a : Option Addr) : RowsR M w size R (.slice a 0 0) ([] : List α) :=
  ⟨[], .inl ⟨⟨_, rfl⟩, rfl⟩, rfl, fun i x cs h => by simp at h⟩

theorem RowsR.mk {α : Type} {M : Nat → Prop} {w : World} {size : Nat} {R : α → List Value → Prop} {v : Value} {xs : List α} (css : List (List Value)) (hs : SliceOf M w size v css) (hl : css.length = xs.length)
    (hR : ∀ (i : Nat) (x : α) (cs : List Value), xs[i]? = some x → css[i]? = some cs → R x cs) : RowsR M w size R v xs := ⟨css, hs, hl, hR⟩

/-- A part of a slice. -/
theorem RowsR.drop {α : Type} {M : Nat → Prop} {w : World} {size : Nat} {R : α → List Value → Prop} {b o n cap : Nat} {xs : List α} (h : RowsR M w size R (.slice (some ⟨b, o, none⟩) n cap) xs) (k : Nat) (hk : k ≤ n) :
    RowsR M w size R (.slice (some ⟨b, o + k * size, none⟩) (n - k) (cap - k)) (xs.drop k) := by
  obtain ⟨css, hs, hl, hR⟩ := h
  refine ⟨css.drop k, ?_, by simp [hl], fun i x cs hi hc => hR (k + i) x cs (by simpa [List.getElem?_drop] using hi) (by simpa [List.getElem?_drop] using hc)⟩
  rcases hs with ⟨⟨a', hv⟩, h0⟩ | ⟨b', o', cap', hv, hT, hb, hlc, hm, hc⟩
  · simp only [Value.slice.injEq] at hv
    obtain ⟨_, rfl, rfl⟩ := hv
    exact .inl ⟨⟨some ⟨b, o + k * size, none⟩, by simp⟩, by simp [h0]⟩
  · simp only [Value.slice.injEq, Option.some.injEq, Addr.mk.injEq] at hv
    obtain ⟨⟨rfl, rfl, _⟩, rfl, rfl⟩ := hv
    refine .inr ⟨b, o + k * size, cap - k, by simp, hT, hb, by simp; omega, by omega, fun i cs hi => ?_⟩
    have := hc (k + i) cs (by simpa [List.getElem?_drop] using hi)
    rw [Nat.add_mul, ← Nat.add_assoc] at this
    exact this

theorem RowsR.take {α : Type} {M : Nat → Prop} {w : World} {size : Nat} {R : α → List Value → Prop} {a : Option Addr} {n cap : Nat} {xs : List α} (h : RowsR M w size R (.slice a n cap) xs) (k : Nat) (hk : k ≤ n) :
    RowsR M w size R (.slice a k cap) (xs.take k) := by
  obtain ⟨css, hs, hl, hR⟩ := h
  have hkl : k ≤ css.length := by
    rcases hs with ⟨⟨_, hv⟩, rfl⟩ | ⟨b', o', cap', hv, _⟩
    · simp at hv; omega
    · simp at hv; omega
  refine ⟨css.take k, ?_, by simp [hl], fun i x cs hi hc => ?_⟩
  · rcases hs with ⟨⟨_, hv⟩, rfl⟩ | ⟨b', o', cap', hv, hT, hb, hlc, hm, hc⟩
    · simp only [Value.slice.injEq] at hv
      obtain ⟨rfl, rfl, rfl⟩ := hv
      obtain rfl : k = 0 := by omega
      exact .inl ⟨⟨_, rfl⟩, rfl⟩
    · simp only [Value.slice.injEq] at hv
      obtain ⟨rfl, rfl, rfl⟩ := hv
      refine .inr ⟨b', o', cap, by simp [Nat.min_eq_left hkl], hT, hb, by simp; omega, hm, fun i cs hi => ?_⟩
      rw [List.getElem?_take] at hi
      split at hi
      · exact hc i cs hi
      · cases hi
  · rw [List.getElem?_take] at hi hc
    split at hi
    · rename_i hlt
      rw [if_pos hlt] at hc
      exact hR i x cs hi hc
    · cases hi

/-- A slice over a block that has just been made. -/
theorem slice_new {M : Nat → Prop} {w : World} {arr : Array Value} {e : TypeId} {size g n c : Nat} (css : List (List Value)) (hg : g = w.heap.size) (hT : ¬ M w.heap.size) (ha : arr.toList = css.flatten) (hs : ∀ cs ∈ css, cs.length = size) (hn : n = css.length) (hc : n ≤ c) (hm : c ≤ maxLen) :
    SliceOf M (w.alloc (.cells arr e)) size (.slice (some ⟨g, 0, none⟩) n c) css := by
  subst hg
  subst hn
  refine .inr ⟨w.heap.size, 0, c, rfl, hT, by simp, hc, hm, fun i cs hi => ⟨hs cs (List.mem_of_getElem? hi), fun j u hu => ?_⟩⟩
  have := flatten_at css hs i cs hi j u hu
  rw [← ha] at this
  simpa using this

theorem RowsR.new {α : Type} {M : Nat → Prop} {w : World} {arr : Array Value} {e : TypeId} {size g n c : Nat} {R : α → List Value → Prop} {xs : List α} (css : List (List Value)) (hg : g = w.heap.size) (hT : ¬ M w.heap.size) (ha : arr.toList = css.flatten) (hs : ∀ cs ∈ css, cs.length = size)
    (hn : n = css.length) (hc : n ≤ c) (hm : c ≤ maxLen) (hl : css.length = xs.length) (hR : ∀ (i : Nat) (x : α) (cs : List Value), xs[i]? = some x → css[i]? = some cs → R x cs) :
    RowsR M (w.alloc (.cells arr e)) size R (.slice (some ⟨g, 0, none⟩) n c) xs := ⟨css, slice_new css hg hT ha hs hn hc hm, hl, hR⟩

theorem bcell {W w1 : World} (hb : Below W.heap.size W w1) : (∀ b o, b < W.heap.size → w1.cell? ⟨b, o, none⟩ = W.cell? ⟨b, o, none⟩) ∧ (∀ b o, b < W.heap.size → w1.frozen? ⟨b, o, none⟩ = W.frozen? ⟨b, o, none⟩) ∧ W.heap.size ≤ w1.heap.size :=
  ⟨fun b o h => hb.cell (p := ⟨b, o, none⟩) h, fun b o h => hb.frozen (p := ⟨b, o, none⟩) h, hb.size⟩

theorem flatten_inv (size : Nat) : ∀ (css : List (List Value)), (∀ cs ∈ css, cs.length = size) → ∀ j u, css.flatten[j]? = some u → ∃ i cs r, css[i]? = some cs ∧ cs[r]? = some u ∧ j = i * size + r
  | [], _, j, u, h => by simp at h
  | c :: css, hs, j, u, h => by
    have hc := hs c (List.mem_cons_self ..)
    rw [List.flatten_cons] at h
    by_cases hj : j < c.length
    · rw [List.getElem?_append_left hj] at h
      exact ⟨0, c, j, rfl, h, by simp⟩
    · rw [List.getElem?_append_right (by omega)] at h
      obtain ⟨i, cs, r, h1, h2, h3⟩ := flatten_inv size css (fun x hx => hs x (List.mem_cons_of_mem _ hx)) _ u h
      exact ⟨i + 1, cs, r, by simpa using h1, h2, by rw [Nat.add_mul]; omega⟩

theorem flatten_length (size : Nat) : ∀ (css : List (List Value)), (∀ cs ∈ css, cs.length = size) → css.flatten.length = css.length * size
  | [], _ => by simp
  | c :: css, hs => by
    have := flatten_length size css fun x hx => hs x (List.mem_cons_of_mem _ hx)
    rw [List.flatten_cons, List.length_append, this, hs c (List.mem_cons_self ..), List.length_cons, Nat.succ_mul]
    omega

theorem flat_cells {w : World} {b o size : Nat} {css : List (List Value)} (h : ∀ i cs, css[i]? = some cs → cs.length = size ∧ CellsAt w b (o + i * size) cs) : ∀ j u, css.flatten[j]? = some u → w.cell? ((⟨b, o, none⟩ : Addr).add j) = some u := by
  intro j u hu
  obtain ⟨i, cs, r, h1, h2, rfl⟩ := flatten_inv size css (fun cs h' => let ⟨i, hi⟩ := List.mem_iff_getElem?.1 h'; (h i cs hi).1) j u hu
  rw [Addr.add_lit]
  have := (h i cs h1).2 r u h2
  rwa [Nat.add_assoc] at this

/-- The rows of a list of things in memory that the call owns, from block lo on: fit for append. -/
def RowsO {α : Type} (lo : Nat) (w : World) (e : TypeId) (size : Nat) (R : α → List Value → Prop) (v : Value) (xs : List α) : Prop :=
  ∃ css : List (List Value), w.ownsRow lo e size v css.length css.flatten ∧ css.length = xs.length ∧ (∀ cs ∈ css, cs.length = size) ∧ ∀ (i : Nat) (x : α) (cs : List Value), xs[i]? = some x → css[i]? = some cs → R x cs

theorem RowsO.nil {α : Type} (lo : Nat) (w : World) (e : TypeId) (size : Nat) (R : α → List Value → Prop) : RowsO lo w e size R (.slice none 0 0) ([] : List α) :=
  ⟨[], World.ownsRow_nil .., rfl, by simp, by simp⟩

theorem RowsO.rows {α : Type} {lo : Nat} {w : World} {e : TypeId} {size : Nat} {R : α → List Value → Prop} {v : Value} {xs : List α} {M : Nat → Prop} (h : RowsO lo w e size R v xs) (hM : ∀ k, lo ≤ k → k < w.heap.size → ¬ M k) : RowsR M w size R v xs :=
  let ⟨css, ho, hl, hs, hR⟩ := h
  ⟨css, slice_of_own ho hs hM, hl, hR⟩

theorem RowsO.shape {α : Type} {lo : Nat} {w : World} {e : TypeId} {size : Nat} {R : α → List Value → Prop} {v : Value} {xs : List α} (h : RowsO lo w e size R v xs) : ∃ a cap, v = .slice a xs.length cap ∧ xs.length ≤ maxLen :=
  (h.rows (M := fun _ => False) fun _ _ _ => id).shape

/-- Owned it stays while its block isn't written. -/
theorem RowsO.keep {α : Type} {lo : Nat} {w w' : World} {e : TypeId} {size : Nat} {R R' : α → List Value → Prop} {v : Value} {xs : List α} {M : Nat → Prop} (h : RowsO lo w e size R v xs) (k : Keep M w w') (hM : ∀ k, lo ≤ k → k < w.heap.size → ¬ M k) (hr : ∀ x ∈ xs, ∀ cs, R x cs → R' x cs) : RowsO lo w' e size R' v xs := by
  obtain ⟨css, ⟨h1, h2⟩, hl, hs, hR⟩ := h
  refine ⟨css, ⟨h1, ?_⟩, hl, hs, fun i x cs hi hc => hr x (List.mem_of_getElem? hi) cs (hR i x cs hi hc)⟩
  rcases h2 with h2 | ⟨g, cap, cur, hv, hg, hh, rest⟩
  · exact .inl h2
  · have hlt := (Array.getElem?_eq_some_iff.1 hh).1
    exact .inr ⟨g, cap, cur, hv, hg, by rw [k.block g hlt (hM g hg hlt)]; exact hh, rest⟩

/-- What a copy of a list in memory leaves. -/
def ClonePost {α : Type} (_M : Nat → Prop) (e : TypeId) (size : Nat) (R : World → α → List Value → Prop) (l : List α) (w : World) (en : Ending) (w' : World) : Prop :=
  ∃ v, en = .returned v ∧ RowsO w.heap.size w' e size (R w') v l ∧ Below w.heap.size w w'

end Go.Proofs.YtiheioajnfggmaaDoor
