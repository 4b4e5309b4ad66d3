/- A writer of words in memory, and the contract of put. -/
import Derived.Test.YtpnigfmclmfjaaaGreatDoorX1
import Derived.Test.YtpnigfmclmfjaaaGreatDoorKC1
namespace Go.Proofs.YtpnigfmclmfjaaaGreatDoor
open Go.RowKit

/-- What the writer at block b may change: its own variable and the array that it owns. -/
def WM (b : Nat) (w : World) (k : Nat) : Prop := k = b ∨ ∃ v, w.cell? ⟨b, 0, none⟩ = some v ∧ OwnB v k
/-- The writer at block b holds these words; what it owns lies from lo on. -/
def WrR (lo b : Nat) (w : World) (xs : List ByteArray) : Prop := b < lo ∧ lo ≤ w.heap.size ∧ ∃ v, w.heap[b]? = some (.cells #[v] 125 (0, 0)) ∧ RowsO lo w 9 1 StrR v xs
/-- What has become of a world in which a writer wrote. -/
structure WSt (lo b : Nat) (w0 w : World) (xs : List ByteArray) : Prop where
  rd : WrR lo b w xs
  keep : Keep (WM b w0) w0 w
  inc : ∀ k, k < w0.heap.size → WM b w k → WM b w0 k

theorem wcell {b : Nat} {w : World} {v : Value} {t : TypeId} (h : w.heap[b]? = some (.cells #[v] t (0, 0))) : w.cell? ⟨b, 0, none⟩ = some v ∧ (∀ i, w.frozen? ⟨b, i, none⟩ = false) ∧ b < w.heap.size :=
  ⟨by simp [World.cell?, h], fun i => by simp [World.frozen?, h], (Array.getElem?_eq_some_iff.1 h).1⟩
theorem WM.of {b : Nat} {w : World} {v : Value} {t : TypeId} (h : w.heap[b]? = some (.cells #[v] t (0, 0))) (k : Nat) : WM b w k ↔ k = b ∨ OwnB v k := by
  unfold WM
  rw [(wcell h).1]
  simp
theorem WrR.lt {lo b : Nat} {w : World} {xs : List ByteArray} (h : WrR lo b w xs) : b < w.heap.size := Nat.lt_of_lt_of_le h.1 h.2.1
theorem WrR.wm {lo b : Nat} {w : World} {xs : List ByteArray} (h : WrR lo b w xs) {k : Nat} (hk : WM b w k) : k = b ∨ (lo ≤ k ∧ k < w.heap.size) := by
  obtain ⟨_, _, v, h3, h4⟩ := h
  rcases (WM.of h3 k).1 hk with h | h
  · exact .inl h
  · exact .inr (h4.lt h)
theorem WrR.wm_lt {lo b : Nat} {w : World} {xs : List ByteArray} (h : WrR lo b w xs) {k : Nat} (hk : WM b w k) : k < w.heap.size := by
  rcases h.wm hk with rfl | h'
  · exact h.lt
  · exact h'.2
theorem WSt.refl {lo b : Nat} {w : World} {xs : List ByteArray} (h : WrR lo b w xs) : WSt lo b w w xs := ⟨h, Keep.refl _ _, fun _ _ h => h⟩
theorem WSt.trans {lo b : Nat} {w0 w1 w2 : World} {xs ys : List ByteArray} (h : WSt lo b w0 w1 xs) (k : WSt lo b w1 w2 ys) : WSt lo b w0 w2 ys :=
  ⟨k.rd, h.keep.then k.keep h.inc, fun i hi hm => h.inc i hi (k.inc i (Nat.lt_of_lt_of_le hi h.keep.size) hm)⟩
theorem WrR.bel {lo b : Nat} {w w' : World} {xs : List ByteArray} (h : WrR lo b w xs) (k : Below w.heap.size w w') : WrR lo b w' xs := by
  have hb := h.lt
  obtain ⟨h1, h2, v, h3, h4⟩ := h
  exact ⟨h1, Nat.le_trans h2 k.size, v, (k.block b hb).trans h3, RowsO.kept h4 (M := fun _ => False) (.bel k) (fun _ _ => id) fun _ _ _ h => h⟩
theorem WM.bel {lo b : Nat} {w w' : World} {xs : List ByteArray} (h : WrR lo b w xs) (k : Below w.heap.size w w') (i : Nat) : WM b w' i ↔ WM b w i := by
  unfold WM
  rw [k.cell (p := ⟨b, 0, none⟩) h.lt]
theorem WSt.bel {lo b : Nat} {w0 w1 w2 : World} {xs : List ByteArray} (h : WSt lo b w0 w1 xs) (k : Below w1.heap.size w1 w2) : WSt lo b w0 w2 xs :=
  ⟨h.rd.bel k, h.keep.trans (.bel k), fun i hi hm => h.inc i hi ((WM.bel h.rd k i).1 hm)⟩
theorem WSt.alloc {lo b : Nat} {w0 w1 : World} {xs : List ByteArray} (h : WSt lo b w0 w1 xs) (o : Obj) : WSt lo b w0 (w1.alloc o) xs := h.bel ((Below.refl _ _).alloc (Nat.le_refl _) o)
theorem WSt.size {lo b : Nat} {w0 w1 : World} {xs : List ByteArray} (h : WSt lo b w0 w1 xs) : w0.heap.size ≤ w1.heap.size := h.keep.size
/-- A block that the writer may not change is as it was, and stays so. -/
theorem WSt.block {lo b : Nat} {w0 w1 : World} {xs : List ByteArray} (h : WSt lo b w0 w1 xs) {k : Nat} (hk : k < w0.heap.size) (hn : ¬ WM b w0 k) : w1.heap[k]? = w0.heap[k]? ∧ ¬ WM b w1 k :=
  ⟨h.keep.block k hk hn, fun hm => hn (h.inc k hk hm)⟩
/-- A block that has just been made is not the writer's. -/
theorem wm_new {lo b : Nat} {w : World} {xs : List ByteArray} (h : WrR lo b w xs) (o : Obj) : ¬ WM b (w.alloc o) w.heap.size := fun hm => by
  have := h.wm_lt ((WM.bel h ((Below.refl _ _).alloc (Nat.le_refl _) o) _).1 hm)
  omega
/-- Everything that the writer does lies from lo on, its variable apart. -/
theorem WSt.below {lo b B : Nat} {w0 w1 : World} {xs ys : List ByteArray} (h : WSt lo b w0 w1 xs) (h0 : WrR lo b w0 ys) (hB : B ≤ b) : Below B w0 w1 :=
  h.keep.toBelow (by have := h0.lt; omega) fun k hk hm => by
    rcases h0.wm hm with rfl | h'
    · omega
    · have := h0.1
      omega

/-- What a call of the writer leaves. -/
def WPost (lo b : Nat) (w : World) (xs : List ByteArray) (e : Ending) (w' : World) : Prop := e = .returned (.tuple #[]) ∧ WSt lo b w w' xs

theorem infoStr : (Tryz.prog.info? 9).map (fun i => (i.zero, i.size, i.bytes)) = some (some (.string ⟨#[]⟩), 1, 16) := by kernel_rfl
theorem strR_one (y : ByteArray) (cs : List Value) (h : StrR y cs) : ∀ u ∈ cs, u.oneCell' = true := by
  subst h
  simp [Value.oneCell']

theorem put_st {lo b g cap : Nat} {v : Value} {w w2 : World} {xs ys : List ByteArray} {n : Nat} (h : WrR lo b w xs) (h3 : w.heap[b]? = some (.cells #[v] 125 (0, 0))) (ho : RowsO lo w2 9 1 StrR (.slice (some ⟨g, 0, none⟩) n cap) (xs ++ ys)) (hk : Keep (OwnB v) w w2) (hat : OwnB v g ∨ g = w.heap.size) :
    WSt lo b w (w2.setCell ⟨b, 0, none⟩ (.slice (some ⟨g, 0, none⟩) n cap)) (xs ++ ys) := by
  have hb := h.lt
  have hvb : ¬ OwnB v b := fun hh => by
    obtain ⟨h1, _, v', e3, h4⟩ := h
    rw [h3] at e3
    cases e3
    have := (RowsO.lt h4 hh).1
    omega
  have hgb : g ≠ b := by
    rcases hat with h | h
    · exact fun e => hvb (e ▸ h)
    · omega
  have h5 : w2.heap[b]? = some (.cells #[v] 125 (0, 0)) := (hk.block b hb hvb).trans h3
  have hnew : (w2.setCell ⟨b, 0, none⟩ (.slice (some ⟨g, 0, none⟩) n cap)).heap[b]? = some (.cells #[.slice (some ⟨g, 0, none⟩) n cap] 125 (0, 0)) := by simp [World.setCell, Array.getElem?_modify, h5]
  have hko : Keep (fun k => k = b) w2 (w2.setCell ⟨b, 0, none⟩ (.slice (some ⟨g, 0, none⟩) n cap)) := Keep.setCell (M := fun k => k = b) (Keep.refl _ _) (p := ⟨b, 0, none⟩) (fun _ => rfl) _
  refine ⟨⟨h.1, by have := h.2.1; have := hk.size; simp; omega, _, hnew, RowsO.kept ho hko (fun k hk' e => hgb (by subst e; exact by simpa [OwnB, Value.ownBlock] using hk')) fun _ _ _ h => h⟩, ?_, ?_⟩
  · exact (hk.weak (M := WM b w) fun k _ hh => (WM.of h3 k).2 (.inr hh)).then hko fun k hk e => (WM.of h3 k).2 (.inl e)
  · intro k hk' hm
    rcases (WM.of hnew k).1 hm with e | e
    · exact (WM.of h3 k).2 (.inl e)
    · have e' : g = k := by simpa [OwnB, Value.ownBlock] using e
      subst e'
      rcases hat with h' | h'
      · exact (WM.of h3 g).2 (.inr h')
      · omega

set_option maxHeartbeats 2000000 in
theorem put_any {M : Nat → Prop} (lo b : Nat) (src : Value) (xs ys : List ByteArray) (w : World) (h : WrR lo b w xs) (hs : RowsR M w 1 StrR src ys) (hne : 0 < ys.length) (hN : xs.length + ys.length ≤ 1000000000) :
    Calls Tryz.prog 160 #[.pointer (some ⟨b, 0, none⟩), src] w (WPost lo b w (xs ++ ys)) := by
  have H := Lib.hid h
  have HS := Lib.hid hs
  obtain ⟨h1, h2, v, h3, h4⟩ := h
  obtain ⟨c0, cf, cz⟩ := wcell h3
  have H3 := Lib.hid h3
  have H4 := Lib.hid h4
  obtain ⟨sa, sc, rfl, _⟩ := hs.shape
  obtain ⟨va, vc, rfl, _⟩ := h4.shape
  clear h3 h4 hs
  go_enter Tryz.func160, Tryz.ntmps160
  go_wp2_with (at_builtin; go_loud (refine wpList_put rfl _ _ 125 25 rfl 9 _ 1 16 Tryz.underlying125 Tryz.underlying25 infoStr rfl (by decide) (R := StrR) (M := M) lo (.slice va xs.length vc) (.slice sa ys.length sc) xs ys rfl rfl H4.out HS.out hne (fun y _ cs h => strR_one y cs h) (by omega) (by unfold maxLen; omega) h2 ?_; intro g cp w2 ho hk hat hlt; have HO := Lib.hid ho; have HK := Lib.hid hk; have HAT := Lib.hid hat; have H5 := Lib.hid ((hk.block b cz (fun hh => by have := (RowsO.lt H4.out hh).1; omega)).trans H3.out); obtain ⟨d0, df, dz⟩ := wcell H5.out; clear ho hk hat))
  go_end0
  exact ⟨rfl, put_st H.out H3.out HO.out HK.out HAT.out⟩
end Go.Proofs.YtpnigfmclmfjaaaGreatDoor
