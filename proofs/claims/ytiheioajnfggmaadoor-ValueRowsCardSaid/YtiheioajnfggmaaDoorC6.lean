/- A frame more: contract of scope.inside. -/
import Derived.Test.YtiheioajnfggmaaDoorC5
import Derived.Test.YtiheioajnfggmaaDoorC4
import Derived.Deep.RegionHeld3
import Derived.Deep.AppendLies
namespace Go.Proofs.YtiheioajnfggmaaDoor
open Go.RowKit

def NoM : Nat → Prop := fun _ => False
/-- Blocks that were there at w are not written. -/
def Later (w : World) (k : Nat) : Prop := w.heap.size ≤ k

theorem frmR_keep {M : Nat → Prop} (w w' : World) (x : Frm) (cs : List Value) (k : Keep M w w') (h : FrmR M w x cs) : FrmR M w' x cs := h.keep k
theorem frmR_one {M : Nat → Prop} (w : World) (x : Frm) (cs : List Value) (h : FrmR M w x cs) : ∀ u ∈ cs, u.oneCell' = true := by
  obtain ⟨vc, a, n, c, rfl, hc⟩ := h
  obtain ⟨a', c', rfl, _⟩ := hc.shape
  simp [Value.oneCell']

/-- A row that the call owns, with one thing more. -/
theorem rows_snoc {α : Type} {lo : Nat} {w : World} {e : TypeId} {size : Nat} {R : α → List Value → Prop} {v : Value} {xs : List α} {x : α} {cells : List Value} (css : List (List Value)) (h : w.ownsRow lo e size v (css.length + 1) (css.flatten ++ cells))
    (hl : css.length = xs.length) (hs : ∀ cs ∈ css, cs.length = size) (hc : cells.length = size) (hR : ∀ (i : Nat) (x : α) (cs : List Value), xs[i]? = some x → css[i]? = some cs → R x cs) (hx : R x cells) : RowsO lo w e size R v (xs ++ [x]) := by
  refine ⟨css ++ [cells], by simpa using h, by simp [hl], fun cs h => ?_, fun i y cs hi hcs => ?_⟩
  · rcases List.mem_append.1 h with h | h
    · exact hs cs h
    · rw [List.mem_singleton.1 h]; exact hc
  · by_cases hlt : i < xs.length
    · rw [List.getElem?_append_left hlt] at hi
      rw [List.getElem?_append_left (by omega)] at hcs
      exact hR i y cs hi hcs
    · rw [List.getElem?_append_right (by omega)] at hi
      rw [List.getElem?_append_right (by omega), hl] at hcs
      have : i - xs.length = 0 := by
        have := (List.getElem?_eq_some_iff.1 hi).1
        simp at this; omega
      rw [this] at hi hcs
      simp at hi hcs
      subst hi
      subst hcs
      exact hx

theorem own_lower {w : World} {base b' : Nat} {e : TypeId} {size : Nat} {v : Value} {n : Nat} {xs : List Value} (h : w.ownsRow base e size v n xs) (hb : b' ≤ base) : w.ownsRow b' e size v n xs := by
  obtain ⟨h1, h2⟩ := h
  refine ⟨h1, ?_⟩
  rcases h2 with h2 | ⟨g, cap, cur, hv, hg, r⟩
  · exact .inl h2
  · exact .inr ⟨g, cap, cur, hv, by omega, r⟩

theorem news_later {w w1 : World} {b : Nat} {cs : Array Value} {t : TypeId} {fr : Nat × Nat} {size : Nat} (h : w.heap[b]? = some (.cells cs t fr)) (hb : Below size w w1) (hlt : b < size) : ∀ j u, cs.toList[j]? = some u → w1.cell? ((⟨b, 0, none⟩ : Addr).add j) = some u := by
  intro j u hu
  have h' : w1.heap[b]? = some (.cells cs t fr) := (hb.block b hlt).trans h
  exact World.news_of_block h' j u hu

def InsidePost (fs : List Frm) (w : World) (e : Ending) (w' : World) : Prop := ∃ v, e = .returned v ∧ FrmsR NoM w' v fs ∧ Below w.heap.size w w'

theorem inside_fin {w w1 w2 : World} {lo : Nat} {v2 : Value} {fs : List Frm} {nm : ByteArray} {cols : List Col} {ca : Option Addr} {cc : Nat} (css : List (List Value)) (hc : ColsR (Later w) w (.slice ca cols.length cc) cols)
    (h : w2.ownsRow lo 33 4 v2 (css.length + 1) (css.flatten ++ [.string nm, .bool false, .slice ca cols.length cc, .slice none 0 0])) (hl : css.length = fs.length) (hs : ∀ cs ∈ css, cs.length = 4)
    (hR : ∀ (i : Nat) (x : Frm) (cs : List Value), fs[i]? = some x → css[i]? = some cs → FrmR (Later w) w1 x cs) (hb : Keep (Later w) w w2) (hb1 : Keep (Later w) w1 w2) :
    FrmsR NoM w2 v2 (fs ++ [⟨nm, false, cols⟩]) :=
  (rows_snoc (R := FrmR NoM w2) css h hl hs rfl (fun i x cs hi hcs => ((hR i x cs hi hcs).keep hb1).weak fun _ _ h => h.elim) ⟨_, _, _, _, rfl, (ColsR.keep hc hb).weak fun _ _ h => h.elim⟩).rows fun _ _ _ => id

set_option maxRecDepth 100000 in
set_option maxHeartbeats 1000000 in
theorem inside_any (vf vc : Value) (fs : List Frm) (nm : ByteArray) (cols : List Col) (w : World) (hf : FrmsR NoM w vf fs) (hc : ColsR NoM w vc cols) (hN : fs.length ≤ 1000000000) :
    Calls Tryd.prog 111 #[vf, .agg #[.string nm, vc]] w (InsidePost (fs ++ [⟨nm, false, cols⟩]) w) := by
  obtain ⟨i0, hi0, hz0, hz1, hz2⟩ := info_parts infoFrame
  obtain ⟨ca, cc, rfl, _⟩ := hc.shape
  have hlat : ∀ k, k < w.heap.size → Later w k → NoM k := fun k h1 h2 => absurd h2 (Nat.not_le_of_lt h1)
  have HF := Lib.hid (fun (w' : World) (hb : Below w.heap.size w w') => (hf.weak hlat).keep (Keep.of_below hb fun k _ h => h))
  have HC := Lib.hid (hc.weak hlat)
  have HN : Hid (fs.length * 72 ≤ 140737488355328) := Lib.hid (by omega)
  have HM := Lib.hid hN
  clear hf hc hN hlat
  go_enter Tryd.func111, Tryd.ntmps111
  go_wp2_with fail
  go_region_held3 (fun w' => w'.cell? ⟨w.heap.size, 0, none⟩ = some (.string nm) ∧ w'.cell? ⟨w.heap.size, 1, none⟩ = some (.slice ca cols.length cc))
    (first | go_keep | (go_split_ands; refine ⟨?_, ?_⟩ <;> (rw [hb.cell (by simp)]; simp)) | (go_split_ands; refine ⟨?_, ?_⟩ <;> (rw [hgrow.cell_far _ (by simp; omega) (by intro e; have h5 := (HO.out.lt _ e.symm).1; simp only at h5; omega)]; first | assumption | (rw [World.cell?_alloc_lt _ _ _ (by simp only; omega)]; assumption))))
    (first
     | (go_at_call 138; refine (cloneFrame_any (M := Later w) frmR_keep frmR_one vf fs _ (HF.out _ (by go_grown)) HN.out).mono ?_; rintro e w1 ⟨v1, rfl, ⟨css, ho, hl, hsz, hR⟩, hb⟩; have hs0 : w1.cell? ⟨w.heap.size, 0, none⟩ = some (.string nm) := (hb.cell (by simp <;> omega)).trans (by simp); have hs1 : w1.cell? ⟨w.heap.size, 1, none⟩ = some (.slice ca cols.length cc) := (hb.cell (by simp <;> omega)).trans (by simp); have hs2 : w.heap.size < w1.heap.size := (by have := hb.size; simp at this; omega); have HO := Lib.hid (own_lower (b' := w.heap.size + 1) ho (by simp <;> omega)); have HR := Lib.hid hR; have HL := Lib.hid hl; have HS := Lib.hid hsz; clear ho hR hl hsz)
     | (refine step_append_lies _ (by rfl) _ _ _ (by rfl) (w.heap.size + 1) 33 i0 _ 4 72 Tryd.underlying25 hi0 hz0 hz1 hz2 rfl (by omega) v1 css.length css.flatten (by rfl) (HO.out.alloc _) ⟨w1.heap.size, 0, none⟩ 1 1 [.string nm, .bool false, .slice ca cols.length cc, .slice none 0 0] (by rfl) (by rfl) (World.news_of_block (heap_alloc_new w1 _)) (by simp [Value.oneCell']) (by omega) (by have h1 := HL.out; have h2 := HM.out; unfold maxLen; omega) (by have h1 := HL.out; have h2 := HM.out; omega) (by have h1 := hb.size; simp at h1 ⊢; omega) (w1.heap.size + 1) (by simp) ?_; intro gg cap w2 hown2 hgrow hat hlt)
     | (refine step_append_lies _ (by rfl) _ _ _ (by rfl) (w.heap.size + 1) 33 i0 _ 4 72 Tryd.underlying25 hi0 hz0 hz1 hz2 rfl (by omega) v1 css.length css.flatten (by rfl) HO.out ⟨w.heap.size + 1, 0, none⟩ 1 1 [.string nm, .bool false, .slice ca cols.length cc, .slice none 0 0] (by rfl) (by rfl) (news_later (cs := #[.string nm, .bool false, .slice ca cols.length cc, .slice none 0 0]) (t := 33) (fr := (0, 0)) (by have h9 := heap_alloc_new (w.alloc (.cells #[.string nm, .slice ca cols.length cc] 29)) (.cells #[.string nm, .bool false, .slice ca cols.length cc, .slice none 0 0] 33); rw [World.size_alloc] at h9; exact h9) hb (by simp <;> omega)) (by simp [Value.oneCell']) (by omega) (by have h1 := HL.out; have h2 := HM.out; unfold maxLen; omega) (by have h1 := HL.out; have h2 := HM.out; omega) (by have h1 := hb.size; simp at h1 ⊢; omega) w1.heap.size rfl ?_; intro gg cap w2 hown2 hgrow hat hlt)
     | fail)
  all_goals
    have hbw : Below w.heap.size w w1 := Below.trans (by go_grown) (hb.mono (by simp <;> omega))
    have hrow : ∀ k, v1.ownBlock = some k → w.heap.size ≤ k := fun k h => by have := (HO.out.lt _ h).1; omega
    have k1 : Keep (Later w) w w1 := .of_below hbw fun k _ h => h
    have k12 : Keep (Later w) w1 w2 := by
      first
      | exact (Keep.refl _ _).grown hgrow fun k h _ => hrow k h
      | exact ((Keep.refl _ w1).alloc _).grown hgrow fun k h _ => hrow k h
    have k2 : Keep (Later w) w w2 := k1.trans k12
    have FIN := Lib.hid (inside_fin css HC.out hown2 HL.out HS.out HR.out k2 k12)
    have BEL := Lib.hid (k2.toBelow (B := w.heap.size) (Nat.le_refl _) fun k hk h => absurd h (Nat.not_le_of_lt hk))
    clear hbw hrow k1 k12 k2 hgrow hown2 hb hs0 hs1
    go_wp2
    go_ret
    exact ⟨_, rfl, FIN.out, BEL.out⟩

end Go.Proofs.YtiheioajnfggmaaDoor
