/- Append as a law on lists of things: what is owned, then the rows of any slice. No program is named here. -/
import Derived.Test.YtiheioajnfggmaaDoorB1
import Derived.Laws.AppendOwnNone
import Derived.Deep.AppendLies
namespace Go.Proofs.YtiheioajnfggmaaDoor
open Go.RowKit

theorem ownsRow_length {w : World} {base : Nat} {e : TypeId} {size : Nat} {v : Value} {n : Nat} {xs : List Value} (h : w.ownsRow base e size v n xs) : xs.length = n * size := h.1

/-- The rows of a one-element slice that has just been built. -/
theorem rows_one {α : Type} {M : Nat → Prop} {w : World} {arr : Array Value} {e : TypeId} {size g : Nat} {R : α → List Value → Prop} (x : α) (hg : g = w.heap.size) (hT : ¬ M w.heap.size) (hs : arr.toList.length = size) (hR : R x arr.toList) :
    RowsR M (w.alloc (.cells arr e)) size R (.slice (some ⟨g, 0, none⟩) 1 1) [x] :=
  RowsR.new [arr.toList] hg hT (by simp) (by simpa using hs) rfl (Nat.le_refl _) (by unfold maxLen; omega) rfl fun i y cs hi hc => by
    match i with
    | 0 => simp at hi hc; subst hi; subst hc; exact hR
    | i + 1 => simp at hi

/-- The block that a slice's value owns. -/
def OwnB (v : Value) (k : Nat) : Prop := v.ownBlock = some k

theorem Keep.grownBy {w w' : World} {v : Value} (hg : w.grownBy w' v.ownBlock) : Keep (OwnB v) w w' :=
  (Keep.refl _ w).grown hg fun _ h _ => h

theorem RowsO.lt {α : Type} {lo : Nat} {w : World} {e : TypeId} {size : Nat} {R : α → List Value → Prop} {v : Value} {xs : List α} (h : RowsO lo w e size R v xs) {k : Nat} (hk : OwnB v k) : lo ≤ k ∧ k < w.heap.size :=
  let ⟨_, h1, _⟩ := h; h1.lt k hk

theorem RowsO.imp {α : Type} {lo : Nat} {w : World} {e : TypeId} {size : Nat} {R R' : α → List Value → Prop} {v : Value} {xs : List α} (h : RowsO lo w e size R v xs) (hr : ∀ x ∈ xs, ∀ cs, R x cs → R' x cs) : RowsO lo w e size R' v xs :=
  let ⟨css, h1, h2, h3, h4⟩ := h; ⟨css, h1, h2, h3, fun i x cs hi hc => hr x (List.mem_of_getElem? hi) cs (h4 i x cs hi hc)⟩

theorem RowsO.lower {α : Type} {lo lo' : Nat} {w : World} {e : TypeId} {size : Nat} {R : α → List Value → Prop} {v : Value} {xs : List α} (h : RowsO lo w e size R v xs) (hlo : lo' ≤ lo) : RowsO lo' w e size R v xs := by
  obtain ⟨css, ⟨g1, g2⟩, h2, h3, h4⟩ := h
  refine ⟨css, ⟨g1, ?_⟩, h2, h3, h4⟩
  rcases g2 with g2 | ⟨g, cap, cur, hv, hg, r⟩
  · exact .inl g2
  · exact .inr ⟨g, cap, cur, hv, by omega, r⟩

/-- Owned it stays, its own block alone need not be written. -/
theorem RowsO.kept {α : Type} {lo : Nat} {w w' : World} {e : TypeId} {size : Nat} {R R' : α → List Value → Prop} {v : Value} {xs : List α} {M : Nat → Prop} (h : RowsO lo w e size R v xs) (k : Keep M w w') (hM : ∀ k, OwnB v k → ¬ M k) (hr : ∀ x ∈ xs, ∀ cs, R x cs → R' x cs) : RowsO lo w' e size R' v xs := by
  obtain ⟨css, ⟨h1, h2⟩, hl, hs, hR⟩ := h
  refine ⟨css, ⟨h1, ?_⟩, hl, hs, fun i x cs hi hc => hr x (List.mem_of_getElem? hi) cs (hR i x cs hi hc)⟩
  rcases h2 with h2 | ⟨g, cap, cur, hv, hg, hh, rest⟩
  · exact .inl h2
  · have hlt := (Array.getElem?_eq_some_iff.1 hh).1
    exact .inr ⟨g, cap, cur, hv, hg, by rw [k.block g hlt (hM g (by rw [hv]; rfl))]; exact hh, rest⟩

/-- append(s, x...): s is the call's own (or nil), x any slice (or nil). -/
theorem wpList_app {P : Program} {w : World} {ops : Array Oper} {rest : List Oper} {o : Oper} {a : Act} {Q : Exit → Act → World → Prop} (hgd : o.guard = none) (s x : Operand) (t : TypeId)
    (ho : o.op = .call { callee := .builtin .append, args := #[s, x], argTypes := #[t, t] })
    (e : TypeId) (z : Value) (size bytes : Nat) (ht : P.underlying t = some (.slice e)) (hinfo : (P.info? e).map (fun i => (i.zero, i.size, i.bytes)) = some (some z, size, bytes)) (hzs : z.cells.size = size) (hsz : 0 < size)
    {α : Type} {R : α → List Value → Prop} {M : Nat → Prop} (lo : Nat) (v src : Value) (xs ys : List α) (hs : a.eval s = v) (hx : a.eval x = src) (hown : RowsO lo w e size R v xs) (hsrc : RowsR M w size R src ys)
    (h1 : ∀ y ∈ ys, ∀ cs, R y cs → ∀ u ∈ cs, u.oneCell' = true) (hN : (xs.length + ys.length) * bytes ≤ 140737488355328) (hN2 : xs.length + ys.length ≤ maxLen) (hlo : lo ≤ w.heap.size)
    (h : ∀ v' w', RowsO lo w' e size R v' (xs ++ ys) → Keep (OwnB v) w w' → (ys ≠ [] → ∀ k, OwnB v' k → OwnB v k ∨ k = w.heap.size) → wpList P ops Q rest (a.put o.dst v') w') : wpList P ops Q (o :: rest) a w := by
  obtain ⟨i0, hi0, hz0, hz1, hz2⟩ := info_parts hinfo
  obtain ⟨css, hro, hl, hcs, hR⟩ := hown
  obtain ⟨dss, hds, hdl, hRd⟩ := hsrc
  have fin : ∀ v' w', w'.ownsRow lo e size v' (css.length + dss.length) (css.flatten ++ dss.flatten) → (∀ ds ∈ dss, ds.length = size) → RowsO lo w' e size R v' (xs ++ ys) := by
    intro v' w' how hdsz
    refine ⟨css ++ dss, by simpa using how, by simp [hl, hdl], fun cs hc => ?_, fun i y cs hi hc => ?_⟩
    · rcases List.mem_append.1 hc with hc | hc
      · exact hcs cs hc
      · exact hdsz cs hc
    · by_cases hlt : i < xs.length
      · rw [List.getElem?_append_left hlt] at hi
        rw [List.getElem?_append_left (by omega)] at hc
        exact hR i y cs hi hc
      · rw [List.getElem?_append_right (by omega)] at hi
        rw [List.getElem?_append_right (by omega), hl] at hc
        exact hRd _ y cs hi hc
  rcases hds with ⟨⟨A, rfl⟩, hd0⟩ | ⟨b, of, cap, rfl, hT, hb, hlc, hm, hc⟩
  · subst hd0
    have hy0 : ys = [] := List.eq_nil_of_length_eq_zero (by simpa using hdl.symm)
    subst hy0
    rcases A with _ | ad
    · refine wpList_append_own_none hgd s x t ho lo e i0 size ht hi0 v css.length css.flatten hs hro hx (h v w (fin v w (by simpa using hro) (by simp)) (Keep.refl _ _) (fun hy => absurd rfl hy))
    · refine wpList_append_own w hgd s x t ho lo e i0 z size bytes ht hi0 hz0 hz1 hz2 hzs hsz v css.length css.flatten hs hro ad 0 0 [] hx (by simp) (by simp) (by simp) (by rw [hl]; simpa using hN2) (by rw [hl]; simpa using hN) hlo ?_
      intro v' w' how hg _
      exact h v' w' (fin v' w' (by simpa using how) (by simp)) (Keep.grownBy hg) (fun hy => absurd rfl hy)
  · have hdsz : ∀ ds ∈ dss, ds.length = size := fun ds h' => let ⟨i, hi⟩ := List.mem_iff_getElem?.1 h'; (hc i ds hi).1
    have hone : ∀ u ∈ dss.flatten, u.oneCell' = true := by
      intro u hu
      obtain ⟨ds, hds, hu⟩ := List.mem_flatten.1 hu
      obtain ⟨i, hi⟩ := List.mem_iff_getElem?.1 hds
      have hlt : i < ys.length := by rw [← hdl]; exact (List.getElem?_eq_some_iff.1 hi).1
      exact h1 _ (List.getElem_mem hlt) ds (hRd i _ ds (List.getElem?_eq_getElem hlt) hi) u hu
    by_cases hm0 : 0 < dss.length
    · refine wpList_append_lies w hgd s x t ho lo e i0 z size bytes ht hi0 hz0 hz1 hz2 hzs hsz v css.length css.flatten hs hro ⟨b, of, none⟩ dss.length cap dss.flatten hx (flatten_length size dss hdsz) (flat_cells hc) hone hm0 (by rw [hl, hdl]; exact hN2) (by rw [hl, hdl]; exact hN) hlo w.heap.size rfl ?_
      intro g cp w' how hg hat _
      exact h _ w' (fin _ w' how hdsz) (Keep.grownBy hg) fun _ k hk => by
        have hk' : g = k := by simpa [OwnB, Value.ownBlock] using hk
        subst hk'
        exact hat
    · have hd0 : dss = [] := List.eq_nil_of_length_eq_zero (by omega)
      refine wpList_append_own w hgd s x t ho lo e i0 z size bytes ht hi0 hz0 hz1 hz2 hzs hsz v css.length css.flatten hs hro ⟨b, of, none⟩ dss.length cap dss.flatten hx (flatten_length size dss hdsz) (flat_cells hc) hone (by rw [hl, hdl]; exact hN2) (by rw [hl, hdl]; exact hN) hlo ?_
      intro v' w' how hg _
      exact h v' w' (fin v' w' how hdsz) (Keep.grownBy hg) fun hy => absurd (List.eq_nil_of_length_eq_zero (by rw [← hdl, hd0]; rfl)) hy

end Go.Proofs.YtiheioajnfggmaaDoor
