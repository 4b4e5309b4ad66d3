/- append to a named slice type, where the appended slice has another type of the same elements. No program is named here. -/
import Derived.Test.YtpnigfmclmfjaaaGreatDoorKB
namespace Go.Proofs.YtpnigfmclmfjaaaGreatDoor
open Go.RowKit

theorem append_ty {P : Program} {w : World} {t u ty e : TypeId} (ht : P.underlying t = some (.slice e)) (hu : P.underlying u = some (.slice e)) (q : Option Addr) (n c : Nat) (x : Value) :
    (Builtin.append_ #[t, u] ty #[.slice q n c, x]).run P w = (Builtin.append_ #[t, t] ty #[.slice q n c, x]).run P w := by
  unfold Builtin.append_
  simp [Sem.run_bind, run_underlying ht, run_underlying hu]

/-- append(s, x...): s is the call's own (or nil), x holds at least one thing. -/
theorem wpList_put {P : Program} {w : World} {ops : Array Oper} {rest : List Oper} {o : Oper} {a : Act} {Q : Exit → Act → World → Prop} (hgd : o.guard = none) (s x : Operand) (t u : TypeId)
    (ho : o.op = .call { callee := .builtin .append, args := #[s, x], argTypes := #[t, u] })
    (e : TypeId) (z : Value) (size bytes : Nat) (ht : P.underlying t = some (.slice e)) (hu : P.underlying u = some (.slice e)) (hinfo : (P.info? e).map (fun i => (i.zero, i.size, i.bytes)) = some (some z, size, bytes)) (hzs : z.cells.size = size) (hsz : 0 < size)
    {α : Type} {R : α → List Value → Prop} {M : Nat → Prop} (lo : Nat) (v src : Value) (xs ys : List α) (hs : a.eval s = v) (hx : a.eval x = src) (hown : RowsO lo w e size R v xs) (hsrc : RowsR M w size R src ys) (hne : 0 < ys.length)
    (h1 : ∀ y ∈ ys, ∀ cs, R y cs → ∀ u ∈ cs, u.oneCell' = true) (hN : (xs.length + ys.length) * bytes ≤ 140737488355328) (hN2 : xs.length + ys.length ≤ maxLen) (hlo : lo ≤ w.heap.size)
    (h : ∀ g cap w', RowsO lo w' e size R (.slice (some ⟨g, 0, none⟩) (xs.length + ys.length) cap) (xs ++ ys) → Keep (OwnB v) w w' → (OwnB v g ∨ g = w.heap.size) → g < w'.heap.size → wpList P ops Q rest (a.put o.dst (.slice (some ⟨g, 0, none⟩) (xs.length + ys.length) cap)) w') : wpList P ops Q (o :: rest) a w := by
  obtain ⟨i0, hi0, hz0, hz1, hz2⟩ := info_parts hinfo
  obtain ⟨vq, vc, rfl, _⟩ := hown.shape
  obtain ⟨css, hro, hl, hcs, hR⟩ := hown
  obtain ⟨dss, hds, hdl, hRd⟩ := hsrc
  have fin : ∀ v' w', w'.ownsRow lo e size v' (css.length + dss.length) (css.flatten ++ dss.flatten) → (∀ ds ∈ dss, ds.length = size) → RowsO lo w' e size R v' (xs ++ ys) := by
    intro v' w' how hdsz
    refine ⟨css ++ dss, by simpa using how, by simp [hl, hdl], fun cs hc => ?_, fun i y cs hi hc => ?_⟩
    · rcases List.mem_append.1 hc with hc | hc
      · exact hcs cs hc
      · exact hdsz cs hc
    · by_cases hlt : i < xs.length
      · rw [List.getElem?_append_left hlt] at hi
        rw [List.getElem?_append_left (by omega)] at hc
        exact hR i y cs hi hc
      · rw [List.getElem?_append_right (by omega)] at hi
        rw [List.getElem?_append_right (by omega), hl] at hc
        exact hRd _ y cs hi hc
  rcases hds with ⟨⟨A, rfl⟩, hd0⟩ | ⟨b, of, cap, rfl, hT, hb, hlc, hm, hc⟩
  · rw [hd0] at hdl
    simp at hdl
    omega
  · have hdsz : ∀ ds ∈ dss, ds.length = size := fun ds h' => let ⟨i, hi⟩ := List.mem_iff_getElem?.1 h'; (hc i ds hi).1
    have hone : ∀ u ∈ dss.flatten, u.oneCell' = true := by
      intro u hu
      obtain ⟨ds, hds, hu⟩ := List.mem_flatten.1 hu
      obtain ⟨i, hi⟩ := List.mem_iff_getElem?.1 hds
      have hlt : i < ys.length := by rw [← hdl]; exact (List.getElem?_eq_some_iff.1 hi).1
      exact h1 _ (List.getElem_mem hlt) ds (hRd i _ ds (List.getElem?_eq_getElem hlt) hi) u hu
    refine wpList_plain hgd fun K hK => ?_
    obtain ⟨g, cp, w', hr, how, hg, hat, hlt⟩ := run_append_lies (P := P) (w := w) t o.type lo e i0 z size bytes ht hi0 hz0 hz1 hz2 hzs hsz _ css.length css.flatten hro ⟨b, of, none⟩ dss.length cap dss.flatten (flatten_length size dss hdsz) (flat_cells hc) hone (by omega) (by rw [hl, hdl]; exact hN2) (by rw [hl, hdl]; exact hN) hlo w.heap.size rfl
    have hr' := (append_ty (w := w) (ty := o.type) ht hu vq xs.length vc (.slice (some ⟨b, of, none⟩) dss.length cap)).trans hr
    have hk := h g cp w' (by have := fin _ w' how hdsz; rw [hl, hdl] at this; exact this) (Keep.grownBy hg) hat hlt
    rw [← hl, ← hdl] at hk
    unfold Oper.wp execOp
    simp only [ho, resolve, invoke, builtin, Sem.run_bind, Sem.run_pure, Result.andThen_ok, List.map_toArray, List.map_cons, List.map_nil, hs, hx, hr']
    exact hK _ _ hk
end Go.Proofs.YtpnigfmclmfjaaaGreatDoor
