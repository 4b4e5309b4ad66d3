/- What ScopeInner needs: an append at a step of a drawn region, and plain laws on resolving in one more frame. -/
import Derived.Test.YtiheioajnfggmaaDoorC19
import Derived.Test.YtiheioajnfggmaaDoorC17
import Derived.Deep.AppendLies
namespace Go.Proofs.YtiheioajnfggmaaDoor
open Go.RowKit

/-- append(s, x...) at a step of a drawn region: s is the call's own, x not empty. -/
theorem step_app {P : Program} {w : World} {ops : Array Oper} {o : Oper} {a : Act} {K : Act → World → Prop} {Q : Exit → Act → World → Prop} {E : Prop} (hgd : o.guard = none) (s x : Operand) (t : TypeId)
    (ho : o.op = .call { callee := .builtin .append, args := #[s, x], argTypes := #[t, t] })
    (e : TypeId) (z : Value) (size bytes : Nat) (ht : P.underlying t = some (.slice e)) (hinfo : (P.info? e).map (fun i => (i.zero, i.size, i.bytes)) = some (some z, size, bytes)) (hzs : z.cells.size = size) (hsz : 0 < size)
    {α : Type} {R : α → List Value → Prop} {M : Nat → Prop} (lo : Nat) (v src : Value) (xs ys : List α) (hs : a.eval s = v) (hx : a.eval x = src) (hown : RowsO lo w e size R v xs) (hsrc : RowsR M w size R src ys) (hne : ys ≠ [])
    (h1 : ∀ y ∈ ys, ∀ cs, R y cs → ∀ u ∈ cs, u.oneCell' = true) (hN : (xs.length + ys.length) * bytes ≤ 140737488355328) (hN2 : xs.length + ys.length ≤ maxLen) (hlo : lo ≤ w.heap.size)
    (h : ∀ v' w', RowsO lo w' e size R v' (xs ++ ys) → Keep (OwnB v) w w' → (∀ k, OwnB v' k → OwnB v k ∨ k = w.heap.size) → K (a.put o.dst v') w') :
    if Region.wanted o (yielded ops a.tmps) = true then Oper.wp P o a w K Q else E := by
  obtain ⟨i0, hi0, hz0, hz1, hz2⟩ := info_parts hinfo
  obtain ⟨css, hro, hl, hcs, hR⟩ := hown
  obtain ⟨dss, hds, hdl, hRd⟩ := hsrc
  rcases hds with ⟨_, hd0⟩ | ⟨b, of, cap, rfl, hT, hb, hlc, hm, hc⟩
  · subst hd0
    exact absurd (List.eq_nil_of_length_eq_zero (by simpa using hdl.symm)) hne
  · have hdsz : ∀ ds ∈ dss, ds.length = size := fun ds h' => let ⟨i, hi⟩ := List.mem_iff_getElem?.1 h'; (hc i ds hi).1
    have hone : ∀ u ∈ dss.flatten, u.oneCell' = true := by
      intro u hu
      obtain ⟨ds, hds, hu⟩ := List.mem_flatten.1 hu
      obtain ⟨i, hi⟩ := List.mem_iff_getElem?.1 hds
      have hlt : i < ys.length := by rw [← hdl]; exact (List.getElem?_eq_some_iff.1 hi).1
      exact h1 _ (List.getElem_mem hlt) ds (hRd i _ ds (List.getElem?_eq_getElem hlt) hi) u hu
    have hm0 : 0 < dss.length := by rw [hdl]; exact List.length_pos_iff.2 hne
    refine step_append_lies w hgd s x t ho lo e i0 z size bytes ht hi0 hz0 hz1 hz2 hzs hsz v css.length css.flatten hs hro ⟨b, of, none⟩ dss.length cap dss.flatten hx (flatten_length size dss hdsz) (flat_cells hc) hone hm0 (by rw [hl, hdl]; exact hN2) (by rw [hl, hdl]; exact hN) hlo w.heap.size rfl ?_
    intro g cp w' how hg hat _
    refine h _ w' ⟨css ++ dss, by simpa using how, by simp [hl, hdl], fun cs hc => ?_, fun i y cs hi hc => ?_⟩ (Keep.grownBy hg) fun k hk => by
      have hk' : g = k := by simpa [OwnB, Value.ownBlock] using hk
      subst hk'
      exact hat
    · rcases List.mem_append.1 hc with hc | hc
      · exact hcs cs hc
      · exact hdsz cs hc
    · by_cases hlt : i < xs.length
      · rw [List.getElem?_append_left hlt] at hi
        rw [List.getElem?_append_left (by omega)] at hc
        exact hR i y cs hi hc
      · rw [List.getElem?_append_right (by omega)] at hi
        rw [List.getElem?_append_right (by omega), hl] at hc
        exact hRd _ y cs hi hc

/-- An empty slice over a block of no cells is the call's own. -/
theorem rowsO_empty {α : Type} {lo : Nat} {w : World} {e : TypeId} {size g : Nat} {R : α → List Value → Prop} (hh : w.heap[g]? = some (.cells #[] e (0, 0))) (hlo : lo ≤ g) :
    RowsO lo w e size R (.slice (some ⟨g, 0, none⟩) 0 0) ([] : List α) :=
  ⟨[], ⟨by simp, .inr ⟨g, 0, #[], rfl, hlo, hh, Nat.le_refl _, by unfold maxLen; omega, by simp, by simp⟩⟩, rfl, by simp, by simp⟩

/-- A block that holds one thing. -/
theorem rows_one_at {α : Type} {M : Nat → Prop} {w : World} {arr : Array Value} {e : TypeId} {size g : Nat} {R : α → List Value → Prop} (x : α) (hh : w.heap[g]? = some (.cells arr e (0, 0))) (hT : ¬ M g) (hs : arr.toList.length = size) (hR : R x arr.toList) :
    RowsR M w size R (.slice (some ⟨g, 0, none⟩) 1 1) [x] := by
  refine ⟨[arr.toList], .inr ⟨g, 0, 1, rfl, hT, (Array.getElem?_eq_some_iff.1 hh).1, by simp, by unfold maxLen; omega, fun i cs hi => ?_⟩, rfl, fun i y cs hi hc => ?_⟩
  · match i with
    | 0 =>
      simp at hi
      subst hi
      refine ⟨hs, fun j u hu => ?_⟩
      rw [cell_of_row w g _ arr e (0, 0) hh]
      simpa using hu
    | i + 1 => simp at hi
  · match i with
    | 0 => simp at hi hc; subst hi; subst hc; exact hR
    | i + 1 => simp at hi

def frmX (cols : List Col) : Frm := ⟨bs [120], false, cols⟩

theorem nameAt_inj {i j : Nat} (hi : i < 8) (hj : j < 8) (h : (nameAt i).toList == (nameAt j).toList) : i = j := by
  have : ∀ i, i < 8 → ∀ j, j < 8 → ((nameAt i).toList == (nameAt j).toList) = true → i = j := by decide +kernel
  exact this i hi j hj h

theorem find_own {s : Sch} (h : AnySch s) (i : Nat) (c : Col) (hi : s.cols[i]? = some c) : findCol s.cols c.name = some i := by
  obtain ⟨_, h1, h5, key, hk, hall⟩ := h
  have hlt : i < s.cols.length := (List.getElem?_eq_some_iff.1 hi).1
  refine findIdx_some hi (by simp [nameIs]) fun j y hj hy => ?_
  obtain ⟨hn, _⟩ := hall i c hi
  obtain ⟨hm, _⟩ := hall j y hy
  unfold nameIs
  rw [hn, hm]
  cases hb : ((nameAt ((3 * j + key) % 8)).toList == (nameAt ((3 * i + key) % 8)).toList) with
  | false => rfl
  | true =>
    have := nameAt_inj (by omega) (by omega) hb
    omega

theorem res_bare {s : Sch} (h : AnySch s) (fs : List Frm) (i : Nat) (c : Col) (hi : s.cols[i]? = some c) : resolve ⟨#[]⟩ c.name (fs ++ [frmX s.cols]) = some (fs.length, i) := by
  rw [resolve_snoc]
  have : resolveAt ⟨#[]⟩ c.name (frmX s.cols) = some i := by
    unfold resolveAt
    rw [if_pos (by simp [fits', frmX])]
    exact find_own h i c hi
  rw [this]

theorem res_x {s : Sch} (h : AnySch s) (i : Nat) (c : Col) (hi : s.cols[i]? = some c) : resolve ⟨#[120]⟩ c.name [frmX s.cols] = some (0, i) := by
  have : resolveAt ⟨#[120]⟩ c.name (frmX s.cols) = some i := by
    unfold resolveAt
    have : fits' ⟨#[120]⟩ (frmX s.cols) = true := by
      have : ((⟨#[120]⟩ : ByteArray).toList == []) = false := by decide +kernel
      have h2 : ((bs [120]).toList == (⟨#[120]⟩ : ByteArray).toList) = true := by decide +kernel
      simp only [fits', frmX, this, h2]
      rfl
    rw [if_pos this]
    exact find_own h i c hi
  simp [resolve, this]

theorem res_new (n : ByteArray) (fs : List Frm) (cols : List Col) : resolve ⟨#[78, 69, 87]⟩ n (fs ++ [frmX cols]) = resolve ⟨#[78, 69, 87]⟩ n fs := by
  rw [resolve_snoc]
  have : resolveAt ⟨#[78, 69, 87]⟩ n (frmX cols) = none := by
    unfold resolveAt
    have : fits' ⟨#[78, 69, 87]⟩ (frmX cols) = false := by
      have : ((⟨#[78, 69, 87]⟩ : ByteArray).toList == []) = false := by decide +kernel
      have h2 : ((bs [120]).toList == (⟨#[78, 69, 87]⟩ : ByteArray).toList) = false := by decide +kernel
      simp only [fits', frmX, this, h2]
      rfl
    rw [this]
    rfl
  rw [this]

theorem framesL_ne (r : Int) (b1 b2 : Bool) : framesL r b1 b2 ≠ [] := by
  unfold framesL baseL
  intro h
  have h2 := (List.append_eq_nil_iff.1 (List.append_eq_nil_iff.1 h).2).1
  split at h2
  · cases h2
  · split at h2 <;> cases h2

theorem callR {M : Nat → Prop} (v : Value) (l : List Frm) (q n : ByteArray) (i j : Nat) (w : World) (h : FrmsR M w v l) (hr : resolve q n l = some (i, j)) :
    Calls Tryd.prog 17 #[v, .string q, .string n] w (RetBel (.tuple #[.int .i64 i, .int .i64 j, .bool true]) w) := by
  have := resolve_any v l q n w h
  rw [hr] at this
  exact this

end Go.Proofs.YtiheioajnfggmaaDoor
