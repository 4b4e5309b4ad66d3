/- The contract of scope.Type, for every expression, joined. -/
import Derived.Test.YtiheioajnfggmaaDoorC13
namespace Go.Proofs.YtiheioajnfggmaaDoor
open Go.RowKit

theorem formed_kind {e : Ex} (h : formed e = true) : 1 ≤ e.kind ∧ e.kind ≤ 12 ∧ (3 ≤ e.kind → e.kind ≤ 7 → e.args.length ≤ 3) := by
  unfold formed at h
  by_cases k1 : e.kind = 1 ∨ e.kind = 2
  · exact ⟨by omega, by omega, fun h3 => by omega⟩
  rw [if_neg k1] at h
  by_cases k3 : e.kind = 3 ∨ e.kind = 4 ∨ e.kind = 6
  · rw [if_pos k3] at h
    simp at h
    exact ⟨by omega, by omega, fun _ _ => by omega⟩
  rw [if_neg k3] at h
  by_cases k5 : e.kind = 5
  · rw [if_pos k5] at h
    simp at h
    exact ⟨by omega, by omega, fun _ _ => by omega⟩
  rw [if_neg k5] at h
  by_cases k7 : e.kind = 7
  · rw [if_pos k7] at h
    simp at h
    exact ⟨by omega, by omega, fun _ _ => by omega⟩
  rw [if_neg k7] at h
  by_cases k8 : e.kind = 8 ∨ e.kind = 9
  · exact ⟨by omega, by omega, fun h3 => by omega⟩
  rw [if_neg k8] at h
  by_cases k10 : e.kind = 10 ∨ e.kind = 11 ∨ e.kind = 12
  · exact ⟨by omega, by omega, fun h3 => by omega⟩
  rw [if_neg k10] at h
  cases h

theorem typeP_eq (ts : List Sch) (e : Ex) (fs : List Frm) : typeP ts e fs =
    if formed e = false then ((0, 17) : Int × Int)
    else if e.kind = 1 then (e.val.kind, 0)
    else if e.kind = 2 then (match resolve e.table e.name fs with | some (i, j) => (colType fs i j, 0) | none => (0, 3))
    else if 8 ≤ e.kind then typeSub ts e.kind e.sub fs
    else match typeL ts e.args fs with
      | .error c => (0, c)
      | .ok l => operationP e.kind e.op l := by
  obtain ⟨k, o, no, v, t, nm, args, sub⟩ := e
  rw [typeP]
  rfl

theorem type_any (ts : List Sch) (hsm : ColsSmall ts) (e : Ex) : TypeOk ts e := by
  refine Ex.ind (P := TypeOk ts) (fun e hargs hsub => ?_) e
  intro fs cs vf vt w he hf ht hd
  have hfm := fun (w' : World) (hb : Below w.heap.size w w') => formed_any e cs w' (EC.keep (.bel hb) e cs he)
  have hag := fun (w' : World) (hb : Below w.heap.size w w') (h1 : formed e = true) (h2 : 8 ≤ e.kind) => aggregate_any ts hsm e fs cs vf vt w' (EC.keep (.bel hb) e cs he) (hf.keep (.bel hb)) (ht.keep (.bel hb)) hd h1 h2 hsub
  have hdl : fs.length + depL e.args ≤ 1000000000 := by have := dep_eq e; omega
  obtain ⟨va, vs, rfl, ha, hs⟩ := (EC_iff ..).1 he
  obtain ⟨a, ac, rfl, _⟩ := ha.shape
  obtain ⟨s, sc, rfl, _⟩ := hs.shape
  rw [typeP_eq]
  simp only [exCells] at hfm hag ⊢
  cases hfo : formed e with
  | false =>
    rw [if_pos rfl]
    exact type_bad _ _ _ _ _ _ _ _ _ _ _ _ _ _ _ _ _ _ hfm hfo
  | true =>
    obtain ⟨g1, g2, g3⟩ := formed_kind hfo
    rw [if_neg (by simp)]
    rw [hfo] at hfm
    by_cases k1 : e.kind = 1
    · rw [if_pos k1]
      exact type_lit _ _ _ _ _ _ _ _ _ _ _ _ _ _ _ _ _ _ hfm rfl k1
    rw [if_neg k1]
    by_cases k2 : e.kind = 2
    · rw [if_pos k2]
      cases hr : resolve e.table e.name fs with
      | none => exact type_col_none _ _ _ _ _ _ _ _ _ _ _ _ _ _ _ _ _ _ _ hfm rfl k2 hf hr
      | some p =>
        obtain ⟨i, j⟩ := p
        obtain ⟨f, c, hi, hj⟩ := resolve_spec hr
        have hct : colType fs i j = c.type := by simp [colType, hi, hj]
        simp only [hct]
        exact type_col_some _ _ _ _ _ _ _ _ _ _ _ _ _ _ _ _ _ _ _ hfm rfl k2 hf i j f c hr hi hj
    rw [if_neg k2]
    by_cases k8 : 8 ≤ e.kind
    · rw [if_pos k8]
      exact type_sub _ _ _ _ _ _ _ _ _ _ _ _ _ _ _ _ _ _ hfm rfl k8 g2 _ fun w' hb => hag w' hb hfo k8
    · rw [if_neg k8]
      exact type_args ts _ _ _ _ _ _ _ _ _ _ _ _ _ _ _ _ _ _ hfm (by omega) (by omega) (g3 (by omega) (by omega)) ha hf ht hargs hdl _ rfl

end Go.Proofs.YtiheioajnfggmaaDoor
