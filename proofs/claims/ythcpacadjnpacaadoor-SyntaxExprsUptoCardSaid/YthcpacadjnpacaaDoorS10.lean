/- Which expressions are well-formed in the reference: the contract of its ValidExpr, for every expression. -/
import Derived.Test.YthcpacadjnpacaaDoorS9
namespace Go.Proofs.YthcpacadjnpacaaDoor
open Go.RowKit

theorem shape_facts {k o : Int} {an : Nat} {sub : List Qu} (h : shapeP k o an sub = true) :
    ((k = 1 ∨ k = 2) → an = 0 ∧ sub = []) ∧ ((k = 3 ∨ k = 4 ∨ k = 6) → an = 1 ∧ sub = []) ∧ (k = 5 → 1 ≤ o ∧ o ≤ 13 ∧ an = 2 ∧ sub = []) ∧ (k = 7 → an = 3 ∧ sub = []) ∧
      ((8 ≤ k ∧ k ≤ 12) → an = 0 ∧ ∃ q, sub = [q] ∧ q.items.length = (if k = 8 ∨ k = 9 then 0 else 1) ∧ q.whr.length ≤ 1) ∧ 1 ≤ k ∧ k ≤ 12 := by
  unfold shapeP at h
  by_cases h1 : k = 1 ∨ k = 2
  · rw [if_pos h1] at h
    simp only [Bool.and_eq_true, decide_eq_true_eq, List.length_eq_zero_iff] at h
    exact ⟨fun _ => h, fun _ => by omega, fun _ => by omega, fun _ => by omega, fun _ => by omega, by omega, by omega⟩
  rw [if_neg h1] at h
  by_cases h3 : k = 3 ∨ k = 4 ∨ k = 6
  · rw [if_pos h3] at h
    simp only [Bool.and_eq_true, decide_eq_true_eq, List.length_eq_zero_iff] at h
    exact ⟨fun _ => by omega, fun _ => h, fun _ => by omega, fun _ => by omega, fun _ => by omega, by omega, by omega⟩
  rw [if_neg h3] at h
  by_cases h5 : k = 5
  · rw [if_pos h5] at h
    simp only [Bool.and_eq_true, decide_eq_true_eq, List.length_eq_zero_iff] at h
    exact ⟨fun _ => by omega, fun _ => by omega, fun _ => ⟨h.1.1.1, h.1.1.2, h.1.2, h.2⟩, fun _ => by omega, fun _ => by omega, by omega, by omega⟩
  rw [if_neg h5] at h
  by_cases h7 : k = 7
  · rw [if_pos h7] at h
    simp only [Bool.and_eq_true, decide_eq_true_eq, List.length_eq_zero_iff] at h
    exact ⟨fun _ => by omega, fun _ => by omega, fun _ => by omega, fun _ => h, fun _ => by omega, by omega, by omega⟩
  rw [if_neg h7] at h
  by_cases h8 : 8 ≤ k ∧ k ≤ 12
  · rw [if_pos h8] at h
    simp only [Bool.and_eq_true, decide_eq_true_eq] at h
    refine ⟨fun _ => by omega, fun _ => by omega, fun _ => by omega, fun _ => by omega, fun _ => ⟨h.1, ?_⟩, by omega, by omega⟩
    have hs := h.2
    rcases sub with _ | ⟨q, _ | ⟨q2, l⟩⟩
    · cases hs
    · simp only [subShape, Bool.and_eq_true, decide_eq_true_eq] at hs
      exact ⟨q, rfl, hs⟩
    · cases hs
  · rw [if_neg h8] at h
    cases h

/-- A well-formed expression has the shape that its kind needs. -/
theorem shape_of_valid {e : Ex} (h : validP e = true) : shapeP e.kind e.op e.args.length e.sub = true := by
  rw [validP_eq] at h
  unfold shapeP
  by_cases h1 : e.kind = 1
  · rw [if_pos h1] at h
    simp only [Bool.and_eq_true, decide_eq_true_eq] at h
    rw [if_pos (.inl h1), h.1.1.1.2, h.1.1.2]
    rfl
  rw [if_neg h1] at h
  by_cases h2 : e.kind = 2
  · rw [if_pos h2] at h
    simp only [Bool.and_eq_true, decide_eq_true_eq] at h
    rw [if_pos (.inr h2), h.1.1.2, h.1.2]
    rfl
  rw [if_neg h2] at h
  rw [if_neg (by omega : ¬(e.kind = 1 ∨ e.kind = 2))]
  by_cases h8 : 8 ≤ e.kind ∧ e.kind ≤ 12
  · rw [if_pos h8] at h
    simp only [Bool.and_eq_true, decide_eq_true_eq] at h
    rw [if_neg (by omega), if_neg (by omega), if_neg (by omega), if_pos h8, h.1.1.2]
    have hl := h.1.2
    have hv := h.2
    obtain ⟨q, hq⟩ := List.length_eq_one_iff.1 hl
    rw [hq] at hv ⊢
    obtain ⟨st, it, f, wh⟩ := q
    rw [validS] at hv
    simp only [Bool.and_eq_true, decide_eq_true_eq] at hv
    simp only [subShape, Bool.and_eq_true, decide_eq_true_eq]
    exact ⟨trivial, hv.1.1.1.1.1.2, hv.1.1.1.2⟩
  rw [if_neg h8] at h
  by_cases h5 : e.kind = 5
  · rw [if_pos h5] at h
    simp only [Bool.and_eq_true, decide_eq_true_eq] at h
    rw [if_neg (by omega), if_pos h5]
    simp only [Bool.and_eq_true, decide_eq_true_eq]
    exact ⟨⟨⟨h.1.1.1.1.1.1.1, h.1.1.1.1.1.1.2⟩, h.1.2⟩, h.1.1.2⟩
  rw [if_neg h5] at h
  by_cases h6 : e.kind = 6
  · rw [if_pos h6] at h
    simp only [Bool.and_eq_true, decide_eq_true_eq] at h
    rw [if_pos (by omega), h.1.1.2, h.1.2]
    rfl
  rw [if_neg h6] at h
  simp only [Bool.and_eq_true, decide_eq_true_eq] at h
  have hl := h.1.2
  by_cases h3 : e.kind = 3 ∨ e.kind = 4
  · rw [if_pos h3] at hl
    rw [if_pos (by omega), h.1.1.2, show e.args.length = 1 by omega]
    rfl
  · rw [if_neg h3] at hl
    by_cases h7 : e.kind = 7
    · rw [if_pos h7] at hl
      rw [if_neg (by omega), if_neg (by omega), if_pos h7, h.1.1.2, show e.args.length = 3 by omega]
      rfl
    · rw [if_neg h7] at hl
      omega

theorem valid_op {e : Ex} (h : validP e = true) : (e.kind ≠ 5 → e.op = 0) ∧ (e.kind ≠ 6 → e.no = false) := by
  rw [validP_eq] at h
  by_cases h1 : e.kind = 1
  · rw [if_pos h1] at h
    simp only [Bool.and_eq_true, decide_eq_true_eq, Bool.not_eq_true'] at h
    exact ⟨fun _ => h.1.1.1.1.1.1, fun _ => h.1.1.1.1.1.2⟩
  rw [if_neg h1] at h
  by_cases h2 : e.kind = 2
  · rw [if_pos h2] at h
    simp only [Bool.and_eq_true, decide_eq_true_eq, Bool.not_eq_true'] at h
    exact ⟨fun _ => h.1.1.1.1.1, fun _ => h.1.1.1.1.2⟩
  rw [if_neg h2] at h
  by_cases h8 : 8 ≤ e.kind ∧ e.kind ≤ 12
  · rw [if_pos h8] at h
    simp only [Bool.and_eq_true, decide_eq_true_eq, Bool.not_eq_true'] at h
    exact ⟨fun _ => h.1.1.1.1.1.1, fun _ => h.1.1.1.1.1.2⟩
  rw [if_neg h8] at h
  by_cases h5 : e.kind = 5
  · rw [if_pos h5] at h
    simp only [Bool.and_eq_true, decide_eq_true_eq, Bool.not_eq_true'] at h
    exact ⟨fun h => absurd h5 h, fun _ => h.1.1.1.1.1.2⟩
  rw [if_neg h5] at h
  by_cases h6 : e.kind = 6
  · rw [if_pos h6] at h
    simp only [Bool.and_eq_true, decide_eq_true_eq] at h
    exact ⟨fun _ => h.1.1.1.1.1, fun h => absurd h6 h⟩
  rw [if_neg h6] at h
  simp only [Bool.and_eq_true, decide_eq_true_eq, Bool.not_eq_true'] at h
  exact ⟨fun _ => h.1.1.1.1.1.1, fun _ => h.1.1.1.1.1.2⟩

theorem b_no {b : Bool} (h : b = true → False) : b = false := by cases b; rfl; exact absurd rfl h

/-- What ValidExpr answers, once shape, operator and negation stand. -/
theorem valid_lit {e : Ex} (hs : shapeP e.kind e.op e.args.length e.sub = true) (ho : e.op = 0) (hn : e.no = false) (hk : e.kind = 1) :
    validP e = (validV e.val && !(decide (e.val.kind = 1) && decide (e.val.int < 0)) && (noText e.table && noText e.name)) := by
  obtain ⟨ha, hq⟩ := (shape_facts hs).1 (.inl hk)
  rw [validP_eq, if_pos hk, ho, hn, ha, hq, nameZ]
  simp only [List.length_nil, decide_true, Bool.not_false, Bool.true_and, Bool.and_true]
  rw [Bool.and_assoc, Bool.and_comm]
theorem column_eq (t n : ByteArray) : columnB t n = ((noText t || sourceB t || t.toList == [78, 69, 87] || t.toList == [79, 76, 68]) && nameB n) := by
  unfold columnB sourceB noText
  rw [show (t.toList == []) = t.toList.isEmpty by cases t.toList <;> rfl]
  cases t.toList.isEmpty <;> cases (t.toList == [78, 69, 87]) <;> cases (t.toList == [79, 76, 68]) <;> cases (t.toList == kwIns) <;> cases (t.toList == kwDel) <;> cases nameB t <;> rfl
theorem valid_col {e : Ex} (hs : shapeP e.kind e.op e.args.length e.sub = true) (ho : e.op = 0) (hn : e.no = false) (hk : e.kind = 2) :
    validP e = ((noText e.table || sourceB e.table || e.table.toList == [78, 69, 87] || e.table.toList == [79, 76, 68]) && nameB e.name && valZ e.val) := by
  obtain ⟨ha, hq⟩ := (shape_facts hs).1 (.inr hk)
  rw [validP_eq, if_neg (by omega), if_pos hk, ho, hn, ha, hq, ← column_eq]
  simp only [List.length_nil, decide_true, Bool.not_false, Bool.true_and, Bool.and_true]
  rw [Bool.and_comm]
theorem valid_ops {e : Ex} (hs : shapeP e.kind e.op e.args.length e.sub = true) (ho : e.kind ≠ 5 → e.op = 0) (hn : e.kind ≠ 6 → e.no = false) (hk : 3 ≤ e.kind ∧ e.kind ≤ 7) :
    validP e = ((valZ e.val && nameZ e.table e.name) && validL e.args) := by
  obtain ⟨_, f3, f5, f7, _, _, _⟩ := shape_facts hs
  rw [validP_eq, if_neg (by omega), if_neg (by omega), if_neg (by omega)]
  by_cases h5 : e.kind = 5
  · obtain ⟨o1, o2, a2, s0⟩ := f5 h5
    rw [if_pos h5, hn (by omega), a2, s0]
    simp only [List.length_nil, decide_true, Bool.not_false, Bool.true_and, Bool.and_true, decide_eq_true o1, decide_eq_true o2]
  · rw [if_neg h5]
    by_cases h6 : e.kind = 6
    · obtain ⟨a2, s0⟩ := f3 (by omega)
      rw [if_pos h6, ho h5, a2, s0]
      simp only [List.length_nil, decide_true, Bool.true_and, Bool.and_true]
    · rw [if_neg h6, ho h5, hn h6]
      by_cases h7 : e.kind = 7
      · obtain ⟨a2, s0⟩ := f7 h7
        rw [a2, s0, if_neg (by omega), if_pos h7, show decide (((3 : Nat) : Int) = 3) = true from rfl]
        simp only [List.length_nil, decide_true, Bool.not_false, Bool.true_and, Bool.and_true]
      · obtain ⟨a2, s0⟩ := f3 (by omega)
        rw [a2, s0, if_pos (by omega), show decide (((1 : Nat) : Int) = 1) = true from rfl]
        simp only [List.length_nil, decide_true, Bool.not_false, Bool.true_and, Bool.and_true]
theorem valid_query {e : Ex} {q : Qu} (hs : shapeP e.kind e.op e.args.length e.sub = true) (ho : e.op = 0) (hn : e.no = false) (hk : 8 ≤ e.kind ∧ e.kind ≤ 12) (hq : e.sub = [q]) :
    validP e = ((valZ e.val && nameZ e.table e.name) && ((q.star == decide (e.kind = 8)) && (sourceB q.frm && validL q.items && validL q.whr))) := by
  obtain ⟨ha, q', hq', hi, hw⟩ := (shape_facts hs).2.2.2.2.1 hk
  rw [hq] at hq'
  cases hq'
  rw [validP_eq, if_neg (by omega), if_neg (by omega), if_pos hk, ho, hn, ha, hq]
  obtain ⟨st, it, f, wh⟩ := q
  simp only [validS]
  replace hi : it.length = (if e.kind = 8 ∨ e.kind = 9 then 0 else 1) := hi
  replace hw : wh.length ≤ 1 := hw
  rw [decide_eq_true hi, decide_eq_true hw]
  show _ = (_ && ((st == decide (e.kind = 8)) && (sourceB f && validL it && validL wh)))
  simp only [List.length_singleton, decide_true, Bool.not_false, Bool.true_and, Bool.and_true, Bool.and_assoc]

set_option maxRecDepth 100000 in
theorem rvexpr_any {M : Nat → Prop} (e : Ex) : RexOk M e := by
  refine Ex.ind (P := RexOk M) (fun e hargs hsub => ?_) e
  intro cs w he htx
  have he0 := he
  obtain ⟨va, vs, rfl, ha, hs⟩ := (EC_iff ..).1 he
  obtain ⟨hv, ht, hn, hta, htf, hti, htw⟩ : e.val.text.size ≤ maxLen ∧ e.table.size ≤ maxLen ∧ e.name.size ≤ maxLen ∧ (∀ a ∈ e.args, TxtOk a) ∧ (∀ q ∈ e.sub, q.frm.size ≤ maxLen) ∧ (∀ q ∈ e.sub, ∀ x ∈ q.items, TxtOk x) ∧ (∀ q ∈ e.sub, ∀ x ∈ q.whr, TxtOk x) := by
    cases htx
    exact ⟨by assumption, by assumption, by assumption, by assumption, by assumption, by assumption, by assumption⟩
  have hx : ∀ wx, Below w.heap.size w wx → ExsR M wx va e.args := fun wx kb => RowsR.map ha (Keep.bel kb) fun x _ cs h => EC.keep (.bel kb) x cs h
  have hsh0 := fun wx (kb : Below w.heap.size w wx) => rshape_any (M := M) e _ wx (EC.keep (M := M) (.bel kb) e _ he0)
  obtain ⟨a, ac, rfl, _⟩ := ha.shape
  obtain ⟨s, sc, rfl, _⟩ := hs.shape
  have hsh : ∀ wx, Below w.heap.size w wx → Calls Tryd.prog 81 #[.agg #[.int .i64 e.kind, .int .i64 e.op, .bool e.no, .int .i64 e.val.kind, .int .i64 e.val.int, .string e.val.text, .string e.table, .string e.name, .slice a e.args.length ac, .slice s e.sub.length sc]] wx (RetBel (.bool (shapeP e.kind e.op e.args.length e.sub)) wx) := hsh0
  have hp := fun wx => rplain_any e.kind e.op e.no e.val.kind e.val.int e.val.text e.table e.name (.slice a e.args.length ac) (.slice s e.sub.length sc) wx
  have hl := fun wx kb => rall_any (M := M) e.args hargs hta _ wx (hx wx kb)
  show Calls _ _ #[.agg #[.int .i64 e.kind, .int .i64 e.op, .bool e.no, .int .i64 e.val.kind, .int .i64 e.val.int, .string e.val.text, .string e.table, .string e.name, .slice a e.args.length ac, .slice s e.sub.length sc]] w _
  cases hS : shapeP e.kind e.op e.args.length e.sub with
  | false =>
    rw [hS] at hsh
    rw [b_no (b := validP e) fun h => by rw [shape_of_valid h] at hS; cases hS]
    exact rv_bad1 _ _ _ _ _ _ _ _ _ _ _ _ _ _ w hsh
  | true =>
    rw [hS] at hsh
    by_cases h5 : e.kind ≠ 5 ∧ e.op ≠ 0
    · rw [b_no (b := validP e) fun h => h5.2 ((valid_op h).1 h5.1)]
      exact rv_bad2 _ _ _ _ _ _ _ _ _ _ _ _ _ _ w hsh h5.1 h5.2
    have ho : e.kind ≠ 5 → e.op = 0 := fun h => by
      by_cases h0 : e.op = 0
      · exact h0
      · exact absurd ⟨h, h0⟩ h5
    by_cases h6 : e.kind ≠ 6 ∧ e.no = true
    · rw [b_no (b := validP e) fun h => by rw [(valid_op h).2 h6.1] at h6; cases h6.2]
      refine rv_bad3 _ _ _ _ _ _ _ _ _ _ _ _ _ _ w hsh ?_ h6.1 h6.2
      by_cases h : e.kind = 5
      · exact .inl h
      · exact .inr (ho h)
    have hno : e.kind ≠ 6 → e.no = false := fun h => by
      cases h0 : e.no with
      | false => rfl
      | true => exact absurd ⟨h, h0⟩ h6
    obtain ⟨f1, f3, f5, f7, f8, g1, g2⟩ := shape_facts hS
    by_cases k1 : e.kind = 1
    · rw [valid_lit hS (ho (by omega)) (hno (by omega)) k1]
      exact rv_lit _ _ _ _ _ _ _ _ _ _ _ _ _ _ w hsh ⟨k1, ho (by omega), hno (by omega)⟩ _ (fun wx => rvalid_any e.val wx hv)
    by_cases k2 : e.kind = 2
    · rw [valid_col hS (ho (by omega)) (hno (by omega)) k2]
      exact rv_col _ _ _ _ _ _ _ _ _ _ _ _ _ _ w hsh ⟨k2, ho (by omega), hno (by omega)⟩ _ _ _ rfl (fun wx => rsrc_any e.table wx ht) (fun wx => rvalidName_any e.name wx hn)
    by_cases k8 : 8 ≤ e.kind
    · obtain ⟨a0, q, hq, _, _⟩ := f8 ⟨k8, g2⟩
      have hqm : q ∈ e.sub := by rw [hq]; exact List.mem_singleton.2 rfl
      rw [valid_query hS (ho (by omega)) (hno (by omega)) ⟨k8, g2⟩ hq]
      have hl0 : validL e.args = true := by rw [List.eq_nil_of_length_eq_zero a0]; simp [validL]
      rw [hl0] at hl
      rw [hq] at hs
      rcases hs.open with ⟨_, h⟩ | ⟨ab, ao, cap, hv', _, hab, _, _, hx'⟩
      · cases h
      obtain ⟨cs, hc, _, hcs⟩ := hx' 0 _ rfl
      obtain ⟨vi', vw, rfl, hvi, hvw⟩ := (QC_iff ..).1 hc
      have hi := fun wx (kb : Below w.heap.size w wx) => rall_any (M := M) q.items (hsub q hqm).1 (hti q hqm) vi' wx (RowsR.map hvi (Keep.bel kb) fun x _ cs h => EC.keep (.bel kb) x cs h)
      have hw := fun wx (kb : Below w.heap.size w wx) => rall_any (M := M) q.whr (hsub q hqm).2 (htw q hqm) vw wx (RowsR.map hvw (Keep.bel kb) fun x _ cs h => EC.keep (.bel kb) x cs h)
      obtain ⟨ia, iac, rfl, _⟩ := hvi.shape
      obtain ⟨wa, wac, rfl, _⟩ := hvw.shape
      rw [Nat.zero_mul, Nat.add_zero] at hcs
      obtain ⟨c0, c1, c2, c3⟩ := hcs.c4
      simp only [Value.slice.injEq] at hv'
      obtain ⟨hs', hn', _⟩ := hv'
      have hsn : e.sub.length = 1 := by rw [hq]; rfl
      have hrs := fun wx => rsrc_any q.frm wx (htf q hqm)
      by_cases k88 : e.kind = 8
      · rw [decide_eq_true k88]
        cases hst : q.star with
        | true =>
          rw [hst] at c0
          have hm := rv_q8t _ _ _ _ _ _ _ _ _ _ _ _ _ _ w hsh _ _ hp hl ab ao q.star q.frm ia wa _ _ iac wac hab _ _ _ (by rw [hst]; exact c0) c1 c2 c3 hrs hi hw ⟨ho (by omega), hno (by omega), hst, hs', hsn, a0, k88⟩
          simpa using hm
        | false =>
          have hm := rv_q8f _ _ _ _ _ _ _ _ _ _ _ _ _ _ w hsh _ _ hp hl ab ao q.star q.frm ia wa _ _ iac wac hab _ _ _ c0 c1 c2 c3 hrs hi hw ⟨ho (by omega), hno (by omega), hst, hs', hsn, a0, k88⟩
          simpa using hm
      · rw [decide_eq_false k88]
        have e1 : (e.kind == 1) = false := by simp; omega
        have e2 : (e.kind == 2) = false := by simp; omega
        have e5 : (e.kind != 5) = true := by simp; omega
        have e6 : (e.kind != 6) = true := by simp; omega
        have e8 : (e.kind == 8) = false := by simp; omega
        cases hst : q.star with
        | true =>
          have hm := rv_q9t _ _ _ _ _ _ _ _ _ _ _ _ _ _ w hsh _ _ hp hl ab ao q.star q.frm ia wa _ _ iac wac hab _ _ _ c0 c1 c2 c3 hrs hi hw ⟨ho (by omega), hno (by omega), hst, hs', hsn, a0⟩ e1 e2 e5 e6 e8
          simpa using hm
        | false =>
          have hm := rv_q9f _ _ _ _ _ _ _ _ _ _ _ _ _ _ w hsh _ _ hp hl ab ao q.star q.frm ia wa _ _ iac wac hab _ _ _ c0 c1 c2 c3 hrs hi hw ⟨ho (by omega), hno (by omega), hst, hs', hsn, a0⟩ e1 e2 e5 e6 e8
          simpa using hm
    · have s0 : e.sub.length = 0 := by
        by_cases k5 : e.kind = 5
        · rw [(f5 k5).2.2.2]; rfl
        · by_cases k7 : e.kind = 7
          · rw [(f7 k7).2]; rfl
          · rw [(f3 (by omega)).2]; rfl
      rw [valid_ops hS ho hno (by omega)]
      by_cases k5 : e.kind = 5
      · exact rv_opsA _ _ _ _ _ _ _ _ _ _ _ _ _ _ w hsh ⟨k5, hno (by omega), s0⟩ _ _ hp hl
      by_cases k6 : e.kind = 6
      · exact rv_opsB _ _ _ _ _ _ _ _ _ _ _ _ _ _ w hsh ⟨k6, ho k5, s0⟩ _ _ hp hl
      exact rv_opsC _ _ _ _ _ _ _ _ _ _ _ _ _ _ w hsh (by simp; omega) (by simp; omega) (by simpa using k5) (by simpa using k6) ⟨ho k5, hno k6, s0⟩ _ _ hp hl
end Go.Proofs.YthcpacadjnpacaaDoor
