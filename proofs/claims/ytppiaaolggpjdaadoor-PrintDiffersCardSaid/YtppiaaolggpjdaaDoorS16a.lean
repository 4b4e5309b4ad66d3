/- What AnyExpr makes is well-formed. -/
import Derived.Test.YtppiaaolggpjdaaDoorKN3
import Derived.Test.YtppiaaolggpjdaaDoorKL
namespace Go.Proofs.YtppiaaolggpjdaaDoor
open Go.RowKit

theorem name_valid (i : Nat) (h : i < 8) : nameB (nameAt i) = true := by
  have h8 : i = 0 ∨ i = 1 ∨ i = 2 ∨ i = 3 ∨ i = 4 ∨ i = 5 ∨ i = 6 ∨ i = 7 := by omega
  rcases h8 with rfl | rfl | rfl | rfl | rfl | rfl | rfl | rfl <;> decide +kernel
theorem qual_valid {q : ByteArray} (h : q ∈ qualL) (n : ByteArray) (hn : nameB n = true) : columnB q n = true := by
  unfold columnB
  rw [hn]
  simp only [qualL, List.mem_cons, List.not_mem_nil, or_false] at h
  rcases h with rfl | rfl | rfl | rfl | rfl | rfl <;> decide +kernel
theorem from_valid {q : ByteArray} (h : q ∈ fromL) : sourceB q = true := by
  simp only [fromL, List.mem_cons, List.not_mem_nil, or_false] at h
  rcases h with rfl | rfl | rfl | rfl | rfl <;> decide +kernel
theorem val_valid {x : Val} (h : ValidVal x) : validV x = true := by
  have hw : ∀ i, i < 6 → plainB (wordAt i) = true := by decide +kernel
  have he : noText ⟨#[]⟩ = true := by decide +kernel
  obtain ⟨k, n, s⟩ := x
  unfold ValidVal at h
  simp only at h
  rcases h with ⟨rfl, rfl, rfl⟩ | ⟨rfl, _, rfl⟩ | ⟨rfl, h0, h1, rfl⟩ | ⟨rfl, rfl, i, hi, rfl⟩
  · simp [validV, he]
  · simp [validV, he]
  · have : n = 0 ∨ n = 1 := by omega
    simp [validV, he, this]
  · simp [validV, hw i hi]
theorem val0_z : valZ val0 = true := by decide +kernel
theorem es_z : nameZ es es = true := by decide +kernel

/-- What AnyExpr makes is well-formed. -/
theorem any_valid {n : Nat} {e : Ex} (h : AnyX n e) : validP e = true := by
  induction h with
  | col n q i hq hi =>
    rw [validP_eq]
    show (decide ((0 : Int) = 0) && !false && valZ val0 && decide (([] : List Ex).length = 0) && decide (([] : List Qu).length = 0) && columnB q (nameAt i)) = true
    rw [val0_z, qual_valid hq _ (name_valid i hi)]
    rfl
  | lit n v hv h0 =>
    rw [validP_eq]
    show (decide ((0 : Int) = 0) && !false && nameZ es es && decide (([] : List Ex).length = 0) && decide (([] : List Qu).length = 0) && validV v && !(decide (v.kind = 1) && decide (v.int < 0))) = true
    rw [es_z, val_valid hv]
    by_cases h1 : v.kind = 1
    · have := h0 h1
      rw [decide_eq_true h1, decide_eq_false (show ¬ v.int < 0 by omega)]
      rfl
    · rw [decide_eq_false h1]
      rfl
  | ops n k o no args hk ha ih =>
    have hl : validL args = true := by rw [validL_all, List.all_eq_true]; exact ih
    rw [validP_eq]
    simp only [opX, Ex.kind, Ex.op, Ex.no, Ex.val, Ex.table, Ex.name, Ex.args, Ex.sub, val0_z, es_z, hl, List.length_nil]
    unfold OpShape at hk
    rcases hk with ⟨rfl | rfl, rfl, rfl, hn⟩ | ⟨rfl, rfl, hn⟩ | ⟨rfl, h1, h2, rfl, hn⟩ | ⟨rfl, rfl, rfl, hn⟩
    · simp [hn]
    · simp [hn]
    · simp [hn]
    · simp [hn, h1, h2]
    · simp [hn]
  | sub n k f items whr hf hi hw h1 h2 ih1 ih2 =>
    have hl1 : validL items = true := by rw [validL_all, List.all_eq_true]; exact ih1
    have hl2 : validL whr = true := by rw [validL_all, List.all_eq_true]; exact ih2
    rw [validP_eq]
    simp only [opX, Ex.kind, Ex.op, Ex.no, Ex.val, Ex.table, Ex.name, Ex.args, Ex.sub, val0_z, es_z, List.length_nil, List.length_singleton]
    rw [if_neg (by omega), if_neg (by omega), if_pos (by omega), validS, validS, from_valid hf, hl1, hl2, decide_eq_true hw]
    rcases hi with ⟨hk, rfl⟩ | ⟨hk, hi⟩
    · rw [if_pos hk]
      rcases hk with rfl | rfl <;> rfl
    · rw [if_neg (by omega), hi]
      rcases hk with rfl | rfl | rfl <;> rfl

end Go.Proofs.YtppiaaolggpjdaaDoor
