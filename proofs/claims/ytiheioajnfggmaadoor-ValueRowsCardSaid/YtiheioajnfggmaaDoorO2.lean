/- Raw arguments of this program's types: columns, frames, tables, values. -/
import Derived.Test.YtiheioajnfggmaaDoorO1
import Derived.Test.YtiheioajnfggmaaDoorC9
namespace Go.Proofs.YtiheioajnfggmaaDoor
open Go.RowKit

theorem kStr : Tryd.prog.cellsOf 9 = 1 := by kernel_rfl
theorem kInt : Tryd.prog.cellsOf 3 = 1 := by kernel_rfl
theorem kI64 : Tryd.prog.cellsOf 2 = 1 := by kernel_rfl
theorem kBool : Tryd.prog.cellsOf 4 = 1 := by kernel_rfl
theorem kCols : Tryd.prog.cellsOf 27 = 1 := by kernel_rfl
theorem kVals : Tryd.prog.cellsOf 31 = 1 := by kernel_rfl
theorem kRows : Tryd.prog.cellsOf 104 = 1 := by kernel_rfl
theorem kCol : Tryd.prog.cellsOf 35 = 4 := by kernel_rfl
theorem kFrm : Tryd.prog.cellsOf 33 = 4 := by kernel_rfl
theorem kSch : Tryd.prog.cellsOf 29 = 2 := by kernel_rfl
theorem kTbl : Tryd.prog.cellsOf 106 = 4 := by kernel_rfl
theorem kVal : Tryd.prog.cellsOf 48 = 3 := by kernel_rfl
theorem yCol : Tryd.prog.bytesOf 35 = 32 := by kernel_rfl
theorem yVal : Tryd.prog.bytesOf 48 = 32 := by kernel_rfl

theorem list3 {α : Type} {l : List α} (h : l.length = 3) : ∃ a b c, l = [a, b, c] := by
  match l, h with
  | [a, b, c], _ => exact ⟨a, b, c, rfl⟩
theorem list4 {α : Type} {l : List α} (h : l.length = 4) : ∃ a b c d, l = [a, b, c, d] := by
  match l, h with
  | [a, b, c, d], _ => exact ⟨a, b, c, d, rfl⟩

section
variable {H : Type} {enc : TypeId × Value → H} {W : World} {d : DataW H} {cs : List Value} {v : Value}

theorem rd_col (h : Rd enc Tryd.prog W 35 cs d) : ∃ c : Col, ColR c cs := by
  obtain ⟨hl, hf⟩ := rd_fields Tryd.underlying35 h
  rw [kCol] at hl
  obtain ⟨c0, c1, c2, c3, rfl⟩ := list4 hl
  obtain ⟨y0, h0, _⟩ := hf 0 _ rfl
  obtain ⟨y1, h1, _⟩ := hf 1 _ rfl
  obtain ⟨y2, h2, _⟩ := hf 2 _ rfl
  obtain ⟨y3, h3, _⟩ := hf 3 _ rfl
  obtain ⟨s, e0, _⟩ := rd_string Tryd.underlying9 (rd_cast h0 (cs' := [c0]) (by simp [kStr]))
  obtain ⟨n, e1, _⟩ := rd_int Tryd.underlying3 (rd_cast h1 (cs' := [c1]) (by simp [kInt]))
  obtain ⟨b, e2⟩ := rd_bool Tryd.underlying4 (rd_cast h2 (cs' := [c2]) (by simp [kBool]))
  obtain ⟨k, e3⟩ := rd_bool Tryd.underlying4 (rd_cast h3 (cs' := [c3]) (by simp [kBool]))
  cases e0; cases e1; cases e2; cases e3
  exact ⟨⟨s, n, b, k⟩, rfl⟩

theorem rd_cols (h : Rd enc Tryd.prog W 27 [v] d) : ∃ l, ColsR NoM W v l ∧ (Fit Tryd.prog 27 d → l.length * 32 ≤ reachBytes) := by
  obtain ⟨css, hs, hr, hf⟩ := rd_rows Tryd.underlying27 kCol (by decide) h
  obtain ⟨l, hR, hl, _⟩ := rows_of (M := NoM) (R := ColR) (Q := fun _ => True) hs fun cs hc => by
    obtain ⟨y, hy, _⟩ := hr cs hc
    obtain ⟨c, hc⟩ := rd_col hy
    exact ⟨c, hc, trivial⟩
  exact ⟨l, hR, fun k => by rw [hl, ← yCol]; exact hf k⟩

theorem rd_frm (h : Rd enc Tryd.prog W 33 cs d) : ∃ f : Frm, FrmR NoM W f cs := by
  obtain ⟨hl, hf⟩ := rd_fields Tryd.underlying33 h
  rw [kFrm] at hl
  obtain ⟨c0, c1, c2, c3, rfl⟩ := list4 hl
  obtain ⟨y0, h0, _⟩ := hf 0 _ rfl
  obtain ⟨y1, h1, _⟩ := hf 1 _ rfl
  obtain ⟨y2, h2, _⟩ := hf 2 _ rfl
  obtain ⟨y3, h3, _⟩ := hf 3 _ rfl
  obtain ⟨s, e0, _⟩ := rd_string Tryd.underlying9 (rd_cast h0 (cs' := [c0]) (by simp [kStr]))
  obtain ⟨b, e1⟩ := rd_bool Tryd.underlying4 (rd_cast h1 (cs' := [c1]) (by simp [kBool]))
  obtain ⟨l, hR, _⟩ := rd_cols (rd_cast h2 (cs' := [c2]) (by simp [kCols]))
  obtain ⟨a, n, c, e3⟩ := rd_slice_v Tryd.underlying31 (rd_cast h3 (cs' := [c3]) (by simp [kVals]))
  cases e0; cases e1; cases e3
  exact ⟨⟨s, b, l⟩, _, _, _, _, rfl, hR⟩

theorem rd_frms (h : Rd enc Tryd.prog W 25 [v] d) : ∃ l, FrmsR NoM W v l := by
  obtain ⟨css, hs, hr, _⟩ := rd_rows Tryd.underlying25 kFrm (by decide) h
  obtain ⟨l, hR, _, _⟩ := rows_of (M := NoM) (R := FrmR NoM W) (Q := fun _ => True) hs fun cs hc => by
    obtain ⟨y, hy, _⟩ := hr cs hc
    obtain ⟨c, hc⟩ := rd_frm hy
    exact ⟨c, hc, trivial⟩
  exact ⟨l, hR⟩

theorem rd_tbl (h : Rd enc Tryd.prog W 106 cs d) : ∃ s : Sch, TblR NoM W s cs ∧ (Fit Tryd.prog 106 d → s.cols.length * 32 ≤ reachBytes) := by
  obtain ⟨hl, hf⟩ := rd_fields Tryd.underlying106 h
  rw [kTbl] at hl
  obtain ⟨c0, c1, c2, c3, rfl⟩ := list4 hl
  obtain ⟨y0, h0, f0⟩ := hf 0 _ rfl
  obtain ⟨y1, h1, _⟩ := hf 1 _ rfl
  obtain ⟨y2, h2, _⟩ := hf 2 _ rfl
  obtain ⟨_, hg⟩ := rd_fields Tryd.underlying29 (rd_cast h0 (cs' := [c0, c1]) (by simp [kSch]))
  obtain ⟨z0, g0, _⟩ := hg 0 _ rfl
  obtain ⟨z1, g1, k1⟩ := hg 1 _ rfl
  obtain ⟨s, e0, _⟩ := rd_string Tryd.underlying9 (rd_cast g0 (cs' := [c0]) (by simp [kStr]))
  obtain ⟨l, hR, hfl⟩ := rd_cols (rd_cast g1 (cs' := [c1]) (by simp [kCols]))
  obtain ⟨n, e2, _⟩ := rd_int Tryd.underlying3 (rd_cast h1 (cs' := [c2]) (by simp [kInt]))
  obtain ⟨a, m, c, e3⟩ := rd_slice_v Tryd.underlying104 (rd_cast h2 (cs' := [c3]) (by simp [kRows]))
  cases e0; cases e2; cases e3
  exact ⟨⟨s, l⟩, ⟨_, _, _, _, _, rfl, hR⟩, fun hfit => hfl (k1 (f0 hfit))⟩

theorem rd_tbls (h : Rd enc Tryd.prog W 41 [v] d) (hfit : Fit Tryd.prog 41 d) : ∃ l, TblsR NoM W v l ∧ ColsSmall l := by
  obtain ⟨css, hs, hr, _⟩ := rd_rows Tryd.underlying41 kTbl (by decide) h
  obtain ⟨l, hR, _, hq⟩ := rows_of (M := NoM) (R := TblR NoM W) (Q := fun s => s.cols.length * 32 ≤ reachBytes) hs fun cs hc => by
    obtain ⟨y, hy, hfy⟩ := hr cs hc
    obtain ⟨c, hc, hf⟩ := rd_tbl hy
    exact ⟨c, hc, hf (hfy hfit)⟩
  exact ⟨l, hR, fun s hs => by have := hq s hs; unfold reachBytes at this; omega⟩

/-- A value whose text is no longer than any text. -/
def ValOk (v : Val) : Prop := v.text.size ≤ maxLen ∧ -9223372036854775808 ≤ v.int ∧ v.int ≤ 9223372036854775807 ∧ -9223372036854775808 ≤ v.kind ∧ v.kind ≤ 9223372036854775807

theorem wf_i64 {n : Int} (h : (Lit.int .i64 n).wf = true) : -9223372036854775808 ≤ n ∧ n ≤ 9223372036854775807 := Go.bounds_i64 h

theorem rd_val (h : Rd enc Tryd.prog W 48 cs d) : ∃ v : Val, ValR v cs ∧ ValOk v := by
  obtain ⟨hl, hf⟩ := rd_fields Tryd.underlying48 h
  rw [kVal] at hl
  obtain ⟨c0, c1, c2, rfl⟩ := list3 hl
  obtain ⟨y0, h0, _⟩ := hf 0 _ rfl
  obtain ⟨y1, h1, _⟩ := hf 1 _ rfl
  obtain ⟨y2, h2, _⟩ := hf 2 _ rfl
  obtain ⟨k, e0, w0⟩ := rd_int Tryd.underlying3 (rd_cast h0 (cs' := [c0]) (by simp [kInt]))
  obtain ⟨n, e1, w1⟩ := rd_int Tryd.underlying2 (rd_cast h1 (cs' := [c1]) (by simp [kI64]))
  obtain ⟨s, e2, hs⟩ := rd_string Tryd.underlying9 (rd_cast h2 (cs' := [c2]) (by simp [kStr]))
  cases e0; cases e1; cases e2
  exact ⟨⟨k, n, s⟩, rfl, hs, (wf_i64 w1).1, (wf_i64 w1).2, (wf_i64 w0).1, (wf_i64 w0).2⟩

theorem rd_vals (h : Rd enc Tryd.prog W 31 [v] d) : ∃ l, RowsR NoM W 3 ValR v l ∧ (∀ x ∈ l, ValOk x) ∧ (Fit Tryd.prog 31 d → l.length * 32 ≤ reachBytes) := by
  obtain ⟨css, hs, hr, hf⟩ := rd_rows Tryd.underlying31 kVal (by decide) h
  obtain ⟨l, hR, hl, hq⟩ := rows_of (M := NoM) (R := ValR) (Q := ValOk) hs fun cs hc => by
    obtain ⟨y, hy, _⟩ := hr cs hc
    exact rd_val hy
  exact ⟨l, hR, hq, fun k => by rw [hl, ← yVal]; exact hf k⟩

theorem rd_tape {a : Option Addr} {len cap : Nat} (h : Rd enc Tryd.prog W 22 [.slice a len cap] d) : IntsAt W (.slice a len cap) := by
  obtain ⟨h1, h2, h3⟩ := rd_ints Tryd.underlying22 Tryd.underlying3 kInt h
  exact ⟨a, len, cap, rfl, h1, h2, h3⟩
end

theorem list7 {α : Type} {l : List α} (h : l.length = 7) : ∃ a b c d e f g, l = [a, b, c, d, e, f, g] := by
  match l, h with
  | [a, b, c, d, e, f, g], _ => exact ⟨a, b, c, d, e, f, g, rfl⟩

end Go.Proofs.YtiheioajnfggmaaDoor
