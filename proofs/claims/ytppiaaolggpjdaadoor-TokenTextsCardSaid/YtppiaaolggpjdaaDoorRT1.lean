/- What a row's list gives for TokenTexts, how a raw token reads, and a world for its witness. -/
import Derived.Test.YtppiaaolggpjdaaDoorRT0
import Derived.Test.YtppiaaolggpjdaaDoorT9
import Derived.Test.YtppiaaolggpjdaaDoorKO
namespace Go.Proofs.YtppiaaolggpjdaaDoor
open Go.ChangeShapes Go.WideShapes Go.ChangeAt Go.RowKit

theorem kTok : Tryd.prog.cellsOf 71 = 3 := by kernel_rfl
theorem rd_tok {H : Type} {enc : TypeId × Value → H} {W : World} {cs : List Value} {d : DataW H} (h : Rd enc Tryd.prog W 71 cs d) : ∃ (k i : Int) (s : ByteArray), cs = [.int .i64 k, .string s, .int .i64 i] ∧ s.size ≤ maxLen := by
  obtain ⟨hl, hf⟩ := rd_fields Tryd.underlying71 h
  rw [kTok] at hl
  obtain ⟨c0, c1, c2, rfl⟩ := list3 hl
  obtain ⟨y0, h0, _⟩ := hf 0 _ rfl
  obtain ⟨y1, h1, _⟩ := hf 1 _ rfl
  obtain ⟨y2, h2, _⟩ := hf 2 _ rfl
  obtain ⟨k, e0, _⟩ := rd_int Tryd.underlying3 (rd_cast h0 (cs' := [c0]) (by simp [kInt]))
  obtain ⟨s, e1, hs⟩ := rd_string Tryd.underlying9 (rd_cast h1 (cs' := [c1]) (by simp [kStr]))
  obtain ⟨i, e2, _⟩ := rd_int Tryd.underlying3 (rd_cast h2 (cs' := [c2]) (by simp [kInt]))
  cases e0; cases e1; cases e2
  exact ⟨k, i, s, rfl, hs⟩

/-- The settled world with the tables that TokenTexts lists, as their initialisers lay them. -/
noncomputable def laidTok2 (os : Os) : World :=
  let w0 := World.holding Tryd.prog os ⟨#[.cells #[.string synS] 240, .cells #[.string rngS] 240], #[], []⟩
  { w0 with heap := ((((((w0.heap.modify 7 (setTab (litCells Rows.laid_math_bits_deBruijn32tab))).modify 8 (setTab (litCells Rows.laid_math_bits_deBruijn64tab))).modify 4 (setTab (litCells Rows.laid_internal_strconv_uint64pow10))).modify 10 (setTab #[.iface 238 (.pointer (some ⟨lowT + 1, 0, none⟩))])).modify 9 (setTab #[.iface 238 (.pointer (some ⟨lowT, 0, none⟩))])).modify 6 (setTab (litCells Rows.laid_unicode_utf8_acceptRanges))).modify 5 (setTab (litCells Rows.laid_unicode_utf8_first)) }
end Go.Proofs.YtppiaaolggpjdaaDoor
