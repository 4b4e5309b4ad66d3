/- What a row's list gives of the variables that the tokens need, and a world for its witness. -/
import Derived.Test.YtppiaaolggpjdaaDoorRLaid
import Derived.Test.YtppiaaolggpjdaaDoorT7
import Derived.LaidLaws
namespace Go.Proofs.YtppiaaolggpjdaaDoor
open Go.RowKit

theorem err_of {P : Program} {W : World} {name nm : String} {d : DataW Unit} {rest : List (String × DataW Unit)} {g : Nat} {t : TypeId} {ms : Array (String × TypeId)}
    (hg : P.globalNamed name = some g) (hty : (P.globals[g]?).map (·.type) = some t) (ht : P.underlying t = some (.interface ms)) (h : laidMet P ((name, .iface nm d) :: rest) W) : ∃ te pe, W.cell? ⟨g, 0, none⟩ = some (.iface te pe) := by
  obtain ⟨ps, ⟨g', t', cs, fuel, p, q, hg', ht', hvar, hd, _, _⟩, _⟩ := h
  obtain rfl := Option.some.inj (hg.symm.trans hg')
  obtain rfl := Option.some.inj (hty.symm.trans ht')
  obtain ⟨l⟩ := cs
  obtain ⟨f1, u, v, rfl, _, _⟩ := iface_of_trod ht hd
  exact ⟨u, v, by have h2 := World.var?_cell hg hvar 0; rw [h2]; rfl⟩

theorem gSyn : Tryd.prog.globalNamed "strconv.ErrSyntax" = some 9 := by kernel_rfl
theorem gRng : Tryd.prog.globalNamed "strconv.ErrRange" = some 10 := by kernel_rfl
theorem tSyn : (Tryd.prog.globals[9]?).map (·.type) = some 173 := by kernel_rfl
theorem tRng : (Tryd.prog.globals[10]?).map (·.type) = some 173 := by kernel_rfl
theorem gBits : Tryd.prog.globalNamed "triggerstore/triggerstorelaw10.bits" = some 0 := by kernel_rfl
theorem tBits : (Tryd.prog.globals[0]?).map (·.type) = some 64 := by kernel_rfl

theorem bits_of {W : World} {rest : List (String × DataW Unit)} (h : laidMet Tryd.prog (("triggerstore/triggerstorelaw10.bits", Rows.laid_triggerstore_triggerstorelaw10_bits) :: rest) W) : BitsOk W := by
  have hh := strs_of_head (ss := bitList) gBits tBits Tryd.underlying64 Tryd.underlying9 cStr rfl h
  intro i hi
  have hl : i < bitList.length := hi
  have h1 : bitList[i]? = some (bitList.getD i []) := by rw [List.getD_eq_getElem?_getD, List.getElem?_eq_getElem hl]; rfl
  exact hh i _ h1

theorem tok_of {W : World} {r1 r2 r3 : List (String × DataW Unit)} (h1 : laidMet Tryd.prog (("internal/strconv.uint64pow10", Rows.laid_internal_strconv_uint64pow10) :: r1) W) (h2 : laidMet Tryd.prog (("strconv.ErrRange", Rows.laid_strconv_ErrRange) :: r2) W) (h3 : laidMet Tryd.prog (("strconv.ErrSyntax", Rows.laid_strconv_ErrSyntax) :: r3) W) : TokOk W := by
  have e2 := err_of gRng tRng Tryd.underlying173 h2
  have e3 := err_of gSyn tSyn Tryd.underlying173 h3
  refine ⟨pow_of h1, e3, e2, ?_⟩
  obtain ⟨_, _, h⟩ := e2
  exact World.block_lt_of_cell? _ _ h

def synS : ByteArray := ⟨#[105, 110, 118, 97, 108, 105, 100, 32, 115, 121, 110, 116, 97, 120]⟩
def rngS : ByteArray := ⟨#[118, 97, 108, 117, 101, 32, 111, 117, 116, 32, 111, 102, 32, 114, 97, 110, 103, 101]⟩
noncomputable def lowT : Nat := (World.holding Tryd.prog default ⟨#[], #[], []⟩).heap.size
/-- The settled world with the tables that TokenPlaces lists, as their initialisers lay them. -/
noncomputable def laidTok (os : Os) : World :=
  let w0 := World.holding Tryd.prog os ⟨#[.cells #[.string synS] 240, .cells #[.string rngS] 240], #[], []⟩
  { w0 with heap := (((((w0.heap.modify 7 (setTab (litCells Rows.laid_math_bits_deBruijn32tab))).modify 8 (setTab (litCells Rows.laid_math_bits_deBruijn64tab))).modify 4 (setTab (litCells Rows.laid_internal_strconv_uint64pow10))).modify 10 (setTab #[.iface 238 (.pointer (some ⟨lowT + 1, 0, none⟩))])).modify 9 (setTab #[.iface 238 (.pointer (some ⟨lowT, 0, none⟩))])).modify 0 (setTab (bitList.map fun s => Value.string ⟨s.toArray⟩).toArray) }
end Go.Proofs.YtppiaaolggpjdaaDoor
