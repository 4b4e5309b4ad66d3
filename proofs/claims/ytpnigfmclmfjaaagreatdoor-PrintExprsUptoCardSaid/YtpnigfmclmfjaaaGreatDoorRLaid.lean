/- A world for witnesses in which every listed table lies; and what a row's list gives of the library's tables. -/
import Derived.Test.YtpnigfmclmfjaaaGreatDoorR0
import Derived.Test.YtpnigfmclmfjaaaGreatDoorKV2
namespace Go.Proofs.YtpnigfmclmfjaaaGreatDoor
open Go.RowKit

def litCells1 : DataW Unit → List Value
  | .lit (.int k z) => [.int k z]
  | .lit (.string s) => [.string ⟨s.toArray⟩]
  | _ => []
def litCells2 : DataW Unit → List Value
  | .lit l => litCells1 (.lit l)
  | .agg xs => xs.flatMap litCells1
  | _ => []
def litCells : DataW Unit → Array Value
  | .agg xs => (xs.flatMap litCells2).toArray
  | _ => #[]

/-- The settled world with all eight tables as their initialisers lay them. -/
noncomputable def laidAll (os : Os) : World :=
  { World.holding Tryz.prog os ⟨#[], #[], []⟩ with heap := (((((((World.holding Tryz.prog os ⟨#[], #[], []⟩).heap.modify 2 (setTab (nameList.map fun s => Value.string ⟨s.toArray⟩).toArray)).modify 6 (setTab (wordList.map fun s => Value.string ⟨s.toArray⟩).toArray)).modify 13 (setTab (litCells Rows.laid_math_bits_deBruijn32tab))).modify 14 (setTab (litCells Rows.laid_math_bits_deBruijn64tab))).modify 10 (setTab (litCells Rows.laid_internal_strconv_uint64pow10))).modify 9 (setTab (litCells Rows.laid_unicode_utf8_acceptRanges))).modify 8 (setTab (litCells Rows.laid_unicode_utf8_first)) }

theorem tPow : (Tryz.prog.globals[10]?).map (·.type) = some 326 := by kernel_rfl

theorem pow_of {W : World} {rest : List (String × DataW Unit)} (h : laidMet Tryz.prog (("internal/strconv.uint64pow10", Rows.laid_internal_strconv_uint64pow10) :: rest) W) : Lib.TabIs Tryz.prog W "internal/strconv.uint64pow10" .u64 Lib.pow10Tab :=
  Lib.tabIs_of_head (zs := Lib.pow10Tab) gPow tPow Tryz.underlying326 Tryz.underlying222 (by kernel_rfl) (by kernel_rfl) h

theorem lib_of {W : World} {rest : List (String × DataW Unit)} (h : laidMet Tryz.prog (("internal/strconv.uint64pow10", Rows.laid_internal_strconv_uint64pow10) :: rest) W) (hsh : W.ShapedOpen Tryz.prog) : LibOk W := ⟨pow_of h, Tryz.laysM155.s1_3 W hsh⟩

theorem size3 {W : World} {rest : List (String × DataW Unit)} (h : laidMet Tryz.prog (("internal/strconv.uint64pow10", Rows.laid_internal_strconv_uint64pow10) :: rest) W) : 10 < W.heap.size :=
  World.block_lt_of_cell? _ _ ((pow_of h).cell gPow 0 (by decide))
end Go.Proofs.YtpnigfmclmfjaaaGreatDoor
