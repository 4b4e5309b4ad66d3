/- Same, the reference's Compare, and rows: contracts of Same, the reference's Compare, CompareRows and the reference's CompareRows. The texts of values: contracts of Format and the reference's Format. The sanity check of the statements on values: contract of known. -/
import Derived.Test.YtkhlmofcdchccaaGreatDoorKV1
import Derived.Test.YtkhlmofcdchccaaGreatDoorSh
import Derived.Test.YtkhlmofcdchccaaGreatDoorKO
import Derived.Deep.RegionHeld3
import Derived.Lib.ReplaceLaws
namespace Go.Proofs.YtkhlmofcdchccaaGreatDoor
open Go.RowKit

/-- Rows of values. -/
def ValsR (M : Nat → Prop) (w : World) (v : Value) (l : List Val) : Prop := RowsR M w 3 ValR v l
theorem ValsR.keep {M : Nat → Prop} {w w' : World} {v : Value} {l : List Val} (h : ValsR M w v l) (k : Keep M w w') : ValsR M w' v l := RowsR.map h k fun _ _ _ h => h
theorem ValsR.weak {M M' : Nat → Prop} {w : World} {v : Value} {l : List Val} (h : ValsR M w v l) (hM : ∀ k, k < w.heap.size → M' k → M k) : ValsR M' w v l := RowsR.weak h hM fun _ _ _ h => h

end Go.Proofs.YtkhlmofcdchccaaGreatDoor

namespace Go.Proofs.YtkhlmofcdchccaaGreatDoor
open Go.RowKit Go.Sort

/-- What the library's functions read: the table of powers of ten, and a length. -/
def LibOk (w : World) : Prop := Lib.TabIs Tryz.prog w "internal/strconv.uint64pow10" .u64 Lib.pow10Tab ∧ ∃ m : Int, w.cell? ⟨0, 0, none⟩ = some (.int .i64 m)

theorem gPow : Tryz.prog.globalNamed "internal/strconv.uint64pow10" = some 4 := by kernel_rfl

theorem LibOk.keep {M : Nat → Prop} {w w' : World} (h : LibOk w) (k : Keep M w w') (hM : ∀ k, k ≤ 4 → ¬ M k) (hs : 4 < w.heap.size) : LibOk w' := by
  obtain ⟨h1, m, h2⟩ := h
  refine ⟨?_, m, (k.cell (World.block_lt_of_cell? _ _ h2) (hM _ (by decide))).trans h2⟩
  unfold Lib.TabIs World.var? at h1 ⊢
  simp only [gPow, Option.bind_some] at h1 ⊢
  rw [k.block 4 (by omega) (hM _ (by decide))]
  exact h1

theorem LibOk.bel {w w' : World} (h : LibOk w) (hb : Below w.heap.size w w') (hs : 4 < w.heap.size) : LibOk w' := h.keep (M := fun _ => False) (.bel hb) (fun _ _ => id) hs

def txt (l : List UInt8) : ByteArray := ⟨l.toArray⟩

end Go.Proofs.YtkhlmofcdchccaaGreatDoor

namespace Go.Proofs.YtkhlmofcdchccaaGreatDoor
open Go.RowKit

end Go.Proofs.YtkhlmofcdchccaaGreatDoor
