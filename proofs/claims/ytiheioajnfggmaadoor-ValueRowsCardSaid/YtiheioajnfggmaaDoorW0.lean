/- The variable words and its six texts. -/
import Derived.Test.YtiheioajnfggmaaDoorC2
namespace Go.Proofs.YtiheioajnfggmaaDoor
open Go.RowKit

def wordList : List (List UInt8) := [[], [97], [98], [105, 116, 39, 115], [90, 32, 122], [126]]
def wordAt (i : Nat) : ByteArray := bs (wordList.getD i [])

/-- The variable 'words' holds its six words; it lies below the tape. -/
def WordsOk (T : Nat) (w : World) : Prop := 1 < T ∧ ∀ i : Nat, i < 6 → w.cell? ⟨1, i, none⟩ = some (.string (wordAt i))

theorem WordsOk.keep {M : Nat → Prop} {T : Nat} {w w' : World} (h : WordsOk T w) (k : Keep M w w') (hM : ∀ k, k < T → ¬ M k) : WordsOk T w' := by
  refine ⟨h.1, fun i hi => ?_⟩
  have := h.2 i hi
  rw [k.cell (World.block_lt_of_cell? _ _ this) (hM _ h.1)]
  exact this

theorem WordsOk.at {T : Nat} {w w' : World} (h : WordsOk T w) (k : Keep (At T) w w') : WordsOk T w' := h.keep k fun k hk h => by unfold At at h; omega

end Go.Proofs.YtiheioajnfggmaaDoor
