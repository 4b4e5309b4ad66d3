/- The written tokens of a text, with spaces or line ends between them, have the same tokens: the plain law. No program is named here. -/
import Derived.Test.YtkhlmofcdchccaaGreatDoorKQ
namespace Go.Proofs.YtkhlmofcdchccaaGreatDoor
open Go.RowKit

theorem toks_spaces (s : ByteArray) (rest : List UInt8) : ∀ (sep : List UInt8) (f i : Nat), (∀ c ∈ sep, spaceC c = true) → s.data.toList.drop i = sep ++ rest → s.size + 1 ≤ f + i → toks s f i = toks s (f - sep.length) (i + sep.length) ∧ s.data.toList.drop (i + sep.length) = rest ∧ (i ≤ s.size → i + sep.length ≤ s.size)
  | [], f, i, _, hd, _ => ⟨rfl, hd, id⟩
  | c :: sep, f, i, hs, hd, hf => by
    have hlt : i < s.size := by
      rcases Nat.lt_or_ge i s.size with h | h
      · exact h
      · rw [List.drop_of_length_le (by simpa using h)] at hd
        cases hd
    rw [drop_cons hlt, List.cons_append] at hd
    obtain ⟨h1, h2⟩ := List.cons.inj hd
    obtain ⟨a, b, c'⟩ := toks_spaces s rest sep (f - 1) (i + 1) (fun d hd => hs d (by simp [hd])) h2 (by omega)
    rw [toks_space hlt hf (by rw [h1]; exact hs c (by simp)), a]
    refine ⟨?_, ?_, ?_⟩
    · rw [show f - 1 - sep.length = f - (c :: sep).length by simp; omega, show i + 1 + sep.length = i + (c :: sep).length by simp; omega]
    · rw [show i + (c :: sep).length = i + 1 + sep.length by simp; omega]
      exact b
    · intro _
      have := c' (by omega)
      simp
      omega
end Go.Proofs.YtkhlmofcdchccaaGreatDoor
