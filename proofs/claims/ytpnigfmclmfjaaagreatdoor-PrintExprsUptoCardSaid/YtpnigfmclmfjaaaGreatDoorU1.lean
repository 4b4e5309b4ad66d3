/- What the second form's condition gives: the length of a list of values. -/
import Derived.Test.YtpnigfmclmfjaaaGreatDoorR0
import Derived.Test.YtpnigfmclmfjaaaGreatDoorKO
namespace Go.Proofs.YtpnigfmclmfjaaaGreatDoor
open Go.ChangeShapes Go.WideShapes Go.RowKit

variable {H : Type}
theorem bulk_pos (d : DataW H) : 1 ≤ Rows.uptoBulk d := by
  cases d with
  | lit l => cases l <;> simp [Rows.uptoBulk]
  | _ => simp [Rows.uptoBulk]
theorem bulk_len : ∀ ds : List (DataW H), ds.length ≤ Rows.uptoBulkAll ds
  | [] => by simp
  | d :: ds => by
    have h1 := bulk_pos d
    have h2 := bulk_len ds
    simp only [Rows.uptoBulkAll, List.length_cons]
    omega

theorem rd_vals_bulk {enc : TypeId × Value → H} {W : World} {v : Value} {d : DataW H} (h : Rd enc Tryz.prog W 199 [v] d) : ∃ l, RowsR NoM W 3 ValR v l ∧ (∀ x ∈ l, ValOk x) ∧ l.length ≤ Rows.uptoBulk d := by
  obtain ⟨l, h1, h2, _⟩ := rd_vals h
  obtain ⟨css, ds, hs, hl, hd, _⟩ := rd_slice Tryz.underlying199 kVal (by decide) h
  refine ⟨l, h1, h2, ?_⟩
  have hlen : l.length = css.length := by
    obtain ⟨a, c, rfl, _⟩ := h1.shape
    have h3 : RowsR NoM W 3 (fun _ _ => True) (.slice a l.length c) css := ⟨css, hs, rfl, fun _ _ _ _ _ => trivial⟩
    obtain ⟨a', c', he, _⟩ := h3.shape
    simp only [Value.slice.injEq] at he
    exact he.2.1
  rcases hd with ⟨rfl, h0⟩ | ⟨sp, rfl⟩
  · rw [hlen, h0]; exact Nat.zero_le _
  · have := bulk_len ds
    simp only [Rows.uptoBulk]
    omega
end Go.Proofs.YtpnigfmclmfjaaaGreatDoor
