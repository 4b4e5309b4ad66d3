/- Steps of the tokens of a text: what quoted, next and Tokens do in each round. No program is named here. -/
import Derived.Test.YtppiaaolggpjdaaDoorT0
namespace Go.Proofs.YtppiaaolggpjdaaDoor
open Go.RowKit

theorem drop_cons {s : ByteArray} {i : Nat} (h : i < s.size) : s.data.toList.drop i = s[i] :: s.data.toList.drop (i + 1) := by
  rw [List.drop_eq_getElem_cons (by simpa using h)]
  rfl

/-- The text in quotes from a place on. -/
def quotedQ (s : ByteArray) (i : Nat) (acc : List UInt8) : Option (List UInt8 × Nat) := quotedL (s.data.toList.drop i) i acc

theorem quotedQ_end {s : ByteArray} {i : Nat} {acc : List UInt8} (h : s.size ≤ i) : quotedQ s i acc = none := by
  unfold quotedQ
  rw [List.drop_of_length_le (by simpa using h)]
  rfl
theorem quotedQ_plain {s : ByteArray} {i : Nat} {acc : List UInt8} (h : i < s.size) (hc : s[i].toNat ≠ 39) : quotedQ s i acc = quotedQ s (i + 1) (acc ++ [s[i]]) := by
  unfold quotedQ
  rw [drop_cons h]
  by_cases h1 : i + 1 < s.size
  · rw [drop_cons h1, quotedL, if_neg hc]
  · rw [List.drop_of_length_le (l := s.data.toList) (i := i + 1) (by simp; omega)]
    simp [quotedL, hc]
theorem quotedQ_two {s : ByteArray} {i : Nat} {acc : List UInt8} (h : i < s.size) (hc : s[i].toNat = 39) (h1 : i + 1 < s.size) (hd : s[i + 1].toNat = 39) : quotedQ s i acc = quotedQ s (i + 2) (acc ++ [39]) := by
  unfold quotedQ
  rw [drop_cons h, drop_cons h1, quotedL, if_pos hc, if_pos hd]
theorem quotedQ_last {s : ByteArray} {i : Nat} {acc : List UInt8} (h : i < s.size) (hc : s[i].toNat = 39) (hd : ∀ h1 : i + 1 < s.size, s[i + 1].toNat ≠ 39) : quotedQ s i acc = some (acc, i + 1) := by
  unfold quotedQ
  rw [drop_cons h]
  by_cases h1 : i + 1 < s.size
  · rw [drop_cons h1, quotedL, if_pos hc, if_neg (hd h1)]
  · rw [List.drop_of_length_le (l := s.data.toList) (i := i + 1) (by simp; omega), quotedL, if_pos hc]

/-- The run's length is known where it ends. -/
theorem runN_eq {s : ByteArray} {n : Nat} (h1 : ∀ j, (h : j < n) → (h' : j < s.size) → runC s[j] = true) (hn : n ≤ s.size) (h2 : ∀ h : n < s.size, runC s[n] = false) : runN s.data.toList = n := by
  unfold runN
  have hs : s.data.toList = s.data.toList.take n ++ s.data.toList.drop n := (List.take_append_drop _ _).symm
  rw [hs, List.takeWhile_append_of_pos]
  · have h0 : (s.data.toList.drop n).takeWhile runC = [] := by
      by_cases h : n < s.size
      · rw [drop_cons h, List.takeWhile_cons, h2 h]
        rfl
      · rw [List.drop_of_length_le (l := s.data.toList) (i := n) (by simp; omega)]
        rfl
    rw [h0, List.append_nil, List.length_take]
    simp
    omega
  · intro a ha
    obtain ⟨j, hj, rfl⟩ := List.mem_iff_getElem.1 ha
    simp only [List.length_take] at hj
    have hj' : j < s.size := by have := hj; simp at this; omega
    have := h1 j (by omega) hj'
    rw [List.getElem_take]
    exact this

theorem nextP_quote {u : ByteArray} (hz : 0 < u.size) (h : u[0].toNat = 39) : nextP u = match quotedQ u 1 [] with
    | some (t, n) => ((4, ⟨t.toArray⟩), n, plainB ⟨t.toArray⟩)
    | none => ((0, ⟨#[]⟩), 0, false) := by
  have h0 : u.data.toList = u[0] :: u.data.toList.drop 1 := by have := drop_cons hz; rwa [List.drop_zero] at this
  unfold nextP quotedQ
  rw [h0]
  simp only [h, if_true, List.drop_succ_cons, List.drop_zero]
  rfl
theorem nextP_run {u : ByteArray} {n : Nat} (hz : 0 < u.size) (h : u[0].toNat ≠ 39) (hr : runC u[0] = true) (hn : runN u.data.toList = n) : nextP u = match runP (u.extract 0 n) with
    | some kt => (kt, n, true)
    | none => ((0, ⟨#[]⟩), n, false) := by
  have h0 : u.data.toList = u[0] :: u.data.toList.drop 1 := by have := drop_cons hz; rwa [List.drop_zero] at this
  unfold nextP
  rw [h0] at hn ⊢
  simp only [if_neg h, hr, if_true, hn]
  rfl
theorem nextP_sym {u : ByteArray} (hz : 0 < u.size) (h : u[0].toNat ≠ 39) (hr : runC u[0] = false) : nextP u = ((5, u.extract 0 (symP u)), symP u, decide (0 < symP u)) := by
  have h0 : u.data.toList = u[0] :: u.data.toList.drop 1 := by have := drop_cons hz; rwa [List.drop_zero] at this
  unfold nextP
  rw [h0]
  simp only [if_neg h, hr, Bool.false_eq_true, if_false]

/-- What comes before. -/
def preT (l : List (Int × ByteArray × Nat)) : TR → TR
  | .ok m => .ok (l ++ m)
  | .bad e => .bad e
theorem preT_nil (r : TR) : preT [] r = r := by cases r <;> rfl

theorem toks_end {s : ByteArray} {f i : Nat} (hi : s.size ≤ i) : toks s f i = .ok [] := by
  cases f with
  | zero => rfl
  | succ f => rw [toks, dif_neg (by omega)]
theorem toks_space {s : ByteArray} {f i : Nat} (hi : i < s.size) (hf : s.size + 1 ≤ f + i) (h : spaceC s[i] = true) : toks s f i = toks s (f - 1) (i + 1) := by
  obtain ⟨g, rfl⟩ : ∃ g, f = g + 1 := ⟨f - 1, by omega⟩
  rw [toks, dif_pos hi, if_pos h]
  rfl
theorem toks_tok {s : ByteArray} {f i n : Nat} {kt : Int × ByteArray} (l : List (Int × ByteArray × Nat)) (hi : i < s.size) (hf : s.size + 1 ≤ f + i) (h : spaceC s[i] = false) (hn : nextP (s.extract i s.size) = (kt, n, true)) : preT l (toks s f i) = preT (l ++ [(kt.1, kt.2, i)]) (toks s (f - 1) (i + n)) := by
  obtain ⟨g, rfl⟩ : ∃ g, f = g + 1 := ⟨f - 1, by omega⟩
  rw [toks, dif_pos hi, if_neg (by rw [h]; decide), hn, Nat.add_sub_cancel]
  simp only
  cases toks s g (i + n) <;> simp [preT]
theorem toks_no {s : ByteArray} {f i n : Nat} {kt : Int × ByteArray} (hi : i < s.size) (hf : s.size + 1 ≤ f + i) (h : spaceC s[i] = false) (hn : nextP (s.extract i s.size) = (kt, n, false)) : toks s f i = .bad i := by
  obtain ⟨g, rfl⟩ : ∃ g, f = g + 1 := ⟨f - 1, by omega⟩
  rw [toks, dif_pos hi, if_neg (by rw [h]; decide), hn]
end Go.Proofs.YtppiaaolggpjdaaDoor
