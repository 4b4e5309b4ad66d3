/- The tokens of the law's texts. -/
import Derived.Test.YtkhlmofcdchccaaGreatDoorP7x
import Derived.Test.YtkhlmofcdchccaaGreatDoorTA
namespace Go.Proofs.YtkhlmofcdchccaaGreatDoor
open Go.RowKit

theorem tw_a : TW ⟨#[97]⟩ 2 ⟨#[97]⟩ := .run _ 2 (by decide +kernel) (by decide +kernel) (by decide +kernel)
theorem tw_not : TW ⟨#[78, 79, 84]⟩ 1 ⟨#[78, 79, 84]⟩ := .run _ 1 (by decide +kernel) (by decide +kernel) (by decide +kernel)
theorem tw_sym (c : UInt8) (h : [c] ∈ symWords) : TW ⟨#[c]⟩ 5 ⟨#[c]⟩ := .sym _ h
theorem toks_none (s : ByteArray) (f i : Nat) (h : s.data.toList.drop i = []) (hf : s.size + 1 ≤ f + i) (hi : i ≤ s.size) : toks s f i = .ok [] := by
  have hz : s.size ≤ i := by
    have := congrArg List.length h
    simp only [List.length_drop, List.length_nil] at this
    have e := size_list s
    omega
  obtain ⟨f, rfl⟩ : ∃ g, f = g + 1 := ⟨f - 1, by omega⟩
  rw [toks, dif_neg (by omega)]
theorem sep_nil : sepH [] := fun c r h => by cases h
theorem sep_shut (m : Nat) : sepH (List.replicate m 41) := fun c r h => by
  cases m with
  | zero => cases h
  | succ m => rw [List.replicate_succ] at h; cases h; simp
theorem toks_shuts (s : ByteArray) : ∀ m p f, s.data.toList.drop p = List.replicate m 41 → s.size + 1 ≤ f + p → p ≤ s.size → toks s f p = .ok (rep 5 ⟨#[41]⟩ 1 m p [])
  | 0, p, f, hd, hf, hp => toks_none s f p hd hf hp
  | m + 1, p, f, hd, hf, hp => by
    obtain ⟨a, b, c⟩ := toks_word (tw_sym 41 (by decide)) (rest := List.replicate m 41) (.inr (.inr (sep_shut m))) (by rw [hd, List.replicate_succ]; rfl) hf
    have h1 : (⟨#[41]⟩ : ByteArray).size = 1 := rfl
    rw [h1] at a b c
    rw [a, toks_shuts s m (p + 1) (f - 1) b (by omega) c]
    rfl
theorem toks_a (s : ByteArray) (p f m : Nat) (hd : s.data.toList.drop p = 97 :: List.replicate m 41) (hf : s.size + 1 ≤ f + p) : toks s f p = .ok ((2, aS, p) :: rep 5 ⟨#[41]⟩ 1 m (p + 1) []) := by
  obtain ⟨a, b, c⟩ := toks_word tw_a (rest := List.replicate m 41) (.inr (.inr (sep_shut m))) (by rw [hd]; rfl) hf
  have h1 : (⟨#[97]⟩ : ByteArray).size = 1 := rfl
  rw [h1] at a b c
  rw [a, toks_shuts s m (p + 1) (f - 1) b (by omega) c]
  rfl
theorem toks_opens (s : ByteArray) (rest : List UInt8) (l : List Tok) : ∀ m p f, s.data.toList.drop p = List.replicate m 40 ++ rest → s.size + 1 ≤ f + p → (∀ f', s.size + 1 ≤ f' + (p + m) → toks s f' (p + m) = .ok l) → toks s f p = .ok (rep 5 ⟨#[40]⟩ 1 m p l)
  | 0, p, f, hd, hf, hl => hl f hf
  | m + 1, p, f, hd, hf, hl => by
    obtain ⟨a, b, c⟩ := toks_word (tw_sym 40 (by decide)) (rest := List.replicate m 40 ++ rest) (.inl rfl) (by rw [hd, List.replicate_succ]; rfl) hf
    have h1 : (⟨#[40]⟩ : ByteArray).size = 1 := rfl
    rw [h1] at a b c
    rw [a, toks_opens s rest l m (p + 1) (f - 1) b (by omega) (fun f' h => by have := hl f' (by omega); rwa [show p + 1 + m = p + (m + 1) by omega])]
    rfl
theorem toks_nots (s : ByteArray) (rest : List UInt8) (l : List Tok) : ∀ m p f, s.data.toList.drop p = (List.replicate m [78, 79, 84, 32]).flatten ++ rest → s.size + 1 ≤ f + p → (∀ f', s.size + 1 ≤ f' + (p + 4 * m) → toks s f' (p + 4 * m) = .ok l) → toks s f p = .ok (rep 1 ⟨#[78, 79, 84]⟩ 4 m p l)
  | 0, p, f, hd, hf, hl => hl f hf
  | m + 1, p, f, hd, hf, hl => by
    obtain ⟨a, b, c⟩ := toks_word tw_not (rest := 32 :: ((List.replicate m [78, 79, 84, 32]).flatten ++ rest)) (.inr (.inr fun c r h => by cases h; simp)) (by rw [hd, List.replicate_succ]; rfl) hf
    have h1 : (⟨#[78, 79, 84]⟩ : ByteArray).size = 3 := rfl
    rw [h1] at a b c
    obtain ⟨a', b', c'⟩ := toks_spaces s ((List.replicate m [78, 79, 84, 32]).flatten ++ rest) [32] (f - 1) (p + 3) (by decide) b (by omega)
    simp only [List.length_singleton] at a' b' c'
    have c'' := c' c
    rw [a, a', toks_nots s rest l m (p + 3 + 1) (f - 1 - 1) b' (by omega) (fun f' h => by have := hl f' (by omega); rwa [show p + 3 + 1 + 4 * m = p + 4 * (m + 1) by omega])]
    rfl
theorem toks_minus (s : ByteArray) (rest : List UInt8) (l : List Tok) : ∀ m p f, s.data.toList.drop p = (List.replicate m [45, 32]).flatten ++ rest → s.size + 1 ≤ f + p → (∀ f', s.size + 1 ≤ f' + (p + 2 * m) → toks s f' (p + 2 * m) = .ok l) → toks s f p = .ok (rep 5 ⟨#[45]⟩ 2 m p l)
  | 0, p, f, hd, hf, hl => hl f hf
  | m + 1, p, f, hd, hf, hl => by
    obtain ⟨a, b, c⟩ := toks_word (tw_sym 45 (by decide)) (rest := 32 :: ((List.replicate m [45, 32]).flatten ++ rest)) (.inr (.inr fun c r h => by cases h; simp)) (by rw [hd, List.replicate_succ]; rfl) hf
    have h1 : (⟨#[45]⟩ : ByteArray).size = 1 := rfl
    rw [h1] at a b c
    obtain ⟨a', b', c'⟩ := toks_spaces s ((List.replicate m [45, 32]).flatten ++ rest) [32] (f - 1) (p + 1) (by decide) b (by omega)
    simp only [List.length_singleton] at a' b' c'
    have c'' := c' c
    rw [a, a', toks_minus s rest l m (p + 1 + 1) (f - 1 - 1) b' (by omega) (fun f' h => by have := hl f' (by omega); rwa [show p + 1 + 1 + 2 * m = p + 2 * (m + 1) by omega])]
    rfl
/-- The law's texts. -/
def lvS (k n : Nat) : List UInt8 := if k = 0 then List.replicate n 40 ++ 97 :: List.replicate n 41 else if k = 1 then (List.replicate n [78, 79, 84, 32]).flatten ++ [97] else (List.replicate n [45, 32]).flatten ++ [97]
theorem drop_app {α : Type} (a b : List α) (n : Nat) (h : a.length = n) : (a ++ b).drop n = b := by rw [← h, List.drop_left]
theorem lv_toks (s : ByteArray) (k n : Nat) (hs : s.data.toList = lvS k n) : toks s (s.size + 1) 0 = .ok (lvToks k n) := by
  unfold lvS at hs
  unfold lvToks
  by_cases h0 : k = 0
  · rw [if_pos h0] at hs ⊢
    refine toks_opens s (97 :: List.replicate n 41) _ n 0 _ (by rw [hs]; rfl) (by omega) fun f' h => ?_
    rw [Nat.zero_add] at h ⊢
    exact toks_a s n f' n (by rw [hs]; exact drop_app _ _ _ (by simp)) h
  · rw [if_neg h0] at hs ⊢
    by_cases h1 : k = 1
    · rw [if_pos h1] at hs ⊢
      refine toks_nots s [97] _ n 0 _ (by rw [hs]; rfl) (by omega) fun f' h => ?_
      rw [Nat.zero_add] at h ⊢
      exact toks_a s (4 * n) f' 0 (by rw [hs]; exact drop_app _ _ _ (by simp; omega)) h
    · rw [if_neg h1] at hs ⊢
      refine toks_minus s [97] _ n 0 _ (by rw [hs]; rfl) (by omega) fun f' h => ?_
      rw [Nat.zero_add] at h ⊢
      exact toks_a s (2 * n) f' 0 (by rw [hs]; exact drop_app _ _ _ (by simp; omega)) h
end Go.Proofs.YtkhlmofcdchccaaGreatDoor
