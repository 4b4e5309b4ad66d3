/- The tokens of a text that words make, all of them; numbers that are written are read back. No program is named here. -/
import Derived.Test.YtppiaaolggpjdaaDoorQ1
import Derived.Test.YtppiaaolggpjdaaDoorV8
namespace Go.Proofs.YtppiaaolggpjdaaDoor
open Go.RowKit

def TRel : List ByteArray → List (Int × ByteArray × Nat) → Prop
  | [], [] => True
  | w :: ws, x :: l => TW w x.1 x.2.1 ∧ TRel ws l
  | _, _ => False

theorem tw_head {w t : ByteArray} {k : Int} (h : TW w k t) : ∃ c r, w.data.toList = c :: r ∧ spaceC c = false := by
  cases h with
  | run _ _ h0 ha hr =>
    cases hw : w.data.toList with
    | nil => exact absurd hw h0
    | cons c r =>
      have hc := ha c (by rw [hw]; simp)
      refine ⟨c, r, rfl, ?_⟩
      have : ∀ n : Fin 256, runC (UInt8.ofNat n.1) = true → spaceC (UInt8.ofNat n.1) = false := by decide +kernel
      have e : UInt8.ofNat c.toNat = c := by simp
      have := this ⟨c.toNat, c.toNat_lt⟩
      rw [e] at this
      exact this hc
  | sym _ h =>
    generalize w.data.toList = l at h
    simp only [symWords, List.mem_cons, List.not_mem_nil, or_false] at h
    rcases h with rfl | rfl | rfl | rfl | rfl | rfl | rfl | rfl | rfl | rfl | rfl | rfl | rfl | rfl | rfl | rfl <;> exact ⟨_, _, rfl, by decide⟩
  | txt t h => exact ⟨39, _, by simp [bs]; rfl, by decide⟩

theorem contains_head {c : UInt8} {r : List UInt8} (h : Lib.contains [44, 59, 46, 41] (c :: r) = true) : c = 44 ∨ c = 59 ∨ c = 46 ∨ c = 41 := by
  unfold Lib.contains at h
  rcases Lib.index_spec [44, 59, 46, 41] (c :: r) with ⟨e, _⟩ | ⟨i, e, hi, ho, _⟩
  · rw [e] at h
    exact absurd h (by decide)
  · unfold Lib.occAt at ho
    match i, hi with
    | 0, _ => simp [List.isPrefixOf] at ho; exact .inl ho.1
    | 1, _ => simp [List.isPrefixOf] at ho; exact .inr (.inl ho.1)
    | 2, _ => simp [List.isPrefixOf] at ho; exact .inr (.inr (.inl ho.1))
    | 3, _ => simp [List.isPrefixOf] at ho; exact .inr (.inr (.inr ho.1))
    | 4, _ => simp at ho
    | n + 5, h => simp at h

theorem join_sep {w : ByteArray} {ws : List ByteArray} (h1 : w ≠ kOpen) (h2 : w ≠ kDot) (hne : ∀ x ∈ ws, x.data.toList ≠ []) : sepH (joinL (some w) ws) := by
  cases ws with
  | nil => intro c r h; cases h
  | cons t l =>
    intro c r h
    rw [joinL] at h
    by_cases hg : glueB (some w) t = true
    · rw [if_pos hg] at h
      left
      have := congrArg List.head? h
      simpa using this.symm
    · rw [if_neg hg] at h
      right
      have e1 : ¬ w.toList = [40] := fun e => h1 (bytes_ext (by rw [ByteArray.toList_eq] at e; rw [e]; rfl))
      have e2 : ¬ w.toList = [46] := fun e => h2 (bytes_ext (by rw [ByteArray.toList_eq] at e; rw [e]; rfl))
      simp only [glueB, Bool.and_eq_true, Bool.not_eq_true', beq_eq_false_iff_ne, ne_eq, e1, e2, not_false_iff, and_true, Bool.not_eq_false] at hg
      cases ht : t.data.toList with
      | nil => exact absurd ht (hne t (by simp))
      | cons d x =>
        rw [ht] at hg h
        have := congrArg List.head? h
        simp at this
        subst this
        exact contains_head hg

theorem toks_word {s w t : ByteArray} {k : Int} {rest : List UInt8} {f j : Nat} (hw : TW w k t) (hs : w = kOpen ∨ w = kDot ∨ sepH rest) (hd : s.data.toList.drop j = w.data.toList ++ rest) (hf : s.size + 1 ≤ f + j) :
    toks s f j = preT [(k, t, j)] (toks s (f - 1) (j + w.size)) ∧ s.data.toList.drop (j + w.size) = rest ∧ j + w.size ≤ s.size := by
  obtain ⟨c, r, hc, hsp⟩ := tw_head hw
  have hlt : j < s.size := by
    rcases Nat.lt_or_ge j s.size with h | h
    · exact h
    · rw [List.drop_of_length_le (by simpa using h), hc] at hd
      cases hd
  have hcs : s[j] = c := by
    rw [drop_cons hlt, hc] at hd
    exact (List.cons.inj hd).1
  have hx : (s.extract j s.size).data.toList = w.data.toList ++ rest := by
    rw [Lib.extract_data, List.take_of_length_le (by simp), hd]
  have hn := next_tw hw hs hx
  have h1 := toks_tok [] hlt hf (by rw [hcs]; exact hsp) hn
  refine ⟨by rw [preT_nil] at h1; simpa using h1, ?_, ?_⟩
  · rw [← List.drop_drop, hd, size_list, List.drop_left]
  · have := congrArg List.length hd
    simp only [List.length_drop, List.length_append] at this
    rw [size_list]
    have hz := size_list s
    omega

theorem toks_join (s : ByteArray) : ∀ (ws : List ByteArray) (p : Option ByteArray) (i f : Nat), s.data.toList.drop i = joinL p ws → i ≤ s.size → (∀ w ∈ ws, ∃ k t, TW w k t) → s.size + 1 ≤ f + i → ∃ l, toks s f i = .ok l ∧ TRel ws l
  | [], p, i, f, hd, hi, _, hf => by
    rw [joinL] at hd
    have := congrArg List.length hd
    simp at this
    exact ⟨[], toks_end (by omega), trivial⟩
  | w :: ws, p, i, f, hd, hi, hw, hf => by
    obtain ⟨k, t, hk⟩ := hw w (by simp)
    have hne : ∀ x ∈ ws, x.data.toList ≠ [] := fun x hx => by
      obtain ⟨k, t, h⟩ := hw x (by simp [hx])
      obtain ⟨c, r, hc, _⟩ := tw_head h
      rw [hc]
      exact List.cons_ne_nil _ _
    have hs : w = kOpen ∨ w = kDot ∨ sepH (joinL (some w) ws) := by
      by_cases h1 : w = kOpen
      · exact .inl h1
      · by_cases h2 : w = kDot
        · exact .inr (.inl h2)
        · exact .inr (.inr (join_sep h1 h2 hne))
    have step : ∀ j g, s.data.toList.drop j = w.data.toList ++ joinL (some w) ws → s.size + 1 ≤ g + j → ∃ l, toks s g j = .ok l ∧ TRel (w :: ws) l := by
      intro j g hd hg
      obtain ⟨h1, h2, h3⟩ := toks_word hk hs hd hg
      obtain ⟨c, r, hc, _⟩ := tw_head hk
      have hpos : 0 < w.size := by rw [size_list, hc]; simp
      obtain ⟨l, hl, hr⟩ := toks_join s ws (some w) (j + w.size) (g - 1) h2 h3 (fun x hx => hw x (by simp [hx])) (by omega)
      exact ⟨(k, t, j) :: l, by rw [h1, hl]; rfl, hk, hr⟩
    rw [joinL] at hd
    by_cases hg : glueB p w = true
    · rw [if_pos hg] at hd
      have hlt : i < s.size := by
        rcases Nat.lt_or_ge i s.size with h | h
        · exact h
        · rw [List.drop_of_length_le (by simpa using h)] at hd
          cases hd
      have hd' := hd
      rw [drop_cons hlt] at hd'
      have e1 : s[i] = 32 := (List.cons.inj hd').1
      have e2 : s.data.toList.drop (i + 1) = w.data.toList ++ joinL (some w) ws := (List.cons.inj hd').2
      rw [toks_space hlt hf (by rw [e1]; decide)]
      exact step (i + 1) (f - 1) e2 (by omega)
    · rw [if_neg hg, List.nil_append] at hd
      exact step i f hd hf

/-- The tokens of a text that words make. -/
theorem toks_words (ws : List ByteArray) (hw : ∀ w ∈ ws, ∃ k t, TW w k t) : ∃ l, toks (bs (joinL none ws)) ((bs (joinL none ws)).size + 1) 0 = .ok l ∧ TRel ws l :=
  toks_join _ ws none 0 _ rfl (Nat.zero_le _) hw (Nat.le_refl _)

theorem parseM_snoc (M : Nat) (c : UInt8) : ∀ (l : List UInt8) (acc a : Nat), Lib.parseUintM M acc l = .ok a → Lib.parseUintM M acc (l ++ [c]) = Lib.parseUintM M a [c]
  | [], acc, a, h => by
    simp only [Lib.parseUintM] at h
    injection h with h
    subst h
    rfl
  | d :: l, acc, a, h => by
    rw [List.cons_append]
    unfold Lib.parseUintM at h ⊢
    split
    · rename_i hd
      rw [if_pos hd] at h
      split
      · rename_i h1
        rw [if_pos h1] at h
        cases h
      · rename_i h1
        rw [if_neg h1] at h
        split
        · rename_i h2
          rw [if_pos h2] at h
          cases h
        · rename_i h2
          rw [if_neg h2] at h
          have := parseM_snoc M c l _ _ h
          rw [this]
          rfl
    · rename_i hd
      rw [if_neg hd] at h
      cases h
theorem parseM_dec (M : Nat) (hM : M ≤ 18446744073709551615) (u : Nat) : u ≤ M → Lib.parseUintM M 0 (Lib.decDigits u) = .ok u := by
  induction u using Nat.strongRecOn with
  | _ u ih =>
    intro hu
    have hdig : ∀ v, v < 10 → (UInt8.ofNat (48 + v)).toNat = 48 + v := fun v hv => by rw [UInt8.toNat_ofNat', Nat.mod_eq_of_lt (by omega)]
    by_cases h10 : u < 10
    · rw [Lib.decDigits_one h10]
      simp only [Lib.parseUintM, hdig u h10]
      rw [if_pos ⟨by omega, by omega⟩, if_neg (by omega), if_neg (by omega)]
      congr 1
      omega
    · rw [dec_big h10, parseM_snoc M _ _ _ _ (ih (u / 10) (by omega) (by omega))]
      simp only [Lib.parseUintM, hdig (u % 10) (by omega)]
      rw [if_pos ⟨by omega, by omega⟩, if_neg (by omega), if_neg (by omega)]
      congr 1
      omega
theorem parseIntB_itoa {n : Int} (h0 : 0 ≤ n) (h1 : n ≤ 9223372036854775807) : Lib.parseIntB 64 (Lib.itoa n) = .ok n := by
  obtain ⟨u, rfl⟩ := Int.eq_ofNat_of_zero_le h0
  have hi : Lib.itoa (u : Int) = Lib.decDigits u := by unfold Lib.itoa; rw [if_neg (by omega)]; rfl
  rw [hi]
  obtain ⟨hne, hr⟩ := dec_range u
  cases hd : Lib.decDigits u with
  | nil => exact absurd hd hne
  | cons c r =>
    have hc := hr c (by rw [hd]; simp)
    have hp := parseM_dec 18446744073709551615 (by omega) u (by omega)
    simp only [Lib.parseIntB]
    rw [if_neg (by omega : ¬ (c.toNat = 43 ∨ c.toNat = 45))]
    have hb : Lib.parseUintB 64 (c :: r) = .ok u := by
      unfold Lib.parseUintB
      rw [if_neg (List.cons_ne_nil _ _), ← hd]
      exact hp
    rw [hb]
    simp only
    rw [if_neg (by omega), if_neg (by omega), if_neg (by omega)]
end Go.Proofs.YtppiaaolggpjdaaDoor
