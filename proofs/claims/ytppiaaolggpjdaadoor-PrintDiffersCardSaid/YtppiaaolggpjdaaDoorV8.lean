/- Valid values from the tape are written differently. No program is named here. -/
import Derived.Test.YtppiaaolggpjdaaDoorKV2b
namespace Go.Proofs.YtppiaaolggpjdaaDoor
open Go.RowKit

theorem ofNat_inj {a b : Nat} (ha : a < 256) (hb : b < 256) (h : UInt8.ofNat a = UInt8.ofNat b) : a = b := by
  have := congrArg UInt8.toNat h
  simpa [UInt8.toNat_ofNat', Nat.mod_eq_of_lt ha, Nat.mod_eq_of_lt hb] using this

theorem dec_range (u : Nat) : Lib.decDigits u ≠ [] ∧ ∀ c ∈ Lib.decDigits u, 48 ≤ c.toNat ∧ c.toNat ≤ 57 := by
  induction u using Nat.strongRecOn with
  | _ u ih =>
    rw [Lib.decDigits]
    split
    · refine ⟨by simp, fun c hc => ?_⟩
      rw [List.mem_singleton.1 hc, UInt8.toNat_ofNat', Nat.mod_eq_of_lt (by omega)]
      omega
    · refine ⟨by simp, fun c hc => ?_⟩
      rcases List.mem_append.1 hc with hc | hc
      · exact (ih (u / 10) (by omega)).2 c hc
      · rw [List.mem_singleton.1 hc, UInt8.toNat_ofNat', Nat.mod_eq_of_lt (by omega)]
        omega

theorem dec_big {u : Nat} (h : ¬ u < 10) : Lib.decDigits u = Lib.decDigits (u / 10) ++ [UInt8.ofNat (48 + u % 10)] := by rw [Lib.decDigits, dif_neg h]

theorem dec_inj (u : Nat) : ∀ v, Lib.decDigits u = Lib.decDigits v → u = v := by
  induction u using Nat.strongRecOn with
  | _ u ih =>
    intro v h
    by_cases hu : u < 10
    · by_cases hv : v < 10
      · rw [Lib.decDigits_one hu, Lib.decDigits_one hv] at h
        have := ofNat_inj (by omega) (by omega) (List.singleton_inj.1 h)
        omega
      · have h1 := congrArg List.length h
        rw [Lib.decDigits_length, Lib.decDigits_length, Lib.nDigits_small hu, Lib.nDigits_big hv] at h1
        have := Lib.nDigits_pos (v / 10)
        omega
    · by_cases hv : v < 10
      · have h1 := congrArg List.length h
        rw [Lib.decDigits_length, Lib.decDigits_length, Lib.nDigits_small hv, Lib.nDigits_big hu] at h1
        have := Lib.nDigits_pos (u / 10)
        omega
      · rw [dec_big hu, dec_big hv] at h
        obtain ⟨h1, h2⟩ := List.append_inj' h rfl
        have h3 := ih (u / 10) (by omega) (v / 10) h1
        have h4 := ofNat_inj (by omega) (by omega) (List.singleton_inj.1 h2)
        omega

theorem itoa_head (n : Int) : ∃ c r, Lib.itoa n = c :: r ∧ (c.toNat = 45 ∨ (48 ≤ c.toNat ∧ c.toNat ≤ 57)) := by
  unfold Lib.itoa
  split
  · exact ⟨45, _, rfl, .inl rfl⟩
  · obtain ⟨h1, h2⟩ := dec_range n.toNat
    cases h : Lib.decDigits n.toNat with
    | nil => exact absurd h h1
    | cons c r => exact ⟨c, r, rfl, .inr (h2 c (by rw [h]; exact List.mem_cons_self ..))⟩

theorem itoa_inj {n m : Int} (h : Lib.itoa n = Lib.itoa m) : n = m := by
  have hne : ∀ u v : Nat, (45 : UInt8) :: Lib.decDigits u ≠ Lib.decDigits v := by
    intro u v e
    have := (dec_range v).2 45 (by rw [← e]; exact List.mem_cons_self ..)
    simp at this
  unfold Lib.itoa at h
  split at h <;> split at h
  · have := dec_inj _ _ (List.cons.inj h).2
    omega
  · exact absurd h (hne _ _)
  · exact absurd h.symm (hne _ _)
  · have := dec_inj _ _ h
    omega

theorem valid_of {x : Val} (h : ValidVal x) : validV x = true := by
  have hw : ∀ i, i < 6 → plainB (wordAt i) = true := by decide +kernel
  have he : noText ⟨#[]⟩ = true := by decide +kernel
  obtain ⟨k, n, s⟩ := x
  unfold ValidVal at h
  simp only at h
  rcases h with ⟨rfl, rfl, rfl⟩ | ⟨rfl, _, rfl⟩ | ⟨rfl, h0, h1, rfl⟩ | ⟨rfl, rfl, i, hi, rfl⟩
  · simp [validV, he]
  · simp [validV, he]
  · have : n = 0 ∨ n = 1 := by omega
    simp [validV, he, this]
  · simp [validV, hw i hi]

theorem fmt_words : ∀ i, i < 6 → ∀ j, j < 6 → fmtV ⟨3, 0, wordAt i⟩ = fmtV ⟨3, 0, wordAt j⟩ → (wordAt i).data.toList = (wordAt j).data.toList := by decide +kernel
theorem fmt_head3 : ∀ i, i < 6 → (fmtV ⟨3, 0, wordAt i⟩).head? = some 39 := by decide +kernel

/-- The first byte tells the kind. -/
def headK (k : Int) (c : UInt8) : Prop := (k = 0 ∧ c.toNat = 78) ∨ (k = 1 ∧ (c.toNat = 45 ∨ (48 ≤ c.toNat ∧ c.toNat ≤ 57))) ∨ (k = 2 ∧ (c.toNat = 84 ∨ c.toNat = 70)) ∨ (k = 3 ∧ c.toNat = 39)

theorem fmt_head {x : Val} (h : ValidVal x) : ∃ c, (fmtV x).head? = some c ∧ headK x.kind c := by
  have hv := valid_of h
  obtain ⟨k, n, s⟩ := x
  unfold ValidVal at h
  simp only at h
  rcases h with ⟨rfl, rfl, rfl⟩ | ⟨rfl, _, rfl⟩ | ⟨rfl, h0, h1, rfl⟩ | ⟨rfl, rfl, i, hi, rfl⟩
  · exact ⟨78, by simp [fmtV, hv], .inl ⟨rfl, rfl⟩⟩
  · obtain ⟨c, r, hc, hr⟩ := itoa_head n
    exact ⟨c, by simp [fmtV, hv, hc], .inr (.inl ⟨rfl, hr⟩)⟩
  · by_cases h1 : n = 1
    · subst h1
      exact ⟨84, by simp [fmtV, hv], .inr (.inr (.inl ⟨rfl, .inl rfl⟩))⟩
    · exact ⟨70, by simp [fmtV, hv, h1], .inr (.inr (.inl ⟨rfl, .inr rfl⟩))⟩
  · exact ⟨39, fmt_head3 i hi, .inr (.inr (.inr ⟨rfl, rfl⟩))⟩

theorem fmt_inj {x y : Val} (hx : ValidVal x) (hy : ValidVal y) (h : fmtV x = fmtV y) : x = y := by
  obtain ⟨c, hc, kc⟩ := fmt_head hx
  obtain ⟨d, hd, kd⟩ := fmt_head hy
  rw [h, hd] at hc
  cases hc
  have hk : x.kind = y.kind := by unfold headK at kc kd; omega
  clear kc kd hd
  have vx := valid_of hx
  have vy := valid_of hy
  obtain ⟨k, n, s⟩ := x
  obtain ⟨k', n', s'⟩ := y
  simp only at hk
  subst hk
  unfold ValidVal at hx hy
  simp only at hx hy
  rcases hx with ⟨rfl, rfl, rfl⟩ | ⟨rfl, _, rfl⟩ | ⟨rfl, h0, h1, rfl⟩ | ⟨rfl, rfl, i, hi, rfl⟩
  · rcases hy with ⟨_, rfl, rfl⟩ | ⟨h, _⟩ | ⟨h, _⟩ | ⟨h, _⟩
    · rfl
    all_goals exact absurd h (by decide)
  · rcases hy with ⟨h, _⟩ | ⟨_, _, rfl⟩ | ⟨h, _⟩ | ⟨h, _⟩
    · exact absurd h (by decide)
    · simp [fmtV, vx, vy] at h
      rw [itoa_inj h]
    all_goals exact absurd h (by decide)
  · rcases hy with ⟨h, _⟩ | ⟨h, _⟩ | ⟨_, h2, h3, rfl⟩ | ⟨h, _⟩
    · exact absurd h (by decide)
    · exact absurd h (by decide)
    · have e1 : n = 0 ∨ n = 1 := by omega
      have e2 : n' = 0 ∨ n' = 1 := by omega
      rcases e1 with rfl | rfl <;> rcases e2 with rfl | rfl <;> first | rfl | (simp [fmtV, vx, vy] at h)
    · exact absurd h (by decide)
  · rcases hy with ⟨h, _⟩ | ⟨h, _⟩ | ⟨h, _⟩ | ⟨_, rfl, j, hj, rfl⟩
    · exact absurd h (by decide)
    · exact absurd h (by decide)
    · exact absurd h (by decide)
    · rw [bytes_ext (fmt_words i hi j hj h)]

theorem fmt_not63 {x : Val} (hx : ValidVal x) : fmtV x ≠ [63] := by
  intro h
  obtain ⟨c, hc, kc⟩ := fmt_head hx
  rw [h] at hc
  cases hc
  unfold headK at kc
  simp at kc

theorem txt_inj {a b : List UInt8} (h : txt a = txt b) : a = b := by
  have := congrArg (fun s : ByteArray => s.data.toList) h
  simpa [txt] using this

end Go.Proofs.YtppiaaolggpjdaaDoor
