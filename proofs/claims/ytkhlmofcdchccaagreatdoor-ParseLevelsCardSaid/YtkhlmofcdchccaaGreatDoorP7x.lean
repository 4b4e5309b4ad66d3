/- Nested brackets, negations and signs: what reading an expression of them leaves. -/
import Derived.Test.YtkhlmofcdchccaaGreatDoorP6x
namespace Go.Proofs.YtkhlmofcdchccaaGreatDoor
open Go.RowKit Go.Maps

def aS : ByteArray := ⟨#[97]⟩
def isT (t : Tok) (s : ByteArray) : Bool := (t.1 == 1 || t.1 == 5) && (t.2.1.toList == s.toList)
theorem isB_cons (s : ByteArray) (t : Tok) (l : List Tok) : isB s (t :: l) = isT t s := rfl
theorem clo_nil : Clo [] := fun s _ => by unfold isB hdT; rfl
def opKeys : List ByteArray := [⟨#[46]⟩, ⟨#[42]⟩, ⟨#[47]⟩, ⟨#[37]⟩, ⟨#[43]⟩, ⟨#[45]⟩, ⟨#[73, 83]⟩, ⟨#[66, 69, 84, 87, 69, 69, 78]⟩, ⟨#[62, 61]⟩, ⟨#[62]⟩, ⟨#[60, 61]⟩, ⟨#[60]⟩, ⟨#[60, 62]⟩, ⟨#[61]⟩, ⟨#[65, 78, 68]⟩, ⟨#[79, 82]⟩]
theorem clo_cons {k : Int} {x : ByteArray} {i : Nat} {l : List Tok} (h : ∀ s ∈ opKeys, ((k == 1 || k == 5) && (x.toList == s.toList)) = false) : Clo ((k, x, i) :: l) := fun s hs => h s hs
theorem clo_shut (i : Nat) (l : List Tok) : Clo ((5, ⟨#[41]⟩, i) :: l) := clo_cons (by decide +kernel)
theorem name_not {k : Nat} {s x : ByteArray} {l : List Tok} : isB s ((2, x, k) :: l) = false := rfl

/-- From an operand on, where no operator comes next. -/
theorem Clo.at {l : List Tok} (h : Clo l) {s : ByteArray} (hs : s ∈ opKeys) : isB s l = false := h s hs
theorem up_factor {R : Nat} {en lev : Int} {l : List Tok} {o : POut} (hf : Reads 234 R en lev l o) (hc : ∀ x l', o = .ok x l' → Clo l') : Reads 152 R en lev l o :=
  cmp_reads R en lev l o (sum_reads R en lev l o (product_reads R en lev l o hf fun x l' h s hs => (hc x l' h).at (by simp [opKeys] at hs ⊢; rcases hs with rfl | rfl | rfl <;> simp)) fun x l' h s hs => (hc x l' h).at (by simp [opKeys] at hs ⊢; rcases hs with rfl | rfl <;> simp)) hc
theorem up_neg {R : Nat} {en lev : Int} {l : List Tok} {o : POut} (hf : Reads 99 R en lev l o) (hc : ∀ x l', o = .ok x l' → Clo l') : Reads 23 R en lev l o :=
  expr_reads R en lev l o (conj_reads R en lev l o hf fun x l' h s hs => (hc x l' h).at (by simp [opKeys] at hs ⊢; subst hs; simp)) fun x l' h s hs => (hc x l' h).at (by simp [opKeys] at hs ⊢; subst hs; simp)
theorem up_all {R : Nat} {en lev : Int} {l : List Tok} {o : POut} (hf : Reads 247 R en lev l o) (h1 : isB ⟨#[45]⟩ l = false) (h2 : isB ⟨#[78, 79, 84]⟩ l = false) (hc : ∀ x l', o = .ok x l' → Clo l') : Reads 23 R en lev l o :=
  up_neg (neg_no R en lev l o (up_factor (factor_no R en lev l o hf h1) hc) h2) hc

/-- m tokens of one kind, from a place on, 'step' bytes apart. -/
def rep (k : Int) (s : ByteArray) (step : Nat) : Nat → Nat → List Tok → List Tok
  | 0, _, r => r
  | m + 1, p, r => (k, s, p) :: rep k s step m (p + step) r
theorem rep_snoc (k : Int) (s : ByteArray) (step : Nat) : ∀ (m p : Nat) (r : List Tok), rep k s step (m + 1) p r = rep k s step m p ((k, s, p + m * step) :: r)
  | 0, p, r => by simp [rep]
  | m + 1, p, r => by
    have := rep_snoc k s step m (p + step) r
    rw [rep, this, rep, show p + step + m * step = p + (m + 1) * step by rw [Nat.add_mul]; omega]
def unN (k : Int) : Nat → Ex → Ex
  | 0, x => x
  | m + 1, x => exUn k (unN k m x)
def lvOut (k : Int) (step m p : Nat) (lev : Nat) (r : List Tok) : POut := if m + lev ≤ 12 then .ok (unN k m (exCol aS)) r else .fail ((p + step * (12 - lev) : Nat) : Int) 2

theorem rep_clo {m q : Nat} {r : List Tok} (h : Clo r) : Clo (rep 5 ⟨#[41]⟩ 1 m q r) := by
  cases m with
  | zero => exact h
  | succ m => exact clo_shut _ _
theorem rep_head {m p q : Nat} {r : List Tok} {s : ByteArray} (h : ((⟨#[40]⟩ : ByteArray).toList == s.toList) = false) : isB s (rep 5 ⟨#[40]⟩ 1 m p ((2, aS, q) :: r)) = false := by
  cases m with
  | zero => rfl
  | succ m => exact par_is h

theorem sym_is {k : Int} {s : ByteArray} {i : Nat} {l : List Tok} (h : (k == 1 || k == 5) = true) : isB s ((k, s, i) :: l) = true := by
  show ((k == 1 || k == 5) && (s.toList == s.toList)) = true
  rw [h]; simp
theorem shut_is {i : Nat} {l : List Tok} : isB ⟨#[41]⟩ ((5, ⟨#[41]⟩, i) :: l) = true := sym_is rfl
theorem sym_no {k : Int} {s x : ByteArray} {i : Nat} {l : List Tok} (h : (s.toList == x.toList) = false) : isB x ((k, s, i) :: l) = false := by
  show ((k == 1 || k == 5) && (s.toList == x.toList)) = false
  rw [h, Bool.and_false]
/-- Brackets. -/
theorem par_reads (R : Nat) (en : Int) : ∀ (m lev p a q : Nat) (r : List Tok), Clo r → lev ≤ 12 → Reads 23 R en lev (rep 5 ⟨#[40]⟩ 1 m p ((2, aS, a) :: rep 5 ⟨#[41]⟩ 1 m q r)) (if m + lev ≤ 12 then .ok (exCol aS) r else .fail ((p + (12 - lev) : Nat) : Int) 2)
  | 0, lev, p, a, q, r, hr, hl => by
    rw [if_pos (by omega)]
    exact up_all (primary_name R en lev aS a r (hr.at (by simp [opKeys]))) rfl rfl fun x l' h => by cases h; exact hr
  | m + 1, lev, p, a, q, r, hr, hl => by
    have h1 : isB ⟨#[45]⟩ (rep 5 ⟨#[40]⟩ 1 (m + 1) p ((2, aS, a) :: rep 5 ⟨#[41]⟩ 1 (m + 1) q r)) = false := rep_head (by decide +kernel)
    have h2 : isB ⟨#[78, 79, 84]⟩ (rep 5 ⟨#[40]⟩ 1 (m + 1) p ((2, aS, a) :: rep 5 ⟨#[41]⟩ 1 (m + 1) q r)) = false := rep_head (by decide +kernel)
    have hsel : isB ⟨#[83, 69, 76, 69, 67, 84]⟩ (rep 5 ⟨#[40]⟩ 1 m (p + 1) ((2, aS, a) :: rep 5 ⟨#[41]⟩ 1 (m + 1) q r)) = false := rep_head (by decide +kernel)
    by_cases hd : lev < 12
    · have ih := par_reads R en m (lev + 1) (p + 1) a q ((5, ⟨#[41]⟩, q + m * 1) :: r) (clo_shut _ _) (by omega)
      rw [← rep_snoc] at ih
      by_cases hm : m + 1 + lev ≤ 12
      · rw [if_pos (by omega)] at ih ⊢
        exact up_all (primary_par R en lev p _ _ ih hsel (fun x l' h => by cases h; exact ⟨_, _, rfl, shut_is⟩) (by omega) (by omega)) h1 h2 fun x l' h => by cases h; exact hr
      · rw [if_neg (by omega)] at ih ⊢
        rw [show p + (12 - lev) = p + 1 + (12 - (lev + 1)) by omega]
        exact up_all (primary_par R en lev p _ _ ih hsel (fun x l' h => by cases h) (by omega) (by omega)) h1 h2 fun x l' h => by cases h
    · rw [if_neg (by omega), show p + (12 - lev) = p by omega]
      exact up_all (primary_deep R en lev p _ (by omega)) h1 h2 fun x l' h => by cases h

/-- Negations. -/
theorem not_reads (R : Nat) (en : Int) : ∀ (m lev p a : Nat) (r : List Tok), Clo r → lev ≤ 12 → Reads 99 R en lev (rep 1 ⟨#[78, 79, 84]⟩ 4 m p ((2, aS, a) :: r)) (lvOut 3 4 m p lev r)
  | 0, lev, p, a, r, hr, hl => by
    unfold lvOut
    rw [if_pos (by omega)]
    exact neg_no R en lev _ _ (up_factor (factor_no R en lev _ _ (primary_name R en lev aS a r (hr.at (by simp [opKeys]))) rfl) fun x l' h => by cases h; exact hr) rfl
  | m + 1, lev, p, a, r, hr, hl => by
    by_cases hd : lev < 12
    · have ih := not_reads R en m (lev + 1) (p + 4) a r hr (by omega)
      have hy := neg_yes R en lev (1, ⟨#[78, 79, 84]⟩, p) _ _ ih (sym_is rfl) (by omega) (by omega)
      unfold lvOut at hy ⊢
      by_cases hm : m + 1 + lev ≤ 12
      · rw [if_pos (by omega)] at hy ⊢
        exact hy
      · rw [if_neg (by omega)] at hy ⊢
        rw [show p + 4 * (12 - lev) = p + 4 + 4 * (12 - (lev + 1)) by omega]
        exact hy
    · unfold lvOut
      rw [if_neg (by omega), show p + 4 * (12 - lev) = p by omega]
      exact neg_deep R en lev (1, ⟨#[78, 79, 84]⟩, p) _ (sym_is rfl) (by omega)

/-- Signs. -/
theorem minus_reads (R : Nat) (en : Int) : ∀ (m lev p a : Nat) (r : List Tok), Clo r → lev ≤ 12 → Reads 234 R en lev (rep 5 ⟨#[45]⟩ 2 m p ((2, aS, a) :: r)) (lvOut 4 2 m p lev r)
  | 0, lev, p, a, r, hr, hl => by
    unfold lvOut
    rw [if_pos (by omega)]
    exact factor_no R en lev _ _ (primary_name R en lev aS a r (hr.at (by simp [opKeys]))) rfl
  | m + 1, lev, p, a, r, hr, hl => by
    by_cases hd : lev < 12
    · have ih := minus_reads R en m (lev + 1) (p + 2) a r hr (by omega)
      have hy := factor_yes R en lev (5, ⟨#[45]⟩, p) _ _ ih (sym_is rfl) (by omega) (by omega)
      unfold lvOut at hy ⊢
      by_cases hm : m + 1 + lev ≤ 12
      · rw [if_pos (by omega)] at hy ⊢
        exact hy
      · rw [if_neg (by omega)] at hy ⊢
        rw [show p + 2 * (12 - lev) = p + 2 + 2 * (12 - (lev + 1)) by omega]
        exact hy
    · unfold lvOut
      rw [if_neg (by omega), show p + 2 * (12 - lev) = p by omega]
      exact factor_deep R en lev (5, ⟨#[45]⟩, p) _ (sym_is rfl) (by omega)

/-- The three kinds of tokens, and what reading them leaves. -/
def lvToks (k n : Nat) : List Tok :=
  if k = 0 then rep 5 ⟨#[40]⟩ 1 n 0 ((2, aS, n) :: rep 5 ⟨#[41]⟩ 1 n (n + 1) []) else if k = 1 then rep 1 ⟨#[78, 79, 84]⟩ 4 n 0 [(2, aS, 4 * n)] else rep 5 ⟨#[45]⟩ 2 n 0 [(2, aS, 2 * n)]
def lvStep (k : Nat) : Nat := if k = 0 then 1 else if k = 1 then 4 else 2
def lvEx (k n : Nat) : Ex := if k = 0 then exCol aS else if k = 1 then unN 3 n (exCol aS) else unN 4 n (exCol aS)
theorem lv_reads (R : Nat) (en : Int) (k n : Nat) : Reads 23 R en 0 (lvToks k n) (if n ≤ 12 then .ok (lvEx k n) [] else .fail ((12 * lvStep k : Nat) : Int) 2) := by
  unfold lvToks lvStep lvEx
  by_cases h0 : k = 0
  · rw [if_pos h0, if_pos h0, if_pos h0]
    exact par_reads R en n 0 0 n (n + 1) [] clo_nil (by omega)
  · rw [if_neg h0, if_neg h0, if_neg h0]
    by_cases h1 : k = 1
    · rw [if_pos h1, if_pos h1, if_pos h1]
      have h := not_reads R en n 0 0 (4 * n) [] clo_nil (by omega)
      unfold lvOut at h
      refine up_neg h fun x l' h => ?_
      split at h
      · cases h; exact clo_nil
      · cases h
    · rw [if_neg h1, if_neg h1, if_neg h1]
      have h := minus_reads R en n 0 0 (2 * n) [] clo_nil (by omega)
      unfold lvOut at h
      have hh : ∀ x l', (if n + 0 ≤ 12 then POut.ok (unN 4 n (exCol aS)) [] else .fail ((0 + 2 * (12 - 0) : Nat) : Int) 2) = .ok x l' → Clo l' := fun x l' h => by
        split at h
        · cases h; exact clo_nil
        · cases h
      refine up_neg (neg_no R en _ _ _ (up_factor h hh) ?_) hh
      cases n with
      | zero => rfl
      | succ n => exact sym_no (by decide +kernel)
end Go.Proofs.YtkhlmofcdchccaaGreatDoor
