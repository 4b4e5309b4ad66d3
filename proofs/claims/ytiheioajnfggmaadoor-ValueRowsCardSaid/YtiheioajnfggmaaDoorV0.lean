/- Values la plain data: which are valid, their order and their texts. No program is named here. -/
import Derived.Test.YtiheioajnfggmaaDoorB1
import Derived.Lib.Bytealg
import Derived.Lib.Small
import Derived.Lib.Replace
import Derived.Lib.ItoaMem
namespace Go.Proofs.YtiheioajnfggmaaDoor
open Go.RowKit

/-- An order la Go's comparing functions give it. -/
structure Ord3 {α : Type} (c : α → α → Int) : Prop where
  neg : ∀ a b, c a b = - c b a
  le : ∀ a b d, c a b ≤ 0 → c b d ≤ 0 → c a d ≤ 0
  eq : ∀ a b, c a b = 0 → a = b

section
variable {α β : Type} {c : α → α → Int} {d : β → β → Int}
theorem Ord3.refl (h : Ord3 c) (a : α) : c a a = 0 := by have := h.neg a a; omega
theorem Ord3.lt_le (h : Ord3 c) {a b e : α} (h1 : c a b < 0) (h2 : c b e ≤ 0) : c a e < 0 := by
  have h3 := h.le a b e (by omega) h2
  rcases Int.lt_or_eq_of_le h3 with h4 | h4
  · exact h4
  · have := h.eq _ _ h4
    subst this
    have := h.neg a b
    omega
theorem Ord3.le_lt (h : Ord3 c) {a b e : α} (h1 : c a b ≤ 0) (h2 : c b e < 0) : c a e < 0 := by
  have h3 := h.le a b e h1 (by omega)
  rcases Int.lt_or_eq_of_le h3 with h4 | h4
  · exact h4
  · have := h.eq _ _ h4
    subst this
    have := h.neg a b
    omega

/-- First by c, then by the rest. -/
def thenC (x y : Int) : Int := if x ≠ 0 then x else y

def lexC (c : α → α → Int) : List α → List α → Int
  | [], [] => 0
  | [], _ :: _ => -1
  | _ :: _, [] => 1
  | a :: la, b :: lb => thenC (c a b) (lexC c la lb)

theorem pairC (h : Ord3 c) (k : Ord3 d) : Ord3 fun (x y : α × β) => thenC (c x.1 y.1) (d x.2 y.2) where
  neg x y := by
    have h1 := h.neg x.1 y.1
    have h2 := k.neg x.2 y.2
    unfold thenC
    by_cases hz : c x.1 y.1 = 0
    · rw [if_neg (by omega), if_neg (by omega)]; exact h2
    · rw [if_pos hz, if_pos (by omega)]; exact h1
  le x y z h1 h2 := by
    unfold thenC at h1 h2 ⊢
    by_cases hz : c x.1 y.1 = 0
    · have he := h.eq _ _ hz
      rw [if_neg (by omega)] at h1
      by_cases hz2 : c y.1 z.1 = 0
      · have he2 := h.eq _ _ hz2
        rw [if_neg (by omega)] at h2
        rw [he, he2, h.refl, if_neg (by omega)]
        exact k.le _ _ _ h1 h2
      · rw [if_pos hz2] at h2
        rw [he, if_pos hz2]
        exact h2
    · rw [if_pos hz] at h1
      have h3 : c y.1 z.1 ≤ 0 := by
        by_cases hz2 : c y.1 z.1 = 0
        · omega
        · rw [if_pos hz2] at h2; exact h2
      have h4 := h.lt_le (show c x.1 y.1 < 0 by omega) h3
      rw [if_pos (by omega)]
      omega
  eq x y h1 := by
    unfold thenC at h1
    by_cases hz : c x.1 y.1 = 0
    · rw [if_neg (by omega)] at h1
      exact Prod.ext (h.eq _ _ hz) (k.eq _ _ h1)
    · rw [if_pos hz] at h1; omega

theorem lexC_neg (h : Ord3 c) : ∀ x y : List α, lexC c x y = - lexC c y x
  | [], [] => rfl
  | [], _ :: _ => rfl
  | _ :: _, [] => rfl
  | a :: la, b :: lb => by
    have h1 := h.neg a b
    have h2 := lexC_neg h la lb
    simp only [lexC, thenC]
    by_cases hz : c a b = 0
    · rw [if_neg (by omega), if_neg (by omega)]; exact h2
    · rw [if_pos hz, if_pos (by omega)]; exact h1
theorem lexC_eq (h : Ord3 c) : ∀ x y : List α, lexC c x y = 0 → x = y
  | [], [], _ => rfl
  | [], _ :: _, h1 => by simp [lexC] at h1
  | _ :: _, [], h1 => by simp [lexC] at h1
  | a :: la, b :: lb, h1 => by
    simp only [lexC, thenC] at h1
    by_cases hz : c a b = 0
    · rw [if_neg (by omega)] at h1
      rw [h.eq _ _ hz, lexC_eq h la lb h1]
    · rw [if_pos hz] at h1; omega
theorem lexC_le (h : Ord3 c) : ∀ x y z : List α, lexC c x y ≤ 0 → lexC c y z ≤ 0 → lexC c x z ≤ 0
  | [], _, [], _, _ => by simp [lexC]
  | [], _, _ :: _, _, _ => by simp [lexC]
  | _ :: _, [], _, h1, _ => by simp [lexC] at h1
  | _ :: _, _ :: _, [], _, h2 => by simp [lexC] at h2
  | a :: la, b :: lb, e :: es, h1, h2 => by
    simp only [lexC, thenC] at h1 h2 ⊢
    by_cases hz : c a b = 0
    · have he := h.eq _ _ hz
      rw [if_neg (by omega)] at h1
      by_cases hz2 : c b e = 0
      · have he2 := h.eq _ _ hz2
        rw [if_neg (by omega)] at h2
        rw [he, he2, h.refl, if_neg (by omega)]
        exact lexC_le h la lb es h1 h2
      · rw [if_pos hz2] at h2
        rw [he, if_pos hz2]
        exact h2
    · rw [if_pos hz] at h1
      have h3 : c b e ≤ 0 := by
        by_cases hz2 : c b e = 0
        · omega
        · rw [if_pos hz2] at h2; exact h2
      have h4 := h.lt_le (show c a b < 0 by omega) h3
      rw [if_pos (by omega)]
      omega
theorem lexOrd (h : Ord3 c) : Ord3 (lexC c) := ⟨lexC_neg h, lexC_le h, lexC_eq h⟩

theorem lexC_longer (h : Ord3 c) : ∀ (x : List α) (a : α), lexC c x (x ++ [a]) = -1
  | [], a => rfl
  | x :: xs, a => by
    simp only [List.cons_append, lexC, thenC]
    rw [h.refl, if_neg (by omega)]
    exact lexC_longer h xs a
end

theorem intOrd : Ord3 Lib.compareInt where
  neg a b := by unfold Lib.compareInt; split <;> split <;> (first | omega | (split <;> omega))
  le a b d h1 h2 := by
    unfold Lib.compareInt at h1 h2 ⊢
    split at h1 <;> split at h2 <;> (try split at h1) <;> (try split at h2) <;> split <;> (first | omega | (split <;> omega))
  eq a b h := by
    unfold Lib.compareInt at h
    split at h
    · omega
    · split at h <;> omega

def byteC (a b : UInt8) : Int := if a < b then -1 else if b < a then 1 else 0

theorem byteOrd : Ord3 byteC where
  neg a b := by
    unfold byteC
    simp only [UInt8.lt_iff_toNat_lt]
    split <;> split <;> (first | omega | (split <;> omega))
  le a b d h1 h2 := by
    unfold byteC at h1 h2 ⊢
    simp only [UInt8.lt_iff_toNat_lt] at h1 h2 ⊢
    split at h1 <;> split at h2 <;> (try split at h1) <;> (try split at h2) <;> split <;> (first | omega | (split <;> omega))
  eq a b h := by
    unfold byteC at h
    simp only [UInt8.lt_iff_toNat_lt] at h
    refine UInt8.toNat_inj.1 ?_
    split at h
    · omega
    · split at h <;> omega

theorem compareBytes_lex : ∀ a b : List UInt8, Lib.compareBytes a b = lexC byteC a b
  | [], [] => rfl
  | [], _ :: _ => rfl
  | _ :: _, [] => rfl
  | a :: la, b :: lb => by
    simp only [Lib.compareBytes, lexC, byteC, thenC]
    rw [compareBytes_lex la lb]
    split
    · rfl
    · split <;> rfl

theorem bytesOrd : Ord3 Lib.compareBytes := by
  have : Lib.compareBytes = lexC byteC := by funext a b; exact compareBytes_lex a b
  rw [this]
  exact lexOrd byteOrd

/-- The order of values. -/
def cmpV (a b : Val) : Int := thenC (Lib.compareInt a.kind b.kind) (thenC (Lib.compareInt a.int b.int) (Lib.compareBytes a.text.data.toList b.text.data.toList))

theorem bytes_ext {a b : ByteArray} (h : a.data.toList = b.data.toList) : a = b := by
  cases a; cases b
  simp only at h
  congr 1
  exact Array.toList_inj.1 h

theorem valOrd : Ord3 cmpV := by
  have h := pairC intOrd (pairC intOrd bytesOrd)
  refine ⟨fun a b => h.neg (a.kind, a.int, a.text.data.toList) (b.kind, b.int, b.text.data.toList), fun a b d => h.le (a.kind, a.int, a.text.data.toList) (b.kind, b.int, b.text.data.toList) (d.kind, d.int, d.text.data.toList), fun a b e => ?_⟩
  have := h.eq (a.kind, a.int, a.text.data.toList) (b.kind, b.int, b.text.data.toList) e
  simp only [Prod.mk.injEq] at this
  obtain ⟨h1, h2, h3⟩ := this
  cases a; cases b
  simp only at h1 h2 h3
  rw [h1, h2, bytes_ext h3]

theorem compareInt_range (a b : Int) : Lib.compareInt a b = -1 ∨ Lib.compareInt a b = 0 ∨ Lib.compareInt a b = 1 := by
  unfold Lib.compareInt
  split
  · simp
  · split <;> simp
theorem compareBytes_range : ∀ a b : List UInt8, Lib.compareBytes a b = -1 ∨ Lib.compareBytes a b = 0 ∨ Lib.compareBytes a b = 1
  | [], [] => by simp [Lib.compareBytes]
  | [], _ :: _ => by simp [Lib.compareBytes]
  | _ :: _, [] => by simp [Lib.compareBytes]
  | a :: la, b :: lb => by
    rw [Lib.compareBytes]
    split
    · simp
    · split
      · simp
      · exact compareBytes_range la lb
theorem cmpV_range (a b : Val) : cmpV a b = -1 ∨ cmpV a b = 0 ∨ cmpV a b = 1 := by
  unfold cmpV thenC
  have h1 := compareInt_range a.kind b.kind
  have h2 := compareInt_range a.int b.int
  have h3 := compareBytes_range a.text.data.toList b.text.data.toList
  split
  · exact h1
  · split
    · exact h2
    · exact h3

/-- Which texts a value may have. -/
def chrOk (c : UInt8) : Bool := decide (32 ≤ c.toNat) && decide (c.toNat ≤ 126)
def textOk (l : List UInt8) : Bool := l.all chrOk
def plainB (s : ByteArray) : Bool := textOk s.data.toList && decide (s.size ≤ 64)
def noText (s : ByteArray) : Bool := s.toList == []

def validV (v : Val) : Bool :=
  if v.kind = 0 then decide (v.int = 0) && noText v.text
  else if v.kind = 1 then noText v.text
  else if v.kind = 2 then (decide (v.int = 0) || decide (v.int = 1)) && noText v.text
  else if v.kind = 3 then decide (v.int = 0) && plainB v.text
  else false

/-- The text of a value. -/
def fmtV (v : Val) : List UInt8 :=
  if validV v = false then [63]
  else if v.kind = 0 then [78, 85, 76, 76]
  else if v.kind = 1 then Lib.itoa v.int
  else if v.kind = 2 then (if v.int = 1 then [84, 82, 85, 69] else [70, 65, 76, 83, 69])
  else 39 :: (Lib.replaceAll v.text.data.toList [39] [39, 39] ++ [39])

end Go.Proofs.YtiheioajnfggmaaDoor
