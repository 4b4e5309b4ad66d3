/- What a text's tokens are. No program is named here. -/
import Derived.Test.YtppiaaolggpjdaaDoorKN0
import Derived.Test.YtppiaaolggpjdaaDoorKV1
import Derived.Lib.ParseIntBTie
namespace Go.Proofs.YtppiaaolggpjdaaDoor
open Go.RowKit

def digC (c : UInt8) : Bool := decide (48 ≤ c.toNat) && decide (c.toNat ≤ 57)
def runC (c : UInt8) : Bool := (decide (97 ≤ c.toNat) && decide (c.toNat ≤ 122)) || (decide (65 ≤ c.toNat) && decide (c.toNat ≤ 90)) || digC c || c.toNat == 95

def kwL : List (List UInt8) := ["ABORT", "AFTER", "AND", "BEFORE", "BEGIN", "BETWEEN", "BOOL", "COUNT", "CREATE", "DELETE", "DELETED", "DROP", "EACH", "END", "EXISTS", "FALSE", "FOLLOWS", "FOR", "FROM", "INSERT", "INSERTED", "INT", "INTO", "IS", "KEY", "MAX", "MIN", "NEW", "NOT", "NULL", "OF", "OLD", "ON", "OR", "PRECEDES", "PRIMARY", "RANK", "ROW", "SELECT", "SET", "STATEMENT", "SUM", "TABLE", "TEXT", "TO", "TRIGGER", "TRUE", "UPDATE", "VALUES", "WHEN", "WHERE"].map fun s => s.toUTF8.data.toList

/-- A token: kind and text; none if the run is none. -/
def runP (s : ByteArray) : Option (Int × ByteArray) :=
  if kwL.contains s.data.toList = true then some (1, s)
  else if nameB s = true then some (2, s)
  else match Lib.parseIntB 64 s.data.toList with
    | .ok n => if (s.data.toList.head?.any digC) = true ∧ Lib.itoa n = s.data.toList then some (3, s) else none
    | _ => none

/-- The text in quotes: what stands behind the first quote; its bytes and the place behind its last quote. -/
def quotedL : List UInt8 → Nat → List UInt8 → Option (List UInt8 × Nat)
  | [], _, _ => none
  | [c], i, acc => if c.toNat = 39 then some (acc, i + 1) else none
  | c :: d :: l, i, acc => if c.toNat = 39 then (if d.toNat = 39 then quotedL l (i + 2) (acc ++ [39]) else some (acc, i + 1)) else quotedL (d :: l) (i + 1) (acc ++ [c])

def symL : List UInt8 := "(),;.*+-/%=<>".toUTF8.data.toList
def symP (u : ByteArray) : Nat :=
  if 2 ≤ u.size ∧ (u.extract 0 2 = "<>".toUTF8 ∨ u.extract 0 2 = "<=".toUTF8 ∨ u.extract 0 2 = ">=".toUTF8) then 2 else if (u.data.toList.head?.any fun c => symL.contains c) = true then 1 else 0

/-- How many bytes of a run come first. -/
def runN (l : List UInt8) : Nat := (l.takeWhile runC).length

/-- The token that begins a text: kind and text, its length, whether it is one. -/
def nextP (u : ByteArray) : (Int × ByteArray) × Nat × Bool :=
  match u.data.toList with
  | [] => ((0, ⟨#[]⟩), 0, false)
  | c :: l =>
    if c.toNat = 39 then match quotedL l 1 [] with
      | some (t, n) => ((4, ⟨t.toArray⟩), n, plainB ⟨t.toArray⟩)
      | none => ((0, ⟨#[]⟩), 0, false)
    else if runC c = true then match runP (u.extract 0 (runN (c :: l))) with
      | some kt => (kt, runN (c :: l), true)
      | none => ((0, ⟨#[]⟩), runN (c :: l), false)
    else ((5, u.extract 0 (symP u)), symP u, decide (0 < symP u))

def spaceC (c : UInt8) : Bool := c.toNat == 32 || c.toNat == 9 || c.toNat == 10

inductive TR where
  | ok (l : List (Int × ByteArray × Nat))
  | bad (i : Nat)
  deriving DecidableEq

/-- A text's tokens from a place on: kind, text, place; or the place of an error. -/
def toks (s : ByteArray) : Nat → Nat → TR
  | 0, _ => .ok []
  | f + 1, i => if h : i < s.size then
      if spaceC s[i] = true then toks s f (i + 1)
      else match nextP (s.extract i s.size) with
        | (kt, n, true) => match toks s f (i + n) with
          | .ok l => .ok ((kt.1, kt.2, i) :: l)
          | .bad e => .bad e
        | (_, _, false) => .bad i
    else .ok []

theorem quotedL_le : ∀ (l : List UInt8) (i : Nat) (acc : List UInt8) (t : List UInt8) (n : Nat), quotedL l i acc = some (t, n) → i < n ∧ n ≤ i + l.length
  | [], _, _, _, _, h => by cases h
  | [c], i, acc, t, n, h => by
    unfold quotedL at h
    split at h
    · cases h; simp
    · cases h
  | c :: d :: l, i, acc, t, n, h => by
    unfold quotedL at h
    split at h
    · split at h
      · have := quotedL_le l _ _ _ _ h
        simp only [List.length_cons]
        omega
      · cases h; simp
    · have := quotedL_le (d :: l) _ _ _ _ h
      simp only [List.length_cons] at *
      omega

theorem nextP_le (u : ByteArray) (h : (nextP u).2.2 = true) : 1 ≤ (nextP u).2.1 ∧ (nextP u).2.1 ≤ u.size := by
  unfold nextP at h ⊢
  have hz : u.data.toList.length = u.size := by simp
  cases hl : u.data.toList with
  | nil => rw [hl] at h; cases h
  | cons c l =>
    rw [hl] at h hz
    simp only [List.length_cons] at hz
    simp only at h ⊢
    by_cases h39 : c.toNat = 39
    · rw [if_pos h39] at h ⊢
      cases hq : quotedL l 1 [] with
      | none => rw [hq] at h; cases h
      | some p =>
        obtain ⟨t, n⟩ := p
        have := quotedL_le _ _ _ _ _ hq
        simp only
        omega
    · rw [if_neg h39] at h ⊢
      by_cases hr : runC c = true
      · rw [if_pos hr] at h ⊢
        have h1 : 1 ≤ runN (c :: l) := by unfold runN; rw [List.takeWhile_cons, if_pos hr]; simp
        have h2 : runN (c :: l) ≤ l.length + 1 := by unfold runN; exact (List.takeWhile_prefix _).length_le
        cases hp : runP (u.extract 0 (runN (c :: l))) with
        | none => rw [hp] at h; cases h
        | some kt => simp only; omega
      · rw [if_neg hr] at h ⊢
        simp only [decide_eq_true_eq] at h
        simp only
        have : symP u ≤ u.size := by (unfold symP; split <;> (try split) <;> omega)
        omega

/-- Tokens lie one behind another, inside the text. -/
def Asc (lo hi : Nat) : List (Int × ByteArray × Nat) → Prop
  | [] => True
  | x :: l => lo ≤ x.2.2 ∧ x.2.2 < hi ∧ Asc (x.2.2 + 1) hi l
theorem Asc.low {lo lo' hi : Nat} : ∀ {l : List (Int × ByteArray × Nat)}, Asc lo' hi l → lo ≤ lo' → Asc lo hi l
  | [], _, _ => trivial
  | _ :: _, ⟨h1, h2, h3⟩, h => ⟨by omega, h2, h3⟩
theorem toks_asc (s : ByteArray) : ∀ (f i : Nat), (∀ l, toks s f i = .ok l → Asc i s.size l) ∧ (∀ e, toks s f i = .bad e → e < s.size)
  | 0, i => ⟨fun l h => (by cases h; trivial), fun e h => (by cases h)⟩
  | f + 1, i => by
    rw [toks]
    by_cases hi : i < s.size
    · rw [dif_pos hi]
      by_cases hs : spaceC s[i] = true
      · rw [if_pos hs]
        have ih := toks_asc s f (i + 1)
        exact ⟨fun l h => (ih.1 l h).low (by omega), ih.2⟩
      · rw [if_neg hs]
        have hle := nextP_le (s.extract i s.size)
        rcases hn : nextP (s.extract i s.size) with ⟨kt, n, ok⟩
        rw [hn] at hle
        cases ok
        · simp only
          exact ⟨fun l h => (by cases h), fun e h => (by cases h; exact hi)⟩
        · have hle1 : 1 ≤ n := (hle rfl).1
          have ih := toks_asc s f (i + n)
          simp only
          cases ht : toks s f (i + n) with
          | bad e => exact ⟨fun l h => (by cases h), fun e' h => (by cases h; exact ih.2 _ ht)⟩
          | ok l => exact ⟨fun l' h => (by cases h; exact ⟨Nat.le_refl _, hi, (ih.1 _ ht).low (by show i + 1 ≤ i + n; omega)⟩), fun e h => (by cases h)⟩
    · rw [dif_neg hi]
      exact ⟨fun l h => (by cases h; trivial), fun e h => (by cases h)⟩
theorem toks_known1 : toks "a<=1".toUTF8 5 0 = .ok [(2, "a".toUTF8, 0), (5, "<=".toUTF8, 1), (3, "1".toUTF8, 3)] := by decide +kernel
theorem toks_known2 : toks "it's".toUTF8 5 0 = .bad 2 := by decide +kernel
end Go.Proofs.YtppiaaolggpjdaaDoor
