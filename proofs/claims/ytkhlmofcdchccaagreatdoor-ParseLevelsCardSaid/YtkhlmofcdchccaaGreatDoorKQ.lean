/- What a text's tokens are. No program is named here. Steps of the tokens of a text: what quoted, next and Tokens do in each round. No program is named here. How an expression is written: its words, and the text that they make. No program is named here. The tokens of a text that words make. No program is named here. Valid values from the tape are written differently. No program is named here. The tokens of a text that words make, all of them; numbers that are written are read back. No program is named here. The words of a well-formed expression are tokens. No program is named here. Expressions read from tokens, as the grammar says. No program is named here. Well-formed expressions are read back from their words. No program is named here. Every well-formed expression is read back from its words. No program is named here. -/
import Derived.Test.YtkhlmofcdchccaaGreatDoorKN0
import Derived.Test.YtkhlmofcdchccaaGreatDoorKV1
import Derived.Test.YtkhlmofcdchccaaGreatDoorKL
import Derived.Test.YtkhlmofcdchccaaGreatDoorKV2b
import Derived.Lib.ParseIntBTie
import Derived.Lib.IndexMore
import Derived.Lib.SplitLaws
import Derived.Lib.Replace
namespace Go.Proofs.YtkhlmofcdchccaaGreatDoor
open Go.RowKit

def digC (c : UInt8) : Bool := decide (48 ≤ c.toNat) && decide (c.toNat ≤ 57)
def runC (c : UInt8) : Bool := (decide (97 ≤ c.toNat) && decide (c.toNat ≤ 122)) || (decide (65 ≤ c.toNat) && decide (c.toNat ≤ 90)) || digC c || c.toNat == 95

def kwL : List (List UInt8) := ["ABORT", "AFTER", "AND", "BEFORE", "BEGIN", "BETWEEN", "BOOL", "COUNT", "CREATE", "DELETE", "DELETED", "DROP", "EACH", "END", "EXISTS", "FALSE", "FOLLOWS", "FOR", "FROM", "INSERT", "INSERTED", "INT", "INTO", "IS", "KEY", "MAX", "MIN", "NEW", "NOT", "NULL", "OF", "OLD", "ON", "OR", "PRECEDES", "PRIMARY", "RANK", "ROW", "SELECT", "SET", "STATEMENT", "SUM", "TABLE", "TEXT", "TO", "TRIGGER", "TRUE", "UPDATE", "VALUES", "WHEN", "WHERE"].map fun s => s.toUTF8.data.toList

/-- A token: kind and text; none if the run is none. -/
def runP (s : ByteArray) : Option (Int × ByteArray) :=
  if kwL.contains s.data.toList = true then some (1, s)
  else if nameB s = true then some (2, s)
  else match Lib.parseIntB 64 s.data.toList with
    | .ok n => if (s.data.toList.head?.any digC) = true ∧ Lib.itoa n = s.data.toList then some (3, s) else none
    | _ => none

/-- The text in quotes: what stands behind the first quote; its bytes and the place behind its last quote. -/
def quotedL : List UInt8 → Nat → List UInt8 → Option (List UInt8 × Nat)
  | [], _, _ => none
  | [c], i, acc => if c.toNat = 39 then some (acc, i + 1) else none
  | c :: d :: l, i, acc => if c.toNat = 39 then (if d.toNat = 39 then quotedL l (i + 2) (acc ++ [39]) else some (acc, i + 1)) else quotedL (d :: l) (i + 1) (acc ++ [c])

def symL : List UInt8 := "(),;.*+-/%=<>".toUTF8.data.toList
def symP (u : ByteArray) : Nat :=
  if 2 ≤ u.size ∧ (u.extract 0 2 = "<>".toUTF8 ∨ u.extract 0 2 = "<=".toUTF8 ∨ u.extract 0 2 = ">=".toUTF8) then 2 else if (u.data.toList.head?.any fun c => symL.contains c) = true then 1 else 0

/-- How many bytes of a run come first. -/
def runN (l : List UInt8) : Nat := (l.takeWhile runC).length

/-- The token that begins a text: kind and text, its length, whether it is one. -/
def nextP (u : ByteArray) : (Int × ByteArray) × Nat × Bool :=
  match u.data.toList with
  | [] => ((0, ⟨#[]⟩), 0, false)
  | c :: l =>
    if c.toNat = 39 then match quotedL l 1 [] with
      | some (t, n) => ((4, ⟨t.toArray⟩), n, plainB ⟨t.toArray⟩)
      | none => ((0, ⟨#[]⟩), 0, false)
    else if runC c = true then match runP (u.extract 0 (runN (c :: l))) with
      | some kt => (kt, runN (c :: l), true)
      | none => ((0, ⟨#[]⟩), runN (c :: l), false)
    else ((5, u.extract 0 (symP u)), symP u, decide (0 < symP u))

def spaceC (c : UInt8) : Bool := c.toNat == 32 || c.toNat == 9 || c.toNat == 10

inductive TR where
  | ok (l : List (Int × ByteArray × Nat))
  | bad (i : Nat)
  deriving DecidableEq

/-- A text's tokens from a place on: kind, text, place; or the place of an error. -/
def toks (s : ByteArray) : Nat → Nat → TR
  | 0, _ => .ok []
  | f + 1, i => if h : i < s.size then
      if spaceC s[i] = true then toks s f (i + 1)
      else match nextP (s.extract i s.size) with
        | (kt, n, true) => match toks s f (i + n) with
          | .ok l => .ok ((kt.1, kt.2, i) :: l)
          | .bad e => .bad e
        | (_, _, false) => .bad i
    else .ok []

theorem quotedL_le : ∀ (l : List UInt8) (i : Nat) (acc : List UInt8) (t : List UInt8) (n : Nat), quotedL l i acc = some (t, n) → i < n ∧ n ≤ i + l.length
  | [], _, _, _, _, h => by cases h
  | [c], i, acc, t, n, h => by
    unfold quotedL at h
    split at h
    · cases h; simp
    · cases h
  | c :: d :: l, i, acc, t, n, h => by
    unfold quotedL at h
    split at h
    · split at h
      · have := quotedL_le l _ _ _ _ h
        simp only [List.length_cons]
        omega
      · cases h; simp
    · have := quotedL_le (d :: l) _ _ _ _ h
      simp only [List.length_cons] at *
      omega

theorem nextP_le (u : ByteArray) (h : (nextP u).2.2 = true) : 1 ≤ (nextP u).2.1 ∧ (nextP u).2.1 ≤ u.size := by
  unfold nextP at h ⊢
  have hz : u.data.toList.length = u.size := by simp
  cases hl : u.data.toList with
  | nil => rw [hl] at h; cases h
  | cons c l =>
    rw [hl] at h hz
    simp only [List.length_cons] at hz
    simp only at h ⊢
    by_cases h39 : c.toNat = 39
    · rw [if_pos h39] at h ⊢
      cases hq : quotedL l 1 [] with
      | none => rw [hq] at h; cases h
      | some p =>
        obtain ⟨t, n⟩ := p
        have := quotedL_le _ _ _ _ _ hq
        simp only
        omega
    · rw [if_neg h39] at h ⊢
      by_cases hr : runC c = true
      · rw [if_pos hr] at h ⊢
        have h1 : 1 ≤ runN (c :: l) := by unfold runN; rw [List.takeWhile_cons, if_pos hr]; simp
        have h2 : runN (c :: l) ≤ l.length + 1 := by unfold runN; exact (List.takeWhile_prefix _).length_le
        cases hp : runP (u.extract 0 (runN (c :: l))) with
        | none => rw [hp] at h; cases h
        | some kt => simp only; omega
      · rw [if_neg hr] at h ⊢
        simp only [decide_eq_true_eq] at h
        simp only
        have : symP u ≤ u.size := by (unfold symP; split <;> (try split) <;> omega)
        omega

end Go.Proofs.YtkhlmofcdchccaaGreatDoor

namespace Go.Proofs.YtkhlmofcdchccaaGreatDoor
open Go.RowKit

theorem drop_cons {s : ByteArray} {i : Nat} (h : i < s.size) : s.data.toList.drop i = s[i] :: s.data.toList.drop (i + 1) := by
  rw [List.drop_eq_getElem_cons (by simpa using h)]
  rfl

/-- The text in quotes from a place on. -/
def quotedQ (s : ByteArray) (i : Nat) (acc : List UInt8) : Option (List UInt8 × Nat) := quotedL (s.data.toList.drop i) i acc

theorem quotedQ_end {s : ByteArray} {i : Nat} {acc : List UInt8} (h : s.size ≤ i) : quotedQ s i acc = none := by
  unfold quotedQ
  rw [List.drop_of_length_le (by simpa using h)]
  rfl
theorem quotedQ_plain {s : ByteArray} {i : Nat} {acc : List UInt8} (h : i < s.size) (hc : s[i].toNat ≠ 39) : quotedQ s i acc = quotedQ s (i + 1) (acc ++ [s[i]]) := by
  unfold quotedQ
  rw [drop_cons h]
  by_cases h1 : i + 1 < s.size
  · rw [drop_cons h1, quotedL, if_neg hc]
  · rw [List.drop_of_length_le (l := s.data.toList) (i := i + 1) (by simp; omega)]
    simp [quotedL, hc]
theorem quotedQ_two {s : ByteArray} {i : Nat} {acc : List UInt8} (h : i < s.size) (hc : s[i].toNat = 39) (h1 : i + 1 < s.size) (hd : s[i + 1].toNat = 39) : quotedQ s i acc = quotedQ s (i + 2) (acc ++ [39]) := by
  unfold quotedQ
  rw [drop_cons h, drop_cons h1, quotedL, if_pos hc, if_pos hd]
theorem quotedQ_last {s : ByteArray} {i : Nat} {acc : List UInt8} (h : i < s.size) (hc : s[i].toNat = 39) (hd : ∀ h1 : i + 1 < s.size, s[i + 1].toNat ≠ 39) : quotedQ s i acc = some (acc, i + 1) := by
  unfold quotedQ
  rw [drop_cons h]
  by_cases h1 : i + 1 < s.size
  · rw [drop_cons h1, quotedL, if_pos hc, if_neg (hd h1)]
  · rw [List.drop_of_length_le (l := s.data.toList) (i := i + 1) (by simp; omega), quotedL, if_pos hc]

/-- The run's length is known where it ends. -/
theorem runN_eq {s : ByteArray} {n : Nat} (h1 : ∀ j, (h : j < n) → (h' : j < s.size) → runC s[j] = true) (hn : n ≤ s.size) (h2 : ∀ h : n < s.size, runC s[n] = false) : runN s.data.toList = n := by
  unfold runN
  have hs : s.data.toList = s.data.toList.take n ++ s.data.toList.drop n := (List.take_append_drop _ _).symm
  rw [hs, List.takeWhile_append_of_pos]
  · have h0 : (s.data.toList.drop n).takeWhile runC = [] := by
      by_cases h : n < s.size
      · rw [drop_cons h, List.takeWhile_cons, h2 h]
        rfl
      · rw [List.drop_of_length_le (l := s.data.toList) (i := n) (by simp; omega)]
        rfl
    rw [h0, List.append_nil, List.length_take]
    simp
    omega
  · intro a ha
    obtain ⟨j, hj, rfl⟩ := List.mem_iff_getElem.1 ha
    simp only [List.length_take] at hj
    have hj' : j < s.size := by have := hj; simp at this; omega
    have := h1 j (by omega) hj'
    rw [List.getElem_take]
    exact this

theorem nextP_quote {u : ByteArray} (hz : 0 < u.size) (h : u[0].toNat = 39) : nextP u = match quotedQ u 1 [] with
    | some (t, n) => ((4, ⟨t.toArray⟩), n, plainB ⟨t.toArray⟩)
    | none => ((0, ⟨#[]⟩), 0, false) := by
  have h0 : u.data.toList = u[0] :: u.data.toList.drop 1 := by have := drop_cons hz; rwa [List.drop_zero] at this
  unfold nextP quotedQ
  rw [h0]
  simp only [h, if_true, List.drop_succ_cons, List.drop_zero]
  try rfl
theorem nextP_run {u : ByteArray} {n : Nat} (hz : 0 < u.size) (h : u[0].toNat ≠ 39) (hr : runC u[0] = true) (hn : runN u.data.toList = n) : nextP u = match runP (u.extract 0 n) with
    | some kt => (kt, n, true)
    | none => ((0, ⟨#[]⟩), n, false) := by
  have h0 : u.data.toList = u[0] :: u.data.toList.drop 1 := by have := drop_cons hz; rwa [List.drop_zero] at this
  unfold nextP
  rw [h0] at hn ⊢
  simp only [if_neg h, hr, if_true, hn]
  try rfl
theorem nextP_sym {u : ByteArray} (hz : 0 < u.size) (h : u[0].toNat ≠ 39) (hr : runC u[0] = false) : nextP u = ((5, u.extract 0 (symP u)), symP u, decide (0 < symP u)) := by
  have h0 : u.data.toList = u[0] :: u.data.toList.drop 1 := by have := drop_cons hz; rwa [List.drop_zero] at this
  unfold nextP
  rw [h0]
  simp only [if_neg h, hr, Bool.false_eq_true, if_false]

/-- What comes before. -/
def preT (l : List (Int × ByteArray × Nat)) : TR → TR
  | .ok m => .ok (l ++ m)
  | .bad e => .bad e
theorem preT_nil (r : TR) : preT [] r = r := by cases r <;> rfl

theorem toks_end {s : ByteArray} {f i : Nat} (hi : s.size ≤ i) : toks s f i = .ok [] := by
  cases f with
  | zero => rfl
  | succ f => rw [toks, dif_neg (by omega)]
theorem toks_space {s : ByteArray} {f i : Nat} (hi : i < s.size) (hf : s.size + 1 ≤ f + i) (h : spaceC s[i] = true) : toks s f i = toks s (f - 1) (i + 1) := by
  obtain ⟨g, rfl⟩ : ∃ g, f = g + 1 := ⟨f - 1, by omega⟩
  rw [toks, dif_pos hi, if_pos h]
  try rfl
theorem toks_tok {s : ByteArray} {f i n : Nat} {kt : Int × ByteArray} (l : List (Int × ByteArray × Nat)) (hi : i < s.size) (hf : s.size + 1 ≤ f + i) (h : spaceC s[i] = false) (hn : nextP (s.extract i s.size) = (kt, n, true)) : preT l (toks s f i) = preT (l ++ [(kt.1, kt.2, i)]) (toks s (f - 1) (i + n)) := by
  obtain ⟨g, rfl⟩ : ∃ g, f = g + 1 := ⟨f - 1, by omega⟩
  rw [toks, dif_pos hi, if_neg (by rw [h]; decide), hn, Nat.add_sub_cancel]
  simp only
  cases toks s g (i + n) <;> simp [preT]
theorem toks_no {s : ByteArray} {f i n : Nat} {kt : Int × ByteArray} (hi : i < s.size) (hf : s.size + 1 ≤ f + i) (h : spaceC s[i] = false) (hn : nextP (s.extract i s.size) = (kt, n, false)) : toks s f i = .bad i := by
  obtain ⟨g, rfl⟩ : ∃ g, f = g + 1 := ⟨f - 1, by omega⟩
  rw [toks, dif_pos hi, if_neg (by rw [h]; decide), hn]
end Go.Proofs.YtkhlmofcdchccaaGreatDoor

namespace Go.Proofs.YtkhlmofcdchccaaGreatDoor
open Go.RowKit

def kOpen : ByteArray := bs [40]
def kDot : ByteArray := bs [46]

end Go.Proofs.YtkhlmofcdchccaaGreatDoor

namespace Go.Proofs.YtkhlmofcdchccaaGreatDoor
open Go.RowKit

/-- Quotes doubled. -/
def dblL (l : List UInt8) : List UInt8 := l.flatMap fun b => if b = 39 then [39, 39] else [b]
theorem dblL_cons (b : UInt8) (l : List UInt8) : dblL (b :: l) = (if b = 39 then [39, 39] else [b]) ++ dblL l := by simp [dblL]
/-- What stands in quotes is read back. -/
theorem quotedL_dbl : ∀ (t : List UInt8) (i : Nat) (acc rest : List UInt8), (∀ c r, rest = c :: r → c ≠ 39) → quotedL (dblL t ++ 39 :: rest) i acc = some (acc ++ t, i + (dblL t).length + 1)
  | [], i, acc, rest, h => by
    show quotedL (39 :: rest) i acc = _
    cases rest with
    | nil => simp [quotedL, dblL]
    | cons c r =>
      have hc := h c r rfl
      have hn : ¬ c.toNat = 39 := fun e => hc (UInt8.toNat_inj.1 e)
      rw [quotedL, if_pos (by decide), if_neg hn]
      simp [dblL]
  | b :: t, i, acc, rest, h => by
    rw [dblL_cons]
    by_cases hb : b = 39
    · subst hb
      rw [if_pos rfl]
      show quotedL (39 :: 39 :: (dblL t ++ 39 :: rest)) i acc = _
      rw [quotedL, if_pos (by decide), if_pos (by decide), quotedL_dbl t _ _ _ h]
      simp
      omega
    · rw [if_neg hb]
      have hn : ¬ b.toNat = 39 := fun e => hb (UInt8.toNat_inj.1 e)
      have hx : ∃ d l, dblL t ++ 39 :: rest = d :: l := by
        cases dblL t with
        | nil => exact ⟨_, _, rfl⟩
        | cons x y => exact ⟨_, _, rfl⟩
      obtain ⟨d, l, hd⟩ := hx
      show quotedL (b :: (dblL t ++ 39 :: rest)) i acc = _
      rw [hd, quotedL, if_neg hn, ← hd, quotedL_dbl t _ _ _ h]
      simp
      omega

def symWords : List (List UInt8) := [[40], [41], [44], [46], [59], [42], [43], [45], [47], [37], [61], [60], [62], [60, 62], [60, 61], [62, 61]]
/-- A word is a token of this kind and text. -/
inductive TW : ByteArray → Int → ByteArray → Prop
  | run (w : ByteArray) (k : Int) (h0 : w.data.toList ≠ []) (ha : ∀ c ∈ w.data.toList, runC c = true) (hr : runP w = some (k, w)) : TW w k w
  | sym (w : ByteArray) (h : w.data.toList ∈ symWords) : TW w 5 w
  | txt (t : ByteArray) (h : plainB t = true) : TW (bs (39 :: (dblL t.data.toList ++ [39]))) 4 t

/-- What may follow a word directly. -/
def sepH (rest : List UInt8) : Prop := ∀ c r, rest = c :: r → c = 9 ∨ c = 10 ∨ c = 32 ∨ c = 44 ∨ c = 59 ∨ c = 46 ∨ c = 41
theorem sep_run {rest : List UInt8} (h : sepH rest) : rest.takeWhile runC = [] := by
  cases rest with
  | nil => rfl
  | cons c r =>
    have : runC c = false := by rcases h c r rfl with rfl | rfl | rfl | rfl | rfl | rfl | rfl <;> decide
    rw [List.takeWhile_cons, this]
    rfl

theorem head_of {u : ByteArray} {c : UInt8} {r : List UInt8} (h : u.data.toList = c :: r) : ∃ hz : 0 < u.size, u[0] = c := by
  have hl := congrArg List.length h
  simp only [List.length_cons, Array.length_toList] at hl
  have hz : 0 < u.size := by show 0 < u.data.size; omega
  refine ⟨hz, ?_⟩
  have h0 : u.data.toList[0]? = some c := by rw [h]; rfl
  simp at h0
  obtain ⟨_, h1⟩ := Array.getElem?_eq_some_iff.1 h0
  exact h1

theorem ext_take {u : ByteArray} {a b : List UInt8} (h : u.data.toList = a ++ b) : u.extract 0 a.length = ⟨a.toArray⟩ := by
  apply bytes_ext
  rw [Lib.extract_data, h]
  simp

/-- The symbol that begins a list of bytes. -/
def symLP : List UInt8 → Nat
  | [] => 0
  | [c] => if symL.contains c = true then 1 else 0
  | c :: d :: _ => if (c = 60 ∧ (d = 62 ∨ d = 61)) ∨ (c = 62 ∧ d = 61) then 2 else if symL.contains c = true then 1 else 0
theorem ext2_iff (u : ByteArray) (a b : UInt8) : (u.extract 0 2 = (⟨#[a, b]⟩ : ByteArray)) ↔ u.data.toList.take 2 = [a, b] := by
  constructor
  · intro h
    have := congrArg (fun x : ByteArray => x.data.toList) h
    rw [Lib.extract_data] at this
    simpa using this
  · intro h
    apply bytes_ext
    rw [Lib.extract_data]
    simpa using h
theorem symP_list (u : ByteArray) : symP u = symLP u.data.toList := by
  unfold symP
  have h1 : "<>".toUTF8 = ⟨#[60, 62]⟩ := by decide +kernel
  have h2 : "<=".toUTF8 = ⟨#[60, 61]⟩ := by decide +kernel
  have h3 : ">=".toUTF8 = ⟨#[62, 61]⟩ := by decide +kernel
  have hz : u.size = u.data.toList.length := by simp
  rw [h1, h2, h3, hz]
  simp only [ext2_iff]
  generalize u.data.toList = l
  match l with
  | [] => simp [symLP]
  | [c] => simp [symLP]
  | c :: d :: r =>
    simp only [symLP, List.take_succ_cons, List.take_zero, List.cons.injEq, and_true, List.length_cons, List.head?_cons, Option.any_some]
    have e : (2 ≤ r.length + 1 + 1 ∧ (c = 60 ∧ d = 62 ∨ c = 60 ∧ d = 61 ∨ c = 62 ∧ d = 61)) ↔ (c = 60 ∧ (d = 62 ∨ d = 61) ∨ c = 62 ∧ d = 61) := by
      constructor
      · rintro ⟨_, h | h | h⟩
        · exact .inl ⟨h.1, .inl h.2⟩
        · exact .inl ⟨h.1, .inr h.2⟩
        · exact .inr h
      · rintro (⟨h, h' | h'⟩ | h)
        · exact ⟨by omega, .inl ⟨h, h'⟩⟩
        · exact ⟨by omega, .inr (.inl ⟨h, h'⟩)⟩
        · exact ⟨by omega, .inr (.inr h)⟩
    simp only [e]
    rfl

theorem size_list (w : ByteArray) : w.size = w.data.toList.length := by simp

theorem next_tw {w t : ByteArray} {k : Int} {rest : List UInt8} {u : ByteArray} (hw : TW w k t) (hs : w = kOpen ∨ w = kDot ∨ sepH rest) (hu : u.data.toList = w.data.toList ++ rest) : nextP u = ((k, t), w.size, true) := by
  have hx := ext_take hu
  cases hw with
  | run _ _ h0 ha hr =>
    have hsep : sepH rest := by
      rcases hs with rfl | rfl | h
      · exact absurd (ha 40 (by simp [kOpen, bs])) (by decide)
      · exact absurd (ha 46 (by simp [kDot, bs])) (by decide)
      · exact h
    cases hw : w.data.toList with
    | nil => exact absurd hw h0
    | cons c l =>
      obtain ⟨hz, hc⟩ := head_of (u := u) (c := c) (r := l ++ rest) (by rw [hu, hw]; rfl)
      have hr0 : runC c = true := ha c (by rw [hw]; simp)
      have h39 : u[0].toNat ≠ 39 := by
        rw [hc]
        intro e
        rw [show c = 39 from UInt8.toNat_inj.1 e] at hr0
        exact absurd hr0 (by decide)
      have hn : runN u.data.toList = w.size := by
        unfold runN
        rw [hu, List.takeWhile_append_of_pos ha, sep_run hsep, List.append_nil, size_list]
      rw [nextP_run hz h39 (by rw [hc]; exact hr0) hn, size_list, hx]
      rw [show (⟨w.data.toList.toArray⟩ : ByteArray) = w from rfl, hr]
  | sym _ h =>
    have key : symLP u.data.toList = w.size ∧ ∃ c r, u.data.toList = c :: r ∧ c.toNat ≠ 39 ∧ runC c = false := by
      rw [hu, size_list]
      have hs' : (w.data.toList = [40] ∨ w.data.toList = [46]) ∨ sepH rest := by
        rcases hs with rfl | rfl | h
        · exact .inl (.inl rfl)
        · exact .inl (.inr rfl)
        · exact .inr h
      generalize w.data.toList = l at h hs'
      have hd : ∀ d r, rest = d :: r → sepH rest → d ≠ 62 ∧ d ≠ 61 := by
        intro d r e hsep
        rcases hsep d r e with rfl | rfl | rfl | rfl | rfl | rfl | rfl <;> decide
      simp only [symWords, List.mem_cons, List.not_mem_nil, or_false] at h
      rcases h with rfl | rfl | rfl | rfl | rfl | rfl | rfl | rfl | rfl | rfl | rfl | rfl | rfl | rfl | rfl | rfl
      all_goals
        refine ⟨?_, _, _, rfl, by decide, by decide⟩
        first
          | (cases rest with
             | nil => rfl
             | cons d r =>
               first
                 | rfl
                 | (have hsep : sepH (d :: r) := by
                      rcases hs' with (h | h) | h
                      · exact absurd h (by decide)
                      · exact absurd h (by decide)
                      · exact h
                    obtain ⟨h1, h2⟩ := hd d r rfl hsep
                    simp [symLP, h1, h2]
                    try decide))
    obtain ⟨h1, c, r, h2, h3, h4⟩ := key
    obtain ⟨hz, hc⟩ := head_of h2
    have hpos : 0 < w.size := by
      rw [size_list]
      simp only [symWords, List.mem_cons, List.not_mem_nil, or_false] at h
      rcases h with h | h | h | h | h | h | h | h | h | h | h | h | h | h | h | h <;> rw [h] <;> decide
    rw [nextP_sym hz (by rw [hc]; exact h3) (by rw [hc]; exact h4), symP_list, h1, size_list, hx]
    rw [← size_list]
    simp [hpos]
  | txt t h =>
    have hsep : sepH rest := by
      rcases hs with h | h | h
      · exact absurd (congrArg (fun x : ByteArray => x.data.toList.head?) h) (by simp [bs, kOpen])
      · exact absurd (congrArg (fun x : ByteArray => x.data.toList.head?) h) (by simp [bs, kDot])
      · exact h
    have hu' : u.data.toList = 39 :: (dblL t.data.toList ++ 39 :: rest) := by rw [hu]; simp [bs]
    obtain ⟨hz, hc⟩ := head_of hu'
    have hq : quotedQ u 1 [] = some (t.data.toList, 1 + (dblL t.data.toList).length + 1) := by
      unfold quotedQ
      rw [hu']
      show quotedL (dblL t.data.toList ++ 39 :: rest) 1 [] = _
      rw [quotedL_dbl _ _ _ _ (fun c r e => by rcases hsep c r e with rfl | rfl | rfl | rfl | rfl | rfl | rfl <;> decide), List.nil_append]
    rw [nextP_quote hz (by rw [hc]; decide), hq]
    simp only [show (⟨t.data.toList.toArray⟩ : ByteArray) = t from rfl, h]
    congr 2
    rw [size_list]
    simp [bs]
    omega
end Go.Proofs.YtkhlmofcdchccaaGreatDoor

namespace Go.Proofs.YtkhlmofcdchccaaGreatDoor
open Go.RowKit

end Go.Proofs.YtkhlmofcdchccaaGreatDoor

namespace Go.Proofs.YtkhlmofcdchccaaGreatDoor
open Go.RowKit

theorem tw_head {w t : ByteArray} {k : Int} (h : TW w k t) : ∃ c r, w.data.toList = c :: r ∧ spaceC c = false := by
  cases h with
  | run _ _ h0 ha hr =>
    cases hw : w.data.toList with
    | nil => exact absurd hw h0
    | cons c r =>
      have hc := ha c (by rw [hw]; simp)
      refine ⟨c, r, rfl, ?_⟩
      have : ∀ n : Fin 256, runC (UInt8.ofNat n.1) = true → spaceC (UInt8.ofNat n.1) = false := by decide +kernel
      have e : UInt8.ofNat c.toNat = c := by simp
      have := this ⟨c.toNat, c.toNat_lt⟩
      rw [e] at this
      exact this hc
  | sym _ h =>
    generalize w.data.toList = l at h
    simp only [symWords, List.mem_cons, List.not_mem_nil, or_false] at h
    rcases h with rfl | rfl | rfl | rfl | rfl | rfl | rfl | rfl | rfl | rfl | rfl | rfl | rfl | rfl | rfl | rfl <;> exact ⟨_, _, rfl, by decide⟩
  | txt t h => exact ⟨39, _, by simp [bs]; rfl, by decide⟩

theorem toks_word {s w t : ByteArray} {k : Int} {rest : List UInt8} {f j : Nat} (hw : TW w k t) (hs : w = kOpen ∨ w = kDot ∨ sepH rest) (hd : s.data.toList.drop j = w.data.toList ++ rest) (hf : s.size + 1 ≤ f + j) :
    toks s f j = preT [(k, t, j)] (toks s (f - 1) (j + w.size)) ∧ s.data.toList.drop (j + w.size) = rest ∧ j + w.size ≤ s.size := by
  obtain ⟨c, r, hc, hsp⟩ := tw_head hw
  have hlt : j < s.size := by
    rcases Nat.lt_or_ge j s.size with h | h
    · exact h
    · rw [List.drop_of_length_le (by simpa using h), hc] at hd
      cases hd
  have hcs : s[j] = c := by
    rw [drop_cons hlt, hc] at hd
    exact (List.cons.inj hd).1
  have hx : (s.extract j s.size).data.toList = w.data.toList ++ rest := by
    rw [Lib.extract_data, List.take_of_length_le (by simp), hd]
  have hn := next_tw hw hs hx
  have h1 := toks_tok [] hlt hf (by rw [hcs]; exact hsp) hn
  refine ⟨by rw [preT_nil] at h1; simpa using h1, ?_, ?_⟩
  · rw [← List.drop_drop, hd, size_list, List.drop_left]
  · have := congrArg List.length hd
    simp only [List.length_drop, List.length_append] at this
    rw [size_list]
    have hz := size_list s
    omega

end Go.Proofs.YtkhlmofcdchccaaGreatDoor

namespace Go.Proofs.YtkhlmofcdchccaaGreatDoor
open Go.RowKit

end Go.Proofs.YtkhlmofcdchccaaGreatDoor

namespace Go.Proofs.YtkhlmofcdchccaaGreatDoor
open Go.RowKit


end Go.Proofs.YtkhlmofcdchccaaGreatDoor

namespace Go.Proofs.YtkhlmofcdchccaaGreatDoor
open Go.RowKit

end Go.Proofs.YtkhlmofcdchccaaGreatDoor

namespace Go.Proofs.YtkhlmofcdchccaaGreatDoor
open Go.RowKit

end Go.Proofs.YtkhlmofcdchccaaGreatDoor
