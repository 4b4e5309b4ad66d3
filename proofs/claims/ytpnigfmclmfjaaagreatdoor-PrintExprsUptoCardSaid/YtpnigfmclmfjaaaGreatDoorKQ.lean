/- What a text's tokens are. No program is named here. Steps of the tokens of a text: what quoted, next and Tokens do in each round. No program is named here. How an expression is written: its words, and the text that they make. No program is named here. The tokens of a text that words make. No program is named here. Valid values from the tape are written differently. No program is named here. The tokens of a text that words make, all of them; numbers that are written are read back. No program is named here. The words of a well-formed expression are tokens. No program is named here. Expressions read from tokens, as the grammar says. No program is named here. Well-formed expressions are read back from their words. No program is named here. Every well-formed expression is read back from its words. No program is named here. -/
import Derived.Test.YtpnigfmclmfjaaaGreatDoorKN0
import Derived.Test.YtpnigfmclmfjaaaGreatDoorKV1
import Derived.Test.YtpnigfmclmfjaaaGreatDoorKL
import Derived.Test.YtpnigfmclmfjaaaGreatDoorKV2b
import Derived.Lib.ParseIntBTie
import Derived.Lib.IndexMore
import Derived.Lib.SplitLaws
import Derived.Lib.Replace
namespace Go.Proofs.YtpnigfmclmfjaaaGreatDoor
open Go.RowKit

def digC (c : UInt8) : Bool := decide (48 ≤ c.toNat) && decide (c.toNat ≤ 57)
def runC (c : UInt8) : Bool := (decide (97 ≤ c.toNat) && decide (c.toNat ≤ 122)) || (decide (65 ≤ c.toNat) && decide (c.toNat ≤ 90)) || digC c || c.toNat == 95

def kwL : List (List UInt8) := ["ABORT", "AFTER", "AND", "BEFORE", "BEGIN", "BETWEEN", "BOOL", "COUNT", "CREATE", "DELETE", "DELETED", "DROP", "EACH", "END", "EXISTS", "FALSE", "FOLLOWS", "FOR", "FROM", "INSERT", "INSERTED", "INT", "INTO", "IS", "KEY", "MAX", "MIN", "NEW", "NOT", "NULL", "OF", "OLD", "ON", "OR", "PRECEDES", "PRIMARY", "RANK", "ROW", "SELECT", "SET", "STATEMENT", "SUM", "TABLE", "TEXT", "TO", "TRIGGER", "TRUE", "UPDATE", "VALUES", "WHEN", "WHERE"].map fun s => s.toUTF8.data.toList

/-- A token: kind and text; none if the run is none. -/
def runP (s : ByteArray) : Option (Int × ByteArray) :=
  if kwL.contains s.data.toList = true then some (1, s)
  else if nameB s = true then some (2, s)
  else match Lib.parseIntB 64 s.data.toList with
    | .ok n => if (s.data.toList.head?.any digC) = true ∧ Lib.itoa n = s.data.toList then some (3, s) else none
    | _ => none

/-- The text in quotes: what stands behind the first quote; its bytes and the place behind its last quote. -/
def quotedL : List UInt8 → Nat → List UInt8 → Option (List UInt8 × Nat)
  | [], _, _ => none
  | [c], i, acc => if c.toNat = 39 then some (acc, i + 1) else none
  | c :: d :: l, i, acc => if c.toNat = 39 then (if d.toNat = 39 then quotedL l (i + 2) (acc ++ [39]) else some (acc, i + 1)) else quotedL (d :: l) (i + 1) (acc ++ [c])

def symL : List UInt8 := "(),;.*+-/%=<>".toUTF8.data.toList
def symP (u : ByteArray) : Nat :=
  if 2 ≤ u.size ∧ (u.extract 0 2 = "<>".toUTF8 ∨ u.extract 0 2 = "<=".toUTF8 ∨ u.extract 0 2 = ">=".toUTF8) then 2 else if (u.data.toList.head?.any fun c => symL.contains c) = true then 1 else 0

/-- How many bytes of a run come first. -/
def runN (l : List UInt8) : Nat := (l.takeWhile runC).length

/-- The token that begins a text: kind and text, its length, whether it is one. -/
def nextP (u : ByteArray) : (Int × ByteArray) × Nat × Bool :=
  match u.data.toList with
  | [] => ((0, ⟨#[]⟩), 0, false)
  | c :: l =>
    if c.toNat = 39 then match quotedL l 1 [] with
      | some (t, n) => ((4, ⟨t.toArray⟩), n, plainB ⟨t.toArray⟩)
      | none => ((0, ⟨#[]⟩), 0, false)
    else if runC c = true then match runP (u.extract 0 (runN (c :: l))) with
      | some kt => (kt, runN (c :: l), true)
      | none => ((0, ⟨#[]⟩), runN (c :: l), false)
    else ((5, u.extract 0 (symP u)), symP u, decide (0 < symP u))

def spaceC (c : UInt8) : Bool := c.toNat == 32 || c.toNat == 9 || c.toNat == 10

inductive TR where
  | ok (l : List (Int × ByteArray × Nat))
  | bad (i : Nat)
  deriving DecidableEq

/-- A text's tokens from a place on: kind, text, place; or the place of an error. -/
def toks (s : ByteArray) : Nat → Nat → TR
  | 0, _ => .ok []
  | f + 1, i => if h : i < s.size then
      if spaceC s[i] = true then toks s f (i + 1)
      else match nextP (s.extract i s.size) with
        | (kt, n, true) => match toks s f (i + n) with
          | .ok l => .ok ((kt.1, kt.2, i) :: l)
          | .bad e => .bad e
        | (_, _, false) => .bad i
    else .ok []

theorem quotedL_le : ∀ (l : List UInt8) (i : Nat) (acc : List UInt8) (t : List UInt8) (n : Nat), quotedL l i acc = some (t, n) → i < n ∧ n ≤ i + l.length
  | [], _, _, _, _, h => by cases h
  | [c], i, acc, t, n, h => by
    unfold quotedL at h
    split at h
    · cases h; simp
    · cases h
  | c :: d :: l, i, acc, t, n, h => by
    unfold quotedL at h
    split at h
    · split at h
      · have := quotedL_le l _ _ _ _ h
        simp only [List.length_cons]
        omega
      · cases h; simp
    · have := quotedL_le (d :: l) _ _ _ _ h
      simp only [List.length_cons] at *
      omega

theorem nextP_le (u : ByteArray) (h : (nextP u).2.2 = true) : 1 ≤ (nextP u).2.1 ∧ (nextP u).2.1 ≤ u.size := by
  unfold nextP at h ⊢
  have hz : u.data.toList.length = u.size := by simp
  cases hl : u.data.toList with
  | nil => rw [hl] at h; cases h
  | cons c l =>
    rw [hl] at h hz
    simp only [List.length_cons] at hz
    simp only at h ⊢
    by_cases h39 : c.toNat = 39
    · rw [if_pos h39] at h ⊢
      cases hq : quotedL l 1 [] with
      | none => rw [hq] at h; cases h
      | some p =>
        obtain ⟨t, n⟩ := p
        have := quotedL_le _ _ _ _ _ hq
        simp only
        omega
    · rw [if_neg h39] at h ⊢
      by_cases hr : runC c = true
      · rw [if_pos hr] at h ⊢
        have h1 : 1 ≤ runN (c :: l) := by unfold runN; rw [List.takeWhile_cons, if_pos hr]; simp
        have h2 : runN (c :: l) ≤ l.length + 1 := by unfold runN; exact (List.takeWhile_prefix _).length_le
        cases hp : runP (u.extract 0 (runN (c :: l))) with
        | none => rw [hp] at h; cases h
        | some kt => simp only; omega
      · rw [if_neg hr] at h ⊢
        simp only [decide_eq_true_eq] at h
        simp only
        have : symP u ≤ u.size := by (unfold symP; split <;> (try split) <;> omega)
        omega

/-- Tokens lie one behind another, inside the text. -/
def Asc (lo hi : Nat) : List (Int × ByteArray × Nat) → Prop
  | [] => True
  | x :: l => lo ≤ x.2.2 ∧ x.2.2 < hi ∧ Asc (x.2.2 + 1) hi l
theorem Asc.low {lo lo' hi : Nat} : ∀ {l : List (Int × ByteArray × Nat)}, Asc lo' hi l → lo ≤ lo' → Asc lo hi l
  | [], _, _ => trivial
  | _ :: _, ⟨h1, h2, h3⟩, h => ⟨by omega, h2, h3⟩
theorem toks_asc (s : ByteArray) : ∀ (f i : Nat), (∀ l, toks s f i = .ok l → Asc i s.size l) ∧ (∀ e, toks s f i = .bad e → e < s.size)
  | 0, i => ⟨fun l h => (by cases h; trivial), fun e h => (by cases h)⟩
  | f + 1, i => by
    rw [toks]
    by_cases hi : i < s.size
    · rw [dif_pos hi]
      by_cases hs : spaceC s[i] = true
      · rw [if_pos hs]
        have ih := toks_asc s f (i + 1)
        exact ⟨fun l h => (ih.1 l h).low (by omega), ih.2⟩
      · rw [if_neg hs]
        have hle := nextP_le (s.extract i s.size)
        rcases hn : nextP (s.extract i s.size) with ⟨kt, n, ok⟩
        rw [hn] at hle
        cases ok
        · simp only
          exact ⟨fun l h => (by cases h), fun e h => (by cases h; exact hi)⟩
        · have hle1 : 1 ≤ n := (hle rfl).1
          have ih := toks_asc s f (i + n)
          simp only
          cases ht : toks s f (i + n) with
          | bad e => exact ⟨fun l h => (by cases h), fun e' h => (by cases h; exact ih.2 _ ht)⟩
          | ok l => exact ⟨fun l' h => (by cases h; exact ⟨Nat.le_refl _, hi, (ih.1 _ ht).low (by show i + 1 ≤ i + n; omega)⟩), fun e h => (by cases h)⟩
    · rw [dif_neg hi]
      exact ⟨fun l h => (by cases h; trivial), fun e h => (by cases h)⟩
theorem toks_known1 : toks "a<=1".toUTF8 5 0 = .ok [(2, "a".toUTF8, 0), (5, "<=".toUTF8, 1), (3, "1".toUTF8, 3)] := by decide +kernel
theorem toks_known2 : toks "it's".toUTF8 5 0 = .bad 2 := by decide +kernel
end Go.Proofs.YtpnigfmclmfjaaaGreatDoor

namespace Go.Proofs.YtpnigfmclmfjaaaGreatDoor
open Go.RowKit

theorem drop_cons {s : ByteArray} {i : Nat} (h : i < s.size) : s.data.toList.drop i = s[i] :: s.data.toList.drop (i + 1) := by
  rw [List.drop_eq_getElem_cons (by simpa using h)]
  rfl

/-- The text in quotes from a place on. -/
def quotedQ (s : ByteArray) (i : Nat) (acc : List UInt8) : Option (List UInt8 × Nat) := quotedL (s.data.toList.drop i) i acc

theorem quotedQ_end {s : ByteArray} {i : Nat} {acc : List UInt8} (h : s.size ≤ i) : quotedQ s i acc = none := by
  unfold quotedQ
  rw [List.drop_of_length_le (by simpa using h)]
  rfl
theorem quotedQ_plain {s : ByteArray} {i : Nat} {acc : List UInt8} (h : i < s.size) (hc : s[i].toNat ≠ 39) : quotedQ s i acc = quotedQ s (i + 1) (acc ++ [s[i]]) := by
  unfold quotedQ
  rw [drop_cons h]
  by_cases h1 : i + 1 < s.size
  · rw [drop_cons h1, quotedL, if_neg hc]
  · rw [List.drop_of_length_le (l := s.data.toList) (i := i + 1) (by simp; omega)]
    simp [quotedL, hc]
theorem quotedQ_two {s : ByteArray} {i : Nat} {acc : List UInt8} (h : i < s.size) (hc : s[i].toNat = 39) (h1 : i + 1 < s.size) (hd : s[i + 1].toNat = 39) : quotedQ s i acc = quotedQ s (i + 2) (acc ++ [39]) := by
  unfold quotedQ
  rw [drop_cons h, drop_cons h1, quotedL, if_pos hc, if_pos hd]
theorem quotedQ_last {s : ByteArray} {i : Nat} {acc : List UInt8} (h : i < s.size) (hc : s[i].toNat = 39) (hd : ∀ h1 : i + 1 < s.size, s[i + 1].toNat ≠ 39) : quotedQ s i acc = some (acc, i + 1) := by
  unfold quotedQ
  rw [drop_cons h]
  by_cases h1 : i + 1 < s.size
  · rw [drop_cons h1, quotedL, if_pos hc, if_neg (hd h1)]
  · rw [List.drop_of_length_le (l := s.data.toList) (i := i + 1) (by simp; omega), quotedL, if_pos hc]

/-- The run's length is known where it ends. -/
theorem runN_eq {s : ByteArray} {n : Nat} (h1 : ∀ j, (h : j < n) → (h' : j < s.size) → runC s[j] = true) (hn : n ≤ s.size) (h2 : ∀ h : n < s.size, runC s[n] = false) : runN s.data.toList = n := by
  unfold runN
  have hs : s.data.toList = s.data.toList.take n ++ s.data.toList.drop n := (List.take_append_drop _ _).symm
  rw [hs, List.takeWhile_append_of_pos]
  · have h0 : (s.data.toList.drop n).takeWhile runC = [] := by
      by_cases h : n < s.size
      · rw [drop_cons h, List.takeWhile_cons, h2 h]
        rfl
      · rw [List.drop_of_length_le (l := s.data.toList) (i := n) (by simp; omega)]
        rfl
    rw [h0, List.append_nil, List.length_take]
    simp
    omega
  · intro a ha
    obtain ⟨j, hj, rfl⟩ := List.mem_iff_getElem.1 ha
    simp only [List.length_take] at hj
    have hj' : j < s.size := by have := hj; simp at this; omega
    have := h1 j (by omega) hj'
    rw [List.getElem_take]
    exact this

theorem nextP_quote {u : ByteArray} (hz : 0 < u.size) (h : u[0].toNat = 39) : nextP u = match quotedQ u 1 [] with
    | some (t, n) => ((4, ⟨t.toArray⟩), n, plainB ⟨t.toArray⟩)
    | none => ((0, ⟨#[]⟩), 0, false) := by
  have h0 : u.data.toList = u[0] :: u.data.toList.drop 1 := by have := drop_cons hz; rwa [List.drop_zero] at this
  unfold nextP quotedQ
  rw [h0]
  simp only [h, if_true, List.drop_succ_cons, List.drop_zero]
  try rfl
theorem nextP_run {u : ByteArray} {n : Nat} (hz : 0 < u.size) (h : u[0].toNat ≠ 39) (hr : runC u[0] = true) (hn : runN u.data.toList = n) : nextP u = match runP (u.extract 0 n) with
    | some kt => (kt, n, true)
    | none => ((0, ⟨#[]⟩), n, false) := by
  have h0 : u.data.toList = u[0] :: u.data.toList.drop 1 := by have := drop_cons hz; rwa [List.drop_zero] at this
  unfold nextP
  rw [h0] at hn ⊢
  simp only [if_neg h, hr, if_true, hn]
  try rfl
theorem nextP_sym {u : ByteArray} (hz : 0 < u.size) (h : u[0].toNat ≠ 39) (hr : runC u[0] = false) : nextP u = ((5, u.extract 0 (symP u)), symP u, decide (0 < symP u)) := by
  have h0 : u.data.toList = u[0] :: u.data.toList.drop 1 := by have := drop_cons hz; rwa [List.drop_zero] at this
  unfold nextP
  rw [h0]
  simp only [if_neg h, hr, Bool.false_eq_true, if_false]

/-- What comes before. -/
def preT (l : List (Int × ByteArray × Nat)) : TR → TR
  | .ok m => .ok (l ++ m)
  | .bad e => .bad e
theorem preT_nil (r : TR) : preT [] r = r := by cases r <;> rfl

theorem toks_end {s : ByteArray} {f i : Nat} (hi : s.size ≤ i) : toks s f i = .ok [] := by
  cases f with
  | zero => rfl
  | succ f => rw [toks, dif_neg (by omega)]
theorem toks_space {s : ByteArray} {f i : Nat} (hi : i < s.size) (hf : s.size + 1 ≤ f + i) (h : spaceC s[i] = true) : toks s f i = toks s (f - 1) (i + 1) := by
  obtain ⟨g, rfl⟩ : ∃ g, f = g + 1 := ⟨f - 1, by omega⟩
  rw [toks, dif_pos hi, if_pos h]
  try rfl
theorem toks_tok {s : ByteArray} {f i n : Nat} {kt : Int × ByteArray} (l : List (Int × ByteArray × Nat)) (hi : i < s.size) (hf : s.size + 1 ≤ f + i) (h : spaceC s[i] = false) (hn : nextP (s.extract i s.size) = (kt, n, true)) : preT l (toks s f i) = preT (l ++ [(kt.1, kt.2, i)]) (toks s (f - 1) (i + n)) := by
  obtain ⟨g, rfl⟩ : ∃ g, f = g + 1 := ⟨f - 1, by omega⟩
  rw [toks, dif_pos hi, if_neg (by rw [h]; decide), hn, Nat.add_sub_cancel]
  simp only
  cases toks s g (i + n) <;> simp [preT]
theorem toks_no {s : ByteArray} {f i n : Nat} {kt : Int × ByteArray} (hi : i < s.size) (hf : s.size + 1 ≤ f + i) (h : spaceC s[i] = false) (hn : nextP (s.extract i s.size) = (kt, n, false)) : toks s f i = .bad i := by
  obtain ⟨g, rfl⟩ : ∃ g, f = g + 1 := ⟨f - 1, by omega⟩
  rw [toks, dif_pos hi, if_neg (by rw [h]; decide), hn]
end Go.Proofs.YtpnigfmclmfjaaaGreatDoor

namespace Go.Proofs.YtpnigfmclmfjaaaGreatDoor
open Go.RowKit

def kNOT : ByteArray := bs [78, 79, 84]
def kIS : ByteArray := bs [73, 83]
def kNULL : ByteArray := bs [78, 85, 76, 76]
def kBETWEEN : ByteArray := bs [66, 69, 84, 87, 69, 69, 78]
def kAND : ByteArray := bs [65, 78, 68]
def kEXISTS : ByteArray := bs [69, 88, 73, 83, 84, 83]
def kSELECT : ByteArray := bs [83, 69, 76, 69, 67, 84]
def kCOUNT : ByteArray := bs [67, 79, 85, 78, 84]
def kFROM : ByteArray := bs [70, 82, 79, 77]
def kWHERE : ByteArray := bs [87, 72, 69, 82, 69]
def kStar : ByteArray := bs [42]
def kOpen : ByteArray := bs [40]
def kShut : ByteArray := bs [41]
def kDot : ByteArray := bs [46]
def kMinus : ByteArray := bs [45]
/-- SUM, MIN, MAX. -/
def aggS (k : Int) : ByteArray := bs (if k = 10 then [83, 85, 77] else if k = 11 then [77, 73, 78] else [77, 65, 88])
def opL : List (List UInt8) := [[], [79, 82], [65, 78, 68], [61], [60, 62], [60], [60, 61], [62], [62, 61], [43], [45], [42], [47], [37]]
def opS (o : Int) : ByteArray := bs (opL.getD o.toNat [])

/-- The words of a kind with arguments, those of the arguments given. -/
def opW (k o : Int) (no : Bool) (A : List (List ByteArray)) : List ByteArray :=
  if k = 3 then kNOT :: A.getD 0 []
  else if k = 4 then kMinus :: A.getD 0 []
  else if k = 5 then A.getD 0 [] ++ opS o :: A.getD 1 []
  else if k = 6 then A.getD 0 [] ++ kIS :: (if no then [kNOT, kNULL] else [kNULL])
  else A.getD 0 [] ++ kBETWEEN :: (A.getD 1 [] ++ kAND :: A.getD 2 [])
/-- What stands ahead of FROM in an expression with a query, the items' words given. -/
def headW (k : Int) (I : List (List ByteArray)) : List ByteArray :=
  if k = 8 then [kEXISTS, kOpen, kSELECT, kStar]
  else if k = 9 then [kOpen, kSELECT, kCOUNT, kOpen, kStar, kShut]
  else kOpen :: kSELECT :: aggS k :: kOpen :: (I.getD 0 [] ++ [kShut])
def whereW : List (List ByteArray) → List ByteArray
  | [] => []
  | l :: r => kWHERE :: l ++ whereW r

mutual
/-- The words of an expression. -/
def wordsP : Ex → List ByteArray
  | .mk k o no v t nm args sub =>
    if k = 1 then [bs (fmtV v)]
    else if k = 2 then (if noText t = true then [nm] else [t, kDot, nm])
    else if 3 ≤ k ∧ k ≤ 7 then opW k o no (argsW k o 0 args)
    else subW k sub
def argsW (k o : Int) (i : Nat) : List Ex → List (List ByteArray)
  | [] => []
  | e :: es => (if precP e.kind e.op < leastP k o i then kOpen :: (wordsP e ++ [kShut]) else wordsP e) :: argsW k o (i + 1) es
def manyW : List Ex → List (List ByteArray)
  | [] => []
  | e :: es => wordsP e :: manyW es
def subW (k : Int) : List Qu → List ByteArray
  | [] => []
  | .mk _ items f whr :: _ => headW k (manyW items) ++ (kFROM :: f :: whereW (manyW whr)) ++ [kShut]
end

theorem wordsP_eq (e : Ex) : wordsP e = if e.kind = 1 then [bs (fmtV e.val)] else if e.kind = 2 then (if noText e.table = true then [e.name] else [e.table, kDot, e.name]) else if 3 ≤ e.kind ∧ e.kind ≤ 7 then opW e.kind e.op e.no (argsW e.kind e.op 0 e.args) else subW e.kind e.sub := by
  obtain ⟨k, o, no, v, t, nm, args, sub⟩ := e
  rw [wordsP]
  rfl
theorem manyW_eq : ∀ l : List Ex, manyW l = l.map wordsP
  | [] => by simp [manyW]
  | e :: l => by rw [manyW, manyW_eq l, List.map_cons]

/-- The words of the argument i. -/
def argW (k o : Int) (i : Nat) (e : Ex) : List ByteArray := if precP e.kind e.op < leastP k o i then kOpen :: (wordsP e ++ [kShut]) else wordsP e
theorem argsW_get (k o : Int) : ∀ (l : List Ex) (j i : Nat) (e : Ex), l[i]? = some e → (argsW k o j l).getD i [] = argW k o (j + i) e
  | [], _, _, _, h => by simp at h
  | x :: l, j, 0, e, h => by
    simp only [List.getElem?_cons_zero, Option.some.injEq] at h
    subst h
    rw [argsW]
    rfl
  | x :: l, j, i + 1, e, h => by
    rw [argsW, List.getD_cons_succ, argsW_get k o l (j + 1) i e (by simpa using h)]
    congr 1
    omega

/-- Whether a space stands between two words. -/
def glueB (p : Option ByteArray) (t : ByteArray) : Bool := match p with
  | none => false
  | some p => !Lib.contains [44, 59, 46, 41] t.data.toList && !(p.toList == [40]) && !(p.toList == [46])
/-- The text that words make, behind a word. -/
def joinL (p : Option ByteArray) : List ByteArray → List UInt8
  | [] => []
  | t :: l => (if glueB p t = true then [32] else []) ++ t.data.toList ++ joinL (some t) l
def lastW (p : Option ByteArray) : List ByteArray → Option ByteArray
  | [] => p
  | t :: l => lastW (some t) l
theorem joinL_snoc : ∀ (l : List ByteArray) (p : Option ByteArray) (t : ByteArray), joinL p (l ++ [t]) = joinL p l ++ ((if glueB (lastW p l) t = true then [32] else []) ++ t.data.toList)
  | [], p, t => by
    simp only [List.nil_append, joinL, lastW, List.append_nil]
    rfl
  | x :: l, p, t => by
    rw [List.cons_append, joinL, joinL, joinL_snoc l (some x) t, lastW]
    simp only [List.append_assoc]
theorem lastW_snoc : ∀ (l : List ByteArray) (p : Option ByteArray) (t : ByteArray), lastW p (l ++ [t]) = some t
  | [], _, _ => rfl
  | _ :: l, _, t => lastW_snoc l _ t

/-- The text of an expression. -/
def textP (e : Ex) : ByteArray := bs (joinL none (wordsP e))
end Go.Proofs.YtpnigfmclmfjaaaGreatDoor

namespace Go.Proofs.YtpnigfmclmfjaaaGreatDoor
open Go.RowKit

/-- Quotes doubled. -/
def dblL (l : List UInt8) : List UInt8 := l.flatMap fun b => if b = 39 then [39, 39] else [b]
theorem dblL_cons (b : UInt8) (l : List UInt8) : dblL (b :: l) = (if b = 39 then [39, 39] else [b]) ++ dblL l := by simp [dblL]
theorem repK_dbl : ∀ s : List UInt8, Lib.replaceK [39] [39, 39] (Lib.count s [39]) s = dblL s
  | [] => by
    rw [Lib.count_one]
    rfl
  | b :: l => by
    have ih := repK_dbl l
    by_cases hb : b = 39
    · subst hb
      rw [Lib.count_cons_eq, Nat.add_comm, Lib.replaceK_hit [39] [39, 39] _ _ 0 (by simp [Lib.index]), dblL_cons, if_pos rfl, ← ih]
      rfl
    · rw [Lib.count_cons_ne _ _ _ hb, dblL_cons, if_neg hb, ← ih]
      have hix : Lib.index (b :: l) [39] = if Lib.index l [39] == -1 then -1 else Lib.index l [39] + 1 := by
        rw [Lib.index]
        rw [if_neg]
        simp [List.isPrefixOf]
        exact fun h => hb h.symm
      cases hk : Lib.count l [39] with
      | zero => rfl
      | succ k =>
        obtain ⟨i, hi⟩ := Lib.index_of_count (s := l) (old := [39]) (by omega)
        rw [Lib.replaceK_hit [39] [39, 39] k l i hi, Lib.replaceK_hit [39] [39, 39] k (b :: l) (i + 1) (by rw [hix, hi, if_neg (by simp)]; rfl)]
        simp [Nat.add_assoc]
theorem repAll_dbl (s : List UInt8) : Lib.replaceAll s [39] [39, 39] = dblL s := by
  unfold Lib.replaceAll Lib.replace Lib.replaceNum
  rw [if_neg (by decide), if_pos (.inl (by decide))]
  exact repK_dbl s

/-- What stands in quotes is read back. -/
theorem quotedL_dbl : ∀ (t : List UInt8) (i : Nat) (acc rest : List UInt8), (∀ c r, rest = c :: r → c ≠ 39) → quotedL (dblL t ++ 39 :: rest) i acc = some (acc ++ t, i + (dblL t).length + 1)
  | [], i, acc, rest, h => by
    show quotedL (39 :: rest) i acc = _
    cases rest with
    | nil => simp [quotedL, dblL]
    | cons c r =>
      have hc := h c r rfl
      have hn : ¬ c.toNat = 39 := fun e => hc (UInt8.toNat_inj.1 e)
      rw [quotedL, if_pos (by decide), if_neg hn]
      simp [dblL]
  | b :: t, i, acc, rest, h => by
    rw [dblL_cons]
    by_cases hb : b = 39
    · subst hb
      rw [if_pos rfl]
      show quotedL (39 :: 39 :: (dblL t ++ 39 :: rest)) i acc = _
      rw [quotedL, if_pos (by decide), if_pos (by decide), quotedL_dbl t _ _ _ h]
      simp
      omega
    · rw [if_neg hb]
      have hn : ¬ b.toNat = 39 := fun e => hb (UInt8.toNat_inj.1 e)
      have hx : ∃ d l, dblL t ++ 39 :: rest = d :: l := by
        cases dblL t with
        | nil => exact ⟨_, _, rfl⟩
        | cons x y => exact ⟨_, _, rfl⟩
      obtain ⟨d, l, hd⟩ := hx
      show quotedL (b :: (dblL t ++ 39 :: rest)) i acc = _
      rw [hd, quotedL, if_neg hn, ← hd, quotedL_dbl t _ _ _ h]
      simp
      omega

def symWords : List (List UInt8) := [[40], [41], [44], [46], [59], [42], [43], [45], [47], [37], [61], [60], [62], [60, 62], [60, 61], [62, 61]]
/-- A word is a token of this kind and text. -/
inductive TW : ByteArray → Int → ByteArray → Prop
  | run (w : ByteArray) (k : Int) (h0 : w.data.toList ≠ []) (ha : ∀ c ∈ w.data.toList, runC c = true) (hr : runP w = some (k, w)) : TW w k w
  | sym (w : ByteArray) (h : w.data.toList ∈ symWords) : TW w 5 w
  | txt (t : ByteArray) (h : plainB t = true) : TW (bs (39 :: (dblL t.data.toList ++ [39]))) 4 t

/-- What may follow a word directly. -/
def sepH (rest : List UInt8) : Prop := ∀ c r, rest = c :: r → c = 9 ∨ c = 10 ∨ c = 32 ∨ c = 44 ∨ c = 59 ∨ c = 46 ∨ c = 41
theorem sep_run {rest : List UInt8} (h : sepH rest) : rest.takeWhile runC = [] := by
  cases rest with
  | nil => rfl
  | cons c r =>
    have : runC c = false := by rcases h c r rfl with rfl | rfl | rfl | rfl | rfl | rfl | rfl <;> decide
    rw [List.takeWhile_cons, this]
    rfl

theorem head_of {u : ByteArray} {c : UInt8} {r : List UInt8} (h : u.data.toList = c :: r) : ∃ hz : 0 < u.size, u[0] = c := by
  have hl := congrArg List.length h
  simp only [List.length_cons, Array.length_toList] at hl
  have hz : 0 < u.size := by show 0 < u.data.size; omega
  refine ⟨hz, ?_⟩
  have h0 : u.data.toList[0]? = some c := by rw [h]; rfl
  simp at h0
  obtain ⟨_, h1⟩ := Array.getElem?_eq_some_iff.1 h0
  exact h1

theorem ext_take {u : ByteArray} {a b : List UInt8} (h : u.data.toList = a ++ b) : u.extract 0 a.length = ⟨a.toArray⟩ := by
  apply bytes_ext
  rw [Lib.extract_data, h]
  simp

/-- The symbol that begins a list of bytes. -/
def symLP : List UInt8 → Nat
  | [] => 0
  | [c] => if symL.contains c = true then 1 else 0
  | c :: d :: _ => if (c = 60 ∧ (d = 62 ∨ d = 61)) ∨ (c = 62 ∧ d = 61) then 2 else if symL.contains c = true then 1 else 0
theorem ext2_iff (u : ByteArray) (a b : UInt8) : (u.extract 0 2 = (⟨#[a, b]⟩ : ByteArray)) ↔ u.data.toList.take 2 = [a, b] := by
  constructor
  · intro h
    have := congrArg (fun x : ByteArray => x.data.toList) h
    rw [Lib.extract_data] at this
    simpa using this
  · intro h
    apply bytes_ext
    rw [Lib.extract_data]
    simpa using h
theorem symP_list (u : ByteArray) : symP u = symLP u.data.toList := by
  unfold symP
  have h1 : "<>".toUTF8 = ⟨#[60, 62]⟩ := by decide +kernel
  have h2 : "<=".toUTF8 = ⟨#[60, 61]⟩ := by decide +kernel
  have h3 : ">=".toUTF8 = ⟨#[62, 61]⟩ := by decide +kernel
  have hz : u.size = u.data.toList.length := by simp
  rw [h1, h2, h3, hz]
  simp only [ext2_iff]
  generalize u.data.toList = l
  match l with
  | [] => simp [symLP]
  | [c] => simp [symLP]
  | c :: d :: r =>
    simp only [symLP, List.take_succ_cons, List.take_zero, List.cons.injEq, and_true, List.length_cons, List.head?_cons, Option.any_some]
    have e : (2 ≤ r.length + 1 + 1 ∧ (c = 60 ∧ d = 62 ∨ c = 60 ∧ d = 61 ∨ c = 62 ∧ d = 61)) ↔ (c = 60 ∧ (d = 62 ∨ d = 61) ∨ c = 62 ∧ d = 61) := by
      constructor
      · rintro ⟨_, h | h | h⟩
        · exact .inl ⟨h.1, .inl h.2⟩
        · exact .inl ⟨h.1, .inr h.2⟩
        · exact .inr h
      · rintro (⟨h, h' | h'⟩ | h)
        · exact ⟨by omega, .inl ⟨h, h'⟩⟩
        · exact ⟨by omega, .inr (.inl ⟨h, h'⟩)⟩
        · exact ⟨by omega, .inr (.inr h)⟩
    simp only [e]
    rfl

theorem size_list (w : ByteArray) : w.size = w.data.toList.length := by simp

theorem next_tw {w t : ByteArray} {k : Int} {rest : List UInt8} {u : ByteArray} (hw : TW w k t) (hs : w = kOpen ∨ w = kDot ∨ sepH rest) (hu : u.data.toList = w.data.toList ++ rest) : nextP u = ((k, t), w.size, true) := by
  have hx := ext_take hu
  cases hw with
  | run _ _ h0 ha hr =>
    have hsep : sepH rest := by
      rcases hs with rfl | rfl | h
      · exact absurd (ha 40 (by simp [kOpen, bs])) (by decide)
      · exact absurd (ha 46 (by simp [kDot, bs])) (by decide)
      · exact h
    cases hw : w.data.toList with
    | nil => exact absurd hw h0
    | cons c l =>
      obtain ⟨hz, hc⟩ := head_of (u := u) (c := c) (r := l ++ rest) (by rw [hu, hw]; rfl)
      have hr0 : runC c = true := ha c (by rw [hw]; simp)
      have h39 : u[0].toNat ≠ 39 := by
        rw [hc]
        intro e
        rw [show c = 39 from UInt8.toNat_inj.1 e] at hr0
        exact absurd hr0 (by decide)
      have hn : runN u.data.toList = w.size := by
        unfold runN
        rw [hu, List.takeWhile_append_of_pos ha, sep_run hsep, List.append_nil, size_list]
      rw [nextP_run hz h39 (by rw [hc]; exact hr0) hn, size_list, hx]
      rw [show (⟨w.data.toList.toArray⟩ : ByteArray) = w from rfl, hr]
  | sym _ h =>
    have key : symLP u.data.toList = w.size ∧ ∃ c r, u.data.toList = c :: r ∧ c.toNat ≠ 39 ∧ runC c = false := by
      rw [hu, size_list]
      have hs' : (w.data.toList = [40] ∨ w.data.toList = [46]) ∨ sepH rest := by
        rcases hs with rfl | rfl | h
        · exact .inl (.inl rfl)
        · exact .inl (.inr rfl)
        · exact .inr h
      generalize w.data.toList = l at h hs'
      have hd : ∀ d r, rest = d :: r → sepH rest → d ≠ 62 ∧ d ≠ 61 := by
        intro d r e hsep
        rcases hsep d r e with rfl | rfl | rfl | rfl | rfl | rfl | rfl <;> decide
      simp only [symWords, List.mem_cons, List.not_mem_nil, or_false] at h
      rcases h with rfl | rfl | rfl | rfl | rfl | rfl | rfl | rfl | rfl | rfl | rfl | rfl | rfl | rfl | rfl | rfl
      all_goals
        refine ⟨?_, _, _, rfl, by decide, by decide⟩
        first
          | (cases rest with
             | nil => rfl
             | cons d r =>
               first
                 | rfl
                 | (have hsep : sepH (d :: r) := by
                      rcases hs' with (h | h) | h
                      · exact absurd h (by decide)
                      · exact absurd h (by decide)
                      · exact h
                    obtain ⟨h1, h2⟩ := hd d r rfl hsep
                    simp [symLP, h1, h2]
                    try decide))
    obtain ⟨h1, c, r, h2, h3, h4⟩ := key
    obtain ⟨hz, hc⟩ := head_of h2
    have hpos : 0 < w.size := by
      rw [size_list]
      simp only [symWords, List.mem_cons, List.not_mem_nil, or_false] at h
      rcases h with h | h | h | h | h | h | h | h | h | h | h | h | h | h | h | h <;> rw [h] <;> decide
    rw [nextP_sym hz (by rw [hc]; exact h3) (by rw [hc]; exact h4), symP_list, h1, size_list, hx]
    rw [← size_list]
    simp [hpos]
  | txt t h =>
    have hsep : sepH rest := by
      rcases hs with h | h | h
      · exact absurd (congrArg (fun x : ByteArray => x.data.toList.head?) h) (by simp [bs, kOpen])
      · exact absurd (congrArg (fun x : ByteArray => x.data.toList.head?) h) (by simp [bs, kDot])
      · exact h
    have hu' : u.data.toList = 39 :: (dblL t.data.toList ++ 39 :: rest) := by rw [hu]; simp [bs]
    obtain ⟨hz, hc⟩ := head_of hu'
    have hq : quotedQ u 1 [] = some (t.data.toList, 1 + (dblL t.data.toList).length + 1) := by
      unfold quotedQ
      rw [hu']
      show quotedL (dblL t.data.toList ++ 39 :: rest) 1 [] = _
      rw [quotedL_dbl _ _ _ _ (fun c r e => by rcases hsep c r e with rfl | rfl | rfl | rfl | rfl | rfl | rfl <;> decide), List.nil_append]
    rw [nextP_quote hz (by rw [hc]; decide), hq]
    simp only [show (⟨t.data.toList.toArray⟩ : ByteArray) = t from rfl, h]
    congr 2
    rw [size_list]
    simp [bs]
    omega
end Go.Proofs.YtpnigfmclmfjaaaGreatDoor

namespace Go.Proofs.YtpnigfmclmfjaaaGreatDoor
open Go.RowKit

theorem ofNat_inj {a b : Nat} (ha : a < 256) (hb : b < 256) (h : UInt8.ofNat a = UInt8.ofNat b) : a = b := by
  have := congrArg UInt8.toNat h
  simpa [UInt8.toNat_ofNat', Nat.mod_eq_of_lt ha, Nat.mod_eq_of_lt hb] using this

theorem dec_range (u : Nat) : Lib.decDigits u ≠ [] ∧ ∀ c ∈ Lib.decDigits u, 48 ≤ c.toNat ∧ c.toNat ≤ 57 := by
  induction u using Nat.strongRecOn with
  | _ u ih =>
    rw [Lib.decDigits]
    split
    · refine ⟨by simp, fun c hc => ?_⟩
      rw [List.mem_singleton.1 hc, UInt8.toNat_ofNat', Nat.mod_eq_of_lt (by omega)]
      omega
    · refine ⟨by simp, fun c hc => ?_⟩
      rcases List.mem_append.1 hc with hc | hc
      · exact (ih (u / 10) (by omega)).2 c hc
      · rw [List.mem_singleton.1 hc, UInt8.toNat_ofNat', Nat.mod_eq_of_lt (by omega)]
        omega

theorem dec_big {u : Nat} (h : ¬ u < 10) : Lib.decDigits u = Lib.decDigits (u / 10) ++ [UInt8.ofNat (48 + u % 10)] := by rw [Lib.decDigits, dif_neg h]

theorem dec_inj (u : Nat) : ∀ v, Lib.decDigits u = Lib.decDigits v → u = v := by
  induction u using Nat.strongRecOn with
  | _ u ih =>
    intro v h
    by_cases hu : u < 10
    · by_cases hv : v < 10
      · rw [Lib.decDigits_one hu, Lib.decDigits_one hv] at h
        have := ofNat_inj (by omega) (by omega) (List.singleton_inj.1 h)
        omega
      · have h1 := congrArg List.length h
        rw [Lib.decDigits_length, Lib.decDigits_length, Lib.nDigits_small hu, Lib.nDigits_big hv] at h1
        have := Lib.nDigits_pos (v / 10)
        omega
    · by_cases hv : v < 10
      · have h1 := congrArg List.length h
        rw [Lib.decDigits_length, Lib.decDigits_length, Lib.nDigits_small hv, Lib.nDigits_big hu] at h1
        have := Lib.nDigits_pos (u / 10)
        omega
      · rw [dec_big hu, dec_big hv] at h
        obtain ⟨h1, h2⟩ := List.append_inj' h rfl
        have h3 := ih (u / 10) (by omega) (v / 10) h1
        have h4 := ofNat_inj (by omega) (by omega) (List.singleton_inj.1 h2)
        omega

theorem itoa_head (n : Int) : ∃ c r, Lib.itoa n = c :: r ∧ (c.toNat = 45 ∨ (48 ≤ c.toNat ∧ c.toNat ≤ 57)) := by
  unfold Lib.itoa
  split
  · exact ⟨45, _, rfl, .inl rfl⟩
  · obtain ⟨h1, h2⟩ := dec_range n.toNat
    cases h : Lib.decDigits n.toNat with
    | nil => exact absurd h h1
    | cons c r => exact ⟨c, r, rfl, .inr (h2 c (by rw [h]; exact List.mem_cons_self ..))⟩

theorem itoa_inj {n m : Int} (h : Lib.itoa n = Lib.itoa m) : n = m := by
  have hne : ∀ u v : Nat, (45 : UInt8) :: Lib.decDigits u ≠ Lib.decDigits v := by
    intro u v e
    have := (dec_range v).2 45 (by rw [← e]; exact List.mem_cons_self ..)
    simp at this
  unfold Lib.itoa at h
  split at h <;> split at h
  · have := dec_inj _ _ (List.cons.inj h).2
    omega
  · exact absurd h (hne _ _)
  · exact absurd h.symm (hne _ _)
  · have := dec_inj _ _ h
    omega

theorem valid_of {x : Val} (h : ValidVal x) : validV x = true := by
  have hw : ∀ i, i < 6 → plainB (wordAt i) = true := by decide +kernel
  have he : noText ⟨#[]⟩ = true := by decide +kernel
  obtain ⟨k, n, s⟩ := x
  unfold ValidVal at h
  simp only at h
  rcases h with ⟨rfl, rfl, rfl⟩ | ⟨rfl, _, rfl⟩ | ⟨rfl, h0, h1, rfl⟩ | ⟨rfl, rfl, i, hi, rfl⟩
  · simp [validV, he]
  · simp [validV, he]
  · have : n = 0 ∨ n = 1 := by omega
    simp [validV, he, this]
  · simp [validV, hw i hi]

theorem fmt_words : ∀ i, i < 6 → ∀ j, j < 6 → fmtV ⟨3, 0, wordAt i⟩ = fmtV ⟨3, 0, wordAt j⟩ → (wordAt i).data.toList = (wordAt j).data.toList := by decide +kernel
theorem fmt_head3 : ∀ i, i < 6 → (fmtV ⟨3, 0, wordAt i⟩).head? = some 39 := by decide +kernel

/-- The first byte tells the kind. -/
def headK (k : Int) (c : UInt8) : Prop := (k = 0 ∧ c.toNat = 78) ∨ (k = 1 ∧ (c.toNat = 45 ∨ (48 ≤ c.toNat ∧ c.toNat ≤ 57))) ∨ (k = 2 ∧ (c.toNat = 84 ∨ c.toNat = 70)) ∨ (k = 3 ∧ c.toNat = 39)

theorem fmt_head {x : Val} (h : ValidVal x) : ∃ c, (fmtV x).head? = some c ∧ headK x.kind c := by
  have hv := valid_of h
  obtain ⟨k, n, s⟩ := x
  unfold ValidVal at h
  simp only at h
  rcases h with ⟨rfl, rfl, rfl⟩ | ⟨rfl, _, rfl⟩ | ⟨rfl, h0, h1, rfl⟩ | ⟨rfl, rfl, i, hi, rfl⟩
  · exact ⟨78, by simp [fmtV, hv], .inl ⟨rfl, rfl⟩⟩
  · obtain ⟨c, r, hc, hr⟩ := itoa_head n
    exact ⟨c, by simp [fmtV, hv, hc], .inr (.inl ⟨rfl, hr⟩)⟩
  · by_cases h1 : n = 1
    · subst h1
      exact ⟨84, by simp [fmtV, hv], .inr (.inr (.inl ⟨rfl, .inl rfl⟩))⟩
    · exact ⟨70, by simp [fmtV, hv, h1], .inr (.inr (.inl ⟨rfl, .inr rfl⟩))⟩
  · exact ⟨39, fmt_head3 i hi, .inr (.inr (.inr ⟨rfl, rfl⟩))⟩

theorem fmt_inj {x y : Val} (hx : ValidVal x) (hy : ValidVal y) (h : fmtV x = fmtV y) : x = y := by
  obtain ⟨c, hc, kc⟩ := fmt_head hx
  obtain ⟨d, hd, kd⟩ := fmt_head hy
  rw [h, hd] at hc
  cases hc
  have hk : x.kind = y.kind := by unfold headK at kc kd; omega
  clear kc kd hd
  have vx := valid_of hx
  have vy := valid_of hy
  obtain ⟨k, n, s⟩ := x
  obtain ⟨k', n', s'⟩ := y
  simp only at hk
  subst hk
  unfold ValidVal at hx hy
  simp only at hx hy
  rcases hx with ⟨rfl, rfl, rfl⟩ | ⟨rfl, _, rfl⟩ | ⟨rfl, h0, h1, rfl⟩ | ⟨rfl, rfl, i, hi, rfl⟩
  · rcases hy with ⟨_, rfl, rfl⟩ | ⟨h, _⟩ | ⟨h, _⟩ | ⟨h, _⟩
    · rfl
    all_goals exact absurd h (by decide)
  · rcases hy with ⟨h, _⟩ | ⟨_, _, rfl⟩ | ⟨h, _⟩ | ⟨h, _⟩
    · exact absurd h (by decide)
    · simp [fmtV, vx, vy] at h
      rw [itoa_inj h]
    all_goals exact absurd h (by decide)
  · rcases hy with ⟨h, _⟩ | ⟨h, _⟩ | ⟨_, h2, h3, rfl⟩ | ⟨h, _⟩
    · exact absurd h (by decide)
    · exact absurd h (by decide)
    · have e1 : n = 0 ∨ n = 1 := by omega
      have e2 : n' = 0 ∨ n' = 1 := by omega
      rcases e1 with rfl | rfl <;> rcases e2 with rfl | rfl <;> first | rfl | (simp [fmtV, vx, vy] at h)
    · exact absurd h (by decide)
  · rcases hy with ⟨h, _⟩ | ⟨h, _⟩ | ⟨h, _⟩ | ⟨_, rfl, j, hj, rfl⟩
    · exact absurd h (by decide)
    · exact absurd h (by decide)
    · exact absurd h (by decide)
    · rw [bytes_ext (fmt_words i hi j hj h)]

theorem fmt_not63 {x : Val} (hx : ValidVal x) : fmtV x ≠ [63] := by
  intro h
  obtain ⟨c, hc, kc⟩ := fmt_head hx
  rw [h] at hc
  cases hc
  unfold headK at kc
  simp at kc

theorem txt_inj {a b : List UInt8} (h : txt a = txt b) : a = b := by
  have := congrArg (fun s : ByteArray => s.data.toList) h
  simpa [txt] using this

end Go.Proofs.YtpnigfmclmfjaaaGreatDoor

namespace Go.Proofs.YtpnigfmclmfjaaaGreatDoor
open Go.RowKit

def TRel : List ByteArray → List (Int × ByteArray × Nat) → Prop
  | [], [] => True
  | w :: ws, x :: l => TW w x.1 x.2.1 ∧ TRel ws l
  | _, _ => False

theorem tw_head {w t : ByteArray} {k : Int} (h : TW w k t) : ∃ c r, w.data.toList = c :: r ∧ spaceC c = false := by
  cases h with
  | run _ _ h0 ha hr =>
    cases hw : w.data.toList with
    | nil => exact absurd hw h0
    | cons c r =>
      have hc := ha c (by rw [hw]; simp)
      refine ⟨c, r, rfl, ?_⟩
      have : ∀ n : Fin 256, runC (UInt8.ofNat n.1) = true → spaceC (UInt8.ofNat n.1) = false := by decide +kernel
      have e : UInt8.ofNat c.toNat = c := by simp
      have := this ⟨c.toNat, c.toNat_lt⟩
      rw [e] at this
      exact this hc
  | sym _ h =>
    generalize w.data.toList = l at h
    simp only [symWords, List.mem_cons, List.not_mem_nil, or_false] at h
    rcases h with rfl | rfl | rfl | rfl | rfl | rfl | rfl | rfl | rfl | rfl | rfl | rfl | rfl | rfl | rfl | rfl <;> exact ⟨_, _, rfl, by decide⟩
  | txt t h => exact ⟨39, _, by simp [bs]; rfl, by decide⟩

theorem contains_head {c : UInt8} {r : List UInt8} (h : Lib.contains [44, 59, 46, 41] (c :: r) = true) : c = 44 ∨ c = 59 ∨ c = 46 ∨ c = 41 := by
  unfold Lib.contains at h
  rcases Lib.index_spec [44, 59, 46, 41] (c :: r) with ⟨e, _⟩ | ⟨i, e, hi, ho, _⟩
  · rw [e] at h
    exact absurd h (by decide)
  · unfold Lib.occAt at ho
    match i, hi with
    | 0, _ => simp [List.isPrefixOf] at ho; exact .inl ho.1
    | 1, _ => simp [List.isPrefixOf] at ho; exact .inr (.inl ho.1)
    | 2, _ => simp [List.isPrefixOf] at ho; exact .inr (.inr (.inl ho.1))
    | 3, _ => simp [List.isPrefixOf] at ho; exact .inr (.inr (.inr ho.1))
    | 4, _ => simp at ho
    | n + 5, h => simp at h

theorem join_sep {w : ByteArray} {ws : List ByteArray} (h1 : w ≠ kOpen) (h2 : w ≠ kDot) (hne : ∀ x ∈ ws, x.data.toList ≠ []) : sepH (joinL (some w) ws) := by
  cases ws with
  | nil => intro c r h; cases h
  | cons t l =>
    intro c r h
    rw [joinL] at h
    by_cases hg : glueB (some w) t = true
    · rw [if_pos hg] at h
      right; right; left
      have := congrArg List.head? h
      simpa using this.symm
    · rw [if_neg hg] at h
      right; right; right
      have e1 : ¬ w.toList = [40] := fun e => h1 (bytes_ext (by rw [ByteArray.toList_eq] at e; rw [e]; rfl))
      have e2 : ¬ w.toList = [46] := fun e => h2 (bytes_ext (by rw [ByteArray.toList_eq] at e; rw [e]; rfl))
      simp only [glueB, Bool.and_eq_true, Bool.not_eq_true', beq_eq_false_iff_ne, ne_eq, e1, e2, not_false_iff, and_true, Bool.not_eq_false] at hg
      cases ht : t.data.toList with
      | nil => exact absurd ht (hne t (by simp))
      | cons d x =>
        rw [ht] at hg h
        have := congrArg List.head? h
        simp at this
        subst this
        exact contains_head hg

theorem toks_word {s w t : ByteArray} {k : Int} {rest : List UInt8} {f j : Nat} (hw : TW w k t) (hs : w = kOpen ∨ w = kDot ∨ sepH rest) (hd : s.data.toList.drop j = w.data.toList ++ rest) (hf : s.size + 1 ≤ f + j) :
    toks s f j = preT [(k, t, j)] (toks s (f - 1) (j + w.size)) ∧ s.data.toList.drop (j + w.size) = rest ∧ j + w.size ≤ s.size := by
  obtain ⟨c, r, hc, hsp⟩ := tw_head hw
  have hlt : j < s.size := by
    rcases Nat.lt_or_ge j s.size with h | h
    · exact h
    · rw [List.drop_of_length_le (by simpa using h), hc] at hd
      cases hd
  have hcs : s[j] = c := by
    rw [drop_cons hlt, hc] at hd
    exact (List.cons.inj hd).1
  have hx : (s.extract j s.size).data.toList = w.data.toList ++ rest := by
    rw [Lib.extract_data, List.take_of_length_le (by simp), hd]
  have hn := next_tw hw hs hx
  have h1 := toks_tok [] hlt hf (by rw [hcs]; exact hsp) hn
  refine ⟨by rw [preT_nil] at h1; simpa using h1, ?_, ?_⟩
  · rw [← List.drop_drop, hd, size_list, List.drop_left]
  · have := congrArg List.length hd
    simp only [List.length_drop, List.length_append] at this
    rw [size_list]
    have hz := size_list s
    omega

theorem toks_join (s : ByteArray) : ∀ (ws : List ByteArray) (p : Option ByteArray) (i f : Nat), s.data.toList.drop i = joinL p ws → i ≤ s.size → (∀ w ∈ ws, ∃ k t, TW w k t) → s.size + 1 ≤ f + i → ∃ l, toks s f i = .ok l ∧ TRel ws l
  | [], p, i, f, hd, hi, _, hf => by
    rw [joinL] at hd
    have := congrArg List.length hd
    simp at this
    exact ⟨[], toks_end (by omega), trivial⟩
  | w :: ws, p, i, f, hd, hi, hw, hf => by
    obtain ⟨k, t, hk⟩ := hw w (by simp)
    have hne : ∀ x ∈ ws, x.data.toList ≠ [] := fun x hx => by
      obtain ⟨k, t, h⟩ := hw x (by simp [hx])
      obtain ⟨c, r, hc, _⟩ := tw_head h
      rw [hc]
      exact List.cons_ne_nil _ _
    have hs : w = kOpen ∨ w = kDot ∨ sepH (joinL (some w) ws) := by
      by_cases h1 : w = kOpen
      · exact .inl h1
      · by_cases h2 : w = kDot
        · exact .inr (.inl h2)
        · exact .inr (.inr (join_sep h1 h2 hne))
    have step : ∀ j g, s.data.toList.drop j = w.data.toList ++ joinL (some w) ws → s.size + 1 ≤ g + j → ∃ l, toks s g j = .ok l ∧ TRel (w :: ws) l := by
      intro j g hd hg
      obtain ⟨h1, h2, h3⟩ := toks_word hk hs hd hg
      obtain ⟨c, r, hc, _⟩ := tw_head hk
      have hpos : 0 < w.size := by rw [size_list, hc]; simp
      obtain ⟨l, hl, hr⟩ := toks_join s ws (some w) (j + w.size) (g - 1) h2 h3 (fun x hx => hw x (by simp [hx])) (by omega)
      exact ⟨(k, t, j) :: l, by rw [h1, hl]; rfl, hk, hr⟩
    rw [joinL] at hd
    by_cases hg : glueB p w = true
    · rw [if_pos hg] at hd
      have hlt : i < s.size := by
        rcases Nat.lt_or_ge i s.size with h | h
        · exact h
        · rw [List.drop_of_length_le (by simpa using h)] at hd
          cases hd
      have hd' := hd
      rw [drop_cons hlt] at hd'
      have e1 : s[i] = 32 := (List.cons.inj hd').1
      have e2 : s.data.toList.drop (i + 1) = w.data.toList ++ joinL (some w) ws := (List.cons.inj hd').2
      rw [toks_space hlt hf (by rw [e1]; decide)]
      exact step (i + 1) (f - 1) e2 (by omega)
    · rw [if_neg hg, List.nil_append] at hd
      exact step i f hd hf

/-- The tokens of a text that words make. -/
theorem toks_words (ws : List ByteArray) (hw : ∀ w ∈ ws, ∃ k t, TW w k t) : ∃ l, toks (bs (joinL none ws)) ((bs (joinL none ws)).size + 1) 0 = .ok l ∧ TRel ws l :=
  toks_join _ ws none 0 _ rfl (Nat.zero_le _) hw (Nat.le_refl _)

theorem parseM_snoc (M : Nat) (c : UInt8) : ∀ (l : List UInt8) (acc a : Nat), Lib.parseUintM M acc l = .ok a → Lib.parseUintM M acc (l ++ [c]) = Lib.parseUintM M a [c]
  | [], acc, a, h => by
    simp only [Lib.parseUintM] at h
    injection h with h
    subst h
    rfl
  | d :: l, acc, a, h => by
    rw [List.cons_append]
    unfold Lib.parseUintM at h ⊢
    split
    · rename_i hd
      rw [if_pos hd] at h
      split
      · rename_i h1
        rw [if_pos h1] at h
        cases h
      · rename_i h1
        rw [if_neg h1] at h
        split
        · rename_i h2
          rw [if_pos h2] at h
          cases h
        · rename_i h2
          rw [if_neg h2] at h
          have := parseM_snoc M c l _ _ h
          rw [this]
          rfl
    · rename_i hd
      rw [if_neg hd] at h
      cases h
theorem parseM_dec (M : Nat) (hM : M ≤ 18446744073709551615) (u : Nat) : u ≤ M → Lib.parseUintM M 0 (Lib.decDigits u) = .ok u := by
  induction u using Nat.strongRecOn with
  | _ u ih =>
    intro hu
    have hdig : ∀ v, v < 10 → (UInt8.ofNat (48 + v)).toNat = 48 + v := fun v hv => by rw [UInt8.toNat_ofNat', Nat.mod_eq_of_lt (by omega)]
    by_cases h10 : u < 10
    · rw [Lib.decDigits_one h10]
      simp only [Lib.parseUintM, hdig u h10]
      rw [if_pos ⟨by omega, by omega⟩, if_neg (by omega), if_neg (by omega)]
      congr 1
      omega
    · rw [dec_big h10, parseM_snoc M _ _ _ _ (ih (u / 10) (by omega) (by omega))]
      simp only [Lib.parseUintM, hdig (u % 10) (by omega)]
      rw [if_pos ⟨by omega, by omega⟩, if_neg (by omega), if_neg (by omega)]
      congr 1
      omega
theorem parseIntB_itoa {n : Int} (h0 : 0 ≤ n) (h1 : n ≤ 9223372036854775807) : Lib.parseIntB 64 (Lib.itoa n) = .ok n := by
  obtain ⟨u, rfl⟩ := Int.eq_ofNat_of_zero_le h0
  have hi : Lib.itoa (u : Int) = Lib.decDigits u := by unfold Lib.itoa; rw [if_neg (by omega)]; rfl
  rw [hi]
  obtain ⟨hne, hr⟩ := dec_range u
  cases hd : Lib.decDigits u with
  | nil => exact absurd hd hne
  | cons c r =>
    have hc := hr c (by rw [hd]; simp)
    have hp := parseM_dec 18446744073709551615 (by omega) u (by omega)
    simp only [Lib.parseIntB]
    rw [if_neg (by omega : ¬ (c.toNat = 43 ∨ c.toNat = 45))]
    have hb : Lib.parseUintB 64 (c :: r) = .ok u := by
      unfold Lib.parseUintB
      rw [if_neg (List.cons_ne_nil _ _), ← hd]
      exact hp
    rw [hb]
    simp only
    rw [if_neg (by omega), if_neg (by omega), if_neg (by omega)]
end Go.Proofs.YtpnigfmclmfjaaaGreatDoor

namespace Go.Proofs.YtpnigfmclmfjaaaGreatDoor
open Go.RowKit

/-- Well-formed expressions, by their forms. -/
inductive VX : Ex → Prop
  | lit (v : Val) (hv : validV v = true) (h0 : v.kind = 1 → 0 ≤ v.int ∧ v.int ≤ 9223372036854775807) : VX (litX v)
  | col (t n : ByteArray) (h : columnB t n = true) : VX (colX t n)
  | ops (k o : Int) (no : Bool) (args : List Ex) (hk : OpShape k o no args.length) (ha : ∀ a ∈ args, VX a) : VX (opX k o no args [])
  | sub (k : Int) (f : ByteArray) (items whr : List Ex) (hk : ((k = 8 ∨ k = 9) ∧ items = []) ∨ ((k = 10 ∨ k = 11 ∨ k = 12) ∧ items.length = 1)) (hf : sourceB f = true) (hw : whr.length ≤ 1) (h1 : ∀ x ∈ items, VX x) (h2 : ∀ x ∈ whr, VX x) : VX (opX k 0 false [] [.mk (k == 8) items f whr])

theorem any_vx {n : Nat} {e : Ex} (h : AnyX n e) : VX e := by
  induction h with
  | col n q i hq hi =>
    refine .col _ _ ?_
    have hall : ∀ q ∈ qualL, ∀ i, i < 8 → columnB q (nameAt i) = true := by decide +kernel
    exact hall q hq i hi
  | lit n v hv h0 =>
    refine .lit v (valid_of hv) fun hk => ⟨h0 hk, ?_⟩
    rcases hv with h | h | h | h
    · omega
    · exact h.2.1.2
    · omega
    · omega
  | ops n k o no args hk _ ih => exact .ops k o no args hk ih
  | sub n k f items whr hf hi hw _ _ ih1 ih2 =>
    have hall : ∀ f ∈ fromL, sourceB f = true := by decide +kernel
    exact .sub k f items whr hi (hall f hf) hw ih1 ih2

/-- A word as a token. -/
def tokF (w : ByteArray) : Int × ByteArray := (nextP w).1
theorem tw_tok {w t : ByteArray} {k : Int} (h : TW w k t) : tokF w = (k, t) := by
  unfold tokF
  rw [next_tw h (rest := []) (.inr (.inr fun c r h => by cases h)) (u := w) (by simp)]
def IsT (w : ByteArray) : Prop := ∃ k t, TW w k t
theorem tw_w {w t : ByteArray} {k : Int} (h : TW w k t) : (k = 4 ∧ w = bs (39 :: (dblL t.data.toList ++ [39]))) ∨ (k ≠ 4 ∧ w = t) := by
  cases h with
  | run _ _ h0 ha hr =>
    refine .inr ⟨?_, rfl⟩
    intro e
    subst e
    unfold runP at hr
    split at hr
    · cases hr
    · split at hr
      · cases hr
      · split at hr
        · split at hr
          · cases hr
          · cases hr
        · cases hr
  | sym _ h => exact .inr ⟨by decide, rfl⟩
  | txt _ h => exact .inl ⟨rfl, rfl⟩
theorem tok_inj {w w' : ByteArray} (h : IsT w) (h' : IsT w') (e : tokF w = tokF w') : w = w' := by
  obtain ⟨k, t, h⟩ := h
  obtain ⟨k', t', h'⟩ := h'
  rw [tw_tok h, tw_tok h'] at e
  cases e
  rcases tw_w h with ⟨h1, h2⟩ | ⟨h1, h2⟩ <;> rcases tw_w h' with ⟨h3, h4⟩ | ⟨h3, h4⟩
  · rw [h2, h4]
  · exact absurd h1 h3
  · exact absurd h3 h1
  · rw [h2, h4]
theorem trel_map : ∀ {ws : List ByteArray} {l : List (Int × ByteArray × Nat)}, TRel ws l → l.map (fun x => (x.1, x.2.1)) = ws.map tokF
  | [], [], _ => rfl
  | w :: ws, x :: l, h => by rw [List.map_cons, List.map_cons, tw_tok h.1, trel_map h.2]
  | [], _ :: _, h => h.elim
  | _ :: _, [], h => h.elim

theorem kw_tw (w : ByteArray) (h0 : w.data.toList ≠ []) (ha : w.data.toList.all runC = true) (hk : kwL.contains w.data.toList = true) : TW w 1 w :=
  .run w 1 h0 (List.all_eq_true.1 ha) (by unfold runP; rw [if_pos hk])
theorem letB_run (c : UInt8) (h : nchB c = true) : runC c = true := by
  have : ∀ n : Fin 256, nchB (UInt8.ofNat n.1) = true → runC (UInt8.ofNat n.1) = true := by decide +kernel
  have e : UInt8.ofNat c.toNat = c := by simp
  have := this ⟨c.toNat, c.toNat_lt⟩
  rw [e] at this
  exact this h
theorem kw_heads : kwL.all (fun l => match l with | [] => false | c :: _ => !letB c && !digC c) = true := by decide +kernel
theorem name_tw (w : ByteArray) (h : nameB w = true) : TW w 2 w := by
  have h' := h
  simp only [nameB, Bool.and_eq_true, decide_eq_true_eq] at h'
  obtain ⟨⟨⟨h1, _⟩, h3⟩, h4⟩ := h'
  have hne : w.data.toList ≠ [] := fun e => by rw [size_list, e] at h1; simp at h1
  refine .run w 2 hne (fun c hc => letB_run c (List.all_eq_true.1 h3 c hc)) ?_
  unfold runP
  rw [if_neg, if_pos h]
  intro hk
  have h5 := List.all_eq_true.1 kw_heads _ (by simpa using hk)
  cases hw : w.data.toList with
  | nil => exact hne hw
  | cons c r =>
    rw [hw] at h4 h5
    simp only [List.head?_cons, Option.any_some] at h4
    simp [h4] at h5
theorem num_tw {n : Int} (h0 : 0 ≤ n) (h1 : n ≤ 9223372036854775807) : TW (bs (Lib.itoa n)) 3 (bs (Lib.itoa n)) := by
  have hl : (bs (Lib.itoa n)).data.toList = Lib.itoa n := rfl
  obtain ⟨u, rfl⟩ := Int.eq_ofNat_of_zero_le h0
  have hi : Lib.itoa (u : Int) = Lib.decDigits u := by unfold Lib.itoa; rw [if_neg (by omega)]; rfl
  obtain ⟨hne, hr⟩ := dec_range u
  have hd : ∀ c ∈ Lib.decDigits u, digC c = true := fun c hc => by
    have := hr c hc
    simp [digC, this]
  refine .run _ 3 (by rw [hl, hi]; exact hne) (fun c hc => by rw [hl, hi] at hc; simp [runC, hd c hc]) ?_
  cases hu : Lib.decDigits u with
  | nil => exact absurd hu hne
  | cons c r =>
    have hc := hd c (by rw [hu]; simp)
    have hlc : letB c = false := by
      have := hr c (by rw [hu]; simp)
      simp [letB]
      omega
    unfold runP
    rw [hl, if_neg, if_neg, parseIntB_itoa h0 h1]
    · simp only
      rw [if_pos]
      exact ⟨by rw [hi, hu]; simpa using hc, by trivial⟩
    · intro h
      simp only [nameB, Bool.and_eq_true] at h
      have h4 := h.2
      rw [hl, hi, hu] at h4
      simp [hlc] at h4
    · intro hk
      have h5 := List.all_eq_true.1 kw_heads _ (by simpa using hk)
      rw [hi, hu] at h5
      simp [hc] at h5

def kNEW : ByteArray := bs [78, 69, 87]
def kOLD : ByteArray := bs [79, 76, 68]
def kINS : ByteArray := bs kwIns
def kDEL : ByteArray := bs kwDel
def kTRUE : ByteArray := bs [84, 82, 85, 69]
def kFALSE : ByteArray := bs [70, 65, 76, 83, 69]

theorem quals {t n : ByteArray} (h : columnB t n = true) : nameB n = true ∧ (t = es ∨ t = kNEW ∨ t = kOLD ∨ t = kINS ∨ t = kDEL ∨ nameB t = true) := by
  simp only [columnB, Bool.and_eq_true, Bool.or_eq_true, beq_iff_eq, ByteArray.toList_eq] at h
  refine ⟨h.2, ?_⟩
  have e : ∀ l : List UInt8, t.data.toList = l → t = bs l := fun l hl => bytes_ext (by rw [hl]; rfl)
  rcases h.1 with ((((h | h) | h) | h) | h) | h
  · exact .inl (e _ h)
  · exact .inr (.inl (e _ h))
  · exact .inr (.inr (.inl (e _ h)))
  · exact .inr (.inr (.inr (.inl (e _ h))))
  · exact .inr (.inr (.inr (.inr (.inl (e _ h)))))
  · exact .inr (.inr (.inr (.inr (.inr h))))
theorem sources {f : ByteArray} (h : sourceB f = true) : nameB f = true ∨ f = kINS ∨ f = kDEL := by
  simp only [sourceB, Bool.or_eq_true, beq_iff_eq, ByteArray.toList_eq] at h
  have e : ∀ l : List UInt8, f.data.toList = l → f = bs l := fun l hl => bytes_ext (by rw [hl]; rfl)
  rcases h with (h | h) | h
  · exact .inl h
  · exact .inr (.inl (e _ h))
  · exact .inr (.inr (e _ h))
theorem kw_list : ∀ w ∈ [kNOT, kIS, kNULL, kBETWEEN, kAND, kEXISTS, kSELECT, kCOUNT, kFROM, kWHERE, kNEW, kOLD, kINS, kDEL, kTRUE, kFALSE, aggS 10, aggS 11, aggS 12, opS 1, opS 2], w.data.toList ≠ [] ∧ w.data.toList.all runC = true ∧ kwL.contains w.data.toList = true := by decide +kernel
theorem sym_list : ∀ w ∈ [kStar, kOpen, kShut, kDot, kMinus, opS 3, opS 4, opS 5, opS 6, opS 7, opS 8, opS 9, opS 10, opS 11, opS 12, opS 13], w.data.toList ∈ symWords := by decide +kernel
theorem kw_is {w : ByteArray} (h : w ∈ [kNOT, kIS, kNULL, kBETWEEN, kAND, kEXISTS, kSELECT, kCOUNT, kFROM, kWHERE, kNEW, kOLD, kINS, kDEL, kTRUE, kFALSE, aggS 10, aggS 11, aggS 12, opS 1, opS 2]) : TW w 1 w :=
  let ⟨a, b, c⟩ := kw_list w h; kw_tw w a b c
theorem sym_is {w : ByteArray} (h : w ∈ [kStar, kOpen, kShut, kDot, kMinus, opS 3, opS 4, opS 5, opS 6, opS 7, opS 8, opS 9, opS 10, opS 11, opS 12, opS 13]) : TW w 5 w := .sym w (sym_list w h)
theorem op_is {o : Int} (h1 : 1 ≤ o) (h2 : o ≤ 13) : TW (opS o) (if o ≤ 2 then 1 else 5) (opS o) := by
  have : o = 1 ∨ o = 2 ∨ o = 3 ∨ o = 4 ∨ o = 5 ∨ o = 6 ∨ o = 7 ∨ o = 8 ∨ o = 9 ∨ o = 10 ∨ o = 11 ∨ o = 12 ∨ o = 13 := by omega
  rcases this with rfl | rfl | rfl | rfl | rfl | rfl | rfl | rfl | rfl | rfl | rfl | rfl | rfl
  · exact kw_is (by simp)
  · exact kw_is (by simp)
  all_goals exact sym_is (by simp)

/-- A literal's word. -/
theorem lit_tw {v : Val} (hv : validV v = true) (h0 : v.kind = 1 → 0 ≤ v.int ∧ v.int ≤ 9223372036854775807) :
    (v = ⟨0, 0, es⟩ ∧ bs (fmtV v) = kNULL) ∨ (v.kind = 1 ∧ v = ⟨1, v.int, es⟩ ∧ bs (fmtV v) = bs (Lib.itoa v.int)) ∨ (v = ⟨2, 1, es⟩ ∧ bs (fmtV v) = kTRUE) ∨ (v = ⟨2, 0, es⟩ ∧ bs (fmtV v) = kFALSE) ∨ (v = ⟨3, 0, v.text⟩ ∧ plainB v.text = true ∧ bs (fmtV v) = bs (39 :: (dblL v.text.data.toList ++ [39]))) := by
  obtain ⟨k, n, s⟩ := v
  have hs : ∀ {s : ByteArray}, noText s = true → s = es := fun {s} h => bytes_ext (by
    simp only [noText, beq_iff_eq, ByteArray.toList_eq] at h
    rw [h]; rfl)
  have hf : ¬ validV ⟨k, n, s⟩ = false := by rw [hv]; decide
  unfold validV at hv
  simp only at hv
  split at hv
  · rename_i hk
    subst hk
    simp only [Bool.and_eq_true, decide_eq_true_eq] at hv
    obtain ⟨rfl, h2⟩ := hv
    cases hs h2
    exact .inl ⟨rfl, by decide +kernel⟩
  split at hv
  · rename_i hk
    subst hk
    cases hs hv
    refine .inr (.inl ⟨rfl, rfl, ?_⟩)
    unfold fmtV
    rw [if_neg hf]
    rfl
  split at hv
  · rename_i hk
    subst hk
    simp only [Bool.and_eq_true, Bool.or_eq_true, decide_eq_true_eq] at hv
    obtain ⟨h1, h2⟩ := hv
    cases hs h2
    rcases h1 with rfl | rfl
    · exact .inr (.inr (.inr (.inl ⟨rfl, by decide +kernel⟩)))
    · exact .inr (.inr (.inl ⟨rfl, by decide +kernel⟩))
  split at hv
  · rename_i hk
    subst hk
    simp only [Bool.and_eq_true, decide_eq_true_eq] at hv
    obtain ⟨rfl, h2⟩ := hv
    refine .inr (.inr (.inr (.inr ⟨rfl, h2, ?_⟩)))
    unfold fmtV
    rw [if_neg hf]
    simp only [repAll_dbl]
    rfl
  · cases hv

theorem words_lit (v : Val) : wordsP (litX v) = [bs (fmtV v)] := by rw [wordsP_eq]; rfl
theorem words_col (t n : ByteArray) : wordsP (colX t n) = if noText t = true then [n] else [t, kDot, n] := by rw [wordsP_eq]; rfl
theorem opShape_k {k o : Int} {no : Bool} {n : Nat} (h : OpShape k o no n) : 3 ≤ k ∧ k ≤ 7 := by
  unfold OpShape at h
  omega
theorem words_ops {k o : Int} {no : Bool} {args : List Ex} (h : 3 ≤ k ∧ k ≤ 7) : wordsP (opX k o no args []) = opW k o no (argsW k o 0 args) := by
  rw [wordsP_eq]
  exact (if_neg (show ¬ k = 1 by omega)).trans ((if_neg (show ¬ k = 2 by omega)).trans (if_pos h))
theorem words_sub {k : Int} {st : Bool} {f : ByteArray} {items whr : List Ex} (h : 8 ≤ k) : wordsP (opX k 0 false [] [.mk st items f whr]) = headW k (items.map wordsP) ++ (kFROM :: f :: whereW (whr.map wordsP)) ++ [kShut] := by
  rw [wordsP_eq]
  refine (if_neg (show ¬ k = 1 by omega)).trans ((if_neg (show ¬ k = 2 by omega)).trans ((if_neg (show ¬(3 ≤ k ∧ k ≤ 7) by omega)).trans ?_))
  show subW k [.mk st items f whr] = _
  rw [subW, manyW_eq, manyW_eq]

theorem words_tok {e : Ex} (h : VX e) : ∀ w ∈ wordsP e, IsT w := by
  induction h with
  | lit v hv h0 =>
    intro w hw
    rw [words_lit, List.mem_singleton] at hw
    subst hw
    rcases lit_tw hv h0 with ⟨_, e⟩ | ⟨hk, _, e⟩ | ⟨_, e⟩ | ⟨_, e⟩ | ⟨_, hp, e⟩
    · rw [e]; exact ⟨_, _, kw_is (by simp)⟩
    · rw [e]; exact ⟨_, _, num_tw (h0 hk).1 (h0 hk).2⟩
    · rw [e]; exact ⟨_, _, kw_is (by simp)⟩
    · rw [e]; exact ⟨_, _, kw_is (by simp)⟩
    · rw [e]; exact ⟨_, _, .txt _ hp⟩
  | col t n h =>
    obtain ⟨hn, ht⟩ := quals h
    intro w hw
    rw [words_col] at hw
    by_cases hnt : noText t = true
    · rw [if_pos hnt] at hw
      rw [List.mem_singleton.1 hw]; exact ⟨_, _, name_tw n hn⟩
    · rw [if_neg hnt] at hw
      simp only [List.mem_cons, List.not_mem_nil, or_false] at hw
      rcases hw with rfl | rfl | rfl
      · rcases ht with rfl | rfl | rfl | rfl | rfl | ht
        · exact absurd (by decide +kernel) hnt
        · exact ⟨_, _, kw_is (by simp)⟩
        · exact ⟨_, _, kw_is (by simp)⟩
        · exact ⟨_, _, kw_is (by simp)⟩
        · exact ⟨_, _, kw_is (by simp)⟩
        · exact ⟨_, _, name_tw _ ht⟩
      · exact ⟨_, _, sym_is (by simp)⟩
      · exact ⟨_, _, name_tw _ hn⟩
  | ops k o no args hk _ ih =>
    have harg : ∀ i a, args[i]? = some a → ∀ w ∈ (argsW k o 0 args).getD i [], IsT w := by
      intro i a hi w hw
      rw [argsW_get k o args 0 i a hi] at hw
      unfold argW at hw
      split at hw
      · simp only [List.mem_cons, List.mem_append, List.not_mem_nil, or_false] at hw
        rcases hw with rfl | hw | rfl
        · exact ⟨_, _, sym_is (by simp)⟩
        · exact ih a (List.mem_of_getElem? hi) w hw
        · exact ⟨_, _, sym_is (by simp)⟩
      · exact ih a (List.mem_of_getElem? hi) w hw
    have hA : ∀ i, i < args.length → ∀ w ∈ (argsW k o 0 args).getD i [], IsT w := fun i hi => harg i _ (List.getElem?_eq_getElem hi)
    have hkw : ∀ {w}, w ∈ [kNOT, kIS, kNULL, kBETWEEN, kAND, kEXISTS, kSELECT, kCOUNT, kFROM, kWHERE, kNEW, kOLD, kINS, kDEL, kTRUE, kFALSE, aggS 10, aggS 11, aggS 12, opS 1, opS 2] → IsT w := fun h => ⟨_, _, kw_is h⟩
    have hsy : ∀ {w}, w ∈ [kStar, kOpen, kShut, kDot, kMinus, opS 3, opS 4, opS 5, opS 6, opS 7, opS 8, opS 9, opS 10, opS 11, opS 12, opS 13] → IsT w := fun h => ⟨_, _, sym_is h⟩
    intro w hw
    rw [words_ops (opShape_k hk)] at hw
    unfold opW at hw
    rcases hk with ⟨rfl | rfl, _, _, hn⟩ | ⟨rfl, _, hn⟩ | ⟨rfl, ho1, ho2, _, hn⟩ | ⟨rfl, _, _, hn⟩
    · simp only [if_true, List.mem_cons] at hw
      rcases hw with rfl | hw
      · exact hkw (by simp)
      · exact hA 0 (by omega) w hw
    · rw [if_neg (by decide), if_pos rfl] at hw
      simp only [List.mem_cons] at hw
      rcases hw with rfl | hw
      · exact hsy (by simp)
      · exact hA 0 (by omega) w hw
    · rw [if_neg (by decide), if_neg (by decide), if_neg (by decide), if_pos rfl] at hw
      simp only [List.mem_append, List.mem_cons] at hw
      rcases hw with hw | rfl | hw
      · exact hA 0 (by omega) w hw
      · exact hkw (by simp)
      · split at hw
        · simp only [List.mem_cons, List.not_mem_nil, or_false] at hw
          rcases hw with rfl | rfl <;> exact hkw (by simp)
        · rw [List.mem_singleton.1 hw]; exact hkw (by simp)
    · rw [if_neg (by decide), if_neg (by decide), if_pos rfl] at hw
      simp only [List.mem_append, List.mem_cons] at hw
      rcases hw with hw | rfl | hw
      · exact hA 0 (by omega) w hw
      · exact ⟨_, _, op_is ho1 ho2⟩
      · exact hA 1 (by omega) w hw
    · rw [if_neg (by decide), if_neg (by decide), if_neg (by decide), if_neg (by decide)] at hw
      simp only [List.mem_append, List.mem_cons] at hw
      rcases hw with hw | rfl | hw | rfl | hw
      · exact hA 0 (by omega) w hw
      · exact hkw (by simp)
      · exact hA 1 (by omega) w hw
      · exact hkw (by simp)
      · exact hA 2 (by omega) w hw
  | sub k f items whr hk hf hw _ _ ih1 ih2 =>
    have hkw : ∀ {w}, w ∈ [kNOT, kIS, kNULL, kBETWEEN, kAND, kEXISTS, kSELECT, kCOUNT, kFROM, kWHERE, kNEW, kOLD, kINS, kDEL, kTRUE, kFALSE, aggS 10, aggS 11, aggS 12, opS 1, opS 2] → IsT w := fun h => ⟨_, _, kw_is h⟩
    have hsy : ∀ {w}, w ∈ [kStar, kOpen, kShut, kDot, kMinus, opS 3, opS 4, opS 5, opS 6, opS 7, opS 8, opS 9, opS 10, opS 11, opS 12, opS 13] → IsT w := fun h => ⟨_, _, sym_is h⟩
    intro w hw'
    rw [words_sub (by omega)] at hw'
    simp only [List.mem_append, List.mem_cons, List.not_mem_nil, or_false] at hw'
    rcases hw' with (hw' | rfl | rfl | hw') | rfl
    · unfold headW at hw'
      rcases hk with ⟨rfl | rfl, rfl⟩ | ⟨hk, hlen⟩
      · simp only [if_true, List.mem_cons, List.not_mem_nil, or_false] at hw'
        rcases hw' with rfl | rfl | rfl | rfl
        · exact hkw (by simp)
        · exact hsy (by simp)
        · exact hkw (by simp)
        · exact hsy (by simp)
      · rw [if_neg (by decide), if_pos rfl] at hw'
        simp only [List.mem_cons, List.not_mem_nil, or_false] at hw'
        rcases hw' with rfl | rfl | rfl | rfl | rfl | rfl
        · exact hsy (by simp)
        · exact hkw (by simp)
        · exact hkw (by simp)
        · exact hsy (by simp)
        · exact hsy (by simp)
        · exact hsy (by simp)
      · rw [if_neg (by omega), if_neg (by omega)] at hw'
        obtain ⟨x, rfl⟩ := List.length_eq_one_iff.1 hlen
        simp only [List.map_cons, List.map_nil, List.getD_cons_zero, List.mem_cons, List.mem_append, List.not_mem_nil, or_false] at hw'
        rcases hw' with rfl | rfl | rfl | rfl | hw' | rfl
        · exact hsy (by simp)
        · exact hkw (by simp)
        · rcases hk with rfl | rfl | rfl <;> exact hkw (by simp)
        · exact hsy (by simp)
        · exact ih1 x (by simp) w hw'
        · exact hsy (by simp)
    · exact hkw (by simp)
    · rcases sources hf with h | rfl | rfl
      · exact ⟨_, _, name_tw _ h⟩
      · exact hkw (by simp)
      · exact hkw (by simp)
    · match whr, hw with
      | [], _ => simp [whereW] at hw'
      | [x], _ =>
        simp only [List.map_cons, List.map_nil, whereW, List.append_nil, List.mem_cons] at hw'
        rcases hw' with rfl | hw'
        · exact hkw (by simp)
        · exact ih2 x (by simp) w hw'
    · exact hsy (by simp)
end Go.Proofs.YtpnigfmclmfjaaaGreatDoor

namespace Go.Proofs.YtpnigfmclmfjaaaGreatDoor
open Go.RowKit

abbrev TL := List (Int × ByteArray)
def isH (s : ByteArray) (x : Int × ByteArray) : Bool := (x.1 == 1 || x.1 == 5) && decide (x.2 = s)
def isW (s : ByteArray) : TL → Bool
  | [] => false
  | x :: _ => isH s x
def isWs : List ByteArray → TL → Bool
  | [], _ => true
  | s :: l, ts => isW s ts && isWs l ts.tail
def opAt (l : List Int) : TL → Option Int
  | [] => none
  | x :: _ => l.find? fun o => isH (opS o) x
def grp (q : Nat) : List Int := if q = 1 then [1] else if q = 2 then [2] else if q = 5 then [9, 10] else [11, 12, 13]
def cmpL : List Int := [3, 4, 5, 6, 7, 8]
def pNum (s : ByteArray) : Option Ex := match Lib.parseIntB 64 s.data.toList with
  | .ok n => some (litX ⟨1, n, es⟩)
  | _ => none
def pName (t : ByteArray) : TL → Option (Ex × TL)
  | [] => none
  | y :: r => if y.1 = 2 then some (colX t y.2, r) else none
def pCol (s : ByteArray) (r : TL) : Option (Ex × TL) := if isW kDot r = true then pName s r.tail else some (colX es s, r)
def aggAt (ts : TL) : Option Int := if isW (aggS 10) ts = true then some 10 else if isW (aggS 11) ts = true then some 11 else if isW (aggS 12) ts = true then some 12 else none
def srcH (y : Int × ByteArray) : Bool := y.1 == 2 || isH kINS y || isH kDEL y

mutual
/-- Reads an expression of a level: 1 OR, 2 AND, 3 NOT, 4 comparisons, 5 sums, 6 products, 7 minus, 8 operands. -/
def pE : Nat → Nat → TL → Option (Ex × TL)
  | 0, _, _ => none
  | f + 1, q, ts =>
    if q = 1 ∨ q = 2 ∨ q = 5 ∨ q = 6 then (pE f (q + 1) ts).bind fun x => pL f q x.1 x.2
    else if q = 3 then (if isW kNOT ts = true then (pE f 3 ts.tail).map fun x => (opX 3 0 false [x.1] [], x.2) else pE f 4 ts)
    else if q = 4 then (pE f 5 ts).bind fun x => pC f x.1 x.2
    else if q = 7 then (if isW kMinus ts = true then (pE f 7 ts.tail).map fun x => (opX 4 0 false [x.1] [], x.2) else pE f 8 ts)
    else pP f ts
/-- Reads operators of a group and their right operands behind a left operand. -/
def pL : Nat → Nat → Ex → TL → Option (Ex × TL)
  | 0, _, _, _ => none
  | f + 1, q, e, ts => match opAt (grp q) ts with
    | none => some (e, ts)
    | some o => (pE f (q + 1) ts.tail).bind fun x => pL f q (binX o e x.1) x.2
/-- Reads what follows the left side of a comparison. -/
def pC : Nat → Ex → TL → Option (Ex × TL)
  | 0, _, _ => none
  | f + 1, e, ts =>
    if isW kIS ts = true then (if isW kNOT ts.tail = true then (if isW kNULL ts.tail.tail = true then some (opX 6 0 true [e] [], ts.tail.tail.tail) else none) else if isW kNULL ts.tail = true then some (opX 6 0 false [e] [], ts.tail.tail) else none)
    else if isW kBETWEEN ts = true then (pE f 5 ts.tail).bind fun x => if isW kAND x.2 = true then (pE f 5 x.2.tail).map fun y => (opX 7 0 false [e, x.1, y.1] [], y.2) else none
    else match opAt cmpL ts with
      | none => some (e, ts)
      | some o => (pE f 5 ts.tail).map fun x => (binX o e x.1, x.2)
/-- Reads an operand. -/
def pP : Nat → TL → Option (Ex × TL)
  | 0, _ => none
  | _ + 1, [] => none
  | f + 1, x :: r =>
    if x.1 = 3 then (pNum x.2).map fun e => (e, r)
    else if x.1 = 4 then some (litX ⟨3, 0, x.2⟩, r)
    else if x.1 = 2 then pCol x.2 r
    else if isH kNULL x = true then some (litX ⟨0, 0, es⟩, r)
    else if isH kTRUE x = true then some (litX ⟨2, 1, es⟩, r)
    else if isH kFALSE x = true then some (litX ⟨2, 0, es⟩, r)
    else if (isH kNEW x || isH kOLD x || isH kINS x || isH kDEL x) = true then (if isW kDot r = true then pName x.2 r.tail else none)
    else if isH kEXISTS x = true then (if isWs [kOpen, kSELECT, kStar] r = true then pF f 8 [] (r.drop 3) else none)
    else if isH kOpen x = true then (if isW kSELECT r = true then pA f r.tail else (pE f 1 r).bind fun y => if isW kShut y.2 = true then some (y.1, y.2.tail) else none)
    else none
/-- Reads an aggregate behind its SELECT. -/
def pA : Nat → TL → Option (Ex × TL)
  | 0, _ => none
  | f + 1, ts =>
    if isW kCOUNT ts = true then (if isWs [kOpen, kStar, kShut] ts.tail = true then pF f 9 [] (ts.drop 4) else none)
    else match aggAt ts with
      | none => none
      | some k => if isW kOpen ts.tail = true then (pE f 1 (ts.drop 2)).bind fun x => if isW kShut x.2 = true then pF f k [x.1] x.2.tail else none else none
/-- Reads the rest of an expression with a query, from FROM on. -/
def pF : Nat → Int → List Ex → TL → Option (Ex × TL)
  | 0, _, _, _ => none
  | f + 1, k, items, ts =>
    if isW kFROM ts = true then
      match ts.tail with
      | [] => none
      | y :: r => if srcH y = true then
          (if isW kWHERE r = true then (pE f 1 r.tail).bind fun x => if isW kShut x.2 = true then some (opX k 0 false [] [.mk (k == 8) items y.2 [x.1]], x.2.tail) else none
          else if isW kShut r = true then some (opX k 0 false [] [.mk (k == 8) items y.2 []], r.tail) else none)
        else none
    else none
end

/-- Which level a token continues: none, or 9 for a period. -/
def contH (x : Int × ByteArray) : Nat :=
  if x.1 = 1 ∨ x.1 = 5 then (if x.2 = opS 1 then 1 else if x.2 = opS 2 then 2 else if [kIS, kBETWEEN, opS 3, opS 4, opS 5, opS 6, opS 7, opS 8].any (fun s => decide (x.2 = s)) = true then 4 else if [opS 9, opS 10].any (fun s => decide (x.2 = s)) = true then 5 else if [opS 11, opS 12, opS 13].any (fun s => decide (x.2 = s)) = true then 6 else if x.2 = kDot then 9 else 0) else 0
def contL : TL → Nat
  | [] => 0
  | x :: _ => contH x

theorem isH_cont {s : ByteArray} {x : Int × ByteArray} (h : isH s x = true) : contH x = contH (1, s) := by
  obtain ⟨a, b⟩ := x
  simp only [isH, Bool.and_eq_true, Bool.or_eq_true, beq_iff_eq, decide_eq_true_eq] at h
  obtain ⟨h1, rfl⟩ := h
  unfold contH
  rw [if_pos (show (a, b).1 = 1 ∨ (a, b).1 = 5 from h1), if_pos (show ((1 : Int), b).1 = 1 ∨ ((1 : Int), b).1 = 5 from .inl rfl)]
theorem isW_cont {s : ByteArray} {r : TL} (h : isW s r = true) : contL r = contH (1, s) := by
  cases r with
  | nil => cases h
  | cons x r => exact isH_cont h
theorem opAt_cont {l : List Int} {r : TL} {o : Int} (h : opAt l r = some o) : o ∈ l ∧ contL r = contH (1, opS o) := by
  cases r with
  | nil => cases h
  | cons x r => exact ⟨List.mem_of_find?_eq_some h, isH_cont (List.find?_some (p := fun o => isH (opS o) x) h)⟩
theorem grp_none {q : Nat} {r : TL} (hq : q = 1 ∨ q = 2 ∨ q = 5 ∨ q = 6) (h : contL r < q) : opAt (grp q) r = none := by
  cases ho : opAt (grp q) r with
  | none => rfl
  | some o =>
    obtain ⟨h1, h2⟩ := opAt_cont ho
    have : ∀ q ∈ [1, 2, 5, 6], ∀ o ∈ grp q, contH (1, opS o) = q := by decide +kernel
    rw [this q (by simpa using hq) o h1] at h2
    omega
theorem cmp_none {r : TL} (h : contL r < 4) : isW kIS r = false ∧ isW kBETWEEN r = false ∧ opAt cmpL r = none := by
  refine ⟨?_, ?_, ?_⟩
  · cases ho : isW kIS r with
    | false => rfl
    | true =>
      have h2 := isW_cont ho
      rw [show contH (1, kIS) = 4 by decide +kernel] at h2
      omega
  · cases ho : isW kBETWEEN r with
    | false => rfl
    | true =>
      have h2 := isW_cont ho
      rw [show contH (1, kBETWEEN) = 4 by decide +kernel] at h2
      omega
  · cases ho : opAt cmpL r with
    | none => rfl
    | some o =>
      obtain ⟨h1, h2⟩ := opAt_cont ho
      have : ∀ o ∈ cmpL, contH (1, opS o) = 4 := by decide +kernel
      rw [this o h1] at h2
      omega
theorem dot_none {r : TL} (h : contL r < 9) : isW kDot r = false := by
  cases ho : isW kDot r with
  | false => rfl
  | true =>
    have h2 := isW_cont ho
    rw [show contH (1, kDot) = 9 by decide +kernel] at h2
    omega

theorem pE_grp {f q : Nat} {ts : TL} (hq : q = 1 ∨ q = 2 ∨ q = 5 ∨ q = 6) : pE (f + 1) q ts = (pE f (q + 1) ts).bind fun x => pL f q x.1 x.2 := by rw [pE, if_pos hq]
theorem pE_3 {f : Nat} {ts : TL} : pE (f + 1) 3 ts = if isW kNOT ts = true then (pE f 3 ts.tail).map fun x => (opX 3 0 false [x.1] [], x.2) else pE f 4 ts := by rw [pE, if_neg (by omega), if_pos rfl]
theorem pE_4 {f : Nat} {ts : TL} : pE (f + 1) 4 ts = (pE f 5 ts).bind fun x => pC f x.1 x.2 := by rw [pE, if_neg (by omega), if_neg (by omega), if_pos rfl]
theorem pE_7 {f : Nat} {ts : TL} : pE (f + 1) 7 ts = if isW kMinus ts = true then (pE f 7 ts.tail).map fun x => (opX 4 0 false [x.1] [], x.2) else pE f 8 ts := by rw [pE, if_neg (by omega), if_neg (by omega), if_neg (by omega), if_pos rfl]
theorem pE_8 {f : Nat} {ts : TL} : pE (f + 1) 8 ts = pP f ts := by rw [pE, if_neg (by omega), if_neg (by omega), if_neg (by omega), if_neg (by omega)]
theorem pL_end {f q : Nat} {e : Ex} {ts : TL} (hq : q = 1 ∨ q = 2 ∨ q = 5 ∨ q = 6) (hf : 1 ≤ f) (h : contL ts < q) : pL f q e ts = some (e, ts) := by
  obtain ⟨g, rfl⟩ : ∃ g, f = g + 1 := ⟨f - 1, by omega⟩
  rw [pL, grp_none hq h]
theorem pC_end {f : Nat} {e : Ex} {ts : TL} (hf : 1 ≤ f) (h : contL ts < 4) : pC f e ts = some (e, ts) := by
  obtain ⟨g, rfl⟩ : ∃ g, f = g + 1 := ⟨f - 1, by omega⟩
  obtain ⟨h1, h2, h3⟩ := cmp_none h
  rw [pC, if_neg (by rw [h1]; decide), if_neg (by rw [h2]; decide), h3]

/-- What is read at a level is read at a lower one. -/
theorem down {e : Ex} {ts r : TL} {c q0 : Nat} (hc : 1 ≤ c) (hq0 : q0 ≤ 8) (H : ∀ f, c + (8 - q0) ≤ f → pE f q0 ts = some (e, r)) (hn : 4 ≤ q0 → isW kNOT ts = false) (hm : q0 = 8 → isW kMinus ts = false) :
    ∀ (d q : Nat), q + d = q0 → 1 ≤ q → contL r < q → ∀ f, c + (8 - q) ≤ f → pE f q ts = some (e, r)
  | 0, q, hd, _, _, f, hf => by
    obtain rfl : q = q0 := by omega
    exact H f hf
  | d + 1, q, hd, h1, hr, f, hf => by
    have ih := fun f hf => down hc hq0 H hn hm d (q + 1) (by omega) (by omega) (by omega) f hf
    obtain ⟨g, rfl⟩ : ∃ g, f = g + 1 := ⟨f - 1, by omega⟩
    have hg := ih g (by omega)
    by_cases hq : q = 1 ∨ q = 2 ∨ q = 5 ∨ q = 6
    · rw [pE_grp hq, hg]
      exact pL_end hq (by omega) hr
    · have : q = 3 ∨ q = 4 ∨ q = 7 := by omega
      rcases this with rfl | rfl | rfl
      · rw [pE_3, if_neg (by rw [hn (by omega)]; decide)]
        exact hg
      · rw [pE_4, hg]
        exact pC_end (by omega) hr
      · rw [pE_7, if_neg (by rw [hm (by omega)]; decide)]
        exact hg
end Go.Proofs.YtpnigfmclmfjaaaGreatDoor

namespace Go.Proofs.YtpnigfmclmfjaaaGreatDoor
open Go.RowKit

noncomputable def baseX (e : Ex) : Nat := 64 * SizeOf.sizeOf e
def tokE (e : Ex) : TL := (wordsP e).map tokF

/-- What is to be shown of an expression. -/
def Reads (e : Ex) : Prop := ∀ p : Nat, (p : Int) = precP e.kind e.op →
  (∀ (q : Nat) (r : TL) (f : Nat), 1 ≤ q → q ≤ p → contL r < q → baseX e + (8 - q) ≤ f → pE f q (tokE e ++ r) = some (e, r)) ∧
  (∀ (q : Nat) (r : TL) (m f : Nat), (q = 1 ∨ q = 2 ∨ q = 5 ∨ q = 6) → q ≤ p → contL r < q + 1 → baseX e + (8 - q) + m ≤ f → ∃ g, m ≤ g ∧ pE f q (tokE e ++ r) = pL g q e r) ∧
  (4 ≤ p → ∀ r, isW kNOT (tokE e ++ r) = false) ∧ (p = 8 → ∀ r, isW kMinus (tokE e ++ r) = false) ∧ (∀ r, isW kSELECT (tokE e ++ r) = false)

theorem base_pos (e : Ex) : 1 ≤ baseX e := by
  unfold baseX
  have : 0 < SizeOf.sizeOf e := by cases e; simp only [Ex.mk.sizeOf_spec]; omega
  omega

theorem reads_of {e : Ex} {p : Nat} (hp : (p : Int) = precP e.kind e.op) (h1 : 1 ≤ p) (h8 : p ≤ 8)
    (H : ∀ (r : TL) (f : Nat), contL r < p → baseX e + (8 - p) ≤ f → pE f p (tokE e ++ r) = some (e, r))
    (HA : (p = 1 ∨ p = 2 ∨ p = 5 ∨ p = 6) → ∀ (r : TL) (m f : Nat), contL r < p + 1 → baseX e + (8 - p) + m ≤ f → ∃ g, m ≤ g ∧ pE f p (tokE e ++ r) = pL g p e r)
    (hn : 4 ≤ p → ∀ r, isW kNOT (tokE e ++ r) = false) (hm : p = 8 → ∀ r, isW kMinus (tokE e ++ r) = false) (hs : ∀ r, isW kSELECT (tokE e ++ r) = false) : Reads e := by
  intro p' hp'
  obtain rfl : p' = p := by omega
  have HB : ∀ (q : Nat) (r : TL) (f : Nat), 1 ≤ q → q ≤ p' → contL r < q → baseX e + (8 - q) ≤ f → pE f q (tokE e ++ r) = some (e, r) := fun q r f hq hqp hr hf =>
    down (base_pos e) h8 (fun f hf => H r f (by omega) hf) (fun h => hn h r) (fun h => hm h r) (p' - q) q (by omega) hq hr f hf
  refine ⟨HB, ?_, hn, hm, hs⟩
  intro q r m f hg hqp hr hf
  by_cases e1 : q = p'
  · subst e1
    exact HA hg r m f hr hf
  · obtain ⟨g, rfl⟩ : ∃ g, f = g + 1 := ⟨f - 1, by have := base_pos e; omega⟩
    refine ⟨g, by have := base_pos e; omega, ?_⟩
    rw [pE_grp hg, HB (q + 1) r g (by omega) (by omega) hr (by omega)]
    rfl

theorem reads_grp {e : Ex} {p : Nat} (hp : (p : Int) = precP e.kind e.op) (hg : p = 1 ∨ p = 2 ∨ p = 5 ∨ p = 6)
    (HA : ∀ (r : TL) (m f : Nat), contL r < p + 1 → baseX e + (7 - p) + m ≤ f → ∃ g, m ≤ g ∧ pE f p (tokE e ++ r) = pL g p e r)
    (hn : 4 ≤ p → ∀ r, isW kNOT (tokE e ++ r) = false) (hs : ∀ r, isW kSELECT (tokE e ++ r) = false) : Reads e := by
  refine reads_of hp (by omega) (by omega) ?_ (fun _ r m f hr hf => HA r m f hr (by omega)) hn (fun h => by omega) hs
  intro r f hr hf
  obtain ⟨g, hg1, hg2⟩ := HA r 1 f (by omega) (by omega)
  rw [hg2]
  exact pL_end hg hg1 hr

def argT (k o : Int) (i : Nat) (e : Ex) : TL := (argW k o i e).map tokF

theorem t_kw {w : ByteArray} (h : w ∈ [kNOT, kIS, kNULL, kBETWEEN, kAND, kEXISTS, kSELECT, kCOUNT, kFROM, kWHERE, kNEW, kOLD, kINS, kDEL, kTRUE, kFALSE, aggS 10, aggS 11, aggS 12, opS 1, opS 2]) : tokF w = (1, w) := tw_tok (kw_is h)
theorem t_sym {w : ByteArray} (h : w ∈ [kStar, kOpen, kShut, kDot, kMinus, opS 3, opS 4, opS 5, opS 6, opS 7, opS 8, opS 9, opS 10, opS 11, opS 12, opS 13]) : tokF w = (5, w) := tw_tok (sym_is h)
theorem t_open : tokF kOpen = (5, kOpen) := t_sym (by simp)
theorem t_shut : tokF kShut = (5, kShut) := t_sym (by simp)
theorem prec_pos (e : Ex) : 1 ≤ precP e.kind e.op := (precP_range _ _).1
theorem prec_nat (e : Ex) : ∃ p : Nat, (p : Int) = precP e.kind e.op ∧ 1 ≤ p ∧ p ≤ 8 := by
  have := precP_range e.kind e.op
  exact ⟨(precP e.kind e.op).toNat, by omega, by omega, by omega⟩

/-- An expression in parentheses. -/
theorem wrap_reads {a : Ex} (ha : Reads a) (r : TL) : ∀ f, baseX a + 10 ≤ f → pE f 8 (((5, kOpen) :: (tokE a ++ [(5, kShut)])) ++ r) = some (a, r) := by
  intro f hf
  obtain ⟨p, hp, hp1, _⟩ := prec_nat a
  obtain ⟨HB, _, _, _, hs⟩ := ha p hp
  obtain ⟨g, rfl⟩ : ∃ g, f = g + 2 := ⟨f - 2, by omega⟩
  rw [pE_8, List.cons_append, List.append_assoc, pP]
  have hB := HB 1 ((5, kShut) :: r) g (by omega) hp1 (by show contH (5, kShut) < 1; decide +kernel) (by omega)
  have hS := hs ((5, kShut) :: r)
  rw [if_neg (by decide), if_neg (by decide), if_neg (by decide), if_neg (by decide +kernel), if_neg (by decide +kernel), if_neg (by decide +kernel), if_neg (by decide +kernel), if_neg (by decide +kernel), if_pos (by decide +kernel)]
  show (if isW kSELECT (tokE a ++ (5, kShut) :: r) = true then _ else _) = _
  rw [if_neg (by rw [hS]; decide)]
  show (pE g 1 (tokE a ++ (5, kShut) :: r)).bind _ = _
  rw [hB]
  show (if isH kShut (5, kShut) = true then some (a, r) else none) = _
  rw [if_pos (by decide +kernel)]

theorem arg_reads {a : Ex} (ha : Reads a) (k o : Int) (i L : Nat) (hL : (L : Int) = leastP k o i) (h1 : 1 ≤ L) (h7 : L ≤ 7) :
    (∀ (r : TL) (f : Nat), contL r < L → baseX a + 20 ≤ f → pE f L (argT k o i a ++ r) = some (a, r)) ∧
    (∀ (r : TL) (m f : Nat), (L = 1 ∨ L = 2 ∨ L = 5 ∨ L = 6) → contL r < L + 1 → baseX a + 20 + m ≤ f → ∃ g, m ≤ g ∧ pE f L (argT k o i a ++ r) = pL g L a r) ∧
    (4 ≤ L → ∀ r, isW kNOT (argT k o i a ++ r) = false) ∧ (∀ r, isW kSELECT (argT k o i a ++ r) = false) := by
  obtain ⟨p, hp, hp1, hp8⟩ := prec_nat a
  obtain ⟨HB, HA, hn, _, hs⟩ := ha p hp
  unfold argT argW
  by_cases hlt : precP a.kind a.op < leastP k o i
  · rw [if_pos hlt]
    have e1 : (kOpen :: (wordsP a ++ [kShut])).map tokF = (5, kOpen) :: (tokE a ++ [(5, kShut)]) := by simp [t_open, t_shut, tokE]
    rw [e1]
    have hw := fun r q (hq1 : 1 ≤ q) (hq8 : q ≤ 8) hr f hf => down (c := baseX a + 10) (q0 := 8) (by omega) (by omega) (fun f hf => wrap_reads ha r f (by omega)) (fun _ => by show isH kNOT (5, kOpen) = false; decide +kernel) (fun _ => by show isH kMinus (5, kOpen) = false; decide +kernel) (8 - q) q (by omega) hq1 hr f hf
    refine ⟨fun r f hr hf => hw r L h1 (by omega) hr f (by omega), ?_, fun _ r => by show isH kNOT (5, kOpen) = false; decide +kernel, fun r => by show isH kSELECT (5, kOpen) = false; decide +kernel⟩
    intro r m f hg hr hf
    obtain ⟨g, rfl⟩ : ∃ g, f = g + 1 := ⟨f - 1, by omega⟩
    refine ⟨g, by omega, ?_⟩
    rw [pE_grp hg, hw r (L + 1) (by omega) (by omega) hr g (by omega)]
    rfl
  · rw [if_neg hlt]
    have hLp : L ≤ p := by omega
    refine ⟨fun r f hr hf => HB L r f h1 hLp hr (by omega), fun r m f hg hr hf => HA L r m f hg hLp hr (by omega), fun h r => hn (by omega) r, hs⟩

theorem size_args {k o : Int} {no : Bool} {args : List Ex} {sub : List Qu} : SizeOf.sizeOf (opX k o no args sub) ≥ SizeOf.sizeOf args + SizeOf.sizeOf sub + 1 := by
  unfold opX
  simp only [Ex.mk.sizeOf_spec]
  omega
theorem base1 {k o : Int} {no : Bool} {a : Ex} : baseX a + 64 ≤ baseX (opX k o no [a] []) := by
  have := size_args (k := k) (o := o) (no := no) (args := [a]) (sub := [])
  simp only [List.cons.sizeOf_spec, List.nil.sizeOf_spec] at this
  unfold baseX
  omega
theorem base2 {k o : Int} {no : Bool} {a b : Ex} : baseX a + baseX b + 64 ≤ baseX (opX k o no [a, b] []) := by
  have := size_args (k := k) (o := o) (no := no) (args := [a, b]) (sub := [])
  simp only [List.cons.sizeOf_spec, List.nil.sizeOf_spec] at this
  unfold baseX
  omega
theorem base3 {k o : Int} {no : Bool} {a b c : Ex} : baseX a + baseX b + baseX c + 64 ≤ baseX (opX k o no [a, b, c] []) := by
  have := size_args (k := k) (o := o) (no := no) (args := [a, b, c]) (sub := [])
  simp only [List.cons.sizeOf_spec, List.nil.sizeOf_spec] at this
  unfold baseX
  omega

theorem t_op {o : Int} (h1 : 1 ≤ o) (h2 : o ≤ 13) : ∃ x, tokF (opS o) = (x, opS o) ∧ (x = 1 ∨ x = 5) := by
  refine ⟨_, tw_tok (op_is h1 h2), ?_⟩
  split
  · exact .inl rfl
  · exact .inr rfl
theorem op_cont {o x : Int} (h1 : 1 ≤ o) (h2 : o ≤ 13) (hx : x = 1 ∨ x = 5) : (contH (x, opS o) : Int) = opPrec o := by
  have : o = 1 ∨ o = 2 ∨ o = 3 ∨ o = 4 ∨ o = 5 ∨ o = 6 ∨ o = 7 ∨ o = 8 ∨ o = 9 ∨ o = 10 ∨ o = 11 ∨ o = 12 ∨ o = 13 := by omega
  rcases this with rfl | rfl | rfl | rfl | rfl | rfl | rfl | rfl | rfl | rfl | rfl | rfl | rfl <;> rcases hx with rfl | rfl <;> decide +kernel
theorem op_find0 : ∀ o ∈ ([1, 2, 3, 4, 5, 6, 7, 8, 9, 10, 11, 12, 13] : List Int), ∀ x ∈ ([1, 5] : List Int), (∀ q ∈ [1, 2, 5, 6], ((q : Nat) : Int) = opPrec o → (grp q).find? (fun o' => isH (opS o') (x, opS o)) = some o) ∧ (opPrec o = 4 → isH kIS (x, opS o) = false ∧ isH kBETWEEN (x, opS o) = false ∧ cmpL.find? (fun o' => isH (opS o') (x, opS o)) = some o) := by decide +kernel
theorem op_find {o x : Int} (h1 : 1 ≤ o) (h2 : o ≤ 13) (hx : x = 1 ∨ x = 5) (r : TL) : (∀ q : Nat, (q = 1 ∨ q = 2 ∨ q = 5 ∨ q = 6) → (q : Int) = opPrec o → opAt (grp q) ((x, opS o) :: r) = some o) ∧ (opPrec o = 4 → isW kIS ((x, opS o) :: r) = false ∧ isW kBETWEEN ((x, opS o) :: r) = false ∧ opAt cmpL ((x, opS o) :: r) = some o) := by
  have ho : o ∈ ([1, 2, 3, 4, 5, 6, 7, 8, 9, 10, 11, 12, 13] : List Int) := by simp only [List.mem_cons, List.not_mem_nil, or_false]; omega
  have hx' : x ∈ ([1, 5] : List Int) := by simp only [List.mem_cons, List.not_mem_nil, or_false]; exact hx
  obtain ⟨a, b⟩ := op_find0 o ho x hx'
  exact ⟨fun q hq => a q (by simp only [List.mem_cons, List.not_mem_nil, or_false]; exact hq), b⟩
end Go.Proofs.YtpnigfmclmfjaaaGreatDoor

namespace Go.Proofs.YtpnigfmclmfjaaaGreatDoor
open Go.RowKit

theorem tokE_ops {k o : Int} {no : Bool} {args : List Ex} (h : 3 ≤ k ∧ k ≤ 7) : tokE (opX k o no args []) = (opW k o no (argsW k o 0 args)).map tokF := by unfold tokE; rw [words_ops h]
theorem args1 (k o : Int) (a : Ex) : (argsW k o 0 [a]).getD 0 [] = argW k o 0 a := argsW_get k o [a] 0 0 a rfl
theorem args2 (k o : Int) (a b : Ex) : (argsW k o 0 [a, b]).getD 0 [] = argW k o 0 a ∧ (argsW k o 0 [a, b]).getD 1 [] = argW k o 1 b := ⟨argsW_get k o [a, b] 0 0 a rfl, argsW_get k o [a, b] 0 1 b rfl⟩
theorem args3 (k o : Int) (a b c : Ex) : (argsW k o 0 [a, b, c]).getD 0 [] = argW k o 0 a ∧ (argsW k o 0 [a, b, c]).getD 1 [] = argW k o 1 b ∧ (argsW k o 0 [a, b, c]).getD 2 [] = argW k o 2 c :=
  ⟨argsW_get k o [a, b, c] 0 0 a rfl, argsW_get k o [a, b, c] 0 1 b rfl, argsW_get k o [a, b, c] 0 2 c rfl⟩

theorem reads_not {a : Ex} (ha : Reads a) : Reads (opX 3 0 false [a] []) := by
  have ht : tokE (opX 3 0 false [a] []) = (1, kNOT) :: argT 3 0 0 a := by
    rw [tokE_ops (by decide)]
    unfold opW
    rw [if_pos rfl, args1, List.map_cons, t_kw (by simp)]
    rfl
  obtain ⟨HB, _, _, _⟩ := arg_reads ha 3 0 0 3 (by decide) (by decide) (by decide)
  refine reads_of (p := 3) rfl (by decide) (by decide) ?_ (fun h => by omega) (fun h => by omega) (fun h => by omega) ?_
  · intro r f hr hf
    have hb := base1 (k := 3) (o := 0) (no := false) (a := a)
    obtain ⟨g, rfl⟩ : ∃ g, f = g + 1 := ⟨f - 1, by omega⟩
    rw [ht, List.cons_append, pE_3, if_pos (by show isH kNOT (1, kNOT) = true; decide +kernel), List.tail_cons, HB r g hr (by omega)]
    rfl
  · intro r
    rw [ht]
    show isH kSELECT (1, kNOT) = false
    decide +kernel
theorem reads_neg {a : Ex} (ha : Reads a) : Reads (opX 4 0 false [a] []) := by
  have ht : tokE (opX 4 0 false [a] []) = (5, kMinus) :: argT 4 0 0 a := by
    rw [tokE_ops (by decide)]
    unfold opW
    rw [if_neg (by decide), if_pos rfl, args1, List.map_cons, t_sym (by simp)]
    rfl
  obtain ⟨HB, _, _, _⟩ := arg_reads ha 4 0 0 7 (by decide) (by decide) (by decide)
  refine reads_of (p := 7) rfl (by decide) (by decide) ?_ (fun h => by omega) (fun _ r => ?_) (fun h => by omega) ?_
  · intro r f hr hf
    have hb := base1 (k := 4) (o := 0) (no := false) (a := a)
    obtain ⟨g, rfl⟩ : ∃ g, f = g + 1 := ⟨f - 1, by omega⟩
    rw [ht, List.cons_append, pE_7, if_pos (by show isH kMinus (5, kMinus) = true; decide +kernel), List.tail_cons, HB r g hr (by omega)]
    rfl
  · rw [ht]
    show isH kNOT (5, kMinus) = false
    decide +kernel
  · intro r
    rw [ht]
    show isH kSELECT (5, kMinus) = false
    decide +kernel

theorem tokE_bin {o x : Int} {a b : Ex} (hx : tokF (opS o) = (x, opS o)) : tokE (opX 5 o false [a, b] []) = argT 5 o 0 a ++ (x, opS o) :: argT 5 o 1 b := by
  rw [tokE_ops (by decide)]
  unfold opW
  rw [if_neg (by decide), if_neg (by decide), if_pos rfl, (args2 5 o a b).1, (args2 5 o a b).2, List.map_append, List.map_cons, hx]
  rfl
theorem prec5 (o : Int) : precP 5 o = opPrec o := by unfold precP; rw [if_neg (by decide), if_neg (by decide), if_neg (by decide), if_pos rfl]
theorem opPrec_cases {o : Int} (h1 : 1 ≤ o) (h2 : o ≤ 13) : opPrec o = 4 ∨ opPrec o = 1 ∨ opPrec o = 2 ∨ opPrec o = 5 ∨ opPrec o = 6 := by
  unfold opPrec
  repeat' split
  all_goals omega
theorem least_grp {o : Int} {q : Nat} (hq : (q : Int) = opPrec o) (hg : q = 1 ∨ q = 2 ∨ q = 5 ∨ q = 6) : (q : Int) = leastP 5 o 0 ∧ ((q + 1 : Nat) : Int) = leastP 5 o 1 := by
  unfold leastP
  rw [prec5, ← hq]
  have h : (q : Int) = 1 ∨ (q : Int) = 2 ∨ (q : Int) = 5 ∨ (q : Int) = 6 := by omega
  simp only [if_pos h]
  exact ⟨by simp, by simp⟩
theorem least_cmp {o : Int} (h : opPrec o = 4) (i : Nat) : (5 : Int) = leastP 5 o i := by
  unfold leastP
  rw [prec5, h]
  simp only
  rw [if_neg (by decide), if_neg (by decide), if_pos (by trivial)]

theorem reads_bin {o : Int} {a b : Ex} (h1 : 1 ≤ o) (h2 : o ≤ 13) (ha : Reads a) (hb : Reads b) : Reads (opX 5 o false [a, b] []) := by
  obtain ⟨x, hx, hx5⟩ := t_op h1 h2
  have ht := tokE_bin (a := a) (b := b) hx
  have hbase := base2 (k := 5) (o := o) (no := false) (a := a) (b := b)
  have hc := op_cont h1 h2 hx5
  rcases opPrec_cases h1 h2 with h4 | hgo
  · obtain ⟨HA, _, HN, HS⟩ := arg_reads ha 5 o 0 5 (least_cmp h4 0) (by decide) (by decide)
    obtain ⟨HB, _, _, _⟩ := arg_reads hb 5 o 1 5 (least_cmp h4 1) (by decide) (by decide)
    refine reads_of (p := 4) (by rw [show (opX 5 o false [a, b] []).kind = 5 from rfl, show (opX 5 o false [a, b] []).op = o from rfl, prec5, h4]; rfl) (by decide) (by decide) ?_ (fun h => by omega) (fun _ r => ?_) (fun h => by omega) (fun r => ?_)
    · intro r f hr hf
      obtain ⟨g, rfl⟩ : ∃ g, f = g + 2 := ⟨f - 2, by omega⟩
      obtain ⟨k1, k2, k3⟩ := (op_find h1 h2 hx5 (argT 5 o 1 b ++ r)).2 h4
      rw [ht, List.append_assoc, List.cons_append, pE_4, HA _ (g + 1) (by show contH (x, opS o) < 5; omega) (by omega)]
      show pC (g + 1) a ((x, opS o) :: (argT 5 o 1 b ++ r)) = _
      rw [pC, if_neg (by rw [k1]; decide), if_neg (by rw [k2]; decide), k3]
      show (pE g 5 (argT 5 o 1 b ++ r)).map _ = _
      rw [HB r g (by omega) (by omega)]
      rfl
    · rw [ht, List.append_assoc]
      exact HN (by decide) _
    · rw [ht, List.append_assoc]
      exact HS _
  · obtain ⟨q, hq⟩ : ∃ q : Nat, (q : Int) = opPrec o := ⟨(opPrec o).toNat, by omega⟩
    have hg : q = 1 ∨ q = 2 ∨ q = 5 ∨ q = 6 := by omega
    obtain ⟨l0, l1⟩ := least_grp hq hg
    obtain ⟨_, HA, HN, HS⟩ := arg_reads ha 5 o 0 q l0 (by omega) (by omega)
    obtain ⟨HB, _, _, _⟩ := arg_reads hb 5 o 1 (q + 1) l1 (by omega) (by omega)
    refine reads_grp (p := q) (by rw [show (opX 5 o false [a, b] []).kind = 5 from rfl, show (opX 5 o false [a, b] []).op = o from rfl, prec5, hq]) hg ?_ (fun h r => ?_) (fun r => ?_)
    · intro r m f hr hf
      obtain ⟨g, hg1, hg2⟩ := HA ((x, opS o) :: (argT 5 o 1 b ++ r)) (m + 1 + (baseX b + 20)) f hg (by show contH (x, opS o) < q + 1; omega) (by omega)
      obtain ⟨g', rfl⟩ : ∃ g', g = g' + 1 := ⟨g - 1, by omega⟩
      refine ⟨g', by omega, ?_⟩
      rw [ht, List.append_assoc, List.cons_append, hg2, pL, (op_find h1 h2 hx5 (argT 5 o 1 b ++ r)).1 q hg hq]
      show (pE g' (q + 1) (argT 5 o 1 b ++ r)).bind _ = _
      rw [HB r g' hr (by omega)]
      rfl
    · rw [ht, List.append_assoc]
      exact HN h _
    · rw [ht, List.append_assoc]
      exact HS _

theorem reads_null {no : Bool} {a : Ex} (ha : Reads a) : Reads (opX 6 0 no [a] []) := by
  have ht : tokE (opX 6 0 no [a] []) = argT 6 0 0 a ++ (1, kIS) :: (if no = true then [(1, kNOT), (1, kNULL)] else [(1, kNULL)]) := by
    rw [tokE_ops (by decide)]
    unfold opW
    rw [if_neg (by decide), if_neg (by decide), if_neg (by decide), if_pos rfl, args1, List.map_append, List.map_cons, t_kw (by simp)]
    cases no
    · show _ ++ (1, kIS) :: [tokF kNULL] = _
      rw [t_kw (by simp)]
      rfl
    · show _ ++ (1, kIS) :: [tokF kNOT, tokF kNULL] = _
      rw [t_kw (by simp), t_kw (by simp)]
      rfl
  have hbase := base1 (k := 6) (o := 0) (no := no) (a := a)
  obtain ⟨HA, _, HN, HS⟩ := arg_reads ha 6 0 0 5 (by decide) (by decide) (by decide)
  refine reads_of (p := 4) rfl (by decide) (by decide) ?_ (fun h => by omega) (fun _ r => ?_) (fun h => by omega) (fun r => ?_)
  · intro r f hr hf
    obtain ⟨g, rfl⟩ : ∃ g, f = g + 2 := ⟨f - 2, by omega⟩
    rw [ht, List.append_assoc, List.cons_append, pE_4, HA _ (g + 1) (by show contH (1, kIS) < 5; decide +kernel) (by omega)]
    simp only [Option.bind_some]
    rw [pC, if_pos (by show isH kIS (1, kIS) = true; decide +kernel)]
    cases no
    · rw [if_neg (by show ¬ isH kNOT (1, kNULL) = true; decide +kernel), if_pos (by show isH kNULL (1, kNULL) = true; decide +kernel)]
      rfl
    · rw [if_pos (by show isH kNOT (1, kNOT) = true; decide +kernel), if_pos (by show isH kNULL (1, kNULL) = true; decide +kernel)]
      rfl
  · rw [ht, List.append_assoc]
    exact HN (by decide) _
  · rw [ht, List.append_assoc]
    exact HS _

theorem reads_btw {a b c : Ex} (ha : Reads a) (hb : Reads b) (hc : Reads c) : Reads (opX 7 0 false [a, b, c] []) := by
  have ht : tokE (opX 7 0 false [a, b, c] []) = argT 7 0 0 a ++ (1, kBETWEEN) :: (argT 7 0 1 b ++ (1, kAND) :: argT 7 0 2 c) := by
    rw [tokE_ops (by decide)]
    unfold opW
    rw [if_neg (by decide), if_neg (by decide), if_neg (by decide), if_neg (by decide), (args3 7 0 a b c).1, (args3 7 0 a b c).2.1, (args3 7 0 a b c).2.2, List.map_append, List.map_cons, List.map_append, List.map_cons, t_kw (by simp), t_kw (by simp)]
    rfl
  have hbase := base3 (k := 7) (o := 0) (no := false) (a := a) (b := b) (c := c)
  obtain ⟨HA, _, HN, HS⟩ := arg_reads ha 7 0 0 5 (by decide) (by decide) (by decide)
  obtain ⟨HB, _, _, _⟩ := arg_reads hb 7 0 1 5 (by decide) (by decide) (by decide)
  obtain ⟨HC, _, _, _⟩ := arg_reads hc 7 0 2 5 (by decide) (by decide) (by decide)
  refine reads_of (p := 4) rfl (by decide) (by decide) ?_ (fun h => by omega) (fun _ r => ?_) (fun h => by omega) (fun r => ?_)
  · intro r f hr hf
    obtain ⟨g, rfl⟩ : ∃ g, f = g + 2 := ⟨f - 2, by omega⟩
    rw [ht, List.append_assoc, List.cons_append, List.append_assoc, List.cons_append, pE_4, HA _ (g + 1) (by show contH (1, kBETWEEN) < 5; decide +kernel) (by omega)]
    simp only [Option.bind_some]
    rw [pC, if_neg (by show ¬ isH kIS (1, kBETWEEN) = true; decide +kernel), if_pos (by show isH kBETWEEN (1, kBETWEEN) = true; decide +kernel), List.tail_cons, HB _ g (by show contH (1, kAND) < 5; decide +kernel) (by omega)]
    show (if isH kAND (1, kAND) = true then (pE g 5 (argT 7 0 2 c ++ r)).map _ else none) = _
    rw [if_pos (by decide +kernel), HC r g (by omega) (by omega)]
    rfl
  · rw [ht, List.append_assoc]
    exact HN (by decide) _
  · rw [ht, List.append_assoc]
    exact HS _
end Go.Proofs.YtpnigfmclmfjaaaGreatDoor
