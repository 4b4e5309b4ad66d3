/- How an expression is written: its words, and the text that they make. No program is named here. -/
import Derived.Test.YtppiaaolggpjdaaDoorKL
import Derived.Test.YtppiaaolggpjdaaDoorKV1
import Derived.Lib.IndexMore
namespace Go.Proofs.YtppiaaolggpjdaaDoor
open Go.RowKit

def kNOT : ByteArray := bs [78, 79, 84]
def kIS : ByteArray := bs [73, 83]
def kNULL : ByteArray := bs [78, 85, 76, 76]
def kBETWEEN : ByteArray := bs [66, 69, 84, 87, 69, 69, 78]
def kAND : ByteArray := bs [65, 78, 68]
def kEXISTS : ByteArray := bs [69, 88, 73, 83, 84, 83]
def kSELECT : ByteArray := bs [83, 69, 76, 69, 67, 84]
def kCOUNT : ByteArray := bs [67, 79, 85, 78, 84]
def kFROM : ByteArray := bs [70, 82, 79, 77]
def kWHERE : ByteArray := bs [87, 72, 69, 82, 69]
def kStar : ByteArray := bs [42]
def kOpen : ByteArray := bs [40]
def kShut : ByteArray := bs [41]
def kDot : ByteArray := bs [46]
def kMinus : ByteArray := bs [45]
/-- SUM, MIN, MAX. -/
def aggS (k : Int) : ByteArray := bs (if k = 10 then [83, 85, 77] else if k = 11 then [77, 73, 78] else [77, 65, 88])
def opL : List (List UInt8) := [[], [79, 82], [65, 78, 68], [61], [60, 62], [60], [60, 61], [62], [62, 61], [43], [45], [42], [47], [37]]
def opS (o : Int) : ByteArray := bs (opL.getD o.toNat [])

/-- The words of a kind with arguments, those of the arguments given. -/
def opW (k o : Int) (no : Bool) (A : List (List ByteArray)) : List ByteArray :=
  if k = 3 then kNOT :: A.getD 0 []
  else if k = 4 then kMinus :: A.getD 0 []
  else if k = 5 then A.getD 0 [] ++ opS o :: A.getD 1 []
  else if k = 6 then A.getD 0 [] ++ kIS :: (if no then [kNOT, kNULL] else [kNULL])
  else A.getD 0 [] ++ kBETWEEN :: (A.getD 1 [] ++ kAND :: A.getD 2 [])
/-- What stands ahead of FROM in an expression with a query, the items' words given. -/
def headW (k : Int) (I : List (List ByteArray)) : List ByteArray :=
  if k = 8 then [kEXISTS, kOpen, kSELECT, kStar]
  else if k = 9 then [kOpen, kSELECT, kCOUNT, kOpen, kStar, kShut]
  else kOpen :: kSELECT :: aggS k :: kOpen :: (I.getD 0 [] ++ [kShut])
def whereW : List (List ByteArray) → List ByteArray
  | [] => []
  | l :: r => kWHERE :: l ++ whereW r

mutual
/-- The words of an expression. -/
def wordsP : Ex → List ByteArray
  | .mk k o no v t nm args sub =>
    if k = 1 then [bs (fmtV v)]
    else if k = 2 then (if noText t = true then [nm] else [t, kDot, nm])
    else if 3 ≤ k ∧ k ≤ 7 then opW k o no (argsW k o 0 args)
    else subW k sub
def argsW (k o : Int) (i : Nat) : List Ex → List (List ByteArray)
  | [] => []
  | e :: es => (if precP e.kind e.op < leastP k o i then kOpen :: (wordsP e ++ [kShut]) else wordsP e) :: argsW k o (i + 1) es
def manyW : List Ex → List (List ByteArray)
  | [] => []
  | e :: es => wordsP e :: manyW es
def subW (k : Int) : List Qu → List ByteArray
  | [] => []
  | .mk _ items f whr :: _ => headW k (manyW items) ++ (kFROM :: f :: whereW (manyW whr)) ++ [kShut]
end

theorem wordsP_eq (e : Ex) : wordsP e = if e.kind = 1 then [bs (fmtV e.val)] else if e.kind = 2 then (if noText e.table = true then [e.name] else [e.table, kDot, e.name]) else if 3 ≤ e.kind ∧ e.kind ≤ 7 then opW e.kind e.op e.no (argsW e.kind e.op 0 e.args) else subW e.kind e.sub := by
  obtain ⟨k, o, no, v, t, nm, args, sub⟩ := e
  rw [wordsP]
  rfl
theorem manyW_eq : ∀ l : List Ex, manyW l = l.map wordsP
  | [] => by simp [manyW]
  | e :: l => by rw [manyW, manyW_eq l, List.map_cons]

/-- The words of the argument i. -/
def argW (k o : Int) (i : Nat) (e : Ex) : List ByteArray := if precP e.kind e.op < leastP k o i then kOpen :: (wordsP e ++ [kShut]) else wordsP e
theorem argsW_get (k o : Int) : ∀ (l : List Ex) (j i : Nat) (e : Ex), l[i]? = some e → (argsW k o j l).getD i [] = argW k o (j + i) e
  | [], _, _, _, h => by simp at h
  | x :: l, j, 0, e, h => by
    simp only [List.getElem?_cons_zero, Option.some.injEq] at h
    subst h
    rw [argsW]
    rfl
  | x :: l, j, i + 1, e, h => by
    rw [argsW, List.getD_cons_succ, argsW_get k o l (j + 1) i e (by simpa using h)]
    congr 1
    omega

/-- Whether a space stands between two words. -/
def glueB (p : Option ByteArray) (t : ByteArray) : Bool := match p with
  | none => false
  | some p => !Lib.contains [44, 59, 46, 41] t.data.toList && !(p.toList == [40]) && !(p.toList == [46])
/-- The text that words make, behind a word. -/
def joinL (p : Option ByteArray) : List ByteArray → List UInt8
  | [] => []
  | t :: l => (if glueB p t = true then [32] else []) ++ t.data.toList ++ joinL (some t) l
def lastW (p : Option ByteArray) : List ByteArray → Option ByteArray
  | [] => p
  | t :: l => lastW (some t) l
theorem joinL_snoc : ∀ (l : List ByteArray) (p : Option ByteArray) (t : ByteArray), joinL p (l ++ [t]) = joinL p l ++ ((if glueB (lastW p l) t = true then [32] else []) ++ t.data.toList)
  | [], p, t => by
    simp only [List.nil_append, joinL, lastW, List.append_nil]
    rfl
  | x :: l, p, t => by
    rw [List.cons_append, joinL, joinL, joinL_snoc l (some x) t, lastW]
    simp only [List.append_assoc]
theorem lastW_snoc : ∀ (l : List ByteArray) (p : Option ByteArray) (t : ByteArray), lastW p (l ++ [t]) = some t
  | [], _, _ => rfl
  | _ :: l, _, t => lastW_snoc l _ t

/-- The text of an expression. -/
def textP (e : Ex) : ByteArray := bs (joinL none (wordsP e))
end Go.Proofs.YtppiaaolggpjdaaDoor
