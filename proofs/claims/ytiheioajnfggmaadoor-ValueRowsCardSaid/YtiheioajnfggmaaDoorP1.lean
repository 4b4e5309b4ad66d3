/- The types of expressions as plain functions (chapter 14), without any program. -/
import Derived.Test.YtiheioajnfggmaaDoorC3
namespace Go.Proofs.YtiheioajnfggmaaDoor

def fitsB (a b : Int) : Bool := a == 0 || b == 0 || a == b
def allB (ts : List Int) (want : Int) : Bool := ts.all fun t => fitsB t want
def pairB (ts : List Int) : Bool := (List.range ts.length).all fun i => allB (ts.take i) (ts.getD i 0)

/-- How many arguments and queries a kind has, and how many items its query: -1 for no such kind. -/
def subOk (items : Nat) : List Qu → Bool
  | [q] => q.items.length == items && decide (q.whr.length ≤ 1)
  | _ => false

def formed (e : Ex) : Bool :=
  if e.kind = 1 ∨ e.kind = 2 then e.args.length == 0 && e.sub.length == 0
  else if e.kind = 3 ∨ e.kind = 4 ∨ e.kind = 6 then e.args.length == 1 && e.sub.length == 0
  else if e.kind = 5 then decide (1 ≤ e.op) && decide (e.op ≤ 13) && e.args.length == 2 && e.sub.length == 0
  else if e.kind = 7 then e.args.length == 3 && e.sub.length == 0
  else if e.kind = 8 ∨ e.kind = 9 then e.args.length == 0 && subOk 0 e.sub
  else if e.kind = 10 ∨ e.kind = 11 ∨ e.kind = 12 then e.args.length == 0 && subOk 1 e.sub
  else false

def operationP (k o : Int) (ts : List Int) : Int × Int :=
  if k = 6 then (2, 0)
  else if k = 3 ∨ (k = 5 ∧ o ≤ 2) then (if allB ts 2 then (2, 0) else (0, 5))
  else if k = 4 ∨ (k = 5 ∧ 9 ≤ o) then (if allB ts 1 then (1, 0) else (0, 5))
  else if pairB ts then (2, 0) else (0, 5)

def sourceP (ts : List Sch) (n : ByteArray) : Option Sch := ts.find? fun s => s.name.toList == n.toList

def frmOf (s : Sch) : Frm := ⟨s.name, false, s.cols⟩

/-- What a kind with a query has as its type, of the item's type. -/
def aggP (k item : Int) : Int × Int :=
  if k = 10 ∧ fitsB item 1 = false then (0, 5)
  else if k = 8 then (2, 0)
  else if k = 9 ∨ k = 10 then (1, 0)
  else (item, 0)

def condP : Int × Int → Int
  | (t, c) => if c = 0 ∧ fitsB t 2 = false then 5 else c

def colType (fs : List Frm) (i k : Nat) : Int := ((((fs[i]?).map Frm.cols).getD [])[k]?.map Col.type).getD 0

mutual
def typeP (ts : List Sch) : Ex → List Frm → Int × Int
  | .mk k o no v t nm args sub, fs =>
    if formed (.mk k o no v t nm args sub) = false then (0, 17)
    else if k = 1 then (v.kind, 0)
    else if k = 2 then (match resolve t nm fs with | some (i, j) => (colType fs i j, 0) | none => (0, 3))
    else if 8 ≤ k then typeSub ts k sub fs
    else match typeL ts args fs with
      | .error c => (0, c)
      | .ok l => operationP k o l
def typeL (ts : List Sch) : List Ex → List Frm → Except Int (List Int)
  | [], _ => .ok []
  | e :: es, fs => if (typeP ts e fs).2 ≠ 0 then .error (typeP ts e fs).2
    else match typeL ts es fs with
      | .error c => .error c
      | .ok l => .ok ((typeP ts e fs).1 :: l)
def typeC (ts : List Sch) : List Ex → List Frm → Int
  | [], _ => 0
  | e :: _, fs => condP (typeP ts e fs)
def typeQ (ts : List Sch) (k : Int) : Qu → List Frm → Int × Int
  | .mk _ items frm whr, fs =>
    match sourceP ts frm with
    | none => (0, 3)
    | some s => match typeL ts items (fs ++ [frmOf s]) with
      | .error c => (0, c)
      | .ok l => if typeC ts whr (fs ++ [frmOf s]) ≠ 0 then (0, typeC ts whr (fs ++ [frmOf s])) else aggP k (l.getLastD 0)
def typeSub (ts : List Sch) (k : Int) : List Qu → List Frm → Int × Int
  | [], _ => (0, 17)
  | q :: _, fs => typeQ ts k q fs
end

mutual
/-- How deep queries are nested. -/
def dep : Ex → Nat
  | .mk _ _ _ _ _ _ args sub => max (depL args) (depS sub)
def depL : List Ex → Nat
  | [] => 0
  | e :: es => max (dep e) (depL es)
def depQ : Qu → Nat
  | .mk _ items _ whr => max (depL items) (depL whr) + 1
def depS : List Qu → Nat
  | [] => 0
  | q :: qs => max (depQ q) (depS qs)
end

theorem depL_mem {l : List Ex} {e : Ex} (h : e ∈ l) : dep e ≤ depL l := by
  induction l with
  | nil => cases h
  | cons x l ih =>
    rw [depL]
    rcases List.mem_cons.1 h with rfl | h
    · omega
    · have := ih h; omega

theorem depS_mem {l : List Qu} {e : Qu} (h : e ∈ l) : depQ e ≤ depS l := by
  induction l with
  | nil => cases h
  | cons x l ih =>
    rw [depS]
    rcases List.mem_cons.1 h with rfl | h
    · omega
    · have := ih h; omega

theorem dep_eq (e : Ex) : dep e = max (depL e.args) (depS e.sub) := by cases e; rw [dep]; rfl
theorem depQ_eq (q : Qu) : depQ q = max (depL q.items) (depL q.whr) + 1 := by cases q; rw [depQ]; rfl

end Go.Proofs.YtiheioajnfggmaaDoor
