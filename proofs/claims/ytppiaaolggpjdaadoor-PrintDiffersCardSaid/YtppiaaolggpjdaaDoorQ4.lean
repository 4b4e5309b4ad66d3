/- Expressions read from tokens, as the grammar says. No program is named here. -/
import Derived.Test.YtppiaaolggpjdaaDoorQ3
namespace Go.Proofs.YtppiaaolggpjdaaDoor
open Go.RowKit

abbrev TL := List (Int × ByteArray)
def isH (s : ByteArray) (x : Int × ByteArray) : Bool := (x.1 == 1 || x.1 == 5) && decide (x.2 = s)
def isW (s : ByteArray) : TL → Bool
  | [] => false
  | x :: _ => isH s x
def isWs : List ByteArray → TL → Bool
  | [], _ => true
  | s :: l, ts => isW s ts && isWs l ts.tail
def opAt (l : List Int) : TL → Option Int
  | [] => none
  | x :: _ => l.find? fun o => isH (opS o) x
def grp (q : Nat) : List Int := if q = 1 then [1] else if q = 2 then [2] else if q = 5 then [9, 10] else [11, 12, 13]
def cmpL : List Int := [3, 4, 5, 6, 7, 8]
def pNum (s : ByteArray) : Option Ex := match Lib.parseIntB 64 s.data.toList with
  | .ok n => some (litX ⟨1, n, es⟩)
  | _ => none
def pName (t : ByteArray) : TL → Option (Ex × TL)
  | [] => none
  | y :: r => if y.1 = 2 then some (colX t y.2, r) else none
def pCol (s : ByteArray) (r : TL) : Option (Ex × TL) := if isW kDot r = true then pName s r.tail else some (colX es s, r)
def aggAt (ts : TL) : Option Int := if isW (aggS 10) ts = true then some 10 else if isW (aggS 11) ts = true then some 11 else if isW (aggS 12) ts = true then some 12 else none
def srcH (y : Int × ByteArray) : Bool := y.1 == 2 || isH kINS y || isH kDEL y

mutual
/-- Reads an expression of a level: 1 OR, 2 AND, 3 NOT, 4 comparisons, 5 sums, 6 products, 7 minus, 8 operands. -/
def pE : Nat → Nat → TL → Option (Ex × TL)
  | 0, _, _ => none
  | f + 1, q, ts =>
    if q = 1 ∨ q = 2 ∨ q = 5 ∨ q = 6 then (pE f (q + 1) ts).bind fun x => pL f q x.1 x.2
    else if q = 3 then (if isW kNOT ts = true then (pE f 3 ts.tail).map fun x => (opX 3 0 false [x.1] [], x.2) else pE f 4 ts)
    else if q = 4 then (pE f 5 ts).bind fun x => pC f x.1 x.2
    else if q = 7 then (if isW kMinus ts = true then (pE f 7 ts.tail).map fun x => (opX 4 0 false [x.1] [], x.2) else pE f 8 ts)
    else pP f ts
/-- Reads operators of a group and their right operands behind a left operand. -/
def pL : Nat → Nat → Ex → TL → Option (Ex × TL)
  | 0, _, _, _ => none
  | f + 1, q, e, ts => match opAt (grp q) ts with
    | none => some (e, ts)
    | some o => (pE f (q + 1) ts.tail).bind fun x => pL f q (binX o e x.1) x.2
/-- Reads what follows the left side of a comparison. -/
def pC : Nat → Ex → TL → Option (Ex × TL)
  | 0, _, _ => none
  | f + 1, e, ts =>
    if isW kIS ts = true then (if isW kNOT ts.tail = true then (if isW kNULL ts.tail.tail = true then some (opX 6 0 true [e] [], ts.tail.tail.tail) else none) else if isW kNULL ts.tail = true then some (opX 6 0 false [e] [], ts.tail.tail) else none)
    else if isW kBETWEEN ts = true then (pE f 5 ts.tail).bind fun x => if isW kAND x.2 = true then (pE f 5 x.2.tail).map fun y => (opX 7 0 false [e, x.1, y.1] [], y.2) else none
    else match opAt cmpL ts with
      | none => some (e, ts)
      | some o => (pE f 5 ts.tail).map fun x => (binX o e x.1, x.2)
/-- Reads an operand. -/
def pP : Nat → TL → Option (Ex × TL)
  | 0, _ => none
  | _ + 1, [] => none
  | f + 1, x :: r =>
    if x.1 = 3 then (pNum x.2).map fun e => (e, r)
    else if x.1 = 4 then some (litX ⟨3, 0, x.2⟩, r)
    else if x.1 = 2 then pCol x.2 r
    else if isH kNULL x = true then some (litX ⟨0, 0, es⟩, r)
    else if isH kTRUE x = true then some (litX ⟨2, 1, es⟩, r)
    else if isH kFALSE x = true then some (litX ⟨2, 0, es⟩, r)
    else if (isH kNEW x || isH kOLD x || isH kINS x || isH kDEL x) = true then (if isW kDot r = true then pName x.2 r.tail else none)
    else if isH kEXISTS x = true then (if isWs [kOpen, kSELECT, kStar] r = true then pF f 8 [] (r.drop 3) else none)
    else if isH kOpen x = true then (if isW kSELECT r = true then pA f r.tail else (pE f 1 r).bind fun y => if isW kShut y.2 = true then some (y.1, y.2.tail) else none)
    else none
/-- Reads an aggregate behind its SELECT. -/
def pA : Nat → TL → Option (Ex × TL)
  | 0, _ => none
  | f + 1, ts =>
    if isW kCOUNT ts = true then (if isWs [kOpen, kStar, kShut] ts.tail = true then pF f 9 [] (ts.drop 4) else none)
    else match aggAt ts with
      | none => none
      | some k => if isW kOpen ts.tail = true then (pE f 1 (ts.drop 2)).bind fun x => if isW kShut x.2 = true then pF f k [x.1] x.2.tail else none else none
/-- Reads the rest of an expression with a query, from FROM on. -/
def pF : Nat → Int → List Ex → TL → Option (Ex × TL)
  | 0, _, _, _ => none
  | f + 1, k, items, ts =>
    if isW kFROM ts = true then
      match ts.tail with
      | [] => none
      | y :: r => if srcH y = true then
          (if isW kWHERE r = true then (pE f 1 r.tail).bind fun x => if isW kShut x.2 = true then some (opX k 0 false [] [.mk (k == 8) items y.2 [x.1]], x.2.tail) else none
          else if isW kShut r = true then some (opX k 0 false [] [.mk (k == 8) items y.2 []], r.tail) else none)
        else none
    else none
end

/-- Which level a token continues: none, or 9 for a period. -/
def contH (x : Int × ByteArray) : Nat :=
  if x.1 = 1 ∨ x.1 = 5 then (if x.2 = opS 1 then 1 else if x.2 = opS 2 then 2 else if [kIS, kBETWEEN, opS 3, opS 4, opS 5, opS 6, opS 7, opS 8].any (fun s => decide (x.2 = s)) = true then 4 else if [opS 9, opS 10].any (fun s => decide (x.2 = s)) = true then 5 else if [opS 11, opS 12, opS 13].any (fun s => decide (x.2 = s)) = true then 6 else if x.2 = kDot then 9 else 0) else 0
def contL : TL → Nat
  | [] => 0
  | x :: _ => contH x

theorem isH_cont {s : ByteArray} {x : Int × ByteArray} (h : isH s x = true) : contH x = contH (1, s) := by
  obtain ⟨a, b⟩ := x
  simp only [isH, Bool.and_eq_true, Bool.or_eq_true, beq_iff_eq, decide_eq_true_eq] at h
  obtain ⟨h1, rfl⟩ := h
  unfold contH
  rw [if_pos (show (a, b).1 = 1 ∨ (a, b).1 = 5 from h1), if_pos (show ((1 : Int), b).1 = 1 ∨ ((1 : Int), b).1 = 5 from .inl rfl)]
theorem isW_cont {s : ByteArray} {r : TL} (h : isW s r = true) : contL r = contH (1, s) := by
  cases r with
  | nil => cases h
  | cons x r => exact isH_cont h
theorem opAt_cont {l : List Int} {r : TL} {o : Int} (h : opAt l r = some o) : o ∈ l ∧ contL r = contH (1, opS o) := by
  cases r with
  | nil => cases h
  | cons x r => exact ⟨List.mem_of_find?_eq_some h, isH_cont (List.find?_some (p := fun o => isH (opS o) x) h)⟩
theorem grp_none {q : Nat} {r : TL} (hq : q = 1 ∨ q = 2 ∨ q = 5 ∨ q = 6) (h : contL r < q) : opAt (grp q) r = none := by
  cases ho : opAt (grp q) r with
  | none => rfl
  | some o =>
    obtain ⟨h1, h2⟩ := opAt_cont ho
    have : ∀ q ∈ [1, 2, 5, 6], ∀ o ∈ grp q, contH (1, opS o) = q := by decide +kernel
    rw [this q (by simpa using hq) o h1] at h2
    omega
theorem cmp_none {r : TL} (h : contL r < 4) : isW kIS r = false ∧ isW kBETWEEN r = false ∧ opAt cmpL r = none := by
  refine ⟨?_, ?_, ?_⟩
  · cases ho : isW kIS r with
    | false => rfl
    | true =>
      have h2 := isW_cont ho
      rw [show contH (1, kIS) = 4 by decide +kernel] at h2
      omega
  · cases ho : isW kBETWEEN r with
    | false => rfl
    | true =>
      have h2 := isW_cont ho
      rw [show contH (1, kBETWEEN) = 4 by decide +kernel] at h2
      omega
  · cases ho : opAt cmpL r with
    | none => rfl
    | some o =>
      obtain ⟨h1, h2⟩ := opAt_cont ho
      have : ∀ o ∈ cmpL, contH (1, opS o) = 4 := by decide +kernel
      rw [this o h1] at h2
      omega
theorem dot_none {r : TL} (h : contL r < 9) : isW kDot r = false := by
  cases ho : isW kDot r with
  | false => rfl
  | true =>
    have h2 := isW_cont ho
    rw [show contH (1, kDot) = 9 by decide +kernel] at h2
    omega

theorem pE_grp {f q : Nat} {ts : TL} (hq : q = 1 ∨ q = 2 ∨ q = 5 ∨ q = 6) : pE (f + 1) q ts = (pE f (q + 1) ts).bind fun x => pL f q x.1 x.2 := by rw [pE, if_pos hq]
theorem pE_3 {f : Nat} {ts : TL} : pE (f + 1) 3 ts = if isW kNOT ts = true then (pE f 3 ts.tail).map fun x => (opX 3 0 false [x.1] [], x.2) else pE f 4 ts := by rw [pE, if_neg (by omega), if_pos rfl]
theorem pE_4 {f : Nat} {ts : TL} : pE (f + 1) 4 ts = (pE f 5 ts).bind fun x => pC f x.1 x.2 := by rw [pE, if_neg (by omega), if_neg (by omega), if_pos rfl]
theorem pE_7 {f : Nat} {ts : TL} : pE (f + 1) 7 ts = if isW kMinus ts = true then (pE f 7 ts.tail).map fun x => (opX 4 0 false [x.1] [], x.2) else pE f 8 ts := by rw [pE, if_neg (by omega), if_neg (by omega), if_neg (by omega), if_pos rfl]
theorem pE_8 {f : Nat} {ts : TL} : pE (f + 1) 8 ts = pP f ts := by rw [pE, if_neg (by omega), if_neg (by omega), if_neg (by omega), if_neg (by omega)]
theorem pL_end {f q : Nat} {e : Ex} {ts : TL} (hq : q = 1 ∨ q = 2 ∨ q = 5 ∨ q = 6) (hf : 1 ≤ f) (h : contL ts < q) : pL f q e ts = some (e, ts) := by
  obtain ⟨g, rfl⟩ : ∃ g, f = g + 1 := ⟨f - 1, by omega⟩
  rw [pL, grp_none hq h]
theorem pC_end {f : Nat} {e : Ex} {ts : TL} (hf : 1 ≤ f) (h : contL ts < 4) : pC f e ts = some (e, ts) := by
  obtain ⟨g, rfl⟩ : ∃ g, f = g + 1 := ⟨f - 1, by omega⟩
  obtain ⟨h1, h2, h3⟩ := cmp_none h
  rw [pC, if_neg (by rw [h1]; decide), if_neg (by rw [h2]; decide), h3]

/-- What is read at a level is read at a lower one. -/
theorem down {e : Ex} {ts r : TL} {c q0 : Nat} (hc : 1 ≤ c) (hq0 : q0 ≤ 8) (H : ∀ f, c + (8 - q0) ≤ f → pE f q0 ts = some (e, r)) (hn : 4 ≤ q0 → isW kNOT ts = false) (hm : q0 = 8 → isW kMinus ts = false) :
    ∀ (d q : Nat), q + d = q0 → 1 ≤ q → contL r < q → ∀ f, c + (8 - q) ≤ f → pE f q ts = some (e, r)
  | 0, q, hd, _, _, f, hf => by
    obtain rfl : q = q0 := by omega
    exact H f hf
  | d + 1, q, hd, h1, hr, f, hf => by
    have ih := fun f hf => down hc hq0 H hn hm d (q + 1) (by omega) (by omega) (by omega) f hf
    obtain ⟨g, rfl⟩ : ∃ g, f = g + 1 := ⟨f - 1, by omega⟩
    have hg := ih g (by omega)
    by_cases hq : q = 1 ∨ q = 2 ∨ q = 5 ∨ q = 6
    · rw [pE_grp hq, hg]
      exact pL_end hq (by omega) hr
    · have : q = 3 ∨ q = 4 ∨ q = 7 := by omega
      rcases this with rfl | rfl | rfl
      · rw [pE_3, if_neg (by rw [hn (by omega)]; decide)]
        exact hg
      · rw [pE_4, hg]
        exact pC_end (by omega) hr
      · rw [pE_7, if_neg (by rw [hm (by omega)]; decide)]
        exact hg
end Go.Proofs.YtppiaaolggpjdaaDoor
